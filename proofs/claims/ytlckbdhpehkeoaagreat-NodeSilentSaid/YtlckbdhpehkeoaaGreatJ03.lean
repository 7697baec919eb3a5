/- Parts. -/
import Derived.Deep.Slices
import Derived.Deep.Fields
import Derived.ReadAgain
import Derived.ChangeSame
import Derived.ProofKit
import Derived.WalkKit
import Derived.OpenShut
import Derived.Test.YtlckbdhpehkeoaaGreatJ02
namespace Go.Eng
open Go
variable {d : Nat}
def junkT : List Nat → Tr d → Tr d
 | [],r=>r
 | t :: l,r=>junkT l (r.set d t .junk)
def updT : List (Nat × R) → Tr d → Tr d
 | [],r=>r
 | (t,x) :: l,r=>updT l (r.set d t x)
theorem junkK_iff : ∀ (l : List Nat) (r : Tr d) (k : Tr d → Prop),junkK l r k ↔ (∀ t ∈ l,t < 2 ^ d) ∧ k (junkT l r)
 | [],r,k=>by simp [junkK,junkT]
 | t :: l,r,k=>by
  simp only [junkK,junkT,Tr.setK_iff,junkK_iff l,List.mem_cons,forall_eq_or_imp,and_assoc]
theorem updK_iff : ∀ (l : List (Nat × R)) (r : Tr d) (k : Tr d → Prop),updK l r k ↔ (∀ p ∈ l,p.1 < 2 ^ d) ∧ k (updT l r)
 | [],r,k=>by simp [updK,updT]
 | (t,x) :: l,r,k=>by
  simp only [updK,updT,Tr.setK_iff,updK_iff l,List.mem_cons,forall_eq_or_imp,and_assoc]
theorem LoopGoal.at {n0 : Nat} {asg : List Nat} {round : Pt d} {r : Tr d} {h : Heap} {k : Ex → Tr d → Heap → Prop} {S : Type} (X : S → List (Nat × R)) (H : S → Heap) (m : S → Nat) (s0 : S)
    (h0 : junkK asg r fun r0 => updK (X s0) r0 fun r1 => Le n0 r h r1 (H s0))
    (hr : ∀ s, junkK asg r fun r0 => updK (X s) r0 fun r1 => round r1 (H s) fun e r' h' => match e with
      | .normal => ∃ s', m s' < m s ∧ junkK asg r fun r0 => updK (X s') r0 fun r1 => Le n0 r' h' r1 (H s')
      | e => k e r' h') : LoopGoal n0 asg round r h k := by
  have ha : ∀ t ∈ asg, t < 2 ^ d := ((junkK_iff _ _ _).1 h0).1
  simp only [junkK_iff, updK_iff] at h0 hr
  refine ⟨{ s : S // ∀ p ∈ X s, p.1 < 2 ^ d }, fun s => (updT (X s.1) (junkT asg r), H s.1), fun s => m s.1, ⟨s0, h0.2.1⟩, h0.2.2, fun s => ?_⟩
  have h1 := (hr s.1).2.2
  have e : (fun (e : Ex) (r' : Tr d) (h' : Heap) => match e with
      | .normal => ∃ s', m s' < m s.1 ∧ (∀ t ∈ asg, t < 2 ^ d) ∧ (∀ p ∈ X s', p.1 < 2 ^ d) ∧ Le n0 r' h' (updT (X s') (junkT asg r)) (H s')
      | e => k e r' h') = fun e r' h' => match e with
      | .normal => ∃ s' : { s : S // ∀ p ∈ X s, p.1 < 2 ^ d }, m s'.1 < m s.1 ∧ Le n0 r' h' (updT (X s'.1) (junkT asg r)) (H s'.1)
      | e => k e r' h' := by
    funext e r' h'
    cases e with
    | normal => exact propext ⟨fun ⟨s', q1, _, q3, q4⟩ => ⟨⟨s', q3⟩, q1, q4⟩, fun ⟨⟨s', q3⟩, q1, q4⟩ => ⟨s', q1, ha, q3, q4⟩⟩
    | _ => rfl
  rw [e] at h1
  exact h1
theorem LoopGoal.ro {n0 : Nat} {asg : List Nat} {round : Pt d} {r : Tr d} {h : Heap} {k : Ex → Tr d → Heap → Prop} {S : Type} (X : S → List (Nat × R)) (m : S → Nat) (s0 : S)
    (h0 : junkK asg r fun r0 => updK (X s0) r0 fun r1 => Le n0 r h r1 h)
    (hr : ∀ s, junkK asg r fun r0 => updK (X s) r0 fun r1 => round r1 h fun e r' h' => match e with
      | .normal => ∃ s', m s' < m s ∧ junkK asg r fun r0 => updK (X s') r0 fun r1 => Le n0 r' h' r1 h
      | e => k e r' h') : LoopGoal n0 asg round r h k := .at X (fun _ => h) m s0 h0 hr
def iota : Nat → Nat → List Nat
 | _,0=>[]
 | i,n + 1=>i :: iota (i + 1) n
theorem iota_mem : ∀ {n i j : Nat},j ∈ iota i n → i ≤ j
 | n + 1,i,j,h=>by
  simp only [iota,List.mem_cons] at h
  rcases h with h | h
  ·omega
  ·have:=iota_mem h; omega
theorem iota_nodup : ∀ (n i : Nat),nodupB (iota i n) = true
 | 0,_=>rfl
 | n + 1,i=>by
  simp only [iota,nodupB,Bool.and_eq_true,Bool.not_eq_true',iota_nodup n (i + 1),and_true]
  rw [Bool.eq_false_iff]
  intro h
  have:=iota_mem (List.contains_iff_mem.1 h)
  omega
theorem iota_first : ∀ (m n i : Nat),m ≤ n → firstB m i (iota i n) = true
 | 0,_,_,_=>by unfold firstB; rfl
 | m + 1,0,i,h=>by omega
 | m + 1,n + 1,i,h=>by
  simp only [iota,firstB,Bool.and_eq_true]
  exact ⟨Nat.beq_refl i,iota_first m n (i + 1) (by omega)⟩
theorem Le.id {n0 : Nat} {r r' : Tr d} {h h' : Heap} (hn : Nat.ble n0 h'.length = true) (hH : leH (sig h (iota 0 h'.length)) h (iota 0 h'.length) h') (hT : leT (sig h (iota 0 h'.length)) d r r') : Le n0 r h r' h' :=
 ⟨⟨iota 0 h'.length,by rw [iota_nodup,iota_first _ _ _ (Nat.le_of_ble_eq_true hn)]; rfl,hH,hT⟩⟩
theorem leT_empty {g : Nat → Nat} : ∀ {d : Nat} {r : Tr d},leT g d r (Tr.empty d)
 | 0,_=>trivial
 | _ + 1,_=>⟨leT_empty,leT_empty⟩
def roB : HE → Bool
 | .ob (.ro _ _ _)=>true
 | .ob (.raw (.gl _ _))=>true
 | _=>false
def ro0B : HE → Bool
 | .ob (.ro _ 0 _)=>true
 | _=>false
def obB : HE → Bool
 | .ob _=>true
 | _=>false
def sep1 (j : Nat) (e : HE) : List Nat → Heap → Bool
 | j' :: l,e' :: m=>(!Nat.beq j j' || ((roB e && roB e') || (ro0B e || ro0B e'))) && sep1 j e l m
 | _,_=>true
def sepB : List Nat → Heap → Bool
 | j :: l,e :: m=>sep1 j e l m && sepB l m
 | _,_=>true
theorem sep1_get {j : Nat} {e : HE} : ∀ {l : List Nat} {h : Heap},sep1 j e l h = true → ∀ {n : Nat} {e' : HE},l[n]? = some j → h[n]? = some e' → (roB e = true ∧ roB e' = true) ∨ ro0B e = true ∨ ro0B e' = true
 | [],_,_,n,_,h1,_=>by simp at h1
 | _ :: _,[],_,n,_,_,h2=>by simp at h2
 | j' :: l,e0 :: h,hs,n,e',h1,h2=>by
  simp only [sep1,Bool.and_eq_true,Bool.or_eq_true,Bool.not_eq_true'] at hs
  cases n with
  | zero =>
   simp at h1 h2; subst h1; subst h2
   rcases hs.1 with q | q | q
   ·simp at q
   ·exact .inl q
   ·exact .inr q
  | succ n=>exact sep1_get hs.2 (by simpa using h1) (by simpa using h2)
theorem sepB_get : ∀ {l : List Nat} {h : Heap},sepB l h = true → ∀ {n m j : Nat} {e e' : HE},n ≠ m → l[n]? = some j → l[m]? = some j → h[n]? = some e → h[m]? = some e' → (roB e = true ∧ roB e' = true) ∨ ro0B e = true ∨ ro0B e' = true
 | [],_,_,n,_,_,_,_,_,h1,_,_,_=>by simp at h1
 | _ :: _,[],_,n,_,_,_,_,_,_,_,h2,_=>by simp at h2
 | j0 :: l,e0 :: h,hs,n,m,j,e,e',hne,h1,h2,h3,h4=>by
  simp only [sepB,Bool.and_eq_true] at hs
  cases n with
  | zero =>
   simp at h1 h3; subst h1; subst h3
   cases m with
   | zero=>exact absurd rfl hne
   | succ m=>exact sep1_get hs.1 (by simpa using h2) (by simpa using h4)
  | succ n =>
   cases m with
   | zero =>
    simp at h2 h4; subst h2; subst h4
    rcases sep1_get hs.1 (n:=n) (by simpa using h1) (by simpa using h3) with ⟨a,b⟩ | a | a
    ·exact .inl ⟨b,a⟩
    ·exact .inr (.inr a)
    ·exact .inr (.inl a)
   | succ m=>exact sepB_get hs.2 (n:=n) (m:=m) (by omega) (by simpa using h1) (by simpa using h2) (by simpa using h3) (by simpa using h4)
def back (h h' : Heap) (l : List Nat) (i : Nat) : Nat:=match l[i]? with | some j=>j | none=>h.length + (i - h'.length)
def renOb (g : Nat → Nat) : Ob → Ob
 | .raw x=>.raw x
 | .own l=>.own (l.map (renSeg g))
 | .row sz n f tot=>.row sz n (fun i=>(f i).map (renC g)) tot
 | .ro sz n f=>.ro sz n (fun i=>(f i).map (renC g))
def renHE (g : Nat → Nat) : HE → HE
 | .ob (.ro _ _ _)=>.dead
 | .ob (.raw (.gl _ _))=>.dead
 | .ob o=>.ob (renOb g o)
 | e=>e
def pickHE (g : Nat → Nat) (e : HE) (n : Nat) : List Nat → Heap → Heap → HE
 | j :: l,a :: h',b :: h''=>match Nat.beq j n && !roB a with | true=>renHE g b | false=>pickHE g e n l h' h''
 | _,_,_=>e
def mrgGo (g : Nat → Nat) (l : List Nat) (h' h'' : Heap) : Nat → Heap → Heap
 | _,[]=>[]
 | n,e :: h=>pickHE g e n l h' h'' :: mrgGo g l h' h'' (n + 1) h
def mrg (g : Nat → Nat) (h : Heap) (l : List Nat) (h' h'' : Heap) : Heap:=mrgGo g l h' h'' 0 h ++ (h''.drop h'.length).map (renHE g)
theorem mrgGo_get {g : Nat → Nat} {l : List Nat} {h' h'' : Heap} : ∀ (h : Heap) (i n : Nat),(mrgGo g l h' h'' i h)[n]? = (h[n]?).map fun e=>pickHE g e (i + n) l h' h''
 | [],_,_=>by simp [mrgGo]
 | e :: h,i,0=>by simp [mrgGo]
 | e :: h,i,n + 1=>by
  simp only [mrgGo,List.getElem?_cons_succ,mrgGo_get h (i + 1) n]
  rw [show i + 1 + n = i + (n + 1) by omega]
theorem mrgGo_len {g : Nat → Nat} {l : List Nat} {h' h'' : Heap} : ∀ (h : Heap) (i : Nat),(mrgGo g l h' h'' i h).length = h.length
 | [],_=>rfl
 | e :: h,i=>by simp [mrgGo,mrgGo_len h (i + 1)]
theorem pick_get {g : Nat → Nat} {e : HE} {n : Nat} : ∀ {l : List Nat} {h' h'' : Heap}, l.length = h'.length → h'.length ≤ h''.length →
    (∃ (i : Nat) (a b : HE), l[i]? = some n ∧ h'[i]? = some a ∧ roB a = false ∧ h''[i]? = some b ∧ pickHE g e n l h' h'' = renHE g b) ∨ ((∀ (i : Nat) (a : HE), l[i]? = some n → h'[i]? = some a → roB a = true) ∧ pickHE g e n l h' h'' = e)
  | [], [], h'', _, _ => .inr ⟨fun i a h1 => by simp at h1, by unfold pickHE; rfl⟩
  | j :: l, a :: h', [], _, h => by simp at h
  | j :: l, a :: h', b :: h'', h1, h2 => by
    simp only [List.length_cons] at h1 h2
    unfold pickHE
    cases hc : (Nat.beq j n && !roB a) with
    | true =>
      simp only [Bool.and_eq_true, Bool.not_eq_true'] at hc
      have e1 := Nat.eq_of_beq_eq_true hc.1
      subst e1
      exact .inl ⟨0, a, b, rfl, rfl, hc.2, rfl, rfl⟩
    | false =>
      rcases pick_get (g := g) (e := e) (n := n) (l := l) (h' := h') (h'' := h'') (by omega) (by omega) with ⟨i, a', b', q1, q2, q3, q4, q5⟩ | ⟨q1, q2⟩
      · exact .inl ⟨i + 1, a', b', by simpa using q1, by simpa using q2, q3, by simpa using q4, q5⟩
      · refine .inr ⟨fun i a' h3 h4 => ?_, q2⟩
        cases i with
        | zero =>
          simp at h3 h4; subst h3; subst h4
          cases hr : roB a with
          | true => rfl
          | false => simp [hr] at hc
        | succ i => exact q1 i a' (by simpa using h3) (by simpa using h4)
  | [], _ :: _, _, h, _ => by simp at h
  | _ :: _, [], _, h, _ => by simp at h
section
variable {ρ ρ' : Env} {g : Nat → Nat} {w : World}
theorem den_back (hg : ∀ i x,ρ i = some x → ρ' (g i) = some x) {c : C} {v : Value} (h : Den ρ c v) : Den ρ' (renC g c) v:=by
 cases c with
 | v y=>exact h
 | ptr n off=>obtain ⟨b,o,h1,h2⟩:=h; exact ⟨b,o,hg _ _ h1,h2⟩
 | ept n base sz i j=>obtain ⟨b,o,h1,h2⟩:=h; exact ⟨b,o,hg _ _ h1,h2⟩
 | slc n base sz off len cap nl=>obtain ⟨b,o,a,h1,h2⟩:=h; exact ⟨b,o,a,hg _ _ h1,h2⟩
 | mp n=>obtain ⟨b,o,h1,h2⟩:=h; exact ⟨b,o,hg _ _ h1,h2⟩
 | ch n=>obtain ⟨b,o,h1,h2⟩:=h; exact ⟨b,o,hg _ _ h1,h2⟩
 | fn f caps =>
  obtain ⟨as,h1,h2⟩:=h
  refine ⟨as,h1, ?_⟩
  clear h1
  induction caps generalizing as with
  | nil=>cases as with
   | nil=>trivial
   | cons _ _=>exact h2.elim
  | cons p l ih=>cases as with
   | nil=>exact h2.elim
   | cons a as =>
    obtain ⟨⟨b,o,q1,q2⟩,h3⟩:=h2
    exact ⟨⟨b,o,hg _ _ q1,q2⟩,ih as h3⟩
theorem all2_map {α : Type} {p q : α → Value → Prop} {f : α → α} (hp : ∀ a v,p a v → q (f a) v) : ∀ {l : List α} {vs : List Value},All2 p l vs → All2 q (l.map f) vs
 | [],[],_=>trivial
 | a :: l,v :: vs,h=>⟨hp _ _ h.1,all2_map hp (l:=l) h.2⟩
 | [],_ :: _,h=>h.elim
 | _ :: _,[],h=>h.elim
theorem denT_back (hg : ∀ i x,ρ i = some x → ρ' (g i) = some x) {x : T} {v : Value} (h : DenT ρ x v) : DenT ρ' (renT g x) v:=by
 cases x with
 | one c=>exact den_back hg h
 | agg l =>
  obtain ⟨vs,h1,h2⟩:=h
  refine ⟨vs,h1, ?_⟩
  rw [cells_ren]
  exact all2_map (p:=Den ρ) (q:=Den ρ') (f:=renC g) (fun _ _=>den_back hg) h2
theorem denR_back (hg : ∀ i x,ρ i = some x → ρ' (g i) = some x) {x : R} {v : Value} (h : DenR ρ x v) : DenR ρ' (renR g x) v:=by
 cases x with
 | junk=>trivial
 | t x=>exact denT_back hg h
 | tup l =>
  obtain ⟨vs,h1,h2⟩:=h
  exact ⟨vs,h1,all2_map (p:=DenT ρ) (q:=DenT ρ') (f:=renT g) (fun _ _=>denT_back hg) h2⟩
theorem elems_back (hg : ∀ i x,ρ i = some x → ρ' (g i) = some x) {b o sz n : Nat} {f : Nat → List C} (h : Elems ρ w b o sz n f) : Elems ρ' w b o sz n fun i=>(f i).map (renC g):=fun i hi=>by
 obtain ⟨vs,h1,h2,h3⟩:=h i hi
 exact ⟨vs,all2_map (p:=Den ρ) (q:=Den ρ') (f:=renC g) (fun _ _=>den_back hg) h1,h2,h3⟩
theorem relOb_back (hg : ∀ i x,ρ i = some x → ρ' (g i) = some x) {n : Nat} {ob : Ob} (h : RelOb ρ w n ob) : RelOb ρ' w (g n) (renOb g ob):=by
 cases ob with
 | raw x=>obtain ⟨b,o,h1,h2,h3⟩:=h; exact ⟨b,o,hg _ _ h1,h2,h3⟩
 | own l =>
  obtain ⟨b,E,fz,arr,h1,h2,h3,h4⟩:=h
  refine ⟨b,E,fz,arr,hg _ _ h1,h2,h3, ?_⟩
  rw [cells_ren]
  exact all2_map (p:=Den ρ) (q:=Den ρ') (f:=renC g) (fun _ _=>den_back hg) h4
 | row sz k f tot =>
  obtain ⟨⟨x,hx⟩,h0,h⟩:=h
  refine ⟨⟨x,hg _ _ hx⟩,h0,fun ht=>?_⟩
  obtain ⟨b,o,E,fz,arr,h1,h2,h3,h4,h5⟩:=h ht
  exact ⟨b,o,E,fz,arr,hg _ _ h1,h2,h3,h4,elems_back hg h5⟩
 | ro sz k f =>
  obtain ⟨b,o,h1,h2,h3⟩:=h
  exact ⟨b,o,hg _ _ h1,elems_back hg h2,h3⟩
theorem relOb_at {n : Nat} {ob : Ob} (h : RelOb ρ w n ob) : ∃ x,ρ n = some x:=by
 cases ob with
 | raw x=>obtain ⟨b,_,h1,_⟩:=h; exact ⟨_,h1⟩
 | own l=>obtain ⟨b,_,_,_,h1,_⟩:=h; exact ⟨_,h1⟩
 | row sz k f tot=>exact h.1
 | ro sz k f=>obtain ⟨b,o,h1,_⟩:=h; exact ⟨_,h1⟩
theorem owned_ren {ob : Ob} : (renOb g ob).owned ↔ ob.owned:=by cases ob <;> exact Iff.rfl
theorem ofoot_ren {ob : Ob} {x : Option (Nat × Nat)} {b o : Nat} : (renOb g ob).ofoot x b o ↔ ob.ofoot x b o:=by
 cases ob with
 | raw y=>exact Iff.rfl
 | _=>exact Iff.rfl
theorem sfoot_ren {ob : Ob} {x : Option (Nat × Nat)} {b o : Nat} : (renOb g ob).sfoot x b o ↔ ob.sfoot x b o:=by
 cases ob with
 | raw y=>exact Iff.rfl
 | _=>exact Iff.rfl
theorem still_ren {ob : Ob} : (renOb g ob).still ↔ ob.still:=by cases ob <;> exact Iff.rfl
theorem owned_not_ro {ob : Ob} (h : ob.owned) : roB (.ob ob) = false:=by
 cases ob with
 | raw x=>cases x <;> first | rfl | exact h.elim
 | ro _ _ _=>exact h.elim
 | _=>rfl
end
theorem frame_ok {ρ : Env} {h : Heap} {w : World} (hr : Rel ρ h w) {l : List Nat} {h' : Heap} (hl : leH (sig h l) h l h') (hob : h'.all obB = true) (hsep : sepB l h' = true) :
    Rel (fun i => ρ (sig h l i)) h' w ∧ ∀ ρ'' h'' w', Rel ρ'' h'' w' → Grow (fun i => ρ (sig h l i)) h' w ρ'' h'' w' →
      ∃ ρo, Rel ρo (mrg (back h h' l) h l h' h'') w' ∧ Grow ρ h w ρo (mrg (back h h' l) h l h' h'') w' ∧ ∀ i x, ρ'' i = some x → ρo (back h h' l i) = some x := by
  obtain ⟨hlen, hget⟩ := leH_get hl
  have at_ : ∀ {n j : Nat}, l[n]? = some j → sig h l n = j := fun {n j} e => by simp [sig, e]
  have isob : ∀ {n : Nat} {e : HE}, h'[n]? = some e → ∃ ob, e = .ob ob := fun {n e} he => by
    have := List.all_eq_true.1 hob e (List.mem_of_getElem? he)
    cases e with
    | ob o => exact ⟨o, rfl⟩
    | _ => cases this
  have out : ∀ {n : Nat} {ob : Ob}, h'[n]? = some (.ob ob) → ∃ j ob0, l[n]? = some j ∧ h[j]? = some (.ob ob0) ∧ leHE (sig h l) (.ob ob0) (.ob ob) := fun {n ob} hn => by
    obtain ⟨j, x, e1, e2, e3⟩ := hget n _ hn (by simp)
    obtain ⟨ob0, rfl, _⟩ := leHE_ob e3
    exact ⟨j, ob0, e1, e2, e3⟩
  have loc : ∀ {n : Nat} {ob : Ob}, h'[n]? = some (.ob ob) → RelOb (fun i => ρ (sig h l i)) w n ob := fun {n ob} hn => by
    obtain ⟨j, ob0, e1, e2, e3⟩ := out hn
    obtain ⟨ob1, q1, _, _, _, k3⟩ := leHE_ob e3
    injection q1 with q1; subst q1
    exact k3 (fun _ => rfl) (by simp [at_ e1]) (hr.obs j ob0 e2)
  have own : ∀ {n b}, Owns (fun i => ρ (sig h l i)) h' n b → ∃ j, l[n]? = some j ∧ Owns ρ h j b := fun {n b} ⟨ob, o, h1, h2, h3⟩ => by
    obtain ⟨j, ob0, e1, e2, e3⟩ := out h1
    obtain ⟨ob1, q1, k1, kf, _⟩ := leHE_ob e3
    injection q1 with q1; subst q1
    exact ⟨j, e1, ob0, o, e2, k1 h2, kf _ _ _ (by simpa [at_ e1] using h3)⟩
  have oro : ∀ {n b}, Owns (fun i => ρ (sig h l i)) h' n b → ∃ e, h'[n]? = some e ∧ roB e = false := fun {n b} ⟨ob, o, h1, h2, h3⟩ => ⟨_, h1, owned_not_ro h2⟩
  have ro0 : ∀ {e : HE}, roB e = false → ro0B e = false := fun {e} he => by
    cases e with
    | ob o =>
      cases o with
      | ro _ _ _ => cases he
      | raw x => rfl
      | _ => rfl
    | _ => rfl
  have hrl : Rel (fun i => ρ (sig h l i)) h' w := by
    refine ⟨fun n hn => ?_, fun n ob hn => loc hn, fun n m b hn hm => ?_, fun n m b o ob hn hm hk hc => ?_⟩
    · rcases hn with hn | hn
      · obtain ⟨ob, e⟩ := isob hn; cases e
      · show ρ (sig h l n) = none
        have : l[n]? = none := List.getElem?_eq_none (by omega)
        simp only [sig, this]
        exact hr.fresh _ (.inr (Nat.le_refl _))
    · obtain ⟨j1, e1, o1⟩ := own hn
      obtain ⟨j2, e2, o2⟩ := own hm
      obtain ⟨a1, q1, r1⟩ := oro hn
      obtain ⟨a2, q2, r2⟩ := oro hm
      have := hr.inj j1 j2 b o1 o2
      subst this
      refine Classical.byContradiction fun hne => ?_
      rcases sepB_get hsep hne e1 e2 q1 q2 with ⟨p, _⟩ | p | p
      · rw [r1] at p; cases p
      · rw [ro0 r1] at p; cases p
      · rw [ro0 r2] at p; cases p
    · obtain ⟨j1, e1, o1⟩ := own hn
      obtain ⟨a1, q1, r1⟩ := oro hn
      obtain ⟨j, ob0, p1, p2, p3⟩ := out hm
      obtain ⟨ob1, x1, _, _, k2, _⟩ := leHE_ob p3
      injection x1 with x1; subst x1
      rcases k2 hk with ⟨hs, hsf⟩ | ⟨hno, hown⟩
      · exact hr.apart j1 j b o _ o1 p2 hs (hsf _ _ _ (by simpa [at_ p1] using hc))
      · have o2 : Owns ρ h j b := ⟨ob0, o, p2, (hown _ _ _ (hr.obs j ob0 p2)).1, (hown _ _ _ (hr.obs j ob0 p2)).2 _ _ _ (by simpa [at_ p1] using hc)⟩
        have e := hr.inj j1 j b o1 o2
        subst e
        have hne : n ≠ m := by
          rintro rfl
          obtain ⟨ob1, _, w1, w2, _⟩ := hn
          rw [hm] at w1
          injection w1 with w1; injection w1 with w1
          subst w1
          exact hno w2
        rcases sepB_get hsep hne e1 p1 q1 hm with ⟨p, _⟩ | p | p
        · rw [r1] at p; cases p
        · rw [ro0 r1] at p; cases p
        · cases ob with
          | ro sz k f =>
            cases k with
            | zero => exact hk rfl
            | succ k => cases p
          | raw y => cases p
          | _ => cases p
  refine ⟨hrl, fun ρ'' h'' w' hr'' hG => ?_⟩
  have located : ∀ {i : Nat}, i < h'.length → ∃ x, ρ (sig h l i) = some x ∧ ρ'' i = some x := fun {i} hi => by
    obtain ⟨ob, e⟩ := isob (List.getElem?_eq_getElem hi)
    obtain ⟨x, hx⟩ := relOb_at (loc ((List.getElem?_eq_getElem hi).trans (by rw [e])))
    exact ⟨x, hx, hG.sub i x hx⟩
  have hle : h'.length ≤ h''.length := by
    refine Nat.le_of_not_lt fun hlt => ?_
    obtain ⟨x, _, h2⟩ := located (i := h''.length) hlt
    rw [hr''.fresh _ (.inr (Nat.le_refl _))] at h2; cases h2
  have jlt : ∀ {i j : Nat}, l[i]? = some j → j < h.length := fun {i j} hi => by
    have hi' : i < h'.length := by have := (List.getElem?_eq_some_iff.1 hi).1; omega
    obtain ⟨ob, e⟩ := isob (List.getElem?_eq_getElem hi')
    obtain ⟨j', ob0, e1, e2, _⟩ := out ((List.getElem?_eq_getElem hi').trans (by rw [e]))
    rw [hi] at e1; injection e1 with e1; subst e1
    exact (List.getElem?_eq_some_iff.1 e2).1
  let g := back h h' l
  let ρo : Env := fun n => if n < h.length then ρ n else ρ'' (h'.length + (n - h.length))
  have gin : ∀ {i : Nat}, i < h'.length → ∃ j, l[i]? = some j ∧ g i = j := fun {i} hi => by
    have hi' : i < l.length := by omega
    exact ⟨_, List.getElem?_eq_getElem hi', by simp [g, back, List.getElem?_eq_getElem hi']⟩
  have gout : ∀ {i : Nat}, h'.length ≤ i → g i = h.length + (i - h'.length) := fun {i} hi => by
    have : l[i]? = none := List.getElem?_eq_none (by omega)
    simp [g, back, this]
  have hg : ∀ i x, ρ'' i = some x → ρo (g i) = some x := fun i x hx => by
    rcases Nat.lt_or_ge i h'.length with c | c
    · obtain ⟨j, e1, e2⟩ := gin c
      obtain ⟨y, h1, h2⟩ := located c
      rw [hx] at h2; injection h2 with h2; subst h2
      rw [at_ e1] at h1
      rw [e2]
      simp only [ρo, if_pos (jlt e1)]
      exact h1
    · rw [gout c]
      simp only [ρo]
      rw [if_neg (by omega), show h'.length + (h.length + (i - h'.length) - h.length) = i by omega]
      exact hx
  have mget : ∀ n : Nat, (mrg g h l h' h'')[n]? = if n < h.length then (h[n]?).map (fun e => pickHE g e n l h' h'') else (h''[h'.length + (n - h.length)]?).map (renHE g) := fun n => by
    unfold mrg
    split
    · rename_i c
      rw [List.getElem?_append_left (by rw [mrgGo_len]; exact c), mrgGo_get, Nat.zero_add]
    · rename_i c
      rw [List.getElem?_append_right (by rw [mrgGo_len]; omega), mrgGo_len, List.getElem?_map, List.getElem?_drop]
  have cls : ∀ {n : Nat} {e : HE}, (mrg g h l h' h'')[n]? = some e →
      (∃ (i : Nat) (b : HE), g i = n ∧ h''[i]? = some b ∧ e = renHE g b ∧ (∃ x, ρ'' i = some x → ρo n = ρ'' i) ∧ (i < h'.length → ∃ a : HE, h'[i]? = some a ∧ roB a = false)) ∨
      (n < h.length ∧ h[n]? = some e ∧ ρo n = ρ n ∧ ∀ (i : Nat) (a : HE), l[i]? = some n → h'[i]? = some a → roB a = true) := fun {n e} he => by
    rw [mget] at he
    split at he
    · rename_i c
      have hn := List.getElem?_eq_getElem c
      rw [hn] at he
      simp only [Option.map_some, Option.some.injEq] at he
      rcases pick_get (g := g) (e := h[n]) (n := n) hlen hle with ⟨i, a, b, q1, q2, q3, q4, q5⟩ | ⟨q1, q2⟩
      · left
        have hi : i < h'.length := (List.getElem?_eq_some_iff.1 q2).1
        obtain ⟨j, e1, e2⟩ := gin hi
        rw [q1] at e1; injection e1 with e1; subst e1
        obtain ⟨x, _, hx⟩ := located hi
        exact ⟨i, b, e2, q4, by rw [← he, q5], ⟨x, fun _ => by rw [← e2, hx]; exact hg i x hx⟩, fun _ => ⟨a, q2, q3⟩⟩
      · right
        exact ⟨c, by rw [hn, ← he, q2], by simp only [ρo, if_pos c], q1⟩
    · rename_i c
      left
      obtain ⟨b, h1, h2⟩ := Option.map_eq_some_iff.1 he
      refine ⟨_, b, ?_, h1, h2.symm, ⟨(0, 0), fun _ => by simp only [ρo, if_neg c]⟩, fun hlt => by omega⟩
      rw [gout (by omega)]; omega
  have ren_ob : ∀ {b : HE} {ob : Ob}, HE.ob ob = renHE g b → ∃ ob', b = .ob ob' ∧ ob = renOb g ob' ∧ roB b = false := fun {b ob} e => by
    cases b with
    | ob o =>
      cases o with
      | raw x => cases x <;> first | (simp only [renHE] at e; cases e; done) | (simp only [renHE] at e; injection e with e; exact ⟨_, rfl, e, rfl⟩)
      | _ => first | (simp only [renHE] at e; cases e; done) | (simp only [renHE] at e; injection e with e; exact ⟨_, rfl, e, rfl⟩)
    | _ => cases e
  have nol : ∀ {n : Nat} {ob : Ob} {b o : Nat}, n < h.length → h[n]? = some (.ob ob) → ob.looks → ob.lfoot (ρ n) b o → (∀ (i : Nat) (a : HE), l[i]? = some n → h'[i]? = some a → roB a = true) → ∀ m, ¬ Owns (fun i => ρ (sig h l i)) h' m b := fun {n ob b o} hn hob' hlk hb hro m hm => by
    obtain ⟨j, e1, o1⟩ := own hm
    obtain ⟨a, q1, q2⟩ := oro hm
    have fin : Owns ρ h n b → False := fun o2 => by
      have := hr.inj j n b o1 o2
      subst this
      rw [hro m a e1 q1] at q2; cases q2
    rcases Ob.look_cases hlk hb with ⟨hlk, hb⟩ | ⟨hlk, hb⟩
    · exact fin ⟨_, _, hob', hlk, hb⟩
    · exact hr.apart j n b o _ o1 hob' hlk hb
  have owl : ∀ {n b : Nat}, Owns ρo (mrg g h l h' h'') n b → (∃ i, g i = n ∧ Owns ρ'' h'' i b) ∨ (n < h.length ∧ Owns ρ h n b ∧ ∀ (i : Nat) (a : HE), l[i]? = some n → h'[i]? = some a → roB a = true) := fun {n b} ⟨ob, o, h1, h2, h3⟩ => by
    rcases cls h1 with ⟨i, b', q1, q2, q3, q4, q5⟩ | ⟨q1, q2, q3, q4⟩
    · left
      obtain ⟨ob', rfl, rfl, _⟩ := ren_ob q3
      obtain ⟨x, hx⟩ := relOb_at (hr''.obs i ob' q2)
      have := hg i x hx
      rw [q1] at this
      rw [this] at h3
      exact ⟨i, q1, ob', o, q2, owned_ren.1 h2, by rw [hx]; exact ofoot_ren.1 h3⟩
    · right
      rw [q3] at h3
      exact ⟨q1, ⟨ob, o, q2, h2, h3⟩, q4⟩
  have looksO : ∀ {ob : Ob}, ob.owned → ob.looks := fun {ob} ho => Ob.owned_looks ho
  have outn : ∀ {n m b : Nat}, (∃ i, g i = n ∧ Owns ρ'' h'' i b) → n = n → m < h.length → (∀ (ob : Ob) (o : Nat), h[m]? = some (.ob ob) → ob.looks → ob.lfoot (ρ m) b o → (∀ (i : Nat) (a : HE), l[i]? = some m → h'[i]? = some a → roB a = true) → False) := fun {n m b} ⟨i, _, o1⟩ _ hm ob o h1 h2 h3 h4 => by
    rcases hG.made i b o1 with ⟨m', o2⟩ | hge
    · exact nol hm h1 h2 h3 h4 m' o2
    · have := hr.looks_lt h1 h2 h3; omega
  have givl : ∀ {b : Nat}, Gives h'' b → Gives h b ∨ (∃ j, ∃ (m : Nat) (_ : l[m]? = some j) (a : HE), h'[m]? = some a ∧ roB a = false ∧ Owns ρ h j b) ∨ w.heap.size ≤ b := fun {b} hgv => by
    rcases hG.lent b hgv with ⟨n, p, F, G, g1, g2⟩ | ⟨m, o1⟩ | hge
    · left
      obtain ⟨j, ob0, e1, e2, e3⟩ := out g1
      have e : ob0 = .raw (.box p F G) := by cases ob0 <;> first | exact e3.elim | (simp only [leHE] at e3; rw [e3])
      subst e
      exact ⟨j, p, F, G, e2, g2⟩
    · obtain ⟨j, e1, o2⟩ := own o1
      obtain ⟨a, q1, q2⟩ := oro o1
      exact .inr (.inl ⟨j, m, e1, a, q1, q2, o2⟩)
    · exact .inr (.inr hge)
  refine ⟨ρo, ⟨fun n hn => ?_, fun n ob hn => ?_, fun n m b hn hm => ?_, fun n m b o ob hn hm hk hc => ?_⟩, ⟨fun n x hx => ?_, hG.os, hG.tape, hG.output, hG.frozen, hG.size, fun b hb hno => ?_, fun n b ho => ?_, fun b hgv => ?_, fun b hst => ?_⟩, hg⟩
  · rcases hn with hn | hn
    · rcases cls hn with ⟨i, b', q1, q2, q3, q4, q5⟩ | ⟨q1, q2, q3, q4⟩
      · have hb' : b' = .fresh := by
          cases b' with
          | ob o =>
            cases o with
            | raw x => cases x <;> cases q3
            | _ => cases q3
          | fresh => rfl
          | dead => cases q3
        subst hb'
        have hnone := hr''.fresh i (.inl q2)
        have hi : h'.length ≤ i := Nat.le_of_not_lt fun hlt => by
          obtain ⟨x, _, h2⟩ := located hlt; rw [hnone] at h2; cases h2
        have := gout hi
        rw [q1] at this
        simp only [ρo]
        rw [if_neg (by omega), show h'.length + (n - h.length) = i by omega]
        exact hnone
      · rw [q3]; exact hr.fresh n (.inl q2)
    · simp only [mrg, List.length_append, mrgGo_len, List.length_map, List.length_drop] at hn
      simp only [ρo]
      rw [if_neg (by omega)]
      exact hr''.fresh _ (.inr (by omega))
  · rcases cls hn with ⟨i, b', q1, q2, q3, q4, q5⟩ | ⟨q1, q2, q3, q4⟩
    · obtain ⟨ob', rfl, rfl, _⟩ := ren_ob q3
      rw [← q1]
      exact relOb_back hg (hr''.obs i ob' q2)
    · have hsub : ∀ x, ρ n = some x → ρo n = some x := fun x hx => by rw [q3]; exact hx
      have key : ∀ b o, ob.lfoot (ρ n) b o → ob.looks → w'.heap[b]? = w.heap[b]? := fun b o hb hlk => hG.keep b (hr.looks_lt q2 hlk hb) (nol q1 q2 hlk hb q4)
      have h0 := (hr.obs n ob q2).keep (Sub.refl _) hG.size key
      have hsub' : Sub ρ ρo := fun m x hx => by
        have hm : m < h.length := Nat.lt_of_not_le fun hge => by rw [hr.fresh m (.inr hge)] at hx; cases hx
        simp only [ρo, if_pos hm]; exact hx
      exact (hr.obs n ob q2).keep hsub' hG.size key
  · rcases owl hn with ⟨i, e1, o1⟩ | ⟨c1, o1, r1⟩ <;> rcases owl hm with ⟨j, e2, o2⟩ | ⟨c2, o2, r2⟩
    · rw [← e1, ← e2, hr''.inj i j b o1 o2]
    · obtain ⟨ob, o, k1, k2, k3⟩ := o2
      exact (outn ⟨i, e1, o1⟩ rfl c2 ob o k1 (looksO k2) (Ob.lfoot_o k3) r2).elim
    · obtain ⟨ob, o, k1, k2, k3⟩ := o1
      exact (outn ⟨j, e2, o2⟩ rfl c1 ob o k1 (looksO k2) (Ob.lfoot_o k3) r1).elim
    · exact hr.inj n m b o1 o2
  · rcases cls hm with ⟨i, b', q1, q2, q3, q4, q5⟩ | ⟨q1, q2, q3, q4⟩
    · obtain ⟨ob', rfl, e, r⟩ := ren_ob q3
      subst e
      have hk' := still_ren.1 hk
      have hc' := sfoot_ren.1 hc
      have hbx : ∃ p F G, ob' = .raw (.box p F G) := by
        cases ob' with
        | raw x => cases x <;> first | cases r; done | exact hk'.elim | exact ⟨_, _, _, rfl⟩
        | ro _ _ _ => cases r
        | own _ => exact hk'.elim
        | row _ _ _ _ => exact hk'.elim
      obtain ⟨p, F, G, rfl⟩ := hbx
      rcases owl hn with ⟨j, e1, o1⟩ | ⟨c1, o1, r1⟩
      · exact hr''.apart j i b o _ o1 q2 trivial hc'
      · rcases givl ⟨i, p, F, G, q2, hc'⟩ with ⟨j, p', F', G', w1, w2⟩ | ⟨j, m', e1, a, q1', q2', o2⟩ | hge
        · exact hr.apart n j b 0 _ o1 w1 trivial w2
        · have := hr.inj j n b o2 o1
          subst this
          rw [r1 _ a e1 q1'] at q2'; cases q2'
        · have := hr.owns_lt o1; omega
    · rw [q3] at hc
      rcases owl hn with ⟨i, e1, o1⟩ | ⟨c1, o1, r1⟩
      · exact outn ⟨i, e1, o1⟩ rfl q1 _ o q2 (Ob.still_looks hk) (Ob.lfoot_s hc) q4
      · exact hr.apart n m b o ob o1 q2 hk hc
  · have hm : n < h.length := Nat.lt_of_not_le fun hge => by rw [hr.fresh n (.inr hge)] at hx; cases hx
    simp only [ρo, if_pos hm]; exact hx
  · exact hG.keep b hb fun m hm => by obtain ⟨j, _, o1⟩ := own hm; exact hno j o1
  · rcases owl ho with ⟨i, e1, o1⟩ | ⟨c1, o1, r1⟩
    · rcases hG.made i b o1 with ⟨m, o2⟩ | hge
      · obtain ⟨j, _, o3⟩ := own o2
        exact .inl ⟨j, o3⟩
      · exact .inr hge
    · exact .inl ⟨n, o1⟩
  · obtain ⟨n, p, F, G, g1, g2⟩ := hgv
    rcases cls g1 with ⟨i, b', q1, q2, q3, q4, q5⟩ | ⟨q1, q2, q3, q4⟩
    · obtain ⟨ob', rfl, e, r⟩ := ren_ob q3
      have e : ob' = .raw (.box p F G) := by cases ob' <;> simp only [renOb] at e <;> first | (injection e with e; rw [e]; done) | (cases e; done)
      subst e
      rcases givl ⟨i, p, F, G, q2, g2⟩ with hgv | ⟨j, _, _, _, _, _, o2⟩ | hge
      · exact .inl hgv
      · exact .inr (.inl ⟨j, o2⟩)
      · exact .inr (.inr hge)
    · exact .inl ⟨n, p, F, G, q2, g2⟩
  · obtain ⟨n, ob, o, g1, g2, g3⟩ := hst
    rcases cls g1 with ⟨i, b', q1, q2, q3, q4, q5⟩ | ⟨q1, q2, q3, q4⟩
    · obtain ⟨ob', rfl, e, r⟩ := ren_ob q3
      subst e
      have hk' := still_ren.1 g2
      have hbx : ∃ p F G, ob' = .raw (.box p F G) := by
        cases ob' with
        | raw x => cases x <;> first | cases r; done | exact hk'.elim | exact ⟨_, _, _, rfl⟩
        | ro _ _ _ => cases r
        | own _ => exact hk'.elim
        | row _ _ _ _ => exact hk'.elim
      obtain ⟨p, F, G, rfl⟩ := hbx
      rcases givl ⟨i, p, F, G, q2, g3⟩ with ⟨j, p', F', G', w1, w2⟩ | ⟨j, _, _, _, _, _, o2⟩ | hge
      · exact .inl ⟨j, _, 0, w1, trivial, w2⟩
      · exact .inr (.inl ⟨j, o2⟩)
      · exact .inr (.inr hge)
    · exact .inl ⟨n, ob, o, q2, g2, by rw [← q3]; exact g3⟩
variable {d : Nat}
def nilB (n : Nat) : C → Bool
 | .slc m _ _ _ 0 0 true=>Nat.blt m n
 | _=>false
def leN (n : Nat) (g : Nat → Nat) (x y : C) : Prop:=x = renC g y ∨ (x = .v (.slice none 0 0) ∧ nilB n y = true)
def leNs (n : Nat) (g : Nat → Nat) : List Seg → List Seg → Prop
 | [],[]=>True
 | .c x :: l,.c y :: m=>leN n g x y ∧ leNs n g l m
 | .arr k f :: l,.arr k' f' :: m=>(k = k' ∧ ∀ i,i < k' → f i = renC g (f' i)) ∧ leNs n g l m
 | _,_=>False
def leX (n : Nat) (g : Nat → Nat) : R → R → Prop
 | .t (.one x),.t (.one y)=>leN n g x y
 | .t (.agg l),.t (.agg m)=>leNs n g l m
 | _,_=>False
def leXs (n : Nat) (g : Nat → Nat) : List R → List R → Prop
 | [],[]=>True
 | x :: l,y :: m=>leX n g x y ∧ leXs n g l m
 | _,_=>False
section
variable {ρ : Env} {g : Nat → Nat} {n : Nat}
theorem den_leN (hn : ∀ i,i < n → ∃ x,ρ (g i) = some x) {x y : C} {v : Value} (hl : leN n g x y) (h : Den ρ x v) : Den (fun i=>ρ (g i)) y v:=by
 rcases hl with rfl | ⟨rfl,hb⟩
 ·exact den_ren h
 ·unfold nilB at hb
  split at hb
  ·obtain ⟨⟨b,o⟩,hx⟩:=hn _ (Nat.le_of_ble_eq_true hb)
   exact ⟨b,o,none,hx,h.1,fun hlt=>absurd hlt (by omega),rfl,Nat.le_refl _⟩
  ·cases hb
theorem den_leNs (hn : ∀ i,i < n → ∃ x,ρ (g i) = some x) : ∀ {l m : List Seg} {vs : List Value},leNs n g l m → All2 (Den ρ) (cells l) vs → All2 (Den fun i=>ρ (g i)) (cells m) vs
 | [],[],[],_,_=>trivial
 | [],[],_ :: _,_,h=>h.elim
 | .c x :: l,.c y :: m,v :: vs,hl,h=>⟨den_leN hn hl.1 h.1,den_leNs hn hl.2 h.2⟩
 | .c _ :: _,.c _ :: _,[],_,h=>h.elim
 | .arr k f :: l,.arr k' f' :: m,vs,hl,h=>by
  obtain ⟨⟨rfl,hf⟩,hl⟩:=hl
  have e : (List.range k).map f = ((List.range k).map f').map (renC g):=by
   rw [List.map_map]
   exact List.map_congr_left fun i hi=>hf i (by simpa using hi)
  simp only [cells] at h ⊢
  rw [e] at h
  have h1:=h.take k
  have h2:=h.drop k
  rw [List.take_left' (by simp)] at h1
  rw [List.drop_left' (by simp)] at h2
  rw [← List.take_append_drop k vs]
  exact (all2_ren (fun _ _=>den_ren) h1).append (den_leNs hn hl h2)
 | [],_ :: _,_,hl,_=>hl.elim
 | .c _ :: _,[],_,hl,_=>hl.elim
 | .arr _ _ :: _,[],_,hl,_=>hl.elim
 | .c _ :: _,.arr _ _ :: _,_,hl,_=>hl.elim
 | .arr _ _ :: _,.c _ :: _,_,hl,_=>hl.elim
theorem den_leX (hn : ∀ i,i < n → ∃ x,ρ (g i) = some x) {x y : R} {v : Value} (hl : leX n g x y) (h : DenR ρ x v) : DenR (fun i=>ρ (g i)) y v:=by
 unfold leX at hl
 split at hl
 ·exact den_leN hn hl h
 ·obtain ⟨vs,h1,h2⟩:=h
  exact ⟨vs,h1,den_leNs hn hl h2⟩
 ·exact hl.elim
theorem den_leXs (hn : ∀ i,i < n → ∃ x,ρ (g i) = some x) : ∀ {l m : List R} {vs : List Value},leXs n g l m → All2 (DenR ρ) l vs → All2 (DenR fun i=>ρ (g i)) m vs
 | [],[],[],_,_=>trivial
 | [],[],_ :: _,_,h=>h.elim
 | x :: l,y :: m,v :: vs,hl,h=>⟨den_leX hn hl.1 h.1,den_leXs hn hl.2 h.2⟩
 | _ :: _,_ :: _,[],_,h=>h.elim
 | [],_ :: _,_,hl,_=>hl.elim
 | _ :: _,[],_,hl,_=>hl.elim
end
structure Con (α : Type) where
 X : α → List R
 H : α → Heap
 pre : α → Prop
 post : α → R → Heap → Prop
section
variable {α : Type} {P : Program} {f : FuncId}
def ConOk (P : Program) (f : FuncId) (C : Con α) : Prop:=Enters P f ∧ ∀ p,C.pre p → ∀ ρ w vs,Rel ρ (C.H p) w → All2 (DenR ρ) (C.X p) vs →
 Calls P f vs.toArray w fun e w'=>∃ v,e = .returned v ∧ Post ρ (C.H p) w (C.post p) v w'
abbrev Cx:=List R → Heap → (R → Heap → Prop) → Prop
def CxOk (P : Program) (f : FuncId) (o : Cx) : Prop:=∀ xs h K,o xs h K → Enters P f ∧ ∀ ρ w vs,Rel ρ h w → All2 (DenR ρ) xs vs →
 Calls P f vs.toArray w fun e w'=>∃ v,e = .returned v ∧ Post ρ h w K v w'
structure AskC (C : Con α) (xs : List R) (h : Heap) (K : R → Heap → Prop) : Prop where
 out : ∃ (p : α) (l : List Nat),C.pre p ∧ ((C.H p).all obB && sepB l (C.H p)) = true ∧ leH (sig h l) h l (C.H p) ∧ leXs (C.H p).length (sig h l) xs (C.X p) ∧
  ∀ x h'',C.post p x h'' → K (renR (back h (C.H p) l) x) (mrg (back h (C.H p) l) h l (C.H p) h'')
theorem ask_ok {C : Con α} (hC : ConOk P f C) : CxOk P f (AskC C):=by
 rintro xs h K ⟨p,l,hpre,hb,hH,hX,hK⟩
 refine ⟨hC.1,fun ρ w vs hr hv=>?_⟩
 simp only [Bool.and_eq_true] at hb
 obtain ⟨h1,h2⟩:=frame_ok hr hH hb.1 hb.2
 have hn : ∀ i,i < (C.H p).length → ∃ x,ρ (sig h l i) = some x:=fun i hi=>by
  have e : (C.H p)[i]? = some (C.H p)[i]:=List.getElem?_eq_getElem hi
  have:=List.all_eq_true.1 hb.1 _ (List.getElem_mem hi)
  cases ho : (C.H p)[i] with
  | ob o =>
   rw [ho] at e
   exact relOb_at (ρ:=fun i=>ρ (sig h l i)) (h1.obs i o e)
  | fresh=>rw [ho] at this; cases this
  | dead=>rw [ho] at this; cases this
 refine (hC.2 p hpre _ w vs h1 (den_leXs hn hX hv)).mono fun e w' ⟨v,he,x,ρ'',h'',k1,k2,k3,k4⟩=>?_
 obtain ⟨ρo,q1,q2,q3⟩:=h2 ρ'' h'' w' k2 k3
 exact ⟨v,he,_,ρo,_,hK x h'' k1,q1,q2,denR_back q3 k4⟩
structure Trim (n : Nat) (x : R) (h : Heap) (Q : R → Heap → Prop) : Prop where
 out : ∃ (y : R) (h' : Heap),Le (d:=0) n x h y h' ∧ Q y h'
theorem trim_ok {ρ ρ0 : Env} {h h0 : Heap} {w w0 : World} {x : R} {v : Value} {Q : R → Heap → Prop} {n : Nat} (hb : ∀ m y,ρ0 m = some y → m < n) (hr : Rel ρ h w) (hG : Grow ρ0 h0 w0 ρ h w) (hx : DenR ρ x v) (ht : Trim n x h Q) : Post ρ0 h0 w0 Q v w:=by
 obtain ⟨⟨y,h',hle,hq⟩⟩:=ht
 have hA : At (d:=0) ρ 1 x h ⟨#[v],[]⟩ w:=⟨⟨rfl,fun i=>by
  cases i with
  | zero=>exact hx
  | succ i=>trivial⟩,hr,rfl⟩
 obtain ⟨ρ',k1,k2⟩:=le_ok hb hle hA hG
 exact ⟨y,ρ',h',hq,k1.heap,k2,k1.regs.2 0⟩
theorem con_of_run {cl : Cl} (hc : ClOk P cl) {C : Con α} (hE : Enters P f) (hr : ∀ p,C.pre p → cl f [] (C.X p) (C.H p) fun x h'=>Trim (C.H p).length x h' (C.post p)) : ConOk P f C:=by
 refine ⟨hE,fun p hp ρ w vs h1 h2=>((hc _ _ _ _ _ (hr p hp)).2 ρ w vs h1 h2).mono fun e w' ⟨v,he,x,ρ',h',k1,k2,k3,k4⟩=>⟨v,he,trim_ok (fun m y hy=>?_) k2 k3 k4 k1⟩⟩
 exact Nat.lt_of_not_le fun hge=>by rw [h1.fresh m (.inr hge)] at hy; cases hy
theorem fn_enters {cl : Cl} {tt : TT} {fn : Fn} (h : FnOk P cl tt d f fn) : Enters P f:=by
 obtain ⟨⟨F,f1,f2,f3,_⟩,_⟩:=h
 exact ⟨F,f1,by rw [f2]; rfl,f3⟩
end
def clConGo (cl : Cl) (f : FuncId) (av : List Nat) (xs : List R) (h : Heap) (K : R → Heap → Prop) : List (FuncId × Cx) → Prop
 | []=>cl f av xs h K
 | (g,o) :: l=>match Nat.beq f g with
  | true=>o xs h K
  | false=>clConGo cl f av xs h K l
def clCon (outs : List (FuncId × Cx)) (cl : Cl) : Cl:=fun f av xs h K=>clConGo cl f av xs h K outs
def clRunC (d : Nat) (tt : TT) (outs : List (FuncId × Cx)) (tab : List (FuncId × Fn)) : Nat → Cl
 | 0=>fun _ _ _ _ _=>False
 | n + 1=>clCon outs fun f _ xs h K=>clGo d tt (clRunC d tt outs tab n) f xs h K tab
section
variable {P : Program} {tt : TT}
def OutsOk (P : Program) (outs : List (FuncId × Cx)) : Prop:=∀ g o,(g,o) ∈ outs → CxOk P g o
theorem OutsOk.nil : OutsOk P []:=fun _ _ h=>by cases h
theorem OutsOk.cons {g : FuncId} {o : Cx} {l : List (FuncId × Cx)} (h : CxOk P g o) (hl : OutsOk P l) : OutsOk P ((g,o) :: l):=fun g' o' hm=>by
 rcases List.mem_cons.1 hm with e | hm
 ·cases e; exact h
 ·exact hl g' o' hm
theorem OutsOk.append {l m : List (FuncId × Cx)} (hl : OutsOk P l) (hm : OutsOk P m) : OutsOk P (l ++ m):=fun g o h=>(List.mem_append.1 h).elim (hl g o) (hm g o)
theorem clConGo_ok {cl : Cl} (hc : ClOk P cl) {f : FuncId} {av : List Nat} {xs : List R} {h : Heap} {K : R → Heap → Prop} : ∀ {outs : List (FuncId × Cx)}, OutsOk P outs → clConGo cl f av xs h K outs →
    Enters P f ∧ ∀ ρ w vs, Rel ρ h w → All2 (DenR ρ) xs vs → Calls P f vs.toArray w fun e w' => ∃ v, e = .returned v ∧ Post ρ h w K v w'
  | [], _, hk => hc _ _ _ _ _ hk
  | (g, o) :: l, ho, hk => by
    unfold clConGo at hk
    split at hk
    · rename_i e
      have e := Nat.eq_of_beq_eq_true e
      subst e
      exact ho f o (by simp) _ _ _ hk
    · exact clConGo_ok hc (fun g o hm => ho g o (by simp [hm])) hk
theorem clRunC_ok (hT : TTok P tt) {outs : List (FuncId × Cx)} (ho : OutsOk P outs) {tab : List (FuncId × Fn)} (ht : ∀ cl,ClOk P cl → ∀ g fn,(g,fn) ∈ tab → FnOk P cl tt d g fn) : ∀ n,ClOk P (clRunC d tt outs tab n)
 | 0=>fun _ _ _ _ _ h=>h.elim
 | n + 1=>fun _ _ _ _ _ h=>clConGo_ok (fun _ _ _ _ _ h=>clGo_ok (clRunC_ok hT ho ht n) hT (ht _ (clRunC_ok hT ho ht n)) h) ho h
end
theorem cD {p : Prop} [Decidable p] {a b : Prop} (h1 : p → a) (h2 : ¬ p → b) : Cnd (decide p) a b:=by
 by_cases h : p
 ·rw [decide_eq_true h]; exact h1 h
 ·rw [decide_eq_false h]; exact h2 h
theorem cN {p : Prop} [Decidable p] {a b : Prop} (h1 : ¬ p → a) (h2 : p → b) : Cnd (!decide p) a b:=by
 by_cases h : p
 ·rw [decide_eq_true h]; exact h2 h
 ·rw [decide_eq_false h]; exact h1 h
theorem cDT {p : Prop} [Decidable p] {a b : Prop} (h : p) (h1 : a) : Cnd (decide p) a b:=by rw [decide_eq_true h]; exact h1
theorem cDF {p : Prop} [Decidable p] {a b : Prop} (h : ¬ p) (h1 : b) : Cnd (decide p) a b:=by rw [decide_eq_false h]; exact h1
theorem cNT {p : Prop} [Decidable p] {a b : Prop} (h : ¬ p) (h1 : a) : Cnd (!decide p) a b:=by rw [decide_eq_false h]; exact h1
theorem cNF {p : Prop} [Decidable p] {a b : Prop} (h : p) (h1 : b) : Cnd (!decide p) a b:=by rw [decide_eq_true h]; exact h1
theorem inR_i64 {n : Int} (h : -9223372036854775808 ≤ n ∧ n ≤ 9223372036854775807) : inR .i64 n = true:=inR_iff.2 h
theorem inR_u8 {n : Int} (h : 0 ≤ n ∧ n ≤ 255) : inR .u8 n = true:=inR_iff.2 h
theorem inR_u16 {n : Int} (h : 0 ≤ n ∧ n ≤ 65535) : inR .u16 n = true:=inR_iff.2 h
theorem inR_u32 {n : Int} (h : 0 ≤ n ∧ n ≤ 4294967295) : inR .u32 n = true:=inR_iff.2 h
theorem inR_u64 {n : Int} (h : 0 ≤ n ∧ n ≤ 18446744073709551615) : inR .u64 n = true:=inR_iff.2 h
theorem bI {n : Int} {a b : Prop} (h : -9223372036854775808 ≤ n ∧ n ≤ 9223372036854775807) (h1 : a) : Cnd (inR .i64 n) a b:=cT (inR_i64 h) h1
theorem bU8 {n : Int} {a b : Prop} (h : 0 ≤ n ∧ n ≤ 255) (h1 : a) : Cnd (inR .u8 n) a b:=cT (inR_u8 h) h1
theorem bU16 {n : Int} {a b : Prop} (h : 0 ≤ n ∧ n ≤ 65535) (h1 : a) : Cnd (inR .u16 n) a b:=cT (inR_u16 h) h1
theorem bU64 {n : Int} {a b : Prop} (h : 0 ≤ n ∧ n ≤ 18446744073709551615) (h1 : a) : Cnd (inR .u64 n) a b:=cT (inR_u64 h) h1
theorem bU32 {n : Int} {a b : Prop} (h : 0 ≤ n ∧ n ≤ 4294967295) (h1 : a) : Cnd (inR .u32 n) a b:=cT (inR_u32 h) h1
def plT : T → Bool
 | .one (.v _)=>true
 | .agg l=>isPlain l
 | _=>false
def plR : R → Bool
 | .junk=>true
 | .t x=>plT x
 | .tup l=>l.all plT
theorem isPlain_ren {g : Nat → Nat} : ∀ {l : List Seg},isPlain l = true → l.map (renSeg g) = l
 | [],_=>rfl
 | .c (.v x) :: l,h=>by simp only [isPlain] at h; simp [renSeg,renC,isPlain_ren h]
 | .c (.ptr _ _) :: _,h=>by cases h
 | .c (.ept _ _ _ _ _) :: _,h=>by cases h
 | .c (.slc _ _ _ _ _ _ _) :: _,h=>by cases h
 | .c (.mp _) :: _,h=>by cases h
 | .c (.ch _) :: _,h=>by cases h
 | .c (.fn _ _) :: _,h=>by cases h
 | .arr _ _ :: _,h=>by cases h
theorem plT_ren {g : Nat → Nat} {x : T} (h : plT x = true) : renT g x = x:=by
 unfold plT at h
 split at h
 ·rfl
 ·simp only [renT,isPlain_ren h]
 ·cases h
theorem plR_ren {g : Nat → Nat} {x : R} (h : plR x = true) : renR g x = x:=by
 unfold plR at h
 split at h
 ·rfl
 ·simp only [renR,plT_ren h]
 ·rename_i l
  simp only [renR,R.tup.injEq]
  induction l with
  | nil=>rfl
  | cons a l ih =>
   simp only [List.all_cons,Bool.and_eq_true] at h
   simp [plT_ren h.1,ih h.2]
theorem pick_ro {g : Nat → Nat} {e : HE} {n : Nat} : ∀ {l : List Nat} {h' h'' : Heap},h'.all roB = true → pickHE g e n l h' h'' = e
 | [],_,_,_=>by unfold pickHE; rfl
 | _ :: _,[],_,_=>by unfold pickHE; rfl
 | _ :: _,_ :: _,[],_=>by unfold pickHE; rfl
 | j :: l,a :: h',b :: h'',h=>by
  simp only [List.all_cons,Bool.and_eq_true] at h
  unfold pickHE
  rw [h.1]
  simp only [Bool.not_true,Bool.and_false]
  exact pick_ro h.2
theorem mrgGo_ro {g : Nat → Nat} {l : List Nat} {h' h'' : Heap} (hr : h'.all roB = true) : ∀ (h : Heap) (n : Nat),mrgGo g l h' h'' n h = h
 | [],_=>rfl
 | e :: h,n=>by simp only [mrgGo,pick_ro hr,mrgGo_ro hr h]
theorem mrg_ro {g : Nat → Nat} {h : Heap} {l : List Nat} {h' : Heap} (hr : h'.all roB = true) (new : Heap) : mrg g h l h' (h' ++ new) = h ++ new.map (renHE g):=by
 simp only [mrg,mrgGo_ro hr,List.drop_left]
theorem ro_ob {h : Heap} (hr : h.all roB = true) : h.all obB = true:=by
 rw [List.all_eq_true] at hr ⊢
 intro e he
 have:=hr e he
 cases e with
 | ob o=>rfl
 | _=>cases this
section
variable {α : Type}
def RoCon (X : α → List R) (H : α → Heap) (pre : α → Prop) (F : α → R) : Con α:=⟨X,H,pre,fun p x h=>x = F p ∧ h = H p⟩
theorem AskC.use {X : α → List R} {H : α → Heap} {pre : α → Prop} {F : α → R} {xs : List R} {h : Heap} {K : R → Heap → Prop} (p : α) (l : List Nat) (hp : pre p)
    (hs : ((H p).all roB && (sepB l (H p) && plR (F p))) = true) (hH : leH (sig h l) h l (H p)) (hX : leXs (H p).length (sig h l) xs (X p)) (hk : K (F p) h) : AskC (RoCon X H pre F) xs h K := by
  simp only [Bool.and_eq_true] at hs
  refine ⟨p, l, hp, by simp only [RoCon, Bool.and_eq_true]; exact ⟨ro_ob hs.1, hs.2.1⟩, hH, hX, fun x h'' ⟨e1, e2⟩ => ?_⟩
  subst e1; subst e2
  have := mrg_ro (g := back h (H p) l) (h := h) (l := l) hs.1 []
  simp only [List.append_nil, List.map_nil] at this
  show K (renR (back h (H p) l) (F p)) (mrg (back h (H p) l) h l (H p) (H p))
  rw [this, plR_ren hs.2.2]
  exact hk
theorem Trim.ro {n : Nat} {x : R} {h h' : Heap} {Q : R → Heap → Prop} (hle : Le (d:=0) n x h x h') (hq : Q x h') : Trim n x h Q:=⟨⟨x,h',hle,hq⟩⟩
def RowCon (X : α → List R) (H : α → Heap) (pre : α → Prop) (sz n : α → Nat) (f : α → Nat → List C) (nl : α → Bool) : Con α :=
 ⟨X,H,pre,fun p x h=>∃ cap,n p ≤ cap ∧ x = .t (.one (.slc (H p).length 0 (sz p) 0 (n p) cap (nl p))) ∧ h = H p ++ [.ob (.row (sz p) (n p) (f p) cap)]⟩
theorem AskC.row {X : α → List R} {H : α → Heap} {pre : α → Prop} {sz n : α → Nat} {f : α → Nat → List C} {nl : α → Bool} {xs : List R} {h : Heap} {K : R → Heap → Prop} (p : α) (l : List Nat) (hp : pre p)
    (hs : ((H p).all roB && sepB l (H p)) = true) (hl : l.length = (H p).length) (hH : leH (sig h l) h l (H p)) (hX : leXs (H p).length (sig h l) xs (X p)) (hf : ∀ i g, (f p i).map (renC g) = f p i)
    (hk : ∀ cap, n p ≤ cap → hlenK h 0 fun nm => happK h (.ob (.row (sz p) (n p) (f p) cap)) fun h => K (.t (.one (.slc nm 0 (sz p) 0 (n p) cap (nl p)))) h) : AskC (RowCon X H pre sz n f nl) xs h K := by
  simp only [Bool.and_eq_true] at hs
  refine ⟨p, l, hp, by simp only [RowCon, Bool.and_eq_true]; exact ⟨ro_ob hs.1, hs.2⟩, hH, hX, fun x h'' ⟨cap, hc, e1, e2⟩ => ?_⟩
  subst e1; subst e2
  have h1 := happK_ok (hlenK_ok (hk cap hc))
  show K (renR (back h (H p) l) _) (mrg (back h (H p) l) h l (H p) (H p ++ _))
  rw [mrg_ro hs.1]
  have e : back h (H p) l (H p).length = 0 + h.length := by
    have : l[(H p).length]? = none := List.getElem?_eq_none (by omega)
    simp only [back, this]; omega
  simp only [renR, renT, renC, e, List.map_cons, List.map_nil, renHE, renOb, hf]
  exact h1
end
end Go.Eng
namespace Go.Eng
open Go Go.ChangeShapes Go.WideShapes Go.RowKit Go.Deep
variable {d : Nat}
inductive Ck where
 | int (k : IntKind)
 | bool
 | str
inductive Sh where
 | c (k : Ck)
 | s (l : List Ck)
inductive Pa where
 | one (s : Sh)
 | agg (l : List Sh)
inductive Da where
 | c (v : Value)
 | s (len cap : Nat) (nl : Bool) (F : Nat → List Value)
def okW : Ck → Value → Prop
 | .int k,.int k' n=>k' = k ∧ (Lit.int k n).wf = true
 | .bool,.bool _=>True
 | .str,.string s=>s.size ≤ maxLen
 | _,_=>False
def valI : Value → Int
 | .int _ n=>n
 | _=>0
def valB : Value → Bool
 | .bool b=>b
 | _=>false
def valS : Value → ByteArray
 | .string s=>s
 | _=>.empty
def tyC : Ck → Value → C
 | .int k,v=>.v (.int k (valI v))
 | .bool,v=>.v (.bool (valB v))
 | .str,v=>.v (.string (valS v))
def tyCs : List Ck → List Value → List C
 | [],_=>[]
 | c :: l,vs=>tyC c (vs.headD undef) :: tyCs l vs.tail
theorem den_ty {ρ : Env} {c : Ck} {v : Value} (h : okW c v) : Den ρ (tyC c v) v:=by
 cases c <;> cases v <;> first | exact h.elim | skip
 ·obtain ⟨rfl,_⟩:=h; exact ⟨rfl,trivial⟩
 ·exact ⟨rfl,trivial⟩
 ·exact ⟨rfl,trivial⟩
theorem den_tys {ρ : Env} : ∀ {l : List Ck} {vs : List Value},All2 okW l vs → All2 (Den ρ) (tyCs l vs) vs
 | [],[],_=>trivial
 | c :: l,v :: vs,h=>⟨den_ty h.1,den_tys h.2⟩
 | [],_ :: _,h=>h.elim
 | _ :: _,[],h=>h.elim
def ckB (P : Program) (t : TypeId) : Ck → Bool
 | .int k=>match P.underlying t with | some (.int k')=>kindEq k k' | _=>false
 | .bool=>match P.underlying t with | some .bool=>true | _=>false
 | .str=>match P.underlying t with | some .string=>true | _=>false
def fsB (P : Program) : List Field → List Ck → Bool
 | [],[]=>true
 | f :: fs,c :: l=>ckB P f.type c && fsB P fs l
 | _,_=>false
def elB (P : Program) (e : TypeId) (l : List Ck) : Bool :=
 match P.underlying e with
 | some (.struct fs)=>oneCellFields P fs && (Nat.beq (P.cellsOf e) l.length && (Nat.beq fs.size l.length && (fsB P fs.toList l && Nat.blt 0 l.length)))
 | _=>match l with | [c]=>ckB P e c && Nat.beq (P.cellsOf e) 1 | _=>false
def shB (P : Program) (t : TypeId) : Sh → Bool
 | .c k=>ckB P t k
 | .s l=>match P.underlying t with | some (.slice e)=>elB P e l | _=>false
def fshB (P : Program) : List Field → List Sh → Bool
 | [],[]=>true
 | f :: fs,c :: l=>shB P f.type c && fshB P fs l
 | _,_=>false
def paB (P : Program) (t : TypeId) : Pa → Bool
 | .one s=>shB P t s
 | .agg l=>match P.underlying t with | some (.struct fs)=>oneCellFields P fs && (Nat.beq (P.cellsOf t) l.length && (Nat.beq fs.size l.length && fshB P fs.toList l)) | _=>false
def pasB (P : Program) : List TypeId → List Pa → Bool
 | [],[]=>true
 | t :: ts,p :: ps=>paB P t p && pasB P ts ps
 | _,_=>false
def OkDa : Sh → Da → Prop
 | .c k,.c v=>okW k v
 | .s l,.s len cap nl F=>len ≤ cap ∧ cap ≤ maxLen ∧ (nl = true → cap = 0) ∧ ∀ i,i < len → All2 okW l (F i)
 | _,_=>False
def c1 (nm : Nat) : Sh → Da → C
 | .c k,.c v=>tyC k v
 | .s l,.s len cap nl _=>.slc nm 0 l.length 0 len cap nl
 | _,_=>.v undef
def cs : Nat → List Sh → List Da → List C
 | nm,.c k :: l,x :: m=>c1 nm (.c k) x :: cs nm l m
 | nm,.s k :: l,x :: m=>c1 nm (.s k) x :: cs (nm + 1) l m
 | _,_,_=>[]
def hs : List Sh → List Da → Heap
 | .s k :: l,.s len _ _ F :: m=>.ob (.ro k.length len fun i=>tyCs k (F i)) :: hs l m
 | .c _ :: l,_ :: m=>hs l m
 | _,_=>[]
def shsOf : Pa → List Sh
 | .one s=>[s]
 | .agg l=>l
def xP (nm : Nat) : Pa → List Da → R
 | .one s,x :: _=>.t (.one (c1 nm s x))
 | .one _,[]=>.junk
 | .agg l,m=>.t (.agg (segs (cs nm l m)))
def xsP : Nat → List Pa → List (List Da) → List R
 | nm,p :: ps,x :: xs=>xP nm p x :: xsP (nm + (hs (shsOf p) x).length) ps xs
 | _,_,_=>[]
def hsP : List Pa → List (List Da) → Heap
 | p :: ps,x :: xs=>hs (shsOf p) x ++ hsP ps xs
 | _,_=>[]
def OkAll : List Pa → List (List Da) → Prop
 | [],[]=>True
 | p :: ps,x :: xs=>All2 OkDa (shsOf p) x ∧ OkAll ps xs
 | _,_=>False
def Lies (w : World) : Heap → List (Nat × Nat) → Prop
 | [],[]=>True
 | .ob (.ro sz n f) :: h,(b,o) :: l=>(Elems none' w b o sz n f ∧ (n ≠ 0 → b < w.heap.size)) ∧ Lies w h l
 | _,_=>False
theorem Lies.append {w : World} : ∀ {h h' : Heap} {l l' : List (Nat × Nat)},Lies w h l → Lies w h' l' → Lies w (h ++ h') (l ++ l')
 | [],_,[],_,_,h2=>h2
 | .ob (.ro _ _ _) :: _,_,(_,_) :: _,_,h1,h2=>⟨h1.1,Lies.append h1.2 h2⟩
 | [],_,_ :: _,_,h,_=>h.elim
 | .ob (.ro _ _ _) :: _,_,[],_,h,_=>h.elim
 | .ob (.own _) :: _,_,_,_,h,_=>by cases h
 | .ob (.raw _) :: _,_,_,_,h,_=>by cases h
 | .ob (.row _ _ _ _) :: _,_,_,_,h,_=>by cases h
 | .fresh :: _,_,_,_,h,_=>by cases h
 | .dead :: _,_,_,_,h,_=>by cases h
theorem Lies.length {w : World} : ∀ {h : Heap} {l : List (Nat × Nat)},Lies w h l → h.length = l.length
 | [],[],_=>rfl
 | .ob (.ro _ _ _) :: _,(_,_) :: _,h=>by simp [Lies.length h.2]
 | [],_ :: _,h=>h.elim
 | .ob (.ro _ _ _) :: _,[],h=>h.elim
 | .ob (.own _) :: _,_,h=>by cases h
 | .ob (.raw _) :: _,_,h=>by cases h
 | .ob (.row _ _ _ _) :: _,_,h=>by cases h
 | .fresh :: _,_,h=>by cases h
 | .dead :: _,_,h=>by cases h
theorem Lies.get {w : World} : ∀ {h : Heap} {l : List (Nat × Nat)},Lies w h l → ∀ {n : Nat} {e : HE},h[n]? = some e → ∃ sz k f b o,e = .ob (.ro sz k f) ∧ l[n]? = some (b,o) ∧ Elems none' w b o sz k f ∧ (k ≠ 0 → b < w.heap.size)
 | [],[],_,n,_,he=>by simp at he
 | .ob (.ro sz k f) :: _,(b,o) :: _,h,n,e,he=>by
  cases n with
  | zero=>simp at he; subst he; exact ⟨sz,k,f,b,o,rfl,rfl,h.1⟩
  | succ n=>simpa using Lies.get h.2 (n:=n) (by simpa using he)
 | [],_ :: _,h,_,_,_=>h.elim
 | .ob (.ro _ _ _) :: _,[],h,_,_,_=>h.elim
 | .ob (.own _) :: _,_,h,_,_,_=>by cases h
 | .ob (.raw _) :: _,_,h,_,_,_=>by cases h
 | .ob (.row _ _ _ _) :: _,_,h,_,_,_=>by cases h
 | .fresh :: _,_,h,_,_,_=>by cases h
 | .dead :: _,_,h,_,_,_=>by cases h
theorem none_sub (ρ : Env) : Sub none' ρ:=fun _ _ h=>by cases h
theorem rel_lies {w : World} {h : Heap} {l : List (Nat × Nat)} (hl : Lies w h l) : Rel (fun n=>l[n]?) h w:=by
 refine ⟨fun n hn=>?_,fun n ob hn=>?_,fun n m b ⟨ob,o,h1,h2,_⟩=>?_,fun n m b o ob2 ⟨ob,o',h1,h2,_⟩=>?_⟩
 ·rcases hn with hn | hn
  ·obtain ⟨_,_,_,_,_,e,_⟩:=hl.get hn; cases e
  ·exact List.getElem?_eq_none (by rw [← hl.length]; exact hn)
 ·obtain ⟨sz,k,f,b,o,e,h1,h2,h3⟩:=hl.get hn
  injection e with e; subst e
  exact ⟨b,o,h1,h2.keep (none_sub _) fun _=>rfl,h3⟩
 ·obtain ⟨_,_,_,_,_,e,_⟩:=hl.get h1; injection e with e; subst e; exact h2.elim
 ·obtain ⟨_,_,_,_,_,e,_⟩:=hl.get h1; injection e with e; subst e; exact h2.elim
section
variable {H : Type} {enc : TypeId × Value → H} {P : Program} {w : World}
theorem ck_ok {t : TypeId} {c : Ck} (hb : ckB P t c = true) {fuel : Nat} {l : List Value} {x : DataW H × List MemPlace} (h : DataW.trod enc P w 0 (fun _=>true) true fuel t l = some x) : ∃ v,l = [v] ∧ okW c v:=by
 cases c with
 | int k =>
  simp only [ckB] at hb
  split at hb
  ·rename_i k' e
   have:=kindEq_iff hb; subst this
   obtain ⟨n,rfl,_,hw⟩:=DataW.trod_int e h
   exact ⟨_,rfl,rfl,hw⟩
  ·cases hb
 | bool =>
  simp only [ckB] at hb
  split at hb
  ·rename_i e
   obtain ⟨n,rfl,_⟩:=DataW.trod_bool e h
   exact ⟨_,rfl,trivial⟩
  ·cases hb
 | str =>
  simp only [ckB] at hb
  split at hb
  ·rename_i e
   obtain ⟨n,rfl,_,hw⟩:=DataW.trod_string e h
   exact ⟨_,rfl,hw⟩
  ·cases hb
theorem fsB_get : ∀ {fs : List Field} {l : List Ck},fsB P fs l = true → ∀ {j : Nat} {f : Field} {c : Ck},fs[j]? = some f → l[j]? = some c → ckB P f.type c = true
 | [],[],_,j,_,_,h,_=>by simp at h
 | f :: fs,c :: l,hb,j,f',c',h1,h2=>by
  simp only [fsB,Bool.and_eq_true] at hb
  cases j with
  | zero=>simp at h1 h2; subst h1; subst h2; exact hb.1
  | succ j=>exact fsB_get hb.2 (by simpa using h1) (by simpa using h2)
 | [],_ :: _,h,_,_,_,_,_=>by cases h
 | _ :: _,[],h,_,_,_,_,_=>by cases h
theorem el_ok {e : TypeId} {l : List Ck} (hb : elB P e l = true) {fuel : Nat} {vs : List Value} {x : DataW H × List MemPlace} (h : DataW.trod enc P w 0 (fun _=>true) true fuel e vs = some x) : All2 okW l vs ∧ P.cellsOf e = l.length ∧ 0 < l.length:=by
 unfold elB at hb
 split at hb
 ·rename_i fs hs
  simp only [Bool.and_eq_true] at hb
  obtain ⟨h1,h2,h3,h4,h5⟩:=hb
  have h2:=Nat.eq_of_beq_eq_true h2
  have h3:=Nat.eq_of_beq_eq_true h3
  obtain ⟨ys,n,_,_,hlen,hyl,hf⟩:=DataW.trod_struct hs h
  refine ⟨All2.of_get (by omega) fun j c v hc hv=>?_,h2,Nat.le_of_ble_eq_true h5⟩
  have hj : j < l.length:=(List.getElem?_eq_some_iff.1 hc).1
  have hfj : fs[j]? = some (fs[j]'(by omega)):=Array.getElem?_eq_getElem (by omega)
  obtain ⟨ho,hk⟩:=hone_of h1 j _ hfj
  have:=hf j _ hfj
  rw [ho,hk] at this
  have hv' : j < vs.length:=(List.getElem?_eq_some_iff.1 hv).1
  have e1 : (vs.drop j).take 1 = [v]:=by
   rw [List.drop_eq_getElem_cons hv']
   have:=(List.getElem?_eq_some_iff.1 hv).2
   simp [this]
  rw [e1,List.getElem?_eq_getElem (by omega)] at this
  obtain ⟨v',e2,hok⟩:=ck_ok (fsB_get h4 (by rw [Array.getElem?_toList]; exact hfj) hc) this
  injection e2 with e2; subst e2; exact hok
 ·split at hb
  ·rename_i c
   simp only [Bool.and_eq_true] at hb
   obtain ⟨v,rfl,hok⟩:=ck_ok hb.1 h
   exact ⟨⟨hok,trivial⟩,Nat.eq_of_beq_eq_true hb.2,by simp⟩
  ·cases hb
theorem sh_ok {t : TypeId} {s : Sh} (hb : shB P t s = true) {fuel : Nat} {l : List Value} {x : DataW H × List MemPlace} (h : DataW.trod enc P w 0 (fun _ => true) true fuel t l = some x) :
    ∃ v da locs, l = [v] ∧ OkDa s da ∧ Lies w (hs [s] [da]) locs ∧ ∀ (ρ : Env) (nm : Nat), (∀ i y, locs[i]? = some y → ρ (nm + i) = some y) → Den ρ (c1 nm s da) v := by
  cases s with
  | c k =>
    obtain ⟨v, rfl, hok⟩ := ck_ok (c := k) hb h
    exact ⟨v, .c v, [], rfl, hok, trivial, fun ρ nm _ => den_ty hok⟩
  | s ks =>
    simp only [shB] at hb
    split at hb
    · rename_i e ht
      rcases open_slice ht h with ⟨rfl, _⟩ | ⟨a, len, cap, m, n, D, Pl, rfl, _, hl, hm, hme, _, hi⟩
      · exact ⟨_, .s 0 0 true fun _ => [], [(0, 0)], rfl, ⟨Nat.le_refl _, Nat.zero_le _, fun _ => rfl, fun i hi => absurd hi (by omega)⟩, ⟨⟨fun i hi => absurd hi (by omega), fun hk => absurd rfl hk⟩, trivial⟩,
          fun ρ nm hρ => ⟨0, 0, none, by simpa using hρ 0 (0, 0) rfl, rfl, fun hlt => absurd hlt (by omega), rfl, Nat.le_refl _⟩⟩
      · simp only [if_true] at hme
        subst hme
        have key : ∀ i, ∃ cs', i < m → w.cells? 0 (a.add (i * P.cellsOf e)) (P.cellsOf e) = some cs' ∧ All2 okW ks cs' ∧ P.cellsOf e = ks.length ∧ 0 < ks.length := fun i => by
          by_cases hlt : i < m
          · obtain ⟨cs', h1, h2⟩ := hi i hlt
            obtain ⟨k1, k2, k3⟩ := el_ok hb h2
            exact ⟨cs', fun _ => ⟨h1, k1, k2, k3⟩⟩
          · exact ⟨[], fun hh => absurd hh hlt⟩
        let F : Nat → List Value := fun i => (key i).choose
        have hF : ∀ i, i < m → w.cells? 0 (a.add (i * P.cellsOf e)) (P.cellsOf e) = some (F i) ∧ All2 okW ks (F i) ∧ P.cellsOf e = ks.length ∧ 0 < ks.length := fun i => (key i).choose_spec
        have cell : ∀ i, i < m → ∀ j v, (F i)[j]? = some v → w.cell? ((a.add (i * P.cellsOf e)).add j) = some v := fun i hi j v hv => by
          obtain ⟨h1, h2, h3, h4⟩ := hF i hi
          obtain ⟨_, g2, g3⟩ := World.cells?_some h1
          have hj : j < (F i).length := (List.getElem?_eq_some_iff.1 hv).1
          rw [g3 j (by omega)]; exact hv
        have spot : m ≠ 0 → a.spot = none := fun h0 => by
          obtain ⟨h1, h2, h3, h4⟩ := hF 0 (by omega)
          have hlen := h2.length
          have hv : (F 0)[0]? = some ((F 0)[0]'(by omega)) := List.getElem?_eq_getElem (by omega)
          have := World.cell?_spot (cell 0 (by omega) 0 _ hv)
          simpa [Addr.add] using this
        have add_at' : m ≠ 0 → ∀ n, a.add n = ⟨a.block, a.off + n, none⟩ := fun h0 n => by
          obtain ⟨b, o, sp⟩ := a
          have := spot h0
          simp only at this
          subst this
          exact add_at b o n
        refine ⟨_, .s len m false F, [(a.block, a.off)], rfl, ⟨hl, hm, fun h => by (cases h), fun i hi => (hF i (by omega)).2.1⟩, ⟨⟨fun i hi => ?_, fun h0 => ?_⟩, trivial⟩, fun ρ nm hρ => ⟨a.block, a.off, some a, by simpa using hρ 0 _ rfl, rfl, fun hlt => ?_, rfl, hl⟩⟩
        · obtain ⟨h1, h2, h3, h4⟩ := hF i (by omega)
          refine ⟨F i, den_tys h2, h2.length.symm, fun j v hv => ?_⟩
          have := cell i (by omega) j v hv
          rw [add_at' (by omega), add_at, h3] at this
          rw [show a.off + (i * ks.length + j) = a.off + i * ks.length + j by omega]
          exact this
        · obtain ⟨h1, h2, h3, h4⟩ := hF 0 (by omega)
          have hlen := h2.length
          have hv : (F 0)[0]? = some ((F 0)[0]'(by omega)) := List.getElem?_eq_getElem (by omega)
          have := cell 0 (by omega) 0 _ hv
          rw [add_at' (by omega), add_at] at this
          simp only [World.cell?] at this
          refine Nat.lt_of_not_le fun hge => ?_
          rw [Array.getElem?_eq_none hge] at this
          cases this
        · have := spot (by omega)
          obtain ⟨b, o, sp⟩ := a
          simp only at this
          subst this
          simp
    · cases hb
theorem hs_cons (s : Sh) (l : List Sh) (x : Da) (m : List Da) : hs (s :: l) (x :: m) = hs [s] [x] ++ hs l m ∨ ¬ OkDa s x:=by
 cases s <;> cases x <;> first | exact .inl rfl | exact .inr id
theorem hs1_len {s : Sh} {x : Da} (h : OkDa s x) : (hs [s] [x]).length = match s with | .c _=>0 | .s _=>1:=by
 cases s <;> cases x <;> first | rfl | exact h.elim
theorem cs_cons {nm : Nat} {s : Sh} {l : List Sh} {x : Da} {m : List Da} (h : OkDa s x) : cs nm (s :: l) (x :: m) = c1 nm s x :: cs (nm + (hs [s] [x]).length) l m:=by
 rw [hs1_len h]
 cases s <;> rfl
theorem shs_ok : ∀ {ss : List Sh} {ts : List TypeId} {vs : List Value}, ts.length = ss.length → vs.length = ss.length → (∀ (j : Nat) t s v, ts[j]? = some t → ss[j]? = some s → vs[j]? = some v → shB P t s = true ∧ ∃ fuel x, DataW.trod enc P w 0 (fun _ => true) true fuel t [v] = some x) →
    ∃ das locs, All2 OkDa ss das ∧ Lies w (hs ss das) locs ∧ ∀ (ρ : Env) (nm : Nat), (∀ i y, locs[i]? = some y → ρ (nm + i) = some y) → All2 (Den ρ) (cs nm ss das) vs
  | [], _, [], _, _, _ => ⟨[], [], trivial, trivial, fun _ _ _ => trivial⟩
  | s :: ss, t :: ts, v :: vs, h1, h2, h => by
    obtain ⟨hb, fuel, x, hx⟩ := h 0 t s v rfl rfl rfl
    obtain ⟨v', da, locs, e, hok, hl, hd⟩ := sh_ok hb hx
    injection e with e; subst e
    obtain ⟨das, locs', hok', hl', hd'⟩ := shs_ok (ss := ss) (ts := ts) (vs := vs) (by simpa using h1) (by simpa using h2) fun j t s v a b c => h (j + 1) t s v (by simpa using a) (by simpa using b) (by simpa using c)
    have e1 : hs (s :: ss) (da :: das) = hs [s] [da] ++ hs ss das := (hs_cons s ss da das).resolve_right fun hn => hn hok
    refine ⟨da :: das, locs ++ locs', ⟨hok, hok'⟩, by rw [e1]; exact hl.append hl', fun ρ nm hρ => ?_⟩
    rw [cs_cons hok]
    have hlen := hl.length
    refine ⟨hd ρ nm fun i y hi => hρ i y ?_, hd' ρ _ fun i y hi => ?_⟩
    · rw [List.getElem?_append_left (List.getElem?_eq_some_iff.1 hi).1]; exact hi
    · rw [show nm + (hs [s] [da]).length + i = nm + (locs.length + i) by omega]
      refine hρ _ y ?_
      rw [List.getElem?_append_right (by omega), show locs.length + i - locs.length = i by omega]; exact hi
  | [], _, _ :: _, _, h, _ => by simp at h
  | _ :: _, _, [], _, h, _ => by simp at h
  | _ :: _, [], _, h, _, _ => by simp at h
theorem fshB_get : ∀ {fs : List Field} {l : List Sh},fshB P fs l = true → ∀ {j : Nat} {f : Field} {c : Sh},fs[j]? = some f → l[j]? = some c → shB P f.type c = true
 | [],[],_,j,_,_,h,_=>by simp at h
 | f :: fs,c :: l,hb,j,f',c',h1,h2=>by
  simp only [fshB,Bool.and_eq_true] at hb
  cases j with
  | zero=>simp at h1 h2; subst h1; subst h2; exact hb.1
  | succ j=>exact fshB_get hb.2 (by simpa using h1) (by simpa using h2)
 | [],_ :: _,h,_,_,_,_,_=>by cases h
 | _ :: _,[],h,_,_,_,_,_=>by cases h
theorem cells_one {t : TypeId} {s : Sh} (hb : shB P t s = true) {r : Reach} {b : Nat} {v : Value} (h : Value.okWide P w r b t v) : v.cells = #[v]:=by
 have key : ∀ {desc},P.underlying t = some desc → (match desc with | .struct _ | .array _ _=>false | _=>true) = true → v.cells = #[v]:=fun {desc} e hd=>by
  simp only [Value.okWide,e] at h
  cases desc <;> first | (cases hd; done) | (cases v <;> first | rfl | (simp [Cell.okWide,Cell.ok] at h))
 cases s with
 | c k =>
  simp only [shB] at hb
  cases k <;> simp only [ckB] at hb <;> (split at hb <;> first | exact key (by assumption) rfl | cases hb)
 | s l =>
  simp only [shB] at hb
  split at hb
  ·exact key (by assumption) rfl
  ·cases hb
theorem segs_cells (l : List C) : cells (segs l) = l:=cells_segs l
theorem pa_ok {t : TypeId} {p : Pa} (hb : paB P t p = true) {r : Reach} {b : Nat} {v : Value} {dt : DataW H} {pl : List MemPlace} (hv : Value.okWide P w r b t v) (h : DataW.Trod enc P w 0 (fun _ => true) true t v dt pl) :
    ∃ das locs, All2 OkDa (shsOf p) das ∧ Lies w (hs (shsOf p) das) locs ∧ ∀ (ρ : Env) (nm : Nat), (∀ i y, locs[i]? = some y → ρ (nm + i) = some y) → DenR ρ (xP nm p das) v := by
  obtain ⟨fuel, h⟩ := h
  cases p with
  | one s =>
    rw [cells_one (s := s) hb hv] at h
    obtain ⟨das, locs, h1, h2, h3⟩ := shs_ok (enc := enc) (P := P) (w := w) (ss := [s]) (ts := [t]) (vs := [v]) rfl rfl fun j t' s' v' a b c => by
      cases j with
      | zero => simp at a b c; subst a; subst b; subst c; exact ⟨hb, fuel, _, h⟩
      | succ j => simp at a
    refine ⟨das, locs, h1, h2, fun ρ nm hρ => ?_⟩
    have h4 := h3 ρ nm hρ
    match das, h1, h4 with
    | [x], h1, h4 =>
      cases s with
      | c k => exact h4.1
      | s k => exact h4.1
    | [], h1, _ => exact h1.elim
    | _ :: _ :: _, h1, _ => exact h1.2.elim
  | agg l =>
    simp only [paB] at hb
    split at hb
    · rename_i fs hs'
      simp only [Bool.and_eq_true] at hb
      obtain ⟨g1, g2, g3, g4⟩ := hb
      have g2 := Nat.eq_of_beq_eq_true g2
      have g3 := Nat.eq_of_beq_eq_true g3
      obtain ⟨vs, rfl, hsz⟩ := okWide_struct hs' hv
      obtain ⟨ys, n, _, _, hlen, hyl, hf⟩ := DataW.trod_struct hs' h
      have hcs : (Value.agg vs).cells = vs := rfl
      rw [hcs] at hf hlen
      obtain ⟨das, locs, h1, h2, h3⟩ := shs_ok (enc := enc) (P := P) (w := w) (ss := l) (ts := fs.toList.map (·.type)) (vs := vs.toList) (by simp; omega) (by simp at hlen ⊢; omega) fun j t' s' v' a b c => by
        rw [List.getElem?_map] at a
        obtain ⟨f, hfj, rfl⟩ := Option.map_eq_some_iff.1 a
        have hfj' : fs[j]? = some f := by simpa using hfj
        obtain ⟨ho, hk⟩ := hone_of g1 j f hfj'
        have h5 := hf j f hfj'
        rw [ho, hk] at h5
        have hv' : j < vs.toList.length := (List.getElem?_eq_some_iff.1 c).1
        have e1 : (vs.toList.drop j).take 1 = [v'] := by
          rw [List.drop_eq_getElem_cons hv']
          have := (List.getElem?_eq_some_iff.1 c).2
          simp [this]
        have hjl : j < ys.length := by
          have := (List.getElem?_eq_some_iff.1 hfj).1
          simp at this; omega
        rw [e1, List.getElem?_eq_getElem hjl] at h5
        exact ⟨fshB_get g4 hfj b, n, _, h5⟩
      refine ⟨das, locs, h1, h2, fun ρ nm hρ => ⟨vs, rfl, ?_⟩⟩
      rw [segs_cells]
      exact h3 ρ nm hρ
    · cases hb
theorem pas_ok : ∀ {ps : List Pa} {ts : List TypeId} {vs : List Value} {ds : List (DataW H)} {pl : List MemPlace} {r : Reach} {b : Nat}, pasB P ts ps = true → (∀ (j : Nat) t v, ts[j]? = some t → vs[j]? = some v → Value.okWide P w r b t v) → DataW.TrodAll enc P w 0 (fun _ => true) true ts vs ds pl →
    ∃ D locs, OkAll ps D ∧ Lies w (hsP ps D) locs ∧ ∀ (ρ : Env) (nm : Nat), (∀ i y, locs[i]? = some y → ρ (nm + i) = some y) → All2 (DenR ρ) (xsP nm ps D) vs
  | [], [], vs, ds, pl, _, _, _, _, h => by
    obtain ⟨rfl, rfl, rfl⟩ := trodAll_nil h
    exact ⟨[], [], trivial, trivial, fun _ _ _ => trivial⟩
  | p :: ps, t :: ts, vs, ds, pl, r, b, hb, hv, h => by
    simp only [pasB, Bool.and_eq_true] at hb
    obtain ⟨v, vs', dt, ds', p1, p2, rfl, rfl, rfl, h1, h2⟩ := trodAll_cons h
    obtain ⟨das, locs, k1, k2, k3⟩ := pa_ok hb.1 (hv 0 t v rfl rfl) h1
    obtain ⟨D, locs', q1, q2, q3⟩ := pas_ok (ps := ps) hb.2 (fun j t v a b => hv (j + 1) t v (by simpa using a) (by simpa using b)) h2
    refine ⟨das :: D, locs ++ locs', ⟨k1, q1⟩, k2.append q2, fun ρ nm hρ => ?_⟩
    have hlen := k2.length
    refine ⟨k3 ρ nm fun i y hi => hρ i y ?_, q3 ρ _ fun i y hi => ?_⟩
    · rw [List.getElem?_append_left (List.getElem?_eq_some_iff.1 hi).1]; exact hi
    · rw [show nm + (hs (shsOf p) das).length + i = nm + (locs.length + i) by omega]
      refine hρ _ y ?_
      rw [List.getElem?_append_right (by omega), show locs.length + i - locs.length = i by omega]; exact hi
  | [], _ :: _, _, _, _, _, _, h, _, _ => by cases h
  | _ :: _, [], _, _, _, _, _, h, _, _ => by cases h
theorem open_all {ps : List Pa} {ts : List TypeId} {vs : List Value} {ds : List (DataW H)} {pl : List MemPlace} {r : Reach} {b : Nat} (hb : pasB P ts ps = true) (hv : ∀ (j : Nat) t v, ts[j]? = some t → vs[j]? = some v → Value.okWide P w r b t v) (h : DataW.TrodAll enc P w 0 (fun _ => true) true ts vs ds pl) :
    ∃ D ρ, OkAll ps D ∧ Rel ρ (hsP ps D) w ∧ (∀ n b, ¬ Owns ρ (hsP ps D) n b) ∧ All2 (DenR ρ) (xsP 0 ps D) vs := by
  obtain ⟨D, locs, h1, h2, h3⟩ := pas_ok hb hv h
  refine ⟨D, fun n => locs[n]?, h1, rel_lies h2, fun n b ⟨ob, o, g1, g2, _⟩ => ?_, h3 _ 0 fun i y hi => by rw [Nat.zero_add]; exact hi⟩
  obtain ⟨_, _, _, _, _, e, _⟩ := h2.get g1
  injection e with e; subst e; exact g2
end
theorem grow_same {ρ ρ' : Env} {h h' : Heap} {w w' : World} (hg : Grow ρ h w ρ' h' w') (hn : ∀ n b, ¬ Owns ρ h n b) {ps : List MemPlace} (hlt : ∀ p ∈ ps,p.block < w.heap.size) : ∀ p ∈ ps,w.sameAt w' p:=fun p hp=>by
 have hk : ∀ b,b < w.heap.size → w'.heap[b]? = w.heap[b]?:=fun b hb=>hg.keep b hb fun n ho=>hn n b ho
 cases p with
 | cell b off=>simp only [World.sameAt,World.cell?]; rw [hk b (hlt _ hp)]
 | map b=>exact hk b (hlt _ hp)
theorem trodAll_carry {H : Type} {enc : TypeId × Value → H} {P : Program} {w w' : World} {base : Nat} {spare : Nat → Bool} {held : Bool} : ∀ {ts : List TypeId} {vs : List Value} {ds : List (DataW H)} {ps : List MemPlace},DataW.TrodAll enc P w base spare held ts vs ds ps → (∀ p ∈ ps,w.sameAt w' p) → DataW.TrodAll enc P w' base spare held ts vs ds ps
 | [],[],[],_,h,_=>h
 | _ :: _,_ :: _,_ :: _,_,⟨p,q,⟨n,h1⟩,h2,e⟩,hs=>⟨p,q,⟨n,DataW.trod_carry n _ _ _ h1 fun x hx=>hs x (by rw [e]; exact List.mem_append_left _ hx)⟩,trodAll_carry h2 (fun x hx=>hs x (by rw [e]; exact List.mem_append_right _ hx)),e⟩
 | [],[],_ :: _,_,h,_=>h.elim
 | [],_ :: _,_,_,h,_=>h.elim
 | _ :: _,[],_,_,h,_=>h.elim
 | _ :: _,_ :: _,[],_,h,_=>h.elim
theorem post_kept {H : Type} {enc : TypeId × Value → H} {P : Program} {f : Func} {s : ChangeSpec} {W W' : World} {args : Array Value} {v : Value} {ds : List (DataW H)} {pa : List MemPlace}
    (hW : DataW.Whole enc P f.params.toList s.vars false W args.toList ds [] pa) (hb : ∀ q ∈ pa, q.block < W.heap.size)
    (hres : ∀ (b : Nat) (sp : Nat → Bool) (hd : Bool), DataW.TrodAll enc P W' b sp hd f.resultTypes.toList (v.resultList f.resultTypes.size) (s.fn H (ds ++ [])).results [])
    (hargs : ∀ sp : Nat → Bool, (∀ q ∈ pa, sp q.block = true) → DataW.TrodAll enc P W' 0 sp true f.params.toList args.toList (s.fn H (ds ++ [])).args pa)
    (hvars : ∀ sp : Nat → Bool, DataW.TrodVars enc P W' sp s.vars (s.fn H (ds ++ [])).vars [])
    (hk : W.keptBut W' (· ∈ pa)) (hfz : ∀ a : Addr, a.block < W.heap.size → W'.frozen? a = W.frozen? a)
    (hok : ∀ (j : Nat) (t : TypeId) (r : Value), f.resultTypes[j]? = some t → (v.resultList f.resultTypes.size)[j]? = some r → Value.okWide P W' .any 0 t r) :
    s.post enc P f false true false false W args v W' := by
  have hin : ∀ q ∈ pa, decide (q.block < W.heap.size) = true := fun q hq => decide_eq_true (hb q hq)
  have hfr : W.noneFrozen pa := by
    obtain ⟨_, _, _, _, _, hz, _⟩ := hW
    exact hz
  have hfr' : W'.noneFrozen pa := fun b off hq => (hfz ⟨b, off, none⟩ (hb _ hq)).trans (hfr b off hq)
  refine ⟨ds, [], pa, [], pa, [], hW, hres _ _ _, hargs _ hin, hvars _, World.keptBut_mono (fun q hq => ⟨hq, .inr (.inl hq)⟩) hk, fun _ => ⟨hok, _, _, pa ++ [], ⟨pa, [], trodAll_append (hargs _ fun _ _ => rfl) (hres _ _ _), hvars _, rfl, ?_, ?_⟩, ?_⟩⟩
  · rw [List.append_nil]; exact hfr'
  · intro h; cases h
  · intro q hq _
    rwa [List.append_nil] at hq
theorem law_body {C : Checked} {H : Type} {enc : TypeId × Value → H} {f : FuncId} {F : Func} {s : ChangeSpec} {W : World} {base : Nat} {args : Array Value} {ds gs : List (DataW H)} {before : List MemPlace} {ps : List Pa} {tb : TypeId} {cl : Cl}
    (kids : Kids C.prog (· < C.prog.types.size)) (full : ∀ t e, t < C.prog.types.size → C.prog.underlying t = some (.slice e) → 0 < C.prog.cellsOf e)
    (hts : ∀ t ∈ F.params.toList, t < C.prog.types.size) (hps : pasB C.prog F.params.toList ps = true) (hres : F.resultTypes = #[tb]) (htb : C.prog.underlying tb = some .bool) (hvs : s.vars = [])
    (hspec : s.fn H ds = { results := [.lit (.bool true)], args := ds })
    (hval : ∀ (j : Nat) t v, F.params[j]? = some t → args[j]? = some v → Value.okWide C.prog W .any base t v) (hW : DataW.Whole enc C.prog F.params.toList s.vars false W args.toList ds gs before)
    (hc : ClOk C.prog cl) (hrun : ∀ D, OkAll ps D → cl f [] (xsP 0 ps D) (hsP ps D) fun x _ => x = bv true) :
    Calls C.prog f args W fun e W' => ∃ v, e = .returned v ∧ s.post enc C.prog F false true false false W args v W' := by
  have hW' := hW
  have hlt := hW.lt
  obtain ⟨p, q, hA, hV, rfl, hfz, hnd⟩ := hW
  rw [hvs] at hV
  obtain ⟨rfl, rfl⟩ := trodVars_none hV
  simp only [List.append_nil] at hlt hW'
  obtain ⟨D, ρ, h1, h2, h3, h4⟩ := open_all hps (fun j t v a b => hval j t v (by simpa using a) (by simpa using b)) hA
  obtain ⟨_, h5⟩ := hc _ _ _ _ _ (hrun D h1)
  have h6 := h5 ρ W args.toList h2 h4
  refine h6.mono fun e W' ⟨v, he, x, ρ', h', k1, k2, k3, k4⟩ => ?_
  subst k1
  have hv : v = .bool true := k4.1
  subst hv
  have hsame := grow_same k3 h3 hlt
  have hsp : s.fn H (ds ++ []) = { results := [.lit (.bool true)], args := ds } := by rw [List.append_nil]; exact hspec
  refine ⟨_, he, post_kept (pa := p) (by simpa using hW') (fun q hq => hlt q (by simpa using hq)) (fun b sp hd => ?_) (fun sp hsp' => ?_) (fun sp => ?_) ?_ k3.frozen (ok_one hres rfl (okWide_bool_mk htb _))⟩
  · rw [hsp, hres]
    exact trodAll_cons_mk (shut_bool htb _) trodAll_mk0
  · rw [hsp]
    exact trodAll_carry (DataW.TrodAll.respare kids full hts hA (fun q hq => hsp' q (by simpa using hq))) hsame
  · rw [hvs, hsp]
    rfl
  · have hkb : World.keptBut W W' fun _ => False := ⟨k3.os, k3.output, fun i hi => by
      have e1 := (World.keptBut_refl W fun _ => False).2.2 i hi
      rw [k3.keep i hi (h3 · i)]
      exact e1⟩
    exact World.keptBut_mono (fun _ h => h.elim) hkb
end Go.Eng
namespace Go.Eng
open Go
variable {d : Nat}
section
variable {n0 : Nat} {asg : List Nat} {round : Pt d} {r : Tr d} {h : Heap} {k : Ex → Tr d → Heap → Prop} {S : Type}
theorem LoopGoal.inv (P : S → Prop) (X : S → List (Nat × R)) (H : S → Heap) (m : S → Nat) (s0 : S) (hp : P s0)
    (h0 : junkK asg r fun r0 => updK (X s0) r0 fun r1 => Le n0 r h r1 (H s0))
    (hr : ∀ s, P s → junkK asg r fun r0 => updK (X s) r0 fun r1 => round r1 (H s) fun e r' h' => match e with
      | .normal => ∃ s', (P s' ∧ m s' < m s) ∧ junkK asg r fun r0 => updK (X s') r0 fun r1 => Le n0 r' h' r1 (H s')
      | e => k e r' h') : LoopGoal n0 asg round r h k := by
  refine LoopGoal.at (S := { s : S // P s }) (fun s => X s.1) (fun s => H s.1) (fun s => m s.1) ⟨s0, hp⟩ h0 fun s => ?_
  have h1 := hr s.1 s.2
  have e : (fun (e : Ex) (r' : Tr d) (h' : Heap) => match e with
      | .normal => ∃ s', (P s' ∧ m s' < m s.1) ∧ junkK asg r fun r0 => updK (X s') r0 fun r1 => Le n0 r' h' r1 (H s')
      | e => k e r' h') = fun e r' h' => match e with
      | .normal => ∃ s' : { s : S // P s }, m s'.1 < m s.1 ∧ junkK asg r fun r0 => updK (X s'.1) r0 fun r1 => Le n0 r' h' r1 (H s'.1)
      | e => k e r' h' := by
    funext e r' h'
    cases e with
    | normal => exact propext ⟨fun ⟨s', q1, q2⟩ => ⟨⟨s', q1.1⟩, q1.2, q2⟩, fun ⟨⟨s', q1⟩, q2, q3⟩ => ⟨s', ⟨q1, q2⟩, q3⟩⟩
    | _ => rfl
  rw [e] at h1
  exact h1
theorem LoopGoal.rd (P : S → Prop) (X : S → List (Nat × R)) (m : S → Nat) (s0 : S) (hp : P s0)
    (h0 : junkK asg r fun r0 => updK (X s0) r0 fun r1 => Le n0 r h r1 h)
    (hr : ∀ s, P s → junkK asg r fun r0 => updK (X s) r0 fun r1 => round r1 h fun e r' h' => match e with
      | .normal => ∃ s', (P s' ∧ m s' < m s) ∧ junkK asg r fun r0 => updK (X s') r0 fun r1 => Le n0 r' h' r1 h
      | e => k e r' h') : LoopGoal n0 asg round r h k := .inv P X (fun _ => h) m s0 hp h0 hr
end
theorem ul0 {P : Nat → Prop} : ∀ i,i < 0 → P i:=fun i h=>absurd h (Nat.not_lt_zero i)
theorem ul1 {P : Nat → Prop} (h : P 0) : ∀ i,i < 1 → P i:=fun i hi=>by
 obtain rfl : i = 0:=by omega
 exact h
theorem ul2 {P : Nat → Prop} (h : P 0) (h1 : P 1) : ∀ i,i < 2 → P i:=fun i hi=>by
 rcases (show i = 0 ∨ i = 1 by omega) with rfl | rfl
 ·exact h
 ·exact h1
theorem ul3 {P : Nat → Prop} (h : P 0) (h1 : P 1) (h2 : P 2) : ∀ i,i < 3 → P i:=fun i hi=>by
 rcases (show i = 0 ∨ i = 1 ∨ i = 2 by omega) with rfl | rfl | rfl
 ·exact h
 ·exact h1
 ·exact h2
theorem tn (n : Nat) : ((n : Nat) : Int).toNat = n:=rfl
section
variable {α : Type}
def DetCon (X : α → List R) (H : α → Heap) (pre : α → Prop) (F : α → R) (H' : α → Heap) : Con α:=⟨X,H,pre,fun p x h=>x = F p ∧ h = H' p⟩
theorem AskC.det {X : α → List R} {H : α → Heap} {pre : α → Prop} {F : α → R} {H' : α → Heap} {xs : List R} {h : Heap} {K : R → Heap → Prop} (p : α) (l : List Nat) (xo : R) (ho : Heap) (hp : pre p)
    (hs : ((H p).all obB && sepB l (H p)) = true) (hH : leH (sig h l) h l (H p)) (hX : leXs (H p).length (sig h l) xs (X p)) (hx : renR (back h (H p) l) (F p) = xo)
    (hm : mrg (back h (H p) l) h l (H p) (H' p) = ho) (hk : K xo ho) : AskC (DetCon X H pre F H') xs h K := by
  refine ⟨p, l, hp, hs, hH, hX, fun x h'' ⟨e1, e2⟩ => ?_⟩
  subst e1; subst e2
  show K (renR (back h (H p) l) (F p)) (mrg (back h (H p) l) h l (H p) (H' p))
  rw [hx, hm]; exact hk
theorem Trim.det {n : Nat} {x y : R} {h h' : Heap} (hle : Le (d:=0) n x h y h') : Trim n x h (fun x h=>x = y ∧ h = h'):=⟨⟨y,h',hle,rfl,rfl⟩⟩
end
variable {d : Nat}
noncomputable def evOpsX (cl : Cl) (tt : TT) (nt : Nat) (ops : List Oper) (l : List Oper) : Tr d → Heap → (Tr d → Heap → Prop) → Prop :=
 List.rec (motive:=fun _=>Tr d → Heap → (Tr d → Heap → Prop) → Prop) (fun r h k=>k r h) (fun o _ ih r h k=>stepK cl tt nt ops o r h fun r h=>ih r h k) l
theorem evOpsX_eq (cl : Cl) (tt : TT) (nt : Nat) (ops : List Oper) : ∀ l : List Oper,evOpsX (d:=d) cl tt nt ops l = evOps cl tt nt ops l
 | []=>rfl
 | o :: l=>by
  funext r h k
  show (stepK cl tt nt ops o r h fun r h=>evOpsX cl tt nt ops l r h k) = _
  rw [evOpsX_eq cl tt nt ops l]; rfl
noncomputable def evPlanX (cl : Cl) (tt : TT) (nt : Nat) (ops : List Oper) (p : Plan) : Tr d → Heap → (Tr d → Heap → Prop) → Prop :=
 Plan.rec (motive:=fun _=>Tr d → Heap → (Tr d → Heap → Prop) → Prop)
  (fun r h k=>k r h)
  (fun _ _ _=>True)
  (fun i _ ih r h k=>nthK ops i fun o=>guardK ops r o (fun r=>evX tt r h 0 o.op fun x b=>match b with
   | none=>putR nt r o.dst x fun r=>ih r h k
   | some _=>False) (fun r=>putR nt r o.dst (.tup []) fun r=>ih r h k))
  (fun i _ ih r h k=>nthK ops i fun o=>guardK ops r o (fun r=>evX tt r h 0 o.op fun x b=>match b with
   | none=>sameK r o.dst x (ih r h k)
   | some _=>False) (fun r=>sameK r o.dst (.tup []) (ih r h k)))
  (fun i _ q ihp ihq r h k=>match q with
   | .nil=>nthK ops i fun o=>stepK cl tt nt ops o r h fun r h=>ihp r h k
   | _=>(nthK ops i fun o=>stepK cl tt nt ops o r h fun r h=>ihp r h k) ∧ ihq r h k) p
theorem evPlanX_eq (cl : Cl) (tt : TT) (nt : Nat) (ops : List Oper) : ∀ p : Plan,evPlanX (d:=d) cl tt nt ops p = evPlan cl tt nt ops p
 | .stop=>by funext r h k; rfl
 | .nil=>by funext r h k; rfl
 | .op i p=>by
  funext r h k
  show (nthK ops i fun o=>guardK ops r o (fun r=>evX tt r h 0 o.op fun x b=>match b with
   | none=>putR nt r o.dst x fun r=>evPlanX cl tt nt ops p r h k
   | some _=>False) (fun r=>putR nt r o.dst (.tup []) fun r=>evPlanX cl tt nt ops p r h k)) = _
  rw [evPlanX_eq cl tt nt ops p]; rfl
 | .re i p=>by
  funext r h k
  show (nthK ops i fun o=>guardK ops r o (fun r=>evX tt r h 0 o.op fun x b=>match b with
   | none=>sameK r o.dst x (evPlanX cl tt nt ops p r h k)
   | some _=>False) (fun r=>sameK r o.dst (.tup []) (evPlanX cl tt nt ops p r h k))) = _
  rw [evPlanX_eq cl tt nt ops p]; rfl
 | .ch i p .nil=>by
  funext r h k
  show (nthK ops i fun o=>stepK cl tt nt ops o r h fun r h=>evPlanX cl tt nt ops p r h k) = _
  rw [evPlanX_eq cl tt nt ops p]; rfl
 | .ch i p .stop=>by
  funext r h k
  show ((nthK ops i fun o=>stepK cl tt nt ops o r h fun r h=>evPlanX cl tt nt ops p r h k) ∧ evPlanX cl tt nt ops .stop r h k) = _
  rw [evPlanX_eq cl tt nt ops p]; rfl
 | .ch i p (.op j q)=>by
  funext r h k
  show ((nthK ops i fun o=>stepK cl tt nt ops o r h fun r h=>evPlanX cl tt nt ops p r h k) ∧ evPlanX cl tt nt ops (.op j q) r h k) = _
  rw [evPlanX_eq cl tt nt ops p,evPlanX_eq cl tt nt ops (.op j q)]; rfl
 | .ch i p (.re j q)=>by
  funext r h k
  show ((nthK ops i fun o=>stepK cl tt nt ops o r h fun r h=>evPlanX cl tt nt ops p r h k) ∧ evPlanX cl tt nt ops (.re j q) r h k) = _
  rw [evPlanX_eq cl tt nt ops p,evPlanX_eq cl tt nt ops (.re j q)]; rfl
 | .ch i p (.ch j q q')=>by
  funext r h k
  show ((nthK ops i fun o=>stepK cl tt nt ops o r h fun r h=>evPlanX cl tt nt ops p r h k) ∧ evPlanX cl tt nt ops (.ch j q q') r h k) = _
  rw [evPlanX_eq cl tt nt ops p,evPlanX_eq cl tt nt ops (.ch j q q')]; rfl
noncomputable def unrollX (lp : Lp d) (round : Pt d) (n : Nat) : Pt d :=
 Nat.rec (motive:=fun _=>Pt d) (fun r h k=>lp round r h k) (fun _ ih r h k=>round r h fun e r h=>match e with | .normal=>ih r h k | e=>k e r h) n
theorem unrollX_eq (lp : Lp d) (round : Pt d) : ∀ n : Nat,unrollX lp round n = unroll lp round n
 | 0=>by funext r h k; rfl
 | n + 1=>by
  funext r h k
  show (round r h fun e r h=>match e with | .normal=>unrollX lp round n r h k | e=>k e r h) = _
  rw [unrollX_eq lp round n]; rfl
noncomputable def evCX (cl : Cl) (tt : TT) (nt : Nat) (lp : List Nat → Lp d) (un : Nat → Nat) (pl : Pl) (c : Code) : Nat → Pt d :=
 Code.rec (motive:=fun _=>Nat → Pt d)
  (fun _ r h k=>k .normal r h)
  (fun id ops draw _ r h k=>match draw with
   | false=>evOpsX cl tt nt ops.toList ops.toList r h fun r h=>k .normal r h
   | true=>plK pl id fun p=>evPlanX cl tt nt ops.toList p r h fun r h=>k .normal r h)
  (fun _ _ iha ihb n r h k=>iha n r h fun e r h=>match e with | .normal=>ihb n r h k | e=>k e r h)
  (fun c _ _ iha ihb n r h k=>opK r c fun x=>boolK x fun x=>Cnd x (iha n r h k) (ihb n r h k))
  (fun id _ ih _ r h k=>ih (un id) r h fun e r h=>match e with
   | .exit j=>match Nat.beq j id with | true=>k .normal r h | false=>k (.exit j) r h
   | e=>k e r h)
  (fun b ih n r h k=>unrollX (lp (asgC b)) (ih 0) n r h k)
  (fun _ _ _ _ _ _ _ _ _ _=>False)
  (fun id _ r h k=>k (.exit id) r h)
  (fun _ ih n r h k=>ih n r h k)
  (fun _ _ r h k=>k .normal r h)
  (fun _ _ _ _ _=>False)
  (fun _ r h k=>k .ret r h)
  (fun _ _ _ _ _=>False) c
theorem evCX_eq (cl : Cl) (tt : TT) (nt : Nat) (lp : List Nat → Lp d) (un : Nat → Nat) (pl : Pl) : ∀ c : Code,evCX cl tt nt lp un pl c = evC cl tt nt lp un pl c
 | .skip=>by funext n r h k; rfl
 | .region id ops draw=>by
  funext n r h k
  cases draw with
  | false =>
   show (evOpsX cl tt nt ops.toList ops.toList r h fun r h=>k .normal r h) = _
   rw [evOpsX_eq]; rfl
  | true =>
   show (plK pl id fun p=>evPlanX cl tt nt ops.toList p r h fun r h=>k .normal r h) = _
   simp only [evPlanX_eq]; rfl
 | .seq a b=>by
  funext n r h k
  show (evCX cl tt nt lp un pl a n r h fun e r h=>match e with | .normal=>evCX cl tt nt lp un pl b n r h k | e=>k e r h) = _
  rw [evCX_eq cl tt nt lp un pl a,evCX_eq cl tt nt lp un pl b]; rfl
 | .cond c a b=>by
  funext n r h k
  show (opK r c fun x=>boolK x fun x=>Cnd x (evCX cl tt nt lp un pl a n r h k) (evCX cl tt nt lp un pl b n r h k)) = _
  rw [evCX_eq cl tt nt lp un pl a,evCX_eq cl tt nt lp un pl b]; rfl
 | .block id b=>by
  funext n r h k
  show (evCX cl tt nt lp un pl b (un id) r h fun e r h=>match e with
   | .exit j=>match Nat.beq j id with | true=>k .normal r h | false=>k (.exit j) r h
   | e=>k e r h) = _
  rw [evCX_eq cl tt nt lp un pl b]; rfl
 | .loop b=>by
  funext n r h k
  show unrollX (lp (asgC b)) (evCX cl tt nt lp un pl b 0) n r h k = _
  rw [evCX_eq cl tt nt lp un pl b,unrollX_eq]; rfl
 | .rangeFunc _ _ _ _=>by funext n r h k; rfl
 | .exit id=>by funext n r h k; rfl
 | .scope b=>by
  funext n r h k
  show evCX cl tt nt lp un pl b n r h k = _
  rw [evCX_eq cl tt nt lp un pl b]; rfl
 | .label _=>by funext n r h k; rfl
 | .goto _=>by funext n r h k; rfl
 | .ret=>by funext n r h k; rfl
 | .refuse _=>by funext n r h k; rfl
noncomputable def evFX (d : Nat) (cl : Cl) (tt : TT) (f : Fn) (xs : List R) (h : Heap) (K : R → Heap → Prop) : Prop :=
 match Nat.ble xs.length f.nt with
 | true=>hlenK h 0 fun n0=>argsK xs 0 (Tr.empty d) fun r=>evCX cl tt f.nt (lpAsk n0) f.un f.pl f.code 0 r h fun e r h=>match e with
  | .exit _=>False
  | _=>resultK tt r h f.res fun x=>K x h
 | false=>False
theorem evFX_eq (d : Nat) (cl : Cl) (tt : TT) (f : Fn) (xs : List R) (h : Heap) (K : R → Heap → Prop) : evFX d cl tt f xs h K = evF d cl tt f xs h K:=by
 unfold evFX evF
 simp only [evCX_eq]
 rfl
noncomputable def clGoX (d : Nat) (tt : TT) (cl : Cl) (f : FuncId) (xs : List R) (h : Heap) (K : R → Heap → Prop) (l : List (FuncId × Fn)) : Prop :=
 List.rec (motive:=fun _=>Prop) False (fun p _ ih=>match Nat.beq f p.1 with
  | true=>evFX d cl tt p.2 xs h K
  | false=>ih) l
theorem clGoX_eq (d : Nat) (tt : TT) (cl : Cl) (f : FuncId) (xs : List R) (h : Heap) (K : R → Heap → Prop) : ∀ l : List (FuncId × Fn),clGoX d tt cl f xs h K l = clGo d tt cl f xs h K l
 | []=>rfl
 | (g,fn) :: l=>by
  show (match Nat.beq f g with
  | true=>evFX d cl tt fn xs h K
  | false=>clGoX d tt cl f xs h K l) = _
  rw [clGoX_eq d tt cl f xs h K l,evFX_eq]; rfl
noncomputable def clConGoX (cl : Cl) (f : FuncId) (av : List Nat) (xs : List R) (h : Heap) (K : R → Heap → Prop) (l : List (FuncId × Cx)) : Prop :=
 List.rec (motive:=fun _=>Prop) (cl f av xs h K) (fun p _ ih=>match Nat.beq f p.1 with
  | true=>p.2 xs h K
  | false=>ih) l
theorem clConGoX_eq (cl : Cl) (f : FuncId) (av : List Nat) (xs : List R) (h : Heap) (K : R → Heap → Prop) : ∀ l : List (FuncId × Cx),clConGoX cl f av xs h K l = clConGo cl f av xs h K l
 | []=>rfl
 | (g,o) :: l=>by
  show (match Nat.beq f g with
  | true=>o xs h K
  | false=>clConGoX cl f av xs h K l) = _
  rw [clConGoX_eq cl f av xs h K l]; rfl
noncomputable def clRunX (d : Nat) (tt : TT) (outs : List (FuncId × Cx)) (tab : List (FuncId × Fn)) (n : Nat) : Cl :=
 Nat.rec (motive:=fun _=>Cl) (fun _ _ _ _ _=>False) (fun _ ih f av xs h K=>clConGoX (fun f _ xs h K=>clGoX d tt ih f xs h K tab) f av xs h K outs) n
theorem clRunX_eq (d : Nat) (tt : TT) (outs : List (FuncId × Cx)) (tab : List (FuncId × Fn)) : ∀ n : Nat,clRunX d tt outs tab n = clRunC d tt outs tab n
 | 0=>rfl
 | n + 1=>by
  funext f av xs h K
  show clConGoX (fun f _ xs h K=>clGoX d tt (clRunX d tt outs tab n) f xs h K tab) f av xs h K outs = _
  rw [clConGoX_eq,clRunX_eq d tt outs tab n]
  simp only [clGoX_eq]
  rfl
theorem clRunX_ok {P : Program} {tt : TT} (hT : TTok P tt) {outs : List (FuncId × Cx)} (ho : OutsOk P outs) {tab : List (FuncId × Fn)} (ht : ∀ cl,ClOk P cl → ∀ g fn,(g,fn) ∈ tab → FnOk P cl tt d g fn) (n : Nat) : ClOk P (clRunX d tt outs tab n):=by
 rw [clRunX_eq]; exact clRunC_ok hT ho ht n
theorem qS {x y : R} {p : Prop} (h1 : x = y) (h2 : okR x = true) (h3 : p) : Cnd.match_1 (fun _=>Prop) (sameR x y) (fun _=>p) (fun _=>False):=cS h1 h2 h3
theorem qB {α : Type} [BEq α] [LawfulBEq α] {x : α} {a b : Prop} (h : a) : Cnd.match_1 (fun _=>Prop) (x == x) (fun _=>a) (fun _=>b):=cT (beq_self_eq_true x) h
theorem qI {n : Int} {a b : Prop} (h : -9223372036854775808 ≤ n ∧ n ≤ 9223372036854775807) (h1 : a) : Cnd.match_1 (fun _=>Prop) (inR .i64 n) (fun _=>a) (fun _=>b):=bI h h1
theorem qU8 {n : Int} {a b : Prop} (h : 0 ≤ n ∧ n ≤ 255) (h1 : a) : Cnd.match_1 (fun _=>Prop) (inR .u8 n) (fun _=>a) (fun _=>b):=bU8 h h1
theorem qU16 {n : Int} {a b : Prop} (h : 0 ≤ n ∧ n ≤ 65535) (h1 : a) : Cnd.match_1 (fun _=>Prop) (inR .u16 n) (fun _=>a) (fun _=>b):=bU16 h h1
theorem qU32 {n : Int} {a b : Prop} (h : 0 ≤ n ∧ n ≤ 4294967295) (h1 : a) : Cnd.match_1 (fun _=>Prop) (inR .u32 n) (fun _=>a) (fun _=>b):=bU32 h h1
theorem qU64 {n : Int} {a b : Prop} (h : 0 ≤ n ∧ n ≤ 18446744073709551615) (h1 : a) : Cnd.match_1 (fun _=>Prop) (inR .u64 n) (fun _=>a) (fun _=>b):=bU64 h h1
theorem qDT {p : Prop} {_ : Decidable p} {a b : Prop} (h : p) (h1 : a) : Cnd.match_1 (fun _=>Prop) (decide p) (fun _=>a) (fun _=>b):=cDT h h1
theorem qDF {p : Prop} {_ : Decidable p} {a b : Prop} (h : ¬ p) (h1 : b) : Cnd.match_1 (fun _=>Prop) (decide p) (fun _=>a) (fun _=>b):=cDF h h1
theorem qNT {p : Prop} {_ : Decidable p} {a b : Prop} (h : ¬ p) (h1 : a) : Cnd.match_1 (fun _=>Prop) (!decide p) (fun _=>a) (fun _=>b):=cNT h h1
theorem qNF {p : Prop} {_ : Decidable p} {a b : Prop} (h : p) (h1 : b) : Cnd.match_1 (fun _=>Prop) (!decide p) (fun _=>a) (fun _=>b):=cNF h h1
section
variable {α β : Type}
def FamCon (X : α → List R) (H : α → Heap) (pre : α → Prop) (ok : α → β → Prop) (F : α → β → R) (H' : α → β → Heap) : Con α:=⟨X,H,pre,fun p x h=>∃ q,ok p q ∧ x = F p q ∧ h = H' p q⟩
theorem AskC.fam {X : α → List R} {H : α → Heap} {pre : α → Prop} {ok : α → β → Prop} {F : α → β → R} {H' : α → β → Heap} {xs : List R} {h : Heap} {K : R → Heap → Prop} (p : α) (l : List Nat) (xo : β → R) (ho : β → Heap) (hp : pre p)
    (hs : ((H p).all obB && sepB l (H p)) = true) (hH : leH (sig h l) h l (H p)) (hX : leXs (H p).length (sig h l) xs (X p)) (hx : ∀ q, renR (back h (H p) l) (F p q) = xo q)
    (hm : ∀ q, mrg (back h (H p) l) h l (H p) (H' p q) = ho q) (hk : ∀ q, ok p q → K (xo q) (ho q)) : AskC (FamCon X H pre ok F H') xs h K := by
  refine ⟨p, l, hp, hs, hH, hX, fun x h'' ⟨q, hq, e1, e2⟩ => ?_⟩
  subst e1; subst e2
  show K (renR (back h (H p) l) (F p q)) (mrg (back h (H p) l) h l (H p) (H' p q))
  rw [hx, hm]; exact hk q hq
theorem Trim.fam {n : Nat} {x : R} {h : Heap} {ok : β → Prop} {F : β → R} {H' : β → Heap} (q : β) (hq : ok q) (hle : Le (d:=0) n x h (F q) (H' q)) : Trim n x h (fun x h=>∃ q,ok q ∧ x = F q ∧ h = H' q):=⟨⟨F q,H' q,hle,q,hq,rfl,rfl⟩⟩
end
theorem Le.nm {d n0 : Nat} {r r' : Tr d} {h h' : Heap} (l : List Nat) (hl : (firstB n0 0 l && nodupB l) = true) (hH : leH (sig h l) h l h') (hT : leT (sig h l) d r r') : Le n0 r h r' h':=⟨⟨l,hl,hH,hT⟩⟩
structure Hold (Q : Prop) : Prop where
 out : Q
theorem wA {P Q : Prop} (h : Q) (e : Hold Q → P:=by
 intro h
 repeat((conv=>whnf);first|((with_reducible refine qS ?_ ?_ ?_);exact rfl;exact rfl)|with_reducible refine qB ?_|((with_reducible refine qI ?_ ?_);omega)|((with_reducible refine qDT ?_ ?_);omega)|((with_reducible refine qDF ?_ ?_);omega)|((with_reducible refine qNT ?_ ?_);omega)|((with_reducible refine qNF ?_ ?_);omega)|((with_reducible refine qU8 ?_ ?_);omega)|((with_reducible refine qU32 ?_ ?_);omega)|((with_reducible refine qU64 ?_ ?_);omega)|((with_reducible refine qU16 ?_ ?_);omega))
 exact h.out) : P:=e ⟨h⟩
theorem wB {P Q : Prop} (h : Q) (e : Hold Q → P:=by
 intro h
 repeat((conv=>whnf);first|((with_reducible refine qS ?_ ?_ ?_);exact rfl;exact rfl)|with_reducible refine qB ?_|((with_reducible refine qI ?_ ?_);omega)|((with_reducible refine qDT ?_ ?_);omega)|((with_reducible refine qDF ?_ ?_);omega)|((with_reducible refine qNT ?_ ?_);omega)|((with_reducible refine qNF ?_ ?_);omega)|((with_reducible refine qU8 ?_ ?_);omega)|((with_reducible refine qU32 ?_ ?_);omega)|((with_reducible refine qU64 ?_ ?_);omega)|((with_reducible refine qU16 ?_ ?_);omega))
 conv=>whnf
 exact h.out) : P:=e ⟨h⟩
theorem wZ {P : Prop} (e : P:=by
 first|exact leT_empty|exact trivial|exact rfl|exact .inl rfl|exact .inr rfl|exact .inr ⟨rfl,rfl⟩|exact Nat.le_refl _|exact Nat.zero_le _|exact fun _ _=>rfl|assumption|exact ul0|exact ul1 rfl|exact ul2 rfl rfl|exact ul3 rfl rfl rfl) : P:=e
theorem wH {P : Prop} (e : P:=by
 repeat'(first|exact wZ|refine And.intro ?_ ?_)) : P:=e
theorem wF {P : Prop} (e : P:=by
 conv=>whnf
 refine Le.id rfl ?_ ?_
 all_goals(repeat'(first|exact wZ|refine And.intro ?_ ?_))) : P:=e
def OrC (A B : Cx) : Cx:=fun xs h K=>A xs h K ∨ B xs h K
theorem or_ok {P : Program} {f : FuncId} {A B : Cx} (hA : CxOk P f A) (hB : CxOk P f B) : CxOk P f (OrC A B):=fun xs h K hk=>hk.elim (hA xs h K) (hB xs h K)
end Go.Eng
namespace Go.Eng
open Go Go.ChangeShapes Go.WideShapes Go.RowKit Go.Deep
end Go.Eng
namespace Go.Eng
open Go
structure FG where
 own : Nat → Prop
 rd : Nat → Prop
def InB (Q : Heap → Prop) (fg : FG) (c : Nat) (hp : Array Obj) : Prop :=
 ∃ (H : Heap) (e : Env),Q H ∧ e 0 = some (c,0) ∧ (∀ w : World,w.heap = hp → Rel e H w) ∧ (∀ b,fg.own b ↔ ∃ n,Owns e H n b) ∧ (∀ b,fg.rd b ↔ Stills e H b)
abbrev bx (Q : Heap → Prop) (fg : FG) : HE:=.ob (.raw (.box (InB Q fg) fg.own fg.rd))
section
variable {ρ : Env} {h : Heap} {w : World}
theorem RelOb.keep' {w' : World} {m : Nat} {ob : Ob} (h : RelOb ρ w m ob) (hk : ∀ b o,ob.lfoot (ρ m) b o → ob.looks → w'.heap[b]? = w.heap[b]?) : RelOb ρ w' m ob:=by
 have lt : ∀ {b : Nat},b < w.heap.size → w'.heap[b]? = w.heap[b]? → b < w'.heap.size:=fun {b} h1 h2=>by
  rcases Nat.lt_or_ge b w'.heap.size with c | c
  ·exact c
  ·rw [Array.getElem?_eq_none c,Array.getElem?_eq_getElem h1] at h2; cases h2
 cases ob with
 | raw x =>
  obtain ⟨b,o,h1,h2,h3,h4⟩:=h
  cases x with
  | box p F G =>
   obtain ⟨h4,h5,h6,h7⟩:=h4
   exact ⟨b,o,h1,by rw [hk b 0 (.inl h4) trivial]; exact h2,h3,h4,fun c hc=>lt (h5 c hc) (hk c 0 hc trivial),h7 _ fun c hc=>hk c 0 hc trivial,fun hp' hc=>h7 hp' fun c he=>(hc c he).trans (hk c 0 he trivial)⟩
  | sit _ _=>exact ⟨b,o,h1,by rw [hk _ _ h1 trivial]; exact h2,h3,h4⟩
  | ms _=>exact ⟨b,o,h1,by rw [hk _ _ h1 trivial]; exact h2,h3,h4⟩
  | chq _ _=>exact ⟨b,o,h1,by rw [hk _ _ h1 trivial]; exact h2,h3,h4⟩
  | gl _ _=>exact ⟨b,o,h1,by rw [hk _ _ h1 trivial]; exact h2,h3,h4⟩
 | own l =>
  obtain ⟨b,E,fz,arr,h1,h2,h3,h4⟩:=h
  exact ⟨b,E,fz,arr,h1,by rw [hk _ _ h1 trivial]; exact h2,h3,h4⟩
 | row sz k f tot =>
  obtain ⟨⟨x,hx⟩,h0,h⟩:=h
  refine ⟨⟨x,hx⟩,h0,fun ht=>?_⟩
  obtain ⟨b,o,E,fz,arr,h1,h2,h3,h4,h5⟩:=h ht
  have e:=hk _ _ h1 ht
  exact ⟨b,o,E,fz,arr,h1,by rw [e]; exact h2,h3,h4,h5.keep (Sub.refl _) fun _=>e⟩
 | ro sz k f =>
  obtain ⟨b,o,h1,h2,h3⟩:=h
  exact ⟨b,o,h1,h2.keep (Sub.refl _) fun hk'=>hk _ _ h1 hk',fun hk'=>lt (h3 hk') (hk _ _ h1 hk')⟩
theorem rel_on (hr : Rel ρ h w) {w' : World} (hk : ∀ b,(∃ n,Owns ρ h n b) ∨ Stills ρ h b → w'.heap[b]? = w.heap[b]?) : Rel ρ h w' :=
 ⟨hr.fresh,fun n ob hn=>(hr.obs n ob hn).keep' fun b o hf hl=>hk b (by
  rcases Ob.look_cases hl hf with ⟨h1,h2⟩ | ⟨h1,h2⟩
  ·exact .inl ⟨n,ob,o,hn,h1,h2⟩
  ·exact .inr ⟨n,ob,o,hn,h1,h2⟩),hr.inj,hr.apart⟩
theorem Stills.lt (hr : Rel ρ h w) {b : Nat} (hs : Stills ρ h b) : b < w.heap.size:=by
 obtain ⟨n,ob,o,h1,h2,h3⟩:=hs
 exact hr.looks_lt h1 (Ob.still_looks h2) (Ob.lfoot_s h3)
theorem inB_of {e : Env} {H : Heap} {Q : Heap → Prop} (hr : Rel e H w) (hQ : Q H) {c : Nat} (h0 : e 0 = some (c, 0)) {fg : FG} (ho : ∀ b, fg.own b ↔ ∃ n, Owns e H n b) (hs : ∀ b, fg.rd b ↔ Stills e H b) (hc : fg.own c) :
    (Rw.box (InB Q fg) fg.own fg.rd).pin w.heap c := by
  have key : ∀ hp' : Array Obj, (∀ b, fg.own b ∨ fg.rd b → hp'[b]? = w.heap[b]?) → InB Q fg c hp' := fun hp' hk =>
    ⟨H, e, hQ, h0, fun w' hw => rel_on hr fun b hb => by rw [hw]; exact hk b (hb.imp (ho b).2 (hs b).2), ho, hs⟩
  refine ⟨hc, fun b hb => ?_, key _ fun _ _ => rfl, key⟩
  rcases hb with hb | hb
  · obtain ⟨n, hn⟩ := (ho b).1 hb; exact hr.owns_lt hn
  · exact ((hs b).1 hb).lt hr
theorem bx_open (hr : Rel ρ h w) {n : Nat} {Q : Heap → Prop} {fg : FG} (hn : h[n]? = some (bx Q fg)) : ∃ H e c,Q H ∧ ρ n = some (c,0) ∧ e 0 = some (c,0) ∧ Rel e H w ∧ (∀ b,fg.own b ↔ ∃ n,Owns e H n b) ∧ (∀ b,fg.rd b ↔ Stills e H b):=by
 obtain ⟨c,o,h1,_,_,h2,h3,⟨H,e,k1,k2,k3,k4,k5⟩,_⟩:=hr.obs n _ hn
 exact ⟨H,e,c,k1,h1,k2,k3 w rfl,k4,k5⟩
theorem rel_sub (hr : Rel ρ h w) {l : List Nat} {h' : Heap} (hnd : nodupB l = true) (hl : leH (sig h l) h l h') :
    Rel (fun i => ρ (sig h l i)) h' w ∧ (∀ n b, Owns (fun i => ρ (sig h l i)) h' n b → ∃ j, l[n]? = some j ∧ Owns ρ h j b) ∧
      (∀ b, Stills (fun i => ρ (sig h l i)) h' b → ∃ (n j : Nat) (ob0 : Ob) (o : Nat), l[n]? = some j ∧ h[j]? = some (.ob ob0) ∧ ((ob0.still ∧ ob0.sfoot (ρ j) b o) ∨ (ob0.owned ∧ ob0.ofoot (ρ j) b o))) := by
  obtain ⟨hlen, hget⟩ := leH_get hl
  have at_ : ∀ {n j}, l[n]? = some j → sig h l n = j := fun {n j} e => by simp [sig, e]
  have own : ∀ n b, Owns (fun i => ρ (sig h l i)) h' n b → ∃ j, l[n]? = some j ∧ Owns ρ h j b := fun n b ⟨ob, o, h1, h2, h3⟩ => by
    obtain ⟨j, x, e1, e2, e3⟩ := hget n _ h1 (by simp)
    obtain ⟨ob0, rfl, k1, kf, _⟩ := leHE_ob e3
    exact ⟨j, e1, ob0, o, e2, k1 h2, kf _ _ _ (by simpa [at_ e1] using h3)⟩
  refine ⟨⟨fun n hn => ?_, fun n ob hn => ?_, fun n m b hn hm => ?_, fun n m b o ob hn hm hk hc => ?_⟩, own, fun b hs => ?_⟩
  · rcases hn with hn | hn
    · obtain ⟨j, x, e1, e2, e3⟩ := hget n _ hn (by simp)
      show ρ (sig h l n) = none
      rw [at_ e1]
      refine hr.fresh j (.inl ?_)
      cases x with
      | fresh => exact e2
      | _ => exact e3.elim
    · show ρ (sig h l n) = none
      have : l[n]? = none := List.getElem?_eq_none (by omega)
      simp only [sig, this]
      exact hr.fresh _ (.inr (Nat.le_refl _))
  · obtain ⟨j, x, e1, e2, e3⟩ := hget n _ hn (by simp)
    obtain ⟨ob0, rfl, _, _, _, k3⟩ := leHE_ob e3
    exact k3 (fun _ => rfl) (by simp [at_ e1]) (hr.obs j ob0 e2)
  · obtain ⟨j1, e1, o1⟩ := own n b hn
    obtain ⟨j2, e2, o2⟩ := own m b hm
    have := hr.inj j1 j2 b o1 o2
    subst this
    have hnl : n < l.length := (List.getElem?_eq_some_iff.1 e1).1
    exact (List.getElem?_inj hnl (nodupB_ok hnd)).1 (e1.trans e2.symm)
  · obtain ⟨j1, e1, o1⟩ := own n b hn
    obtain ⟨j, x, q1, q2, q3⟩ := hget m _ hm (by simp)
    obtain ⟨ob0, rfl, _, _, k2, _⟩ := leHE_ob q3
    rcases k2 hk with ⟨hs, hsf⟩ | ⟨hno, hown⟩
    · exact hr.apart j1 j b o _ o1 q2 hs (hsf _ _ _ (by simpa [at_ q1] using hc))
    · have o2 : Owns ρ h j b := ⟨ob0, o, q2, (hown _ _ _ (hr.obs j ob0 q2)).1, (hown _ _ _ (hr.obs j ob0 q2)).2 _ _ _ (by simpa [at_ q1] using hc)⟩
      have e := hr.inj j1 j b o1 o2
      subst e
      have hnl : n < l.length := (List.getElem?_eq_some_iff.1 e1).1
      have enm := (List.getElem?_inj hnl (nodupB_ok hnd)).1 (e1.trans q1.symm)
      subst enm
      obtain ⟨ob1, _, w1, w2, _⟩ := hn
      rw [hm] at w1
      injection w1 with w1; injection w1 with w1
      subst w1
      exact hno w2
  · obtain ⟨n, ob, o, g1, g2, g3⟩ := hs
    obtain ⟨j, x, q1, q2, q3⟩ := hget n _ g1 (by simp)
    obtain ⟨ob0, rfl, _, _, k2, _⟩ := leHE_ob q3
    refine ⟨n, j, ob0, o, q1, q2, ?_⟩
    rcases k2 g2 with ⟨hs, hsf⟩ | ⟨_, hown⟩
    · exact .inl ⟨hs, hsf _ _ _ (by simpa [at_ q1] using g3)⟩
    · exact .inr ⟨(hown _ _ _ (hr.obs j ob0 q2)).1, (hown _ _ _ (hr.obs j ob0 q2)).2 _ _ _ (by simpa [at_ q1] using g3)⟩
theorem rel_subS (hr : Rel ρ h w) {l : List Nat} {h' : Heap} (hob : h'.all obB = true) (hsep : sepB l h' = true) (hl : leH (sig h l) h l h') :
    Rel (fun i => ρ (sig h l i)) h' w ∧ (∀ n b, Owns (fun i => ρ (sig h l i)) h' n b → ∃ j, l[n]? = some j ∧ Owns ρ h j b) ∧
      (∀ b, Stills (fun i => ρ (sig h l i)) h' b → ∃ (n j : Nat) (ob0 : Ob) (o : Nat), l[n]? = some j ∧ h[j]? = some (.ob ob0) ∧ ((ob0.still ∧ ob0.sfoot (ρ j) b o) ∨ (ob0.owned ∧ ob0.ofoot (ρ j) b o))) := by
  obtain ⟨hlen, hget⟩ := leH_get hl
  have at_ : ∀ {n j}, l[n]? = some j → sig h l n = j := fun {n j} e => by simp [sig, e]
  have own : ∀ n b, Owns (fun i => ρ (sig h l i)) h' n b → ∃ j, l[n]? = some j ∧ Owns ρ h j b := fun n b ⟨ob, o, h1, h2, h3⟩ => by
    obtain ⟨j, x, e1, e2, e3⟩ := hget n _ h1 (by simp)
    obtain ⟨ob0, rfl, k1, kf, _⟩ := leHE_ob e3
    exact ⟨j, e1, ob0, o, e2, k1 h2, kf _ _ _ (by simpa [at_ e1] using h3)⟩
  have st : ∀ b, Stills (fun i => ρ (sig h l i)) h' b → ∃ (n j : Nat) (ob0 : Ob) (o : Nat), l[n]? = some j ∧ h[j]? = some (.ob ob0) ∧ ((ob0.still ∧ ob0.sfoot (ρ j) b o) ∨ (ob0.owned ∧ ob0.ofoot (ρ j) b o)) := fun b hs => by
    obtain ⟨n, ob, o, g1, g2, g3⟩ := hs
    obtain ⟨j, x, q1, q2, q3⟩ := hget n _ g1 (by simp)
    obtain ⟨ob0, rfl, _, _, k2, _⟩ := leHE_ob q3
    refine ⟨n, j, ob0, o, q1, q2, ?_⟩
    rcases k2 g2 with ⟨hs, hsf⟩ | ⟨_, hown⟩
    · exact .inl ⟨hs, hsf _ _ _ (by simpa [at_ q1] using g3)⟩
    · exact .inr ⟨(hown _ _ _ (hr.obs j ob0 q2)).1, (hown _ _ _ (hr.obs j ob0 q2)).2 _ _ _ (by simpa [at_ q1] using g3)⟩
  exact ⟨(frame_ok hr hl hob hsep).1, own, st⟩
def nilE (n : Nat) : HE → HE → Prop
 | .ob (.own l),.ob (.own m)=>leNs n (fun i=>i) l m
 | .ob (.ro _ 0 _),.ob (.row _ 0 _ 0)=>True
 | x,y=>x = y
def nilH (n : Nat) : Heap → Heap → Prop
 | [],[]=>True
 | x :: h,y :: h'=>nilE n x y ∧ nilH n h h'
 | _,_=>False
theorem nilH_get {n : Nat} : ∀ {h h' : Heap},nilH n h h' → ∀ i : Nat,(∃ x y,h[i]? = some x ∧ h'[i]? = some y ∧ nilE n x y) ∨ (h[i]? = none ∧ h'[i]? = none)
 | [],[],_,i=>.inr (by simp)
 | x :: h,y :: h',hn,0=>.inl ⟨x,y,rfl,rfl,hn.1⟩
 | x :: h,y :: h',hn,i + 1=>by simpa using nilH_get hn.2 i
 | [],_ :: _,hn,_=>hn.elim
 | _ :: _,[],hn,_=>hn.elim
theorem nilE_ob {n : Nat} {x : HE} {ob' : Ob} (h : nilE n x (.ob ob')) : ∃ ob,x = .ob ob ∧ (ob = ob' ∨ (∃ l m,ob = .own l ∧ ob' = .own m ∧ leNs n (fun i=>i) l m) ∨ ∃ a b f g,ob = .ro a 0 f ∧ ob' = .row b 0 g 0):=by
 unfold nilE at h
 split at h
 ·rename_i l m e; injection e with e; subst e; exact ⟨_,rfl,.inr (.inl ⟨_,_,rfl,rfl,h⟩)⟩
 ·rename_i e; injection e with e; subst e; exact ⟨_,rfl,.inr (.inr ⟨_,_,_,_,rfl,rfl⟩)⟩
 ·exact ⟨ob',h,.inl rfl⟩
theorem nilE_ob' {n : Nat} {y : HE} {ob : Ob} (h : nilE n (.ob ob) y) : ∃ ob',y = .ob ob' ∧ (ob = ob' ∨ (∃ l m,ob = .own l ∧ ob' = .own m ∧ leNs n (fun i=>i) l m) ∨ ∃ a b f g,ob = .ro a 0 f ∧ ob' = .row b 0 g 0):=by
 unfold nilE at h
 split at h
 ·rename_i l m e; injection e with e; subst e; exact ⟨_,rfl,.inr (.inl ⟨_,_,rfl,rfl,h⟩)⟩
 ·rename_i e; injection e with e; subst e; exact ⟨_,rfl,.inr (.inr ⟨_,_,_,_,rfl,rfl⟩)⟩
 ·exact ⟨ob,h.symm,.inl rfl⟩
theorem rel_nil {e : Env} {H H' : Heap} (hr : Rel e H w) (hob : H.all obB = true) (hn : nilH H.length H H') : Rel e H' w ∧ (∀ n b,Owns e H' n b ↔ Owns e H n b) ∧ ∀ b,Stills e H' b ↔ Stills e H b:=by
 have own : ∀ n b,Owns e H' n b ↔ Owns e H n b:=fun n b=>by
  constructor
  ·rintro ⟨ob',o,g1,g2,g3⟩
   rcases nilH_get hn n with ⟨x,y,q1,q2,q3⟩ | ⟨_,q2⟩
   ·rw [g1] at q2; injection q2 with q2; subst q2
    obtain ⟨ob,rfl,rfl | ⟨l,m,rfl,rfl,_⟩ | ⟨_,_,_,_,rfl,rfl⟩⟩:=nilE_ob q3
    ·exact ⟨_,o,q1,g2,g3⟩
    ·exact ⟨_,o,q1,trivial,g3⟩
    ·exact absurd rfl g2
   ·rw [g1] at q2; cases q2
  ·rintro ⟨ob,o,g1,g2,g3⟩
   rcases nilH_get hn n with ⟨x,y,q1,q2,q3⟩ | ⟨q1,_⟩
   ·rw [g1] at q1; injection q1 with q1; subst q1
    obtain ⟨ob',rfl,rfl | ⟨l,m,rfl,rfl,_⟩ | ⟨_,_,_,_,rfl,rfl⟩⟩:=nilE_ob' q3
    ·exact ⟨_,o,q2,g2,g3⟩
    ·exact ⟨_,o,q2,trivial,g3⟩
    ·exact g2.elim
   ·rw [g1] at q1; cases q1
 have still : ∀ b,Stills e H' b ↔ Stills e H b:=fun b=>by
  constructor
  ·rintro ⟨n,ob',o,g1,g2,g3⟩
   rcases nilH_get hn n with ⟨x,y,q1,q2,q3⟩ | ⟨_,q2⟩
   ·rw [g1] at q2; injection q2 with q2; subst q2
    obtain ⟨ob,rfl,rfl | ⟨l,m,rfl,rfl,_⟩ | ⟨_,_,_,_,rfl,rfl⟩⟩:=nilE_ob q3
    ·exact ⟨n,_,o,q1,g2,g3⟩
    ·exact g2.elim
    ·exact g2.elim
   ·rw [g1] at q2; cases q2
  ·rintro ⟨n,ob,o,g1,g2,g3⟩
   rcases nilH_get hn n with ⟨x,y,q1,q2,q3⟩ | ⟨q1,_⟩
   ·rw [g1] at q1; injection q1 with q1; subst q1
    obtain ⟨ob',rfl,rfl | ⟨l,m,rfl,rfl,_⟩ | ⟨_,_,_,_,rfl,rfl⟩⟩:=nilE_ob' q3
    ·exact ⟨n,_,o,q2,g2,g3⟩
    ·exact g2.elim
    ·exact absurd rfl g2
   ·rw [g1] at q1; cases q1
 refine ⟨⟨fun n hf=>hr.fresh n ?_,fun n ob' g1=>?_,fun a b c h1 h2=>hr.inj a b c ((own _ _).1 h1) ((own _ _).1 h2),fun a m b o ob' h1 h2 h3 h4=>?_⟩,own,still⟩
 ·rcases nilH_get hn n with ⟨x,y,q1,q2,q3⟩ | ⟨q1,q2⟩
  ·rcases hf with hf | hf
   ·rw [hf] at q2; injection q2 with q2; subst q2
    have : x = .fresh:=by
     unfold nilE at q3
     split at q3
     ·rename_i e; cases e
     ·rename_i e; cases e
     ·exact q3
    subst this
    exact .inl q1
   ·rw [List.getElem?_eq_none hf] at q2; cases q2
  ·exact .inr (List.getElem?_eq_none_iff.1 q1)
 ·rcases nilH_get hn n with ⟨x,y,q1,q2,q3⟩ | ⟨_,q2⟩
  ·rw [g1] at q2; injection q2 with q2; subst q2
   obtain ⟨ob,rfl,rfl | ⟨l,m,rfl,rfl,hs⟩ | ⟨_,_,_,_,rfl,rfl⟩⟩:=nilE_ob q3
   ·exact hr.obs n _ q1
   rotate_left
   ·obtain ⟨b,o,k1,_⟩:=hr.obs n _ q1
    exact ⟨⟨_,k1⟩,Nat.le_refl _,fun c=>absurd rfl c⟩
   ·obtain ⟨b,E,fz,arr,k1,k2,k3,k4⟩:=hr.obs n _ q1
    refine ⟨b,E,fz,arr,k1,k2,k3,den_leNs (ρ:=e) (g:=fun i=>i) (n:=H.length) (fun i hi=>?_) hs k4⟩
    have:=List.all_eq_true.1 hob _ (List.getElem_mem hi)
    cases ho : H[i] with
    | ob o=>exact relOb_at (hr.obs i o (by rw [List.getElem?_eq_getElem hi,ho]))
    | fresh=>rw [ho] at this; cases this
    | dead=>rw [ho] at this; cases this
  ·rw [g1] at q2; cases q2
 ·obtain ⟨m',ob0,o',w1,w2,w3⟩:=(still b).1 ⟨m,ob',o,h2,h3,h4⟩
  exact hr.apart a m' b o' ob0 ((own _ _).1 h1) w1 w2 w3
theorem pack (hr : Rel ρ h w) {l l2 : List Nat} {Hm Hb A B : Heap} {Q : Heap → Prop} {s : List Seg} {Hb' : Heap} (hob : Hm.all obB = true) (hnd : sepB l Hm = true) (hle : leH (sig h l) h l Hm) (hnl : nilH Hm.length Hm Hb) (hQ : Q Hb) (hH : Hb = .ob (.own s) :: Hb')
    (hnd2 : nodupB l2 = true) (hle2 : leH (sig h l2) h l2 (A ++ HE.dead :: B)) {r : Nat} (hr1 : l[0]? = some r) (hr2 : l2[A.length]? = some r) (hdis : ∀ (i j : Nat), i ≠ A.length → l2[i]? = some j → j ∉ l)
    {ρ0 ρs : Env} {H0 hs : Heap} {w0 : World} (hG : Grow ρ0 H0 w0 ρ h w) (hsub : ∀ n x, ρs n = some x → ρ (sig h l2 n) = some x) (ho1 : ∀ b, (∃ n, Owns ρ0 H0 n b) → ∃ n, Owns ρs hs n b)
    (hg1 : ∀ b, Gives H0 b → Gives hs b) (hs1 : ∀ b, Stills ρ0 H0 b → Stills ρs hs b)
    (hg2 : (∀ b, Stills ρ0 H0 b → Gives hs b) ∨ ∀ (j : Nat) (ob0 : Ob), j ∈ l → h[j]? = some (.ob ob0) → ob0.still → ∃ p F G, ob0 = .raw (.box p F G)) :
    ∃ fg, Rel (fun i => ρ (sig h l2 i)) (A ++ bx Q fg :: B) w ∧ Grow ρs hs w0 (fun i => ρ (sig h l2 i)) (A ++ bx Q fg :: B) w := by
  obtain ⟨rm, obm, sbm⟩ := rel_subS hr hob hnd hle
  obtain ⟨rb, on1, on2⟩ := rel_nil rm hob hnl
  have ob_ : ∀ n b, Owns (fun i => ρ (sig h l i)) Hb n b → ∃ j, l[n]? = some j ∧ Owns ρ h j b := fun n b ho => obm n b ((on1 n b).1 ho)
  have sb : ∀ b, Stills (fun i => ρ (sig h l i)) Hb b → ∃ (n j : Nat) (ob0 : Ob) (o : Nat), l[n]? = some j ∧ h[j]? = some (.ob ob0) ∧ ((ob0.still ∧ ob0.sfoot (ρ j) b o) ∨ (ob0.owned ∧ ob0.ofoot (ρ j) b o)) := fun b hs => sbm b ((on2 b).1 hs)
  obtain ⟨r2, o2, s2⟩ := rel_sub hr hnd2 hle2
  let e : Env := fun i => ρ (sig h l i)
  let fg : FG := ⟨fun b => ∃ n, Owns e Hb n b, fun b => Stills e Hb b⟩
  have h0 : Hb[0]? = some (.ob (.own s)) := by rw [hH]; rfl
  obtain ⟨c, E, fz, arr, c1, c2, c3, c4⟩ := rb.obs 0 _ h0
  have hc : fg.own c := ⟨0, .own s, 0, h0, trivial, c1⟩
  have hroot : ρ r = some (c, 0) := by
    have : sig h l 0 = r := by simp [sig, hr1]
    have c1' : ρ (sig h l 0) = some (c, 0) := c1
    rw [this] at c1'; exact c1'
  have mem : ∀ {n j : Nat}, l[n]? = some j → j ∈ l := fun hj => List.mem_of_getElem? hj
  have at_nb : (A ++ bx Q fg :: B)[A.length]? = some (bx Q fg) := by simp
  have at_d : (A ++ HE.dead :: B)[A.length]? = some .dead := by simp
  have at_o : ∀ m, m ≠ A.length → (A ++ bx Q fg :: B)[m]? = (A ++ HE.dead :: B)[m]? := fun m hm => by
    rcases Nat.lt_or_ge m A.length with c | c
    · rw [List.getElem?_append_left c, List.getElem?_append_left c]
    · rw [List.getElem?_append_right c, List.getElem?_append_right c]
      obtain ⟨k, hk⟩ : ∃ k, m - A.length = k + 1 := ⟨m - A.length - 1, by omega⟩
      rw [hk]; rfl
  have own_nb : ∀ b, Owns (fun i => ρ (sig h l2 i)) (A ++ bx Q fg :: B) A.length b → fg.own b := fun b ⟨ob, o, g1, g2, g3⟩ => by
    rw [at_nb] at g1; injection g1 with g1; injection g1 with g1; subst g1; exact g3
  have own_o : ∀ m b, m ≠ A.length → Owns (fun i => ρ (sig h l2 i)) (A ++ bx Q fg :: B) m b → ∃ j, l2[m]? = some j ∧ Owns ρ h j b := fun m b hm ⟨ob, o, g1, g2, g3⟩ => by
    rw [at_o m hm] at g1; exact o2 m b ⟨ob, o, g1, g2, g3⟩
  have own_b : ∀ b, fg.own b → ∃ j, j ∈ l ∧ Owns ρ h j b := fun b ⟨n, hn⟩ => by
    obtain ⟨j, e1, e2⟩ := ob_ n b hn; exact ⟨j, mem e1, e2⟩
  have still_o : ∀ m b o ob, m ≠ A.length → (A ++ bx Q fg :: B)[m]? = some (.ob ob) → ob.still → ob.sfoot (ρ (sig h l2 m)) b o →
      ∃ (j : Nat) (ob0 : Ob) (o' : Nat), l2[m]? = some j ∧ h[j]? = some (.ob ob0) ∧ ((ob0.still ∧ ob0.sfoot (ρ j) b o') ∨ (ob0.owned ∧ ob0.ofoot (ρ j) b o')) := fun m b o ob hm g1 g2 g3 => by
    rw [at_o m hm] at g1
    obtain ⟨hlen, hget⟩ := leH_get hle2
    obtain ⟨j, x, q1, q2, q3⟩ := hget m _ g1 (by simp)
    obtain ⟨ob0, rfl, _, _, k2, _⟩ := leHE_ob q3
    refine ⟨j, ob0, o, q1, q2, ?_⟩
    have e1 : sig h l2 m = j := by simp [sig, q1]
    rw [e1] at g3
    rcases k2 g2 with ⟨hs, hsf⟩ | ⟨_, hown⟩
    · exact .inl ⟨hs, hsf _ _ _ g3⟩
    · exact .inr ⟨(hown _ _ _ (hr.obs j ob0 q2)).1, (hown _ _ _ (hr.obs j ob0 q2)).2 _ _ _ g3⟩
  have rd_b : ∀ b, fg.rd b → Stills ρ h b ∨ ∃ j, j ∈ l ∧ Owns ρ h j b := fun b hb => by
    obtain ⟨n, j, ob0, o, q1, q2, q3⟩ := sb b hb
    rcases q3 with ⟨q3, q4⟩ | ⟨q3, q4⟩
    · exact .inl ⟨j, ob0, o, q2, q3, q4⟩
    · exact .inr ⟨j, mem q1, ob0, o, q2, q3, q4⟩
  have fin1 : ∀ b, (∃ j, Owns ρ h j b) → (∃ m, Owns ρs hs m b) ∨ w0.heap.size ≤ b := fun b ⟨j, hj⟩ => (hG.made j b hj).imp (ho1 b) id
  refine ⟨fg, ⟨fun n hn => ?_, fun n ob hn => ?_, fun n m b hn hm => ?_, fun n m b o ob hn hm hk hc => ?_⟩, fun n x hx => hsub n x hx, hG.os, hG.tape, hG.output, hG.frozen, hG.size, fun b hb hno => hG.keep b hb fun n hn => ?_, fun n b hn => ?_, fun b hb => ?_, fun b hb => ?_⟩
  · by_cases hnb : n = A.length
    · subst hnb
      rcases hn with hn | hn
      · rw [at_nb] at hn; cases hn
      · simp only [List.length_append, List.length_cons] at hn; omega
    · refine r2.fresh n ?_
      rw [← at_o n hnb]
      exact hn.imp id fun hn => by simpa using hn
  · by_cases hnb : n = A.length
    · subst hnb
      rw [at_nb] at hn; injection hn with hn; injection hn with hn; subst hn
      refine ⟨c, _, ?_, c2, trivial, inB_of rb hQ c1 (fun _ => Iff.rfl) (fun _ => Iff.rfl) hc⟩
      show ρ (sig h l2 A.length) = some (c, 0)
      have : sig h l2 A.length = r := by simp [sig, hr2]
      rw [this]; exact hroot
    · rw [at_o n hnb] at hn; exact r2.obs n ob hn
  · by_cases h1 : n = A.length <;> by_cases h2 : m = A.length
    · rw [h1, h2]
    · subst h1
      obtain ⟨j, j1, j2⟩ := own_b b (own_nb b hn)
      obtain ⟨k, k1, k2⟩ := own_o m b h2 hm
      have := hr.inj j k b j2 k2
      subst this
      exact absurd j1 (hdis m j h2 k1)
    · subst h2
      obtain ⟨j, j1, j2⟩ := own_b b (own_nb b hm)
      obtain ⟨k, k1, k2⟩ := own_o n b h1 hn
      have := hr.inj j k b j2 k2
      subst this
      exact absurd j1 (hdis n j h1 k1)
    · obtain ⟨j, j1, j2⟩ := own_o n b h1 hn
      obtain ⟨k, k1, k2⟩ := own_o m b h2 hm
      have := hr.inj j k b j2 k2
      subst this
      have hnl : n < l2.length := (List.getElem?_eq_some_iff.1 j1).1
      exact (List.getElem?_inj hnl (nodupB_ok hnd2)).1 (j1.trans k1.symm)
  · by_cases h2 : m = A.length
    · subst h2
      rw [at_nb] at hm; injection hm with hm; injection hm with hm; subst hm
      have hc : fg.rd b := hc
      by_cases h1 : n = A.length
      · subst h1
        obtain ⟨n1, hn1⟩ := own_nb b hn
        obtain ⟨m1, ob1, o1, g1, g2, g3⟩ := hc
        exact rb.apart n1 m1 b o1 ob1 hn1 g1 g2 g3
      · obtain ⟨j, j1, j2⟩ := own_o n b h1 hn
        rcases rd_b b hc with ⟨m1, ob1, o1, g1, g2, g3⟩ | ⟨k, k1, k2⟩
        · exact hr.apart j m1 b o1 ob1 j2 g1 g2 g3
        · have := hr.inj j k b j2 k2
          subst this
          exact hdis n j h1 j1 k1
    · obtain ⟨k, ob0, o', k1, k2, k3⟩ := still_o m b o ob h2 hm hk hc
      by_cases h1 : n = A.length
      · subst h1
        obtain ⟨j, j1, j2⟩ := own_b b (own_nb b hn)
        rcases k3 with ⟨k3, k4⟩ | ⟨k3, k4⟩
        · exact hr.apart j k b o' ob0 j2 k2 k3 k4
        · have := hr.inj j k b j2 ⟨ob0, o', k2, k3, k4⟩
          subst this
          exact hdis m j h2 k1 j1
      · rw [at_o m h2] at hm
        obtain ⟨ob2, o3, g1, g2, g3⟩ := hn
        rw [at_o n h1] at g1
        exact r2.apart n m b o ob ⟨ob2, o3, g1, g2, g3⟩ hm hk hc
  · obtain ⟨m, hm⟩ := ho1 b ⟨n, hn⟩
    exact hno m hm
  · by_cases h1 : n = A.length
    · subst h1
      obtain ⟨j, _, j2⟩ := own_b b (own_nb b hn)
      exact fin1 b ⟨j, j2⟩
    · obtain ⟨j, _, j2⟩ := own_o n b h1 hn
      exact fin1 b ⟨j, j2⟩
  · have viaG : Gives h b → Gives hs b ∨ (∃ m, Owns ρs hs m b) ∨ w0.heap.size ≤ b := fun hgv => by
      rcases hG.lent b hgv with hgv | hgv | hgv
      · exact .inl (hg1 b hgv)
      · exact .inr (.inl (ho1 b hgv))
      · exact .inr (.inr hgv)
    obtain ⟨n, p, F, G, g1, g2⟩ := hb
    by_cases h1 : n = A.length
    · subst h1
      rw [at_nb] at g1; injection g1 with g1; injection g1 with g1; injection g1 with g1; injection g1 with _ _ g1; subst g1
      have g2 : fg.rd b := g2
      obtain ⟨n, j, ob0, o, q1, q2, q3⟩ := sb b g2
      rcases q3 with ⟨q3, q4⟩ | ⟨q3, q4⟩
      · rcases hg2 with hg2 | hg2
        · rcases hG.seen b ⟨j, ob0, o, q2, q3, q4⟩ with hgv | hgv | hgv
          · exact .inl (hg2 b hgv)
          · exact .inr (.inl (ho1 b hgv))
          · exact .inr (.inr hgv)
        · obtain ⟨p, F, G, rfl⟩ := hg2 j ob0 (mem q1) q2 q3
          exact viaG ⟨j, p, F, G, q2, q4⟩
      · exact .inr (fin1 b ⟨j, ob0, o, q2, q3, q4⟩)
    · rw [at_o n h1] at g1
      obtain ⟨hlen, hget⟩ := leH_get hle2
      obtain ⟨j, x, q1, q2, q3⟩ := hget n _ g1 (by simp)
      obtain ⟨ob0, rfl, _⟩ := leHE_ob q3
      have e : ob0 = .raw (.box p F G) := by cases ob0 <;> first | exact q3.elim | (simp only [leHE] at q3; rw [q3])
      subst e
      exact viaG ⟨j, p, F, G, q2, g2⟩
  · have viaS : Stills ρ h b → Stills ρs hs b ∨ (∃ m, Owns ρs hs m b) ∨ w0.heap.size ≤ b := fun hst => by
      rcases hG.seen b hst with hgv | hgv | hgv
      · exact .inl (hs1 b hgv)
      · exact .inr (.inl (ho1 b hgv))
      · exact .inr (.inr hgv)
    obtain ⟨n, ob, o, g1, g2, g3⟩ := hb
    by_cases h1 : n = A.length
    · subst h1
      rw [at_nb] at g1; injection g1 with g1; injection g1 with g1; subst g1
      rcases rd_b b g3 with hst | ⟨j, _, j2⟩
      · exact viaS hst
      · exact .inr (fin1 b ⟨j, j2⟩)
    · obtain ⟨k, ob0, o', k1, k2, k3⟩ := still_o n b o ob h1 g1 g2 g3
      rcases k3 with ⟨k3, k4⟩ | ⟨k3, k4⟩
      · exact viaS ⟨k, ob0, o', k2, k3, k4⟩
      · exact .inr (fin1 b ⟨k, ob0, o', k2, k3, k4⟩)
end
theorem plT_den {ρ ρ' : Env} {x : T} {v : Value} (hp : plT x = true) (h : DenT ρ x v) : DenT ρ' x v:=by
 have e : renT (fun _=>0) x = x:=plT_ren hp
 have:=denT_ren (g:=fun _=>0) (ρ:=ρ) (x:=x) (v:=v) (by rw [e]; exact h)
 cases x with
 | one c=>cases c <;> first | exact h | (simp [plT] at hp)
 | agg l =>
  obtain ⟨vs,h1,h2⟩:=h
  refine ⟨vs,h1, ?_⟩
  have hp : isPlain l = true:=hp
  clear h1 e this
  have key : ∀ {l : List Seg} {us : List Value},isPlain l = true → All2 (Den ρ) (cells l) us → All2 (Den ρ') (cells l) us:=fun {l}=>by
   induction l with
   | nil=>intro us _ h; cases us <;> first | trivial | exact h.elim
   | cons a l ih =>
    intro us hp h
    cases a with
    | arr n f=>cases hp
    | c x =>
     cases x <;> first | (cases hp; done) | skip
     cases us with
     | nil=>exact h.elim
     | cons u us=>exact ⟨h.1,ih hp h.2⟩
  exact key hp h2
theorem plR_den {ρ ρ' : Env} {x : R} {v : Value} (hp : plR x = true) (h : DenR ρ x v) : DenR ρ' x v:=by
 cases x with
 | junk=>trivial
 | t x=>exact plT_den hp h
 | tup l =>
  obtain ⟨vs,h1,h2⟩:=h
  refine ⟨vs,h1, ?_⟩
  have hp : l.all plT = true:=hp
  clear h1
  have key : ∀ {l : List T} {us : List Value},l.all plT = true → All2 (DenT ρ) l us → All2 (DenT ρ') l us:=fun {l}=>by
   induction l with
   | nil=>intro us _ h; cases us <;> first | trivial | exact h.elim
   | cons a l ih =>
    intro us hp h
    simp only [List.all_cons,Bool.and_eq_true] at hp
    cases us with
    | nil=>exact h.elim
    | cons u us=>exact ⟨plT_den hp.1 h.1,ih hp.2 h.2⟩
  exact key hp h2
theorem plRs_den {ρ ρ' : Env} : ∀ {l : List R} {vs : List Value},l.all plR = true → All2 (DenR ρ) l vs → All2 (DenR ρ') l vs
 | [],[],_,_=>trivial
 | [],_ :: _,_,h=>h.elim
 | _ :: _,[],_,h=>h.elim
 | x :: l,v :: vs,hp,h=>by
  simp only [List.all_cons,Bool.and_eq_true] at hp
  exact ⟨plR_den hp.1 h.1,plRs_den hp.2 h.2⟩
section
variable {α γ δ : Type} {P : Program} {f : FuncId}
structure Left (n0 : Nat) (r : Nat) (x : R) (h : Heap) (Q : Heap → Prop) (A B : Heap) (y : R) : Prop where
 out : ∃ (l l2 : List Nat) (Hm Hb : Heap) (s : List Seg) (Hr : Heap),Q Hb ∧ Hb = .ob (.own s) :: Hr ∧ (Hm.all obB && sepB l Hm && nodupB l2 && firstB n0 0 l2) = true ∧ (leH (sig h l) h l Hm ∧ nilH Hm.length Hm Hb) ∧ leH (sig h l2) h l2 (A ++ HE.dead :: B) ∧
  l[0]? = some r ∧ l2[A.length]? = some r ∧ (∀ (i j : Nat),i ≠ A.length → l2[i]? = some j → j ∉ l) ∧ leR (sig h l2) x y
abbrev BxCon (X : α → List R) (Q : α → Heap → Prop) (pre : α → Prop) (ok : α → γ → Prop) (F : α → γ → R) (Q' : α → γ → Heap → Prop) (B : α → γ → Heap) : Con (α × FG) :=
 FamCon (β:=γ × FG) (fun p=>.t (.one (.ptr 0 0)) :: X p.1) (fun p=>[bx (Q p.1) p.2]) (fun p=>pre p.1) (fun p q=>ok p.1 q.1) (fun p q=>F p.1 q.1) fun p q=>bx (Q' p.1 q.1) q.2 :: B p.1 q.1
theorem box_fam {C : Con δ} (hC : ConOk P f C) {X : α → List R} {Q : α → Heap → Prop} {pre : α → Prop} {ok : α → γ → Prop} {F : α → γ → R} {Q' : α → γ → Heap → Prop} {B : α → γ → Heap} (hX : ∀ p, (X p).all plR = true)
    (h : ∀ p, pre p → ∀ H, Q p H → ∃ d : δ, C.pre d ∧ C.H d = H ∧ C.X d = .t (.one (.ptr 0 0)) :: X p ∧ ∀ x h', C.post d x h' → ∃ q : γ, ok p q ∧ Left 1 0 x h' (Q' p q) [] (B p q) (F p q)) :
    ConOk P f (BxCon X Q pre ok F Q' B) := by
  refine ⟨hC.1, fun p hp ρ w vs hr hv => ?_⟩
  obtain ⟨H, e, c, k1, k2, k3, k4, k5, k6⟩ := bx_open hr (n := 0) (Q := Q p.1) (fg := p.2) rfl
  obtain ⟨d, d1, d2, d3, d4⟩ := h p.1 hp H k1
  have hrd : Rel e (C.H d) w := by rw [d2]; exact k4
  have hvd : All2 (DenR e) (C.X d) vs := by
    rw [d3]
    match vs, hv with
    | v :: vs, ⟨⟨b, o, hb, hb'⟩, hv⟩ =>
      refine ⟨⟨b, o, ?_, hb'⟩, plRs_den (hX _) hv⟩
      rw [k3, ← k2]; exact hb
  refine (hC.2 d d1 e w vs hrd hvd).mono fun ed w' ⟨v, he, x, ρ'', h'', q1, q2, q3, q4⟩ => ?_
  obtain ⟨q, q5, ⟨l, l2, Hm, Hb, s, Hr, g1, g2, g3, g4, g5, g6, g7, g8, g9⟩⟩ := d4 x h'' q1
  simp only [Bool.and_eq_true] at g3
  rw [d2] at q3
  have own0 : ∀ b, (∃ n, Owns e H n b) → ∃ n, Owns ρ [bx (Q p.1) p.2] n b := fun b hb => ⟨0, _, 0, rfl, trivial, (k5 b).2 hb⟩
  have still0 : ∀ b, Stills e H b → Gives [bx (Q p.1) p.2] b := fun b hb => ⟨0, _, _, _, rfl, (k6 b).2 hb⟩
  obtain ⟨fg, r1, r2⟩ := pack (ρs := ρ) (hs := [bx (Q p.1) p.2]) q2 (l := l) (l2 := l2) (A := []) (B := B p.1 q) (Q := Q' p.1 q) g3.1.1.1 g3.1.1.2 g4.1 g4.2 g1 g2 g3.1.2 g5 g6 g7 g8 q3 (fun n x hx => by
      cases n with
      | zero =>
        have : sig h'' l2 0 = 0 := by
          have g7 : l2[0]? = some 0 := g7
          simp [sig, g7]
        rw [this]
        rw [k2] at hx; rw [← hx]
        exact q3.sub 0 _ k3
      | succ n => rw [hr.fresh (n + 1) (.inr (Nat.le_add_left 1 n))] at hx; cases hx) own0
    (fun b ⟨n, pp, FF, GG, w1, w2⟩ => still0 b ⟨n, _, 0, w1, trivial, w2⟩) (fun b hb => ⟨0, _, 0, rfl, trivial, (k6 b).2 hb⟩) (.inl still0)
  exact ⟨v, he, F p.1 q, _, _, ⟨(q, fg), q5, rfl, rfl⟩, r1, r2, leR_ok g9 q4⟩
abbrev BxNew (X : α → List R) (H : α → Heap) (pre : α → Prop) (ok : α → γ → Prop) (F : α → γ → R) (Q' : α → γ → Heap → Prop) (A B : α → γ → Heap) : Con α :=
 FamCon (β:=γ × FG) X H pre (fun p q=>ok p q.1) (fun p q=>F p q.1) fun p q=>A p q.1 ++ bx (Q' p q.1) q.2 :: B p q.1
def StillBx (h : Heap) : Prop:=∀ (j : Nat) (ob0 : Ob),h[j]? = some (.ob ob0) → ob0.still → ∃ p F G,ob0 = .raw (.box p F G)
theorem box_new {C : Con δ} (hC : ConOk P f C) {X : α → List R} {H : α → Heap} {pre : α → Prop} {ok : α → γ → Prop} {F : α → γ → R} {Q' : α → γ → Heap → Prop} {A B : α → γ → Heap}
    (h : ∀ p, pre p → ∃ d : δ, C.pre d ∧ C.H d = H p ∧ C.X d = X p ∧ ∀ x h', C.post d x h' → ∃ q : γ, ok p q ∧ Left (H p).length (H p).length x h' (Q' p q) (A p q) (B p q) (F p q) ∧ StillBx (h'.drop (H p).length) ∧ (A p q).length = (H p).length) :
    ConOk P f (BxNew X H pre ok F Q' A B) := by
  refine ⟨hC.1, fun p hp ρ w vs hr hv => ?_⟩
  obtain ⟨d, d1, d2, d3, d4⟩ := h p hp
  have hrd : Rel ρ (C.H d) w := by rw [d2]; exact hr
  refine (hC.2 d d1 ρ w vs hrd (by rw [d3]; exact hv)).mono fun ed w' ⟨v, he, x, ρ'', h'', q1, q2, q3, q4⟩ => ?_
  obtain ⟨q, q5, ⟨l, l2, Hm, Hb, s, Hr, g1, g2, g3, g4, g5, g6, g7, g8, g9⟩, q6, q7⟩ := d4 x h'' q1
  simp only [Bool.and_eq_true] at g3
  rw [d2] at q3
  have hf := firstB_get g3.2
  simp only [Nat.zero_add] at hf
  obtain ⟨fg, r1, r2⟩ := pack (ρs := ρ) (hs := H p) q2 (l := l) (l2 := l2) (A := A p q) (B := B p q) (Q := Q' p q) g3.1.1.1 g3.1.1.2 g4.1 g4.2 g1 g2 g3.1.2 g5 g6 g7 g8 q3 (fun n x hx => by
      have hn : n < (H p).length := Nat.lt_of_not_le fun hge => by rw [hr.fresh n (.inr hge)] at hx; cases hx
      have : sig h'' l2 n = n := by simp [sig, hf n hn]
      rw [this]; exact q3.sub n x hx) (fun _ h => h) (fun _ h => h) (fun _ h => h)
    (.inr fun j ob0 hj h1 h2 => by
      have hge : (H p).length ≤ j := Nat.le_of_not_lt fun hlt => by
        have hne : j ≠ (A p q).length := by omega
        exact g8 j j hne (hf j hlt) hj
      exact q6 (j - (H p).length) ob0 (by rw [List.getElem?_drop, show (H p).length + (j - (H p).length) = j by omega]; exact h1) h2)
  exact ⟨v, he, F p q, _, _, ⟨(q, fg), q5, rfl, rfl⟩, r1, r2, leR_ok g9 q4⟩
end
theorem mrgGo_set {g : Nat → Nat} {n : Nat} {e0 e1 : HE} (he : roB e0 = false) : ∀ (h : Heap) (i : Nat),i ≤ n → mrgGo g [n] [e0] [e1] i h = h.set (n - i) (renHE g e1)
 | [],i,_=>by simp [mrgGo]
 | e :: h,i,hi=>by
  have hp : pickHE g e i [n] [e0] [e1] = if n = i then renHE g e1 else e:=by
   unfold pickHE
   rw [he]
   by_cases c : n = i
   ·subst c; simp
   ·have : Nat.beq n i = false:=by
     cases hb : Nat.beq n i with
     | true=>exact absurd (Nat.eq_of_beq_eq_true hb) c
     | false=>rfl
    rw [this,if_neg c]; simp [pickHE]
  simp only [mrgGo,hp]
  by_cases c : n = i
  ·subst c
   rw [if_pos rfl,Nat.sub_self,List.set_cons_zero]
   congr 1
   have key : ∀ (h : Heap) (i : Nat),n < i → mrgGo g [n] [e0] [e1] i h = h:=fun h=>by
    induction h with
    | nil=>intro i _; rfl
    | cons a h ih =>
     intro i hi
     have : Nat.beq n i = false:=by
      cases hb : Nat.beq n i with
      | true=>have:=Nat.eq_of_beq_eq_true hb; omega
      | false=>rfl
     have hq : pickHE g a i [n] [e0] [e1] = a:=by unfold pickHE; rw [this]; simp [pickHE]
     simp only [mrgGo,hq,ih (i + 1) (by omega)]
   exact key h (n + 1) (by omega)
  ·rw [if_neg c,mrgGo_set he h (i + 1) (by omega)]
   obtain ⟨k,hk⟩ : ∃ k,n - i = k + 1:=⟨n - i - 1,by omega⟩
   rw [hk,show n - (i + 1) = k by omega,List.set_cons_succ]
theorem mrg_set {g : Nat → Nat} {n : Nat} {e0 e1 : HE} {B : Heap} (he : roB e0 = false) (h : Heap) : mrg g h [n] [e0] (e1 :: B) = h.set n (renHE g e1) ++ B.map (renHE g):=by
 have e : ∀ (h : Heap) (i : Nat),mrgGo g [n] [e0] (e1 :: B) i h = mrgGo g [n] [e0] [e1] i h:=fun h=>by
  induction h with
  | nil=>intro i; rfl
  | cons a h ih=>intro i; simp only [mrgGo,ih,pickHE]
 simp only [mrg,e,mrgGo_set he h 0 (Nat.zero_le _),Nat.sub_zero,List.length_singleton,List.drop_succ_cons,List.drop_zero]
theorem hent_of {h : Heap} {k : HE → Prop} : ∀ {n : Nat} {e : HE},h[n]? = some e → k e → hentK h n k:=fun {n}=>by
 induction h generalizing n with
 | nil=>intro e h; simp at h
 | cons a h ih =>
  intro e he hk
  cases n with
  | zero=>simp at he; subst he; exact hk
  | succ n=>exact ih (by simpa using he) hk
theorem plR_leX {n : Nat} {g : Nat → Nat} {x : R} (h : plR x = true) (hx : ∃ t,x = .t t) : leX n g x x:=by
 obtain ⟨t,rfl⟩:=hx
 cases t with
 | one c=>cases c <;> first | exact .inl rfl | (simp [plR,plT] at h)
 | agg l =>
  have h : isPlain l = true:=h
  show leNs n g l l
  induction l with
  | nil=>trivial
  | cons a l ih =>
   cases a with
   | arr k f=>cases h
   | c x=>cases x <;> first | (cases h; done) | exact ⟨.inl rfl,ih h h⟩
def isT : R → Bool
 | .t _=>true
 | _=>false
theorem plRs_leX {n : Nat} {g : Nat → Nat} : ∀ {l : List R},(l.all plR && l.all isT) = true → leXs n g l l
 | [],_=>trivial
 | x :: l,h=>by
  simp only [List.all_cons,Bool.and_eq_true] at h
  refine ⟨plR_leX h.1.1 ?_,plRs_leX (by simp only [Bool.and_eq_true]; exact ⟨h.1.2,h.2.2⟩)⟩
  have:=h.2.1
  cases x <;> first | exact ⟨_,rfl⟩ | cases this
section
variable {α γ : Type}
theorem AskC.one {X : α → List R} {E E' : α → HE} {pre : α → Prop} {F : α → R} {h : Heap} {K : R → Heap → Prop} (p : α) (n : Nat) (hp : pre p) (hn : h[n]? = some (E p)) (ho : (obB (E p) && !roB (E p)) = true)
    (hX : ((X p).all plR && (X p).all isT && plR (F p)) = true) (hl : ∀ g, leHE g (E p) (E p)) (hr : ∀ g, renHE g (E' p) = E' p) (hk : K (F p) (h.set n (E' p))) :
    AskC (DetCon (fun p => .t (.one (.ptr 0 0)) :: X p) (fun p => [E p]) pre F fun p => [E' p]) (.t (.one (.ptr n 0)) :: X p) h K := by
  simp only [Bool.and_eq_true, Bool.not_eq_true'] at ho hX
  refine .det p [n] (F p) (h.set n (E' p)) hp (by simp [ho.1, sepB, sep1]) ⟨?_, trivial⟩ ⟨.inl rfl, plRs_leX (by rw [hX.1.1, hX.1.2]; rfl)⟩ (plR_ren hX.2) ?_ hk
  · have := hl (sig h [n])
    have hb := ho.1
    cases he : E p with
    | ob o => rw [he] at hn this; exact hent_of hn this
    | fresh => rw [he] at hb; cases hb
    | dead => rw [he] at hb; cases hb
  · rw [mrg_set ho.2, hr]; simp
theorem AskC.bx {X : α → List R} {Q : α → Heap → Prop} {pre : α → Prop} {ok : α → γ → Prop} {F : α → γ → R} {Q' : α → γ → Heap → Prop} {B : α → γ → Heap} {h : Heap} {K : R → Heap → Prop} (p : α) (fg : FG) (n : Nat) (hp : pre p)
    (hn : h[n]? = some (bx (Q p) fg)) (hX : ((X p).all plR && (X p).all isT) = true)
    (hk : ∀ q fg', ok p q → K (renR (back h [bx (Q p) fg] [n]) (F p q)) (h.set n (Eng.bx (Q' p q) fg') ++ (B p q).map (renHE (back h [Eng.bx (Q p) fg] [n])))) :
    AskC (BxCon X Q pre ok F Q' B) (.t (.one (.ptr n 0)) :: X p) h K := by
  refine .fam (p, fg) [n] (fun q => renR (back h [Eng.bx (Q p) fg] [n]) (F p q.1)) (fun q => h.set n (Eng.bx (Q' p q.1) q.2) ++ (B p q.1).map (renHE (back h [Eng.bx (Q p) fg] [n]))) hp (by simp [obB, sepB, sep1]) ⟨hent_of hn rfl, trivial⟩
    ⟨.inl rfl, plRs_leX hX⟩ (fun q => rfl) (fun q => ?_) fun q hq => hk q.1 q.2 hq
  rw [mrg_set rfl]; rfl
theorem AskC.bx0 {X : α → List R} {Q : α → Heap → Prop} {pre : α → Prop} {F : α → R} {Q' : α → Heap → Prop} {h : Heap} {K : R → Heap → Prop} (p : α) (fg : FG) (n : Nat) (hp : pre p)
    (hn : h[n]? = some (Eng.bx (Q p) fg)) (hX : ((X p).all plR && (X p).all isT && plR (F p)) = true) (hk : ∀ fg', K (F p) (h.set n (Eng.bx (Q' p) fg'))) :
    AskC (BxCon X Q pre (fun _ (_ : Unit) => True) (fun p _ => F p) (fun p _ => Q' p) fun _ _ => []) (.t (.one (.ptr n 0)) :: X p) h K := by
  simp only [Bool.and_eq_true] at hX
  refine .bx p fg n hp hn (by rw [hX.1.1, hX.1.2]; rfl) fun q fg' _ => ?_
  rw [plR_ren hX.2]
  simp only [List.map_nil, List.append_nil]
  exact hk fg'
end
theorem con_of_cx {α : Type} {P : Program} {f : FuncId} {o : Cx} (ho : CxOk P f o) {C : Con α} (hE : Enters P f) (h : ∀ p,C.pre p → o (C.X p) (C.H p) fun x h'=>Trim (C.H p).length x h' (C.post p)) : ConOk P f C:=by
 refine ⟨hE,fun p hp ρ w vs h1 h2=>((ho _ _ _ (h p hp)).2 ρ w vs h1 h2).mono fun e w' ⟨v,he,x,ρ',h',k1,k2,k3,k4⟩=>⟨v,he,trim_ok (fun m y hy=>?_) k2 k3 k4 k1⟩⟩
 exact Nat.lt_of_not_le fun hge=>by rw [h1.fresh m (.inr hge)] at hy; cases hy
section
variable {α : Type} {P : Program} {f : FuncId}
end
theorem renC_self (x : C) : renC (fun i=>i) x = x:=by
 cases x <;> first | rfl | (unfold renC; simp)
theorem leNs_self (n : Nat) : ∀ l : List Seg,leNs n (fun i=>i) l l
 | []=>trivial
 | .c x :: l=>⟨.inl (renC_self x).symm,leNs_self n l⟩
 | .arr k f :: l=>⟨⟨rfl,fun i _=>(renC_self (f i)).symm⟩,leNs_self n l⟩
theorem nilE_self (n : Nat) (x : HE) : nilE n x x:=by
 cases x with
 | ob o=>cases o with
  | own l=>exact leNs_self n l
  | ro a k f=>cases k <;> rfl
  | row a k f t=>rfl
  | raw r=>rfl
 | fresh=>rfl
 | dead=>rfl
theorem nilH_self (n : Nat) : ∀ H : Heap,nilH n H H
 | []=>trivial
 | x :: H=>⟨nilE_self n x,nilH_self n H⟩
section
variable {α γ : Type} {P : Program} {f : FuncId}
abbrev BsCon (X : α → List R) (H : α → Heap) (pre : α → Prop) (F : α → R) (H' : α → Heap) : Con (α × FG):=BxCon X (fun p G=>G = H p) pre (fun _ (_ : Unit)=>True) (fun p _=>F p) (fun p _ G=>G = H' p) fun _ _=>[]
theorem plR_leR {g : Nat → Nat} {x : R} (h : plR x = true) : leR g x x:=by
 cases x with
 | junk=>trivial
 | t x=>exact (plR_ren h).symm
 | tup l=>exact (plR_ren h).symm
theorem box_same {X : α → List R} {H H' : α → Heap} {pre : α → Prop} {F : α → R} (hC : ConOk P f (DetCon (fun p => .t (.one (.ptr 0 0)) :: X p) H pre F H')) (hX : ∀ p, ((X p).all plR && plR (F p)) = true) (l : List Nat) (hl : l[0]? = some 0)
    (hs : ∀ p, ∃ s Hr, H' p = .ob (.own s) :: Hr) (hb : ∀ p, ((H' p).all obB && sepB l (H' p)) = true) (hle : ∀ p, leH (sig (H' p) l) (H' p) l (H' p)) : ConOk P f (BsCon X H pre F H') := by
  refine box_fam hC (fun p => by have := hX p; simp only [Bool.and_eq_true] at this; exact this.1) fun p hp G hG => ?_
  subst hG
  refine ⟨p, hp, rfl, rfl, fun x h' ⟨e1, e2⟩ => ⟨(), trivial, ?_⟩⟩
  subst e1; subst e2
  obtain ⟨s, Hr, hs⟩ := hs p
  have hx := hX p
  have hb := hb p
  simp only [Bool.and_eq_true] at hx hb
  refine ⟨l, [0], H' p, H' p, s, Hr, rfl, hs, by rw [hb.1, hb.2]; rfl, ⟨hle p, nilH_self _ _⟩, ⟨trivial, trivial⟩, hl, rfl, fun i j hi hj => ?_, plR_leR hx.2⟩
  cases i with
  | zero => exact absurd rfl hi
  | succ i => simp at hj
theorem AskC.bs {X : α → List R} {H : α → Heap} {pre : α → Prop} {F : α → R} {H' : α → Heap} {h : Heap} {K : R → Heap → Prop} (p : α) (fg : FG) (n : Nat) (hp : pre p)
    (hn : h[n]? = some (Eng.bx (fun G => G = H p) fg)) (hX : ((X p).all plR && (X p).all isT && plR (F p)) = true) (hk : ∀ fg', K (F p) (h.set n (Eng.bx (fun G => G = H' p) fg'))) :
    AskC (BsCon X H pre F H') (.t (.one (.ptr n 0)) :: X p) h K := AskC.bx0 (Q := fun p G => G = H p) (Q' := fun p G => G = H' p) p fg n hp hn hX hk
abbrev ExCon {ε : Type} (X : α → List R) (H : α → ε → Heap) (pre : α → Prop) (F : α → R) (H' : α → ε → Heap) : Con (α × FG):=BxCon X (fun p G=>∃ e,G = H p e) pre (fun _ (_ : Unit)=>True) (fun p _=>F p) (fun p _ G=>∃ e,G = H' p e) fun _ _=>[]
theorem box_ex {ε : Type} {X : α → List R} {H H' : α → ε → Heap} {pre : α → Prop} {F : α → R} (hC : ConOk P f (DetCon (fun p : α × ε => .t (.one (.ptr 0 0)) :: X p.1) (fun p => H p.1 p.2) (fun p => pre p.1) (fun p => F p.1) fun p => H' p.1 p.2)) (hX : ∀ p, ((X p).all plR && plR (F p)) = true) (l : List Nat) (hl : l[0]? = some 0)
    (hs : ∀ p e, ∃ s Hr, H' p e = .ob (.own s) :: Hr) (hb : ∀ p e, ((H' p e).all obB && sepB l (H' p e)) = true) (hle : ∀ p e, leH (sig (H' p e) l) (H' p e) l (H' p e)) : ConOk P f (ExCon X H pre F H') := by
  refine box_fam hC (fun p => by have := hX p; simp only [Bool.and_eq_true] at this; exact this.1) fun p hp G hG => ?_
  obtain ⟨e, hG⟩ := hG
  subst hG
  refine ⟨(p, e), hp, rfl, rfl, fun x h' ⟨e1, e2⟩ => ⟨(), trivial, ?_⟩⟩
  subst e1; subst e2
  obtain ⟨s, Hr, hs⟩ := hs p e
  have hx := hX p
  have hb := hb p e
  simp only [Bool.and_eq_true] at hx hb
  refine ⟨l, [0], H' p e, H' p e, s, Hr, ⟨e, rfl⟩, hs, by rw [hb.1, hb.2]; rfl, ⟨hle p e, nilH_self _ _⟩, ⟨trivial, trivial⟩, hl, rfl, fun i j hi hj => ?_, plR_leR hx.2⟩
  cases i with
  | zero => exact absurd rfl hi
  | succ i => simp at hj
theorem AskC.ex {ε : Type} {X : α → List R} {H H' : α → ε → Heap} {pre : α → Prop} {F : α → R} {h : Heap} {K : R → Heap → Prop} (p : α) (fg : FG) (n : Nat) (hp : pre p)
    (hn : h[n]? = some (Eng.bx (fun G => ∃ e, G = H p e) fg)) (hX : ((X p).all plR && (X p).all isT && plR (F p)) = true) (hk : ∀ fg', K (F p) (h.set n (Eng.bx (fun G => ∃ e, G = H' p e) fg'))) :
    AskC (ExCon X H pre F H') (.t (.one (.ptr n 0)) :: X p) h K := AskC.bx0 (Q := fun p G => ∃ e, G = H p e) (Q' := fun p G => ∃ e, G = H' p e) p fg n hp hn hX hk
end
end Go.Eng
