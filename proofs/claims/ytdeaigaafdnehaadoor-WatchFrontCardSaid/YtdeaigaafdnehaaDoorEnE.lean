/- The engine, part E: loops by what they change; contracts over a local heap, used at any heap. -/
import Derived.Test.YtdeaigaafdnehaaDoorEnD
namespace Go.Eng
open Go
variable {d : Nat}

/-! ### Loops by what they change -/
def junkT : List Nat → Tr d → Tr d
  | [], r => r
  | t :: l, r => junkT l (r.set d t .junk)
def updT : List (Nat × R) → Tr d → Tr d
  | [], r => r
  | (t, x) :: l, r => updT l (r.set d t x)
theorem junkK_iff : ∀ (l : List Nat) (r : Tr d) (k : Tr d → Prop), junkK l r k ↔ (∀ t ∈ l, t < 2 ^ d) ∧ k (junkT l r)
  | [], r, k => by simp [junkK, junkT]
  | t :: l, r, k => by
    simp only [junkK, junkT, Tr.setK_iff, junkK_iff l, List.mem_cons, forall_eq_or_imp, and_assoc]
theorem updK_iff : ∀ (l : List (Nat × R)) (r : Tr d) (k : Tr d → Prop), updK l r k ↔ (∀ p ∈ l, p.1 < 2 ^ d) ∧ k (updT l r)
  | [], r, k => by simp [updK, updT]
  | (t, x) :: l, r, k => by
    simp only [updK, updT, Tr.setK_iff, updK_iff l, List.mem_cons, forall_eq_or_imp, and_assoc]
/-- A loop, by the temporaries that it changes: X says what they hold, the other ones that it assigns are forgotten. -/
theorem LoopGoal.at {n0 : Nat} {asg : List Nat} {round : Pt d} {r : Tr d} {h : Heap} {k : Ex → Tr d → Heap → Prop} {S : Type} (X : S → List (Nat × R)) (H : S → Heap) (m : S → Nat) (s0 : S)
    (h0 : junkK asg r fun r0 => updK (X s0) r0 fun r1 => Le n0 r h r1 (H s0))
    (hr : ∀ s, junkK asg r fun r0 => updK (X s) r0 fun r1 => round r1 (H s) fun e r' h' => match e with
      | .normal => ∃ s', m s' < m s ∧ junkK asg r fun r0 => updK (X s') r0 fun r1 => Le n0 r' h' r1 (H s')
      | e => k e r' h') : LoopGoal n0 asg round r h k := by
  have ha : ∀ t ∈ asg, t < 2 ^ d := ((junkK_iff _ _ _).1 h0).1
  simp only [junkK_iff, updK_iff] at h0 hr
  refine ⟨{ s : S // ∀ p ∈ X s, p.1 < 2 ^ d }, fun s => (updT (X s.1) (junkT asg r), H s.1), fun s => m s.1, ⟨s0, h0.2.1⟩, h0.2.2, fun s => ?_⟩
  have h1 := (hr s.1).2.2
  have e : (fun (e : Ex) (r' : Tr d) (h' : Heap) => match e with
      | .normal => ∃ s', m s' < m s.1 ∧ (∀ t ∈ asg, t < 2 ^ d) ∧ (∀ p ∈ X s', p.1 < 2 ^ d) ∧ Le n0 r' h' (updT (X s') (junkT asg r)) (H s')
      | e => k e r' h') = fun e r' h' => match e with
      | .normal => ∃ s' : { s : S // ∀ p ∈ X s, p.1 < 2 ^ d }, m s'.1 < m s.1 ∧ Le n0 r' h' (updT (X s'.1) (junkT asg r)) (H s'.1)
      | e => k e r' h' := by
    funext e r' h'
    cases e with
    | normal => exact propext ⟨fun ⟨s', q1, _, q3, q4⟩ => ⟨⟨s', q3⟩, q1, q4⟩, fun ⟨⟨s', q3⟩, q1, q4⟩ => ⟨s', q1, ha, q3, q4⟩⟩
    | _ => rfl
  rw [e] at h1
  exact h1
/-- The same where the heap stays. -/
theorem LoopGoal.ro {n0 : Nat} {asg : List Nat} {round : Pt d} {r : Tr d} {h : Heap} {k : Ex → Tr d → Heap → Prop} {S : Type} (X : S → List (Nat × R)) (m : S → Nat) (s0 : S)
    (h0 : junkK asg r fun r0 => updK (X s0) r0 fun r1 => Le n0 r h r1 h)
    (hr : ∀ s, junkK asg r fun r0 => updK (X s) r0 fun r1 => round r1 h fun e r' h' => match e with
      | .normal => ∃ s', m s' < m s ∧ junkK asg r fun r0 => updK (X s') r0 fun r1 => Le n0 r' h' r1 h
      | e => k e r' h') : LoopGoal n0 asg round r h k := .at X (fun _ => h) m s0 h0 hr
def iota : Nat → Nat → List Nat
  | _, 0 => []
  | i, n + 1 => i :: iota (i + 1) n
theorem iota_mem : ∀ {n i j : Nat}, j ∈ iota i n → i ≤ j
  | n + 1, i, j, h => by
    simp only [iota, List.mem_cons] at h
    rcases h with h | h
    · omega
    · have := iota_mem h; omega
theorem iota_nodup : ∀ (n i : Nat), nodupB (iota i n) = true
  | 0, _ => rfl
  | n + 1, i => by
    simp only [iota, nodupB, Bool.and_eq_true, Bool.not_eq_true', iota_nodup n (i + 1), and_true]
    rw [Bool.eq_false_iff]
    intro h
    have := iota_mem (List.contains_iff_mem.1 h)
    omega
theorem iota_first : ∀ (m n i : Nat), m ≤ n → firstB m i (iota i n) = true
  | 0, _, _, _ => by unfold firstB; rfl
  | m + 1, 0, i, h => by omega
  | m + 1, n + 1, i, h => by
    simp only [iota, firstB, Bool.and_eq_true]
    exact ⟨Nat.beq_refl i, iota_first m n (i + 1) (by omega)⟩
/-- The names stay; later ones are forgotten. -/
theorem Le.id {n0 : Nat} {r r' : Tr d} {h h' : Heap} (hn : Nat.ble n0 h'.length = true) (hH : leH (sig h (iota 0 h'.length)) h (iota 0 h'.length) h') (hT : leT (sig h (iota 0 h'.length)) d r r') : Le n0 r h r' h' :=
  ⟨⟨iota 0 h'.length, by rw [iota_nodup, iota_first _ _ _ (Nat.le_of_ble_eq_true hn)]; rfl, hH, hT⟩⟩

theorem leT_empty {g : Nat → Nat} : ∀ {d : Nat} {r : Tr d}, leT g d r (Tr.empty d)
  | 0, _ => trivial
  | _ + 1, _ => ⟨leT_empty, leT_empty⟩
/-! ### The heap under other names, seen in part -/
def roB : HE → Bool
  | .ob (.ro _ _ _) => true
  | .ob (.raw (.gl _ _)) => true
  | _ => false
def ro0B : HE → Bool
  | .ob (.ro _ 0 _) => true
  | _ => false
def obB : HE → Bool
  | .ob _ => true
  | _ => false
def sep1 (j : Nat) (e : HE) : List Nat → Heap → Bool
  | j' :: l, e' :: m => (!Nat.beq j j' || ((roB e && roB e') || (ro0B e || ro0B e'))) && sep1 j e l m
  | _, _ => true
def sepB : List Nat → Heap → Bool
  | j :: l, e :: m => sep1 j e l m && sepB l m
  | _, _ => true
theorem sep1_get {j : Nat} {e : HE} : ∀ {l : List Nat} {h : Heap}, sep1 j e l h = true → ∀ {n : Nat} {e' : HE}, l[n]? = some j → h[n]? = some e' → (roB e = true ∧ roB e' = true) ∨ ro0B e = true ∨ ro0B e' = true
  | [], _, _, n, _, h1, _ => by simp at h1
  | _ :: _, [], _, n, _, _, h2 => by simp at h2
  | j' :: l, e0 :: h, hs, n, e', h1, h2 => by
    simp only [sep1, Bool.and_eq_true, Bool.or_eq_true, Bool.not_eq_true'] at hs
    cases n with
    | zero =>
      simp at h1 h2; subst h1; subst h2
      rcases hs.1 with q | q | q
      · simp at q
      · exact .inl q
      · exact .inr q
    | succ n => exact sep1_get hs.2 (by simpa using h1) (by simpa using h2)
theorem sepB_get : ∀ {l : List Nat} {h : Heap}, sepB l h = true → ∀ {n m j : Nat} {e e' : HE}, n ≠ m → l[n]? = some j → l[m]? = some j → h[n]? = some e → h[m]? = some e' → (roB e = true ∧ roB e' = true) ∨ ro0B e = true ∨ ro0B e' = true
  | [], _, _, n, _, _, _, _, _, h1, _, _, _ => by simp at h1
  | _ :: _, [], _, n, _, _, _, _, _, _, _, h2, _ => by simp at h2
  | j0 :: l, e0 :: h, hs, n, m, j, e, e', hne, h1, h2, h3, h4 => by
    simp only [sepB, Bool.and_eq_true] at hs
    cases n with
    | zero =>
      simp at h1 h3; subst h1; subst h3
      cases m with
      | zero => exact absurd rfl hne
      | succ m => exact sep1_get hs.1 (by simpa using h2) (by simpa using h4)
    | succ n =>
      cases m with
      | zero =>
        simp at h2 h4; subst h2; subst h4
        rcases sep1_get hs.1 (n := n) (by simpa using h1) (by simpa using h3) with ⟨a, b⟩ | a | a
        · exact .inl ⟨b, a⟩
        · exact .inr (.inr a)
        · exact .inr (.inl a)
      | succ m => exact sepB_get hs.2 (n := n) (m := m) (by omega) (by simpa using h1) (by simpa using h2) (by simpa using h3) (by simpa using h4)
def back (h h' : Heap) (l : List Nat) (i : Nat) : Nat := match l[i]? with | some j => j | none => h.length + (i - h'.length)
def renOb (g : Nat → Nat) : Ob → Ob
  | .raw x => .raw x
  | .own l => .own (l.map (renSeg g))
  | .row sz n f tot => .row sz n (fun i => (f i).map (renC g)) tot
  | .ro sz n f => .ro sz n (fun i => (f i).map (renC g))
def renHE (g : Nat → Nat) : HE → HE
  | .ob (.ro _ _ _) => .dead
  | .ob (.raw (.gl _ _)) => .dead
  | .ob o => .ob (renOb g o)
  | e => e
def pickHE (g : Nat → Nat) (e : HE) (n : Nat) : List Nat → Heap → Heap → HE
  | j :: l, a :: h', b :: h'' => match Nat.beq j n && !roB a with | true => renHE g b | false => pickHE g e n l h' h''
  | _, _, _ => e
def mrgGo (g : Nat → Nat) (l : List Nat) (h' h'' : Heap) : Nat → Heap → Heap
  | _, [] => []
  | n, e :: h => pickHE g e n l h' h'' :: mrgGo g l h' h'' (n + 1) h
/-- The heap behind a call that saw it in part. -/
def mrg (g : Nat → Nat) (h : Heap) (l : List Nat) (h' h'' : Heap) : Heap := mrgGo g l h' h'' 0 h ++ (h''.drop h'.length).map (renHE g)
theorem mrgGo_get {g : Nat → Nat} {l : List Nat} {h' h'' : Heap} : ∀ (h : Heap) (i n : Nat), (mrgGo g l h' h'' i h)[n]? = (h[n]?).map fun e => pickHE g e (i + n) l h' h''
  | [], _, _ => by simp [mrgGo]
  | e :: h, i, 0 => by simp [mrgGo]
  | e :: h, i, n + 1 => by
    simp only [mrgGo, List.getElem?_cons_succ, mrgGo_get h (i + 1) n]
    rw [show i + 1 + n = i + (n + 1) by omega]
theorem mrgGo_len {g : Nat → Nat} {l : List Nat} {h' h'' : Heap} : ∀ (h : Heap) (i : Nat), (mrgGo g l h' h'' i h).length = h.length
  | [], _ => rfl
  | e :: h, i => by simp [mrgGo, mrgGo_len h (i + 1)]
theorem pick_get {g : Nat → Nat} {e : HE} {n : Nat} : ∀ {l : List Nat} {h' h'' : Heap}, l.length = h'.length → h'.length ≤ h''.length →
    (∃ (i : Nat) (a b : HE), l[i]? = some n ∧ h'[i]? = some a ∧ roB a = false ∧ h''[i]? = some b ∧ pickHE g e n l h' h'' = renHE g b) ∨ ((∀ (i : Nat) (a : HE), l[i]? = some n → h'[i]? = some a → roB a = true) ∧ pickHE g e n l h' h'' = e)
  | [], [], h'', _, _ => .inr ⟨fun i a h1 => by simp at h1, by unfold pickHE; rfl⟩
  | j :: l, a :: h', [], _, h => by simp at h
  | j :: l, a :: h', b :: h'', h1, h2 => by
    simp only [List.length_cons] at h1 h2
    unfold pickHE
    cases hc : (Nat.beq j n && !roB a) with
    | true =>
      simp only [Bool.and_eq_true, Bool.not_eq_true'] at hc
      have e1 := Nat.eq_of_beq_eq_true hc.1
      subst e1
      exact .inl ⟨0, a, b, rfl, rfl, hc.2, rfl, rfl⟩
    | false =>
      rcases pick_get (g := g) (e := e) (n := n) (l := l) (h' := h') (h'' := h'') (by omega) (by omega) with ⟨i, a', b', q1, q2, q3, q4, q5⟩ | ⟨q1, q2⟩
      · exact .inl ⟨i + 1, a', b', by simpa using q1, by simpa using q2, q3, by simpa using q4, q5⟩
      · refine .inr ⟨fun i a' h3 h4 => ?_, q2⟩
        cases i with
        | zero =>
          simp at h3 h4; subst h3; subst h4
          cases hr : roB a with
          | true => rfl
          | false => simp [hr] at hc
        | succ i => exact q1 i a' (by simpa using h3) (by simpa using h4)
  | [], _ :: _, _, h, _ => by simp at h
  | _ :: _, [], _, h, _ => by simp at h
section
variable {ρ ρ' : Env} {g : Nat → Nat} {w : World}
theorem den_back (hg : ∀ i x, ρ i = some x → ρ' (g i) = some x) {c : C} {v : Value} (h : Den ρ c v) : Den ρ' (renC g c) v := by
  cases c with
  | v y => exact h
  | ptr n off => obtain ⟨b, o, h1, h2⟩ := h; exact ⟨b, o, hg _ _ h1, h2⟩
  | ept n base sz i j => obtain ⟨b, o, h1, h2⟩ := h; exact ⟨b, o, hg _ _ h1, h2⟩
  | slc n base sz off len cap nl => obtain ⟨b, o, a, h1, h2⟩ := h; exact ⟨b, o, a, hg _ _ h1, h2⟩
  | mp n => obtain ⟨b, o, h1, h2⟩ := h; exact ⟨b, o, hg _ _ h1, h2⟩
  | ch n => obtain ⟨b, o, h1, h2⟩ := h; exact ⟨b, o, hg _ _ h1, h2⟩
  | fn f caps =>
    obtain ⟨as, h1, h2⟩ := h
    refine ⟨as, h1, ?_⟩
    clear h1
    induction caps generalizing as with
    | nil => cases as with
      | nil => trivial
      | cons _ _ => exact h2.elim
    | cons p l ih => cases as with
      | nil => exact h2.elim
      | cons a as =>
        obtain ⟨⟨b, o, q1, q2⟩, h3⟩ := h2
        exact ⟨⟨b, o, hg _ _ q1, q2⟩, ih as h3⟩
theorem all2_map {α : Type} {p q : α → Value → Prop} {f : α → α} (hp : ∀ a v, p a v → q (f a) v) : ∀ {l : List α} {vs : List Value}, All2 p l vs → All2 q (l.map f) vs
  | [], [], _ => trivial
  | a :: l, v :: vs, h => ⟨hp _ _ h.1, all2_map hp (l := l) h.2⟩
  | [], _ :: _, h => h.elim
  | _ :: _, [], h => h.elim
theorem denT_back (hg : ∀ i x, ρ i = some x → ρ' (g i) = some x) {x : T} {v : Value} (h : DenT ρ x v) : DenT ρ' (renT g x) v := by
  cases x with
  | one c => exact den_back hg h
  | agg l =>
    obtain ⟨vs, h1, h2⟩ := h
    refine ⟨vs, h1, ?_⟩
    rw [cells_ren]
    exact all2_map (p := Den ρ) (q := Den ρ') (f := renC g) (fun _ _ => den_back hg) h2
theorem denR_back (hg : ∀ i x, ρ i = some x → ρ' (g i) = some x) {x : R} {v : Value} (h : DenR ρ x v) : DenR ρ' (renR g x) v := by
  cases x with
  | junk => trivial
  | t x => exact denT_back hg h
  | tup l =>
    obtain ⟨vs, h1, h2⟩ := h
    exact ⟨vs, h1, all2_map (p := DenT ρ) (q := DenT ρ') (f := renT g) (fun _ _ => denT_back hg) h2⟩
theorem elems_back (hg : ∀ i x, ρ i = some x → ρ' (g i) = some x) {b o sz n : Nat} {f : Nat → List C} (h : Elems ρ w b o sz n f) : Elems ρ' w b o sz n fun i => (f i).map (renC g) := fun i hi => by
  obtain ⟨vs, h1, h2, h3⟩ := h i hi
  exact ⟨vs, all2_map (p := Den ρ) (q := Den ρ') (f := renC g) (fun _ _ => den_back hg) h1, h2, h3⟩
theorem relOb_back (hg : ∀ i x, ρ i = some x → ρ' (g i) = some x) {n : Nat} {ob : Ob} (h : RelOb ρ w n ob) : RelOb ρ' w (g n) (renOb g ob) := by
  cases ob with
  | raw x => obtain ⟨b, o, h1, h2, h3⟩ := h; exact ⟨b, o, hg _ _ h1, h2, h3⟩
  | own l =>
    obtain ⟨b, E, fz, arr, h1, h2, h3, h4⟩ := h
    refine ⟨b, E, fz, arr, hg _ _ h1, h2, h3, ?_⟩
    rw [cells_ren]
    exact all2_map (p := Den ρ) (q := Den ρ') (f := renC g) (fun _ _ => den_back hg) h4
  | row sz k f tot =>
    obtain ⟨⟨x, hx⟩, h0, h⟩ := h
    refine ⟨⟨x, hg _ _ hx⟩, h0, fun ht => ?_⟩
    obtain ⟨b, o, E, fz, arr, h1, h2, h3, h4, h5⟩ := h ht
    exact ⟨b, o, E, fz, arr, hg _ _ h1, h2, h3, h4, elems_back hg h5⟩
  | ro sz k f =>
    obtain ⟨b, o, h1, h2, h3⟩ := h
    exact ⟨b, o, hg _ _ h1, elems_back hg h2, h3⟩
theorem relOb_at {n : Nat} {ob : Ob} (h : RelOb ρ w n ob) : ∃ x, ρ n = some x := by
  cases ob with
  | raw x => obtain ⟨b, _, h1, _⟩ := h; exact ⟨_, h1⟩
  | own l => obtain ⟨b, _, _, _, h1, _⟩ := h; exact ⟨_, h1⟩
  | row sz k f tot => exact h.1
  | ro sz k f => obtain ⟨b, o, h1, _⟩ := h; exact ⟨_, h1⟩
theorem owned_ren {ob : Ob} : (renOb g ob).owned ↔ ob.owned := by cases ob <;> exact Iff.rfl
theorem owned_not_ro {ob : Ob} (h : ob.owned) : roB (.ob ob) = false := by
  cases ob with
  | raw x => cases x <;> first | rfl | exact h.elim
  | ro _ _ _ => exact h.elim
  | _ => rfl
end
/-- The heap seen in part, and what a run there does to the whole. -/
theorem frame_ok {ρ : Env} {h : Heap} {w : World} (hr : Rel ρ h w) {l : List Nat} {h' : Heap} (hl : leH (sig h l) h l h') (hob : h'.all obB = true) (hsep : sepB l h' = true) :
    Rel (fun i => ρ (sig h l i)) h' w ∧ ∀ ρ'' h'' w', Rel ρ'' h'' w' → Grow (fun i => ρ (sig h l i)) h' w ρ'' h'' w' →
      ∃ ρo, Rel ρo (mrg (back h h' l) h l h' h'') w' ∧ Grow ρ h w ρo (mrg (back h h' l) h l h' h'') w' ∧ ∀ i x, ρ'' i = some x → ρo (back h h' l i) = some x := by
  obtain ⟨hlen, hget⟩ := leH_get hl
  have at_ : ∀ {n j : Nat}, l[n]? = some j → sig h l n = j := fun {n j} e => by simp [sig, e]
  have isob : ∀ {n : Nat} {e : HE}, h'[n]? = some e → ∃ ob, e = .ob ob := fun {n e} he => by
    have := List.all_eq_true.1 hob e (List.mem_of_getElem? he)
    cases e with
    | ob o => exact ⟨o, rfl⟩
    | _ => cases this
  have out : ∀ {n : Nat} {ob : Ob}, h'[n]? = some (.ob ob) → ∃ j ob0, l[n]? = some j ∧ h[j]? = some (.ob ob0) ∧ leHE (sig h l) (.ob ob0) (.ob ob) := fun {n ob} hn => by
    obtain ⟨j, x, e1, e2, e3⟩ := hget n _ hn (by simp)
    obtain ⟨ob0, rfl, _⟩ := leHE_ob e3
    exact ⟨j, ob0, e1, e2, e3⟩
  have loc : ∀ {n : Nat} {ob : Ob}, h'[n]? = some (.ob ob) → RelOb (fun i => ρ (sig h l i)) w n ob := fun {n ob} hn => by
    obtain ⟨j, ob0, e1, e2, e3⟩ := out hn
    obtain ⟨ob1, q1, _, _, k3⟩ := leHE_ob e3
    injection q1 with q1; subst q1
    exact k3 (fun _ => rfl) (by simp [at_ e1]) (hr.obs j ob0 e2)
  have own : ∀ {n b}, Owns (fun i => ρ (sig h l i)) h' n b → ∃ j, l[n]? = some j ∧ Owns ρ h j b := fun {n b} ⟨ob, o, h1, h2, h3⟩ => by
    obtain ⟨j, ob0, e1, e2, e3⟩ := out h1
    obtain ⟨ob1, q1, k1, _⟩ := leHE_ob e3
    injection q1 with q1; subst q1
    exact ⟨j, e1, ob0, o, e2, k1 h2, by simpa [at_ e1] using h3⟩
  have oro : ∀ {n b}, Owns (fun i => ρ (sig h l i)) h' n b → ∃ e, h'[n]? = some e ∧ roB e = false := fun {n b} ⟨ob, o, h1, h2, h3⟩ => ⟨_, h1, owned_not_ro h2⟩
  have ro0 : ∀ {e : HE}, roB e = false → ro0B e = false := fun {e} he => by
    cases e with
    | ob o =>
      cases o with
      | ro _ _ _ => cases he
      | raw x => rfl
      | _ => rfl
    | _ => rfl
  have hrl : Rel (fun i => ρ (sig h l i)) h' w := by
    refine ⟨fun n hn => ?_, fun n ob hn => loc hn, fun n m b hn hm => ?_, fun n m b o ob hn hm hk hc => ?_⟩
    · rcases hn with hn | hn
      · obtain ⟨ob, e⟩ := isob hn; cases e
      · show ρ (sig h l n) = none
        have : l[n]? = none := List.getElem?_eq_none (by omega)
        simp only [sig, this]
        exact hr.fresh _ (.inr (Nat.le_refl _))
    · obtain ⟨j1, e1, o1⟩ := own hn
      obtain ⟨j2, e2, o2⟩ := own hm
      obtain ⟨a1, q1, r1⟩ := oro hn
      obtain ⟨a2, q2, r2⟩ := oro hm
      have := hr.inj j1 j2 b o1 o2
      subst this
      refine Classical.byContradiction fun hne => ?_
      rcases sepB_get hsep hne e1 e2 q1 q2 with ⟨p, _⟩ | p | p
      · rw [r1] at p; cases p
      · rw [ro0 r1] at p; cases p
      · rw [ro0 r2] at p; cases p
    · obtain ⟨j1, e1, o1⟩ := own hn
      obtain ⟨a1, q1, r1⟩ := oro hn
      obtain ⟨j, ob0, p1, p2, p3⟩ := out hm
      obtain ⟨ob1, x1, _, k2, _⟩ := leHE_ob p3
      injection x1 with x1; subst x1
      rcases k2 hk with hs | hown
      · exact hr.apart j1 j b o _ o1 p2 hs (by simpa [at_ p1] using hc)
      · have o2 : Owns ρ h j b := ⟨ob0, o, p2, hown _ _ _ (hr.obs j ob0 p2), by simpa [at_ p1] using hc⟩
        have e := hr.inj j1 j b o1 o2
        subst e
        have hne : n ≠ m := by
          rintro rfl
          obtain ⟨ob1, _, w1, w2, _⟩ := hn
          rw [hm] at w1
          injection w1 with w1; injection w1 with w1
          subst w1
          exact Ob.owned_still w2 hk
        rcases sepB_get hsep hne e1 p1 q1 hm with ⟨p, _⟩ | p | p
        · rw [r1] at p; cases p
        · rw [ro0 r1] at p; cases p
        · cases ob with
          | ro sz k f =>
            cases k with
            | zero => exact hk rfl
            | succ k => cases p
          | _ => cases p
  refine ⟨hrl, fun ρ'' h'' w' hr'' hG => ?_⟩
  have located : ∀ {i : Nat}, i < h'.length → ∃ x, ρ (sig h l i) = some x ∧ ρ'' i = some x := fun {i} hi => by
    obtain ⟨ob, e⟩ := isob (List.getElem?_eq_getElem hi)
    obtain ⟨x, hx⟩ := relOb_at (loc ((List.getElem?_eq_getElem hi).trans (by rw [e])))
    exact ⟨x, hx, hG.sub i x hx⟩
  have hle : h'.length ≤ h''.length := by
    refine Nat.le_of_not_lt fun hlt => ?_
    obtain ⟨x, _, h2⟩ := located (i := h''.length) hlt
    rw [hr''.fresh _ (.inr (Nat.le_refl _))] at h2; cases h2
  have jlt : ∀ {i j : Nat}, l[i]? = some j → j < h.length := fun {i j} hi => by
    have hi' : i < h'.length := by have := (List.getElem?_eq_some_iff.1 hi).1; omega
    obtain ⟨ob, e⟩ := isob (List.getElem?_eq_getElem hi')
    obtain ⟨j', ob0, e1, e2, _⟩ := out ((List.getElem?_eq_getElem hi').trans (by rw [e]))
    rw [hi] at e1; injection e1 with e1; subst e1
    exact (List.getElem?_eq_some_iff.1 e2).1
  let g := back h h' l
  let ρo : Env := fun n => if n < h.length then ρ n else ρ'' (h'.length + (n - h.length))
  have gin : ∀ {i : Nat}, i < h'.length → ∃ j, l[i]? = some j ∧ g i = j := fun {i} hi => by
    have hi' : i < l.length := by omega
    exact ⟨_, List.getElem?_eq_getElem hi', by simp [g, back, List.getElem?_eq_getElem hi']⟩
  have gout : ∀ {i : Nat}, h'.length ≤ i → g i = h.length + (i - h'.length) := fun {i} hi => by
    have : l[i]? = none := List.getElem?_eq_none (by omega)
    simp [g, back, this]
  have hg : ∀ i x, ρ'' i = some x → ρo (g i) = some x := fun i x hx => by
    rcases Nat.lt_or_ge i h'.length with c | c
    · obtain ⟨j, e1, e2⟩ := gin c
      obtain ⟨y, h1, h2⟩ := located c
      rw [hx] at h2; injection h2 with h2; subst h2
      rw [at_ e1] at h1
      rw [e2]
      simp only [ρo, if_pos (jlt e1)]
      exact h1
    · rw [gout c]
      simp only [ρo]
      rw [if_neg (by omega), show h'.length + (h.length + (i - h'.length) - h.length) = i by omega]
      exact hx
  -- what lies where
  have mget : ∀ n : Nat, (mrg g h l h' h'')[n]? = if n < h.length then (h[n]?).map (fun e => pickHE g e n l h' h'') else (h''[h'.length + (n - h.length)]?).map (renHE g) := fun n => by
    unfold mrg
    split
    · rename_i c
      rw [List.getElem?_append_left (by rw [mrgGo_len]; exact c), mrgGo_get, Nat.zero_add]
    · rename_i c
      rw [List.getElem?_append_right (by rw [mrgGo_len]; omega), mrgGo_len, List.getElem?_map, List.getElem?_drop]
  have cls : ∀ {n : Nat} {e : HE}, (mrg g h l h' h'')[n]? = some e →
      (∃ (i : Nat) (b : HE), g i = n ∧ h''[i]? = some b ∧ e = renHE g b ∧ (∃ x, ρ'' i = some x → ρo n = ρ'' i) ∧ (i < h'.length → ∃ a : HE, h'[i]? = some a ∧ roB a = false)) ∨
      (n < h.length ∧ h[n]? = some e ∧ ρo n = ρ n ∧ ∀ (i : Nat) (a : HE), l[i]? = some n → h'[i]? = some a → roB a = true) := fun {n e} he => by
    rw [mget] at he
    split at he
    · rename_i c
      have hn := List.getElem?_eq_getElem c
      rw [hn] at he
      simp only [Option.map_some, Option.some.injEq] at he
      rcases pick_get (g := g) (e := h[n]) (n := n) hlen hle with ⟨i, a, b, q1, q2, q3, q4, q5⟩ | ⟨q1, q2⟩
      · left
        have hi : i < h'.length := (List.getElem?_eq_some_iff.1 q2).1
        obtain ⟨j, e1, e2⟩ := gin hi
        rw [q1] at e1; injection e1 with e1; subst e1
        obtain ⟨x, _, hx⟩ := located hi
        exact ⟨i, b, e2, q4, by rw [← he, q5], ⟨x, fun _ => by rw [← e2, hx]; exact hg i x hx⟩, fun _ => ⟨a, q2, q3⟩⟩
      · right
        exact ⟨c, by rw [hn, ← he, q2], by simp only [ρo, if_pos c], q1⟩
    · rename_i c
      left
      obtain ⟨b, h1, h2⟩ := Option.map_eq_some_iff.1 he
      refine ⟨_, b, ?_, h1, h2.symm, ⟨(0, 0), fun _ => by simp only [ρo, if_neg c]⟩, fun hlt => by omega⟩
      rw [gout (by omega)]; omega
  have ren_ob : ∀ {b : HE} {ob : Ob}, HE.ob ob = renHE g b → ∃ ob', b = .ob ob' ∧ ob = renOb g ob' ∧ roB b = false := fun {b ob} e => by
    cases b with
    | ob o =>
      cases o with
      | raw x => cases x <;> first | (simp only [renHE] at e; cases e; done) | (simp only [renHE] at e; injection e with e; exact ⟨_, rfl, e, rfl⟩)
      | _ => first | (simp only [renHE] at e; cases e; done) | (simp only [renHE] at e; injection e with e; exact ⟨_, rfl, e, rfl⟩)
    | _ => cases e
  -- no local owner of what an outer one looks at
  have nol : ∀ {n : Nat} {ob : Ob} {b o : Nat}, n < h.length → h[n]? = some (.ob ob) → ob.looks → ρ n = some (b, o) → (∀ (i : Nat) (a : HE), l[i]? = some n → h'[i]? = some a → roB a = true) → ∀ m, ¬ Owns (fun i => ρ (sig h l i)) h' m b := fun {n ob b o} hn hob' hlk hb hro m hm => by
    obtain ⟨j, e1, o1⟩ := own hm
    obtain ⟨a, q1, q2⟩ := oro hm
    have fin : Owns ρ h n b → False := fun o2 => by
      have := hr.inj j n b o1 o2
      subst this
      rw [hro m a e1 q1] at q2; cases q2
    rcases Ob.look_cases hlk with hlk | hlk
    · exact fin ⟨_, _, hob', hlk, hb⟩
    · exact hr.apart j n b o _ o1 hob' hlk hb
  have owl : ∀ {n b : Nat}, Owns ρo (mrg g h l h' h'') n b → (∃ i, g i = n ∧ Owns ρ'' h'' i b) ∨ (n < h.length ∧ Owns ρ h n b ∧ ∀ (i : Nat) (a : HE), l[i]? = some n → h'[i]? = some a → roB a = true) := fun {n b} ⟨ob, o, h1, h2, h3⟩ => by
    rcases cls h1 with ⟨i, b', q1, q2, q3, q4, q5⟩ | ⟨q1, q2, q3, q4⟩
    · left
      obtain ⟨ob', rfl, rfl, _⟩ := ren_ob q3
      obtain ⟨x, hx⟩ := relOb_at (hr''.obs i ob' q2)
      have := hg i x hx
      rw [q1, h3] at this
      injection this with this
      subst this
      exact ⟨i, q1, ob', o, q2, owned_ren.1 h2, hx⟩
    · right
      rw [q3] at h3
      exact ⟨q1, ⟨ob, o, q2, h2, h3⟩, q4⟩
  have looksO : ∀ {ob : Ob}, ob.owned → ob.looks := fun {ob} ho => Ob.owned_looks ho
  have outn : ∀ {n m b : Nat}, (∃ i, g i = n ∧ Owns ρ'' h'' i b) → n = n → m < h.length → (∀ (ob : Ob) (o : Nat), h[m]? = some (.ob ob) → ob.looks → ρ m = some (b, o) → (∀ (i : Nat) (a : HE), l[i]? = some m → h'[i]? = some a → roB a = true) → False) := fun {n m b} ⟨i, _, o1⟩ _ hm ob o h1 h2 h3 h4 => by
    rcases hG.made i b o1 with ⟨m', o2⟩ | hge
    · exact nol hm h1 h2 h3 h4 m' o2
    · have := hr.looks_lt h1 h2 h3; omega
  refine ⟨ρo, ⟨fun n hn => ?_, fun n ob hn => ?_, fun n m b hn hm => ?_, fun n m b o ob hn hm hk hc => ?_⟩, ⟨fun n x hx => ?_, hG.os, hG.tape, hG.output, hG.frozen, hG.size, fun b hb hno => ?_, fun n b ho => ?_⟩, hg⟩
  · rcases hn with hn | hn
    · rcases cls hn with ⟨i, b', q1, q2, q3, q4, q5⟩ | ⟨q1, q2, q3, q4⟩
      · have hb' : b' = .fresh := by
          cases b' with
          | ob o =>
            cases o with
            | raw x => cases x <;> cases q3
            | _ => cases q3
          | fresh => rfl
          | dead => cases q3
        subst hb'
        have hnone := hr''.fresh i (.inl q2)
        have hi : h'.length ≤ i := Nat.le_of_not_lt fun hlt => by
          obtain ⟨x, _, h2⟩ := located hlt; rw [hnone] at h2; cases h2
        have := gout hi
        rw [q1] at this
        simp only [ρo]
        rw [if_neg (by omega), show h'.length + (n - h.length) = i by omega]
        exact hnone
      · rw [q3]; exact hr.fresh n (.inl q2)
    · simp only [mrg, List.length_append, mrgGo_len, List.length_map, List.length_drop] at hn
      simp only [ρo]
      rw [if_neg (by omega)]
      exact hr''.fresh _ (.inr (by omega))
  · rcases cls hn with ⟨i, b', q1, q2, q3, q4, q5⟩ | ⟨q1, q2, q3, q4⟩
    · obtain ⟨ob', rfl, rfl, _⟩ := ren_ob q3
      rw [← q1]
      exact relOb_back hg (hr''.obs i ob' q2)
    · have hsub : ∀ x, ρ n = some x → ρo n = some x := fun x hx => by rw [q3]; exact hx
      have key : ∀ b o, ρ n = some (b, o) → ob.looks → w'.heap[b]? = w.heap[b]? := fun b o hb hlk => hG.keep b (hr.looks_lt q2 hlk hb) (nol q1 q2 hlk hb q4)
      have h0 := (hr.obs n ob q2).keep (Sub.refl _) hG.size key
      have hsub' : Sub ρ ρo := fun m x hx => by
        have hm : m < h.length := Nat.lt_of_not_le fun hge => by rw [hr.fresh m (.inr hge)] at hx; cases hx
        simp only [ρo, if_pos hm]; exact hx
      exact (hr.obs n ob q2).keep hsub' hG.size key
  · rcases owl hn with ⟨i, e1, o1⟩ | ⟨c1, o1, r1⟩ <;> rcases owl hm with ⟨j, e2, o2⟩ | ⟨c2, o2, r2⟩
    · rw [← e1, ← e2, hr''.inj i j b o1 o2]
    · obtain ⟨ob, o, k1, k2, k3⟩ := o2
      exact (outn ⟨i, e1, o1⟩ rfl c2 ob o k1 (looksO k2) k3 r2).elim
    · obtain ⟨ob, o, k1, k2, k3⟩ := o1
      exact (outn ⟨j, e2, o2⟩ rfl c1 ob o k1 (looksO k2) k3 r1).elim
    · exact hr.inj n m b o1 o2
  · rcases cls hm with ⟨i, b', q1, q2, q3, q4, q5⟩ | ⟨q1, q2, q3, q4⟩
    · obtain ⟨ob', rfl, e, r⟩ := ren_ob q3
      subst e
      cases ob' with
      | raw x => cases x <;> first | cases r; done | exact absurd trivial hk
      | ro _ _ _ => cases r
      | own _ => exact hk.elim
      | row _ _ _ _ => exact hk.elim
    · rw [q3] at hc
      rcases owl hn with ⟨i, e1, o1⟩ | ⟨c1, o1, r1⟩
      · exact outn ⟨i, e1, o1⟩ rfl q1 _ o q2 (Ob.still_looks hk) hc q4
      · exact hr.apart n m b o ob o1 q2 hk hc
  · have hm : n < h.length := Nat.lt_of_not_le fun hge => by rw [hr.fresh n (.inr hge)] at hx; cases hx
    simp only [ρo, if_pos hm]; exact hx
  · exact hG.keep b hb fun m hm => by obtain ⟨j, _, o1⟩ := own hm; exact hno j o1
  · rcases owl ho with ⟨i, e1, o1⟩ | ⟨c1, o1, r1⟩
    · rcases hG.made i b o1 with ⟨m, o2⟩ | hge
      · obtain ⟨j, _, o3⟩ := own o2
        exact .inl ⟨j, o3⟩
      · exact .inr hge
    · exact .inl ⟨n, o1⟩
end Go.Eng
