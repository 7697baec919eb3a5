/- The engine, part G: a law's arguments, as they come in, opened for the walk; a law's row out of its walk. -/
import Derived.Test.YtdeaigaafdnehaaDoorEnF
import Derived.Deep.Slices
import Derived.Deep.Fields
import Derived.ReadAgain
import Derived.ChangeSame
import Derived.ProofKit
import Derived.WalkKit
import Derived.OpenShut
namespace Go.Eng
open Go Go.ChangeShapes Go.WideShapes Go.RowKit Go.Deep
variable {d : Nat}
/-- A cell's kind. -/
inductive Ck where
  | int (k : IntKind)
  | bool
  | str
/-- A field: a cell, or a slice of elements of some cells each. -/
inductive Sh where
  | c (k : Ck)
  | s (l : List Ck)
/-- A parameter. -/
inductive Pa where
  | one (s : Sh)
  | agg (l : List Sh)
/-- What came in for a field. -/
inductive Da where
  | c (v : Value)
  | s (len cap : Nat) (nl : Bool) (F : Nat → List Value)
def okW : Ck → Value → Prop
  | .int k, .int k' n => k' = k ∧ (Lit.int k n).wf = true
  | .bool, .bool _ => True
  | .str, .string s => s.size ≤ maxLen
  | _, _ => False
def valI : Value → Int
  | .int _ n => n
  | _ => 0
def valB : Value → Bool
  | .bool b => b
  | _ => false
def valS : Value → ByteArray
  | .string s => s
  | _ => .empty
def tyC : Ck → Value → C
  | .int k, v => .v (.int k (valI v))
  | .bool, v => .v (.bool (valB v))
  | .str, v => .v (.string (valS v))
def tyCs : List Ck → List Value → List C
  | [], _ => []
  | c :: l, vs => tyC c (vs.headD undef) :: tyCs l vs.tail
theorem den_ty {ρ : Env} {c : Ck} {v : Value} (h : okW c v) : Den ρ (tyC c v) v := by
  cases c <;> cases v <;> first | exact h.elim | skip
  · obtain ⟨rfl, _⟩ := h; exact ⟨rfl, trivial⟩
  · exact ⟨rfl, trivial⟩
  · exact ⟨rfl, trivial⟩
theorem den_tys {ρ : Env} : ∀ {l : List Ck} {vs : List Value}, All2 okW l vs → All2 (Den ρ) (tyCs l vs) vs
  | [], [], _ => trivial
  | c :: l, v :: vs, h => ⟨den_ty h.1, den_tys h.2⟩
  | [], _ :: _, h => h.elim
  | _ :: _, [], h => h.elim
theorem tyCs_len : ∀ (l : List Ck) (vs : List Value), (tyCs l vs).length = l.length
  | [], _ => rfl
  | c :: l, vs => by simp [tyCs, tyCs_len l]
def ckB (P : Program) (t : TypeId) : Ck → Bool
  | .int k => match P.underlying t with | some (.int k') => kindEq k k' | _ => false
  | .bool => match P.underlying t with | some .bool => true | _ => false
  | .str => match P.underlying t with | some .string => true | _ => false
def fsB (P : Program) : List Field → List Ck → Bool
  | [], [] => true
  | f :: fs, c :: l => ckB P f.type c && fsB P fs l
  | _, _ => false
def elB (P : Program) (e : TypeId) (l : List Ck) : Bool :=
  match P.underlying e with
  | some (.struct fs) => oneCellFields P fs && (Nat.beq (P.cellsOf e) l.length && (Nat.beq fs.size l.length && (fsB P fs.toList l && Nat.blt 0 l.length)))
  | _ => match l with | [c] => ckB P e c && Nat.beq (P.cellsOf e) 1 | _ => false
def shB (P : Program) (t : TypeId) : Sh → Bool
  | .c k => ckB P t k
  | .s l => match P.underlying t with | some (.slice e) => elB P e l | _ => false
def fshB (P : Program) : List Field → List Sh → Bool
  | [], [] => true
  | f :: fs, c :: l => shB P f.type c && fshB P fs l
  | _, _ => false
def paB (P : Program) (t : TypeId) : Pa → Bool
  | .one s => shB P t s
  | .agg l => match P.underlying t with | some (.struct fs) => oneCellFields P fs && (Nat.beq (P.cellsOf t) l.length && (Nat.beq fs.size l.length && fshB P fs.toList l)) | _ => false
def pasB (P : Program) : List TypeId → List Pa → Bool
  | [], [] => true
  | t :: ts, p :: ps => paB P t p && pasB P ts ps
  | _, _ => false
def OkDa : Sh → Da → Prop
  | .c k, .c v => okW k v
  | .s l, .s len cap nl F => len ≤ cap ∧ cap ≤ maxLen ∧ (nl = true → cap = 0) ∧ ∀ i, i < len → All2 okW l (F i)
  | _, _ => False
def c1 (nm : Nat) : Sh → Da → C
  | .c k, .c v => tyC k v
  | .s l, .s len cap nl _ => .slc nm 0 l.length 0 len cap nl
  | _, _ => .v undef
def cs : Nat → List Sh → List Da → List C
  | nm, .c k :: l, x :: m => c1 nm (.c k) x :: cs nm l m
  | nm, .s k :: l, x :: m => c1 nm (.s k) x :: cs (nm + 1) l m
  | _, _, _ => []
def hs : List Sh → List Da → Heap
  | .s k :: l, .s len _ _ F :: m => .ob (.ro k.length len fun i => tyCs k (F i)) :: hs l m
  | .c _ :: l, _ :: m => hs l m
  | _, _ => []
def shsOf : Pa → List Sh
  | .one s => [s]
  | .agg l => l
def xP (nm : Nat) : Pa → List Da → R
  | .one s, x :: _ => .t (.one (c1 nm s x))
  | .one _, [] => .junk
  | .agg l, m => .t (.agg (segs (cs nm l m)))
def xsP : Nat → List Pa → List (List Da) → List R
  | nm, p :: ps, x :: xs => xP nm p x :: xsP (nm + (hs (shsOf p) x).length) ps xs
  | _, _, _ => []
def hsP : List Pa → List (List Da) → Heap
  | p :: ps, x :: xs => hs (shsOf p) x ++ hsP ps xs
  | _, _ => []
def OkAll : List Pa → List (List Da) → Prop
  | [], [] => True
  | p :: ps, x :: xs => All2 OkDa (shsOf p) x ∧ OkAll ps xs
  | _, _ => False
/-! ### Opening -/
/-- What the heap's entries need of the world, at the places locs. -/
def Lies (w : World) : Heap → List (Nat × Nat) → Prop
  | [], [] => True
  | .ob (.ro sz n f) :: h, (b, o) :: l => (Elems none' w b o sz n f ∧ (n ≠ 0 → b < w.heap.size)) ∧ Lies w h l
  | _, _ => False
theorem Lies.append {w : World} : ∀ {h h' : Heap} {l l' : List (Nat × Nat)}, Lies w h l → Lies w h' l' → Lies w (h ++ h') (l ++ l')
  | [], _, [], _, _, h2 => h2
  | .ob (.ro _ _ _) :: _, _, (_, _) :: _, _, h1, h2 => ⟨h1.1, Lies.append h1.2 h2⟩
  | [], _, _ :: _, _, h, _ => h.elim
  | .ob (.ro _ _ _) :: _, _, [], _, h, _ => h.elim
  | .ob (.own _) :: _, _, _, _, h, _ => by cases h
  | .ob (.raw _) :: _, _, _, _, h, _ => by cases h
  | .ob (.row _ _ _ _) :: _, _, _, _, h, _ => by cases h
  | .fresh :: _, _, _, _, h, _ => by cases h
  | .dead :: _, _, _, _, h, _ => by cases h
theorem Lies.length {w : World} : ∀ {h : Heap} {l : List (Nat × Nat)}, Lies w h l → h.length = l.length
  | [], [], _ => rfl
  | .ob (.ro _ _ _) :: _, (_, _) :: _, h => by simp [Lies.length h.2]
  | [], _ :: _, h => h.elim
  | .ob (.ro _ _ _) :: _, [], h => h.elim
  | .ob (.own _) :: _, _, h => by cases h
  | .ob (.raw _) :: _, _, h => by cases h
  | .ob (.row _ _ _ _) :: _, _, h => by cases h
  | .fresh :: _, _, h => by cases h
  | .dead :: _, _, h => by cases h
theorem Lies.get {w : World} : ∀ {h : Heap} {l : List (Nat × Nat)}, Lies w h l → ∀ {n : Nat} {e : HE}, h[n]? = some e → ∃ sz k f b o, e = .ob (.ro sz k f) ∧ l[n]? = some (b, o) ∧ Elems none' w b o sz k f ∧ (k ≠ 0 → b < w.heap.size)
  | [], [], _, n, _, he => by simp at he
  | .ob (.ro sz k f) :: _, (b, o) :: _, h, n, e, he => by
    cases n with
    | zero => simp at he; subst he; exact ⟨sz, k, f, b, o, rfl, rfl, h.1⟩
    | succ n => simpa using Lies.get h.2 (n := n) (by simpa using he)
  | [], _ :: _, h, _, _, _ => h.elim
  | .ob (.ro _ _ _) :: _, [], h, _, _, _ => h.elim
  | .ob (.own _) :: _, _, h, _, _, _ => by cases h
  | .ob (.raw _) :: _, _, h, _, _, _ => by cases h
  | .ob (.row _ _ _ _) :: _, _, h, _, _, _ => by cases h
  | .fresh :: _, _, h, _, _, _ => by cases h
  | .dead :: _, _, h, _, _, _ => by cases h
theorem none_sub (ρ : Env) : Sub none' ρ := fun _ _ h => by cases h
theorem rel_lies {w : World} {h : Heap} {l : List (Nat × Nat)} (hl : Lies w h l) : Rel (fun n => l[n]?) h w := by
  refine ⟨fun n hn => ?_, fun n ob hn => ?_, fun n m b ⟨ob, o, h1, h2, _⟩ => ?_, fun n m b o ob2 ⟨ob, o', h1, h2, _⟩ => ?_⟩
  · rcases hn with hn | hn
    · obtain ⟨_, _, _, _, _, e, _⟩ := hl.get hn; cases e
    · exact List.getElem?_eq_none (by rw [← hl.length]; exact hn)
  · obtain ⟨sz, k, f, b, o, e, h1, h2, h3⟩ := hl.get hn
    injection e with e; subst e
    exact ⟨b, o, h1, h2.keep (none_sub _) fun _ => rfl, h3⟩
  · obtain ⟨_, _, _, _, _, e, _⟩ := hl.get h1; injection e with e; subst e; exact h2.elim
  · obtain ⟨_, _, _, _, _, e, _⟩ := hl.get h1; injection e with e; subst e; exact h2.elim
section
variable {H : Type} {enc : TypeId × Value → H} {P : Program} {w : World}
theorem ck_ok {t : TypeId} {c : Ck} (hb : ckB P t c = true) {fuel : Nat} {l : List Value} {x : DataW H × List MemPlace} (h : DataW.trod enc P w 0 (fun _ => true) true fuel t l = some x) : ∃ v, l = [v] ∧ okW c v := by
  cases c with
  | int k =>
    simp only [ckB] at hb
    split at hb
    · rename_i k' e
      have := kindEq_iff hb; subst this
      obtain ⟨n, rfl, _, hw⟩ := DataW.trod_int e h
      exact ⟨_, rfl, rfl, hw⟩
    · cases hb
  | bool =>
    simp only [ckB] at hb
    split at hb
    · rename_i e
      obtain ⟨n, rfl, _⟩ := DataW.trod_bool e h
      exact ⟨_, rfl, trivial⟩
    · cases hb
  | str =>
    simp only [ckB] at hb
    split at hb
    · rename_i e
      obtain ⟨n, rfl, _, hw⟩ := DataW.trod_string e h
      exact ⟨_, rfl, hw⟩
    · cases hb
theorem fsB_get : ∀ {fs : List Field} {l : List Ck}, fsB P fs l = true → ∀ {j : Nat} {f : Field} {c : Ck}, fs[j]? = some f → l[j]? = some c → ckB P f.type c = true
  | [], [], _, j, _, _, h, _ => by simp at h
  | f :: fs, c :: l, hb, j, f', c', h1, h2 => by
    simp only [fsB, Bool.and_eq_true] at hb
    cases j with
    | zero => simp at h1 h2; subst h1; subst h2; exact hb.1
    | succ j => exact fsB_get hb.2 (by simpa using h1) (by simpa using h2)
  | [], _ :: _, h, _, _, _, _, _ => by cases h
  | _ :: _, [], h, _, _, _, _, _ => by cases h
theorem el_ok {e : TypeId} {l : List Ck} (hb : elB P e l = true) {fuel : Nat} {vs : List Value} {x : DataW H × List MemPlace} (h : DataW.trod enc P w 0 (fun _ => true) true fuel e vs = some x) : All2 okW l vs ∧ P.cellsOf e = l.length ∧ 0 < l.length := by
  unfold elB at hb
  split at hb
  · rename_i fs hs
    simp only [Bool.and_eq_true] at hb
    obtain ⟨h1, h2, h3, h4, h5⟩ := hb
    have h2 := Nat.eq_of_beq_eq_true h2
    have h3 := Nat.eq_of_beq_eq_true h3
    obtain ⟨ys, n, _, _, hlen, hyl, hf⟩ := DataW.trod_struct hs h
    refine ⟨All2.of_get (by omega) fun j c v hc hv => ?_, h2, Nat.le_of_ble_eq_true h5⟩
    have hj : j < l.length := (List.getElem?_eq_some_iff.1 hc).1
    have hfj : fs[j]? = some (fs[j]'(by omega)) := Array.getElem?_eq_getElem (by omega)
    obtain ⟨ho, hk⟩ := hone_of h1 j _ hfj
    have := hf j _ hfj
    rw [ho, hk] at this
    have hv' : j < vs.length := (List.getElem?_eq_some_iff.1 hv).1
    have e1 : (vs.drop j).take 1 = [v] := by
      rw [List.drop_eq_getElem_cons hv']
      have := (List.getElem?_eq_some_iff.1 hv).2
      simp [this]
    rw [e1, List.getElem?_eq_getElem (by omega)] at this
    obtain ⟨v', e2, hok⟩ := ck_ok (fsB_get h4 (by rw [Array.getElem?_toList]; exact hfj) hc) this
    injection e2 with e2; subst e2; exact hok
  · split at hb
    · rename_i c
      simp only [Bool.and_eq_true] at hb
      obtain ⟨v, rfl, hok⟩ := ck_ok hb.1 h
      exact ⟨⟨hok, trivial⟩, Nat.eq_of_beq_eq_true hb.2, by simp⟩
    · cases hb
/-- A field: what it holds, where. -/
theorem sh_ok {t : TypeId} {s : Sh} (hb : shB P t s = true) {fuel : Nat} {l : List Value} {x : DataW H × List MemPlace} (h : DataW.trod enc P w 0 (fun _ => true) true fuel t l = some x) :
    ∃ v da locs, l = [v] ∧ OkDa s da ∧ Lies w (hs [s] [da]) locs ∧ ∀ (ρ : Env) (nm : Nat), (∀ i y, locs[i]? = some y → ρ (nm + i) = some y) → Den ρ (c1 nm s da) v := by
  cases s with
  | c k =>
    obtain ⟨v, rfl, hok⟩ := ck_ok (c := k) hb h
    exact ⟨v, .c v, [], rfl, hok, trivial, fun ρ nm _ => den_ty hok⟩
  | s ks =>
    simp only [shB] at hb
    split at hb
    · rename_i e ht
      rcases open_slice ht h with ⟨rfl, _⟩ | ⟨a, len, cap, m, n, D, Pl, rfl, _, hl, hm, hme, _, hi⟩
      · exact ⟨_, .s 0 0 true fun _ => [], [(0, 0)], rfl, ⟨Nat.le_refl _, Nat.zero_le _, fun _ => rfl, fun i hi => absurd hi (by omega)⟩, ⟨⟨fun i hi => absurd hi (by omega), fun hk => absurd rfl hk⟩, trivial⟩,
          fun ρ nm hρ => ⟨0, 0, none, by simpa using hρ 0 (0, 0) rfl, rfl, fun hlt => absurd hlt (by omega), rfl, Nat.le_refl _⟩⟩
      · simp only [if_true] at hme
        subst hme
        have key : ∀ i, ∃ cs', i < m → w.cells? 0 (a.add (i * P.cellsOf e)) (P.cellsOf e) = some cs' ∧ All2 okW ks cs' ∧ P.cellsOf e = ks.length ∧ 0 < ks.length := fun i => by
          by_cases hlt : i < m
          · obtain ⟨cs', h1, h2⟩ := hi i hlt
            obtain ⟨k1, k2, k3⟩ := el_ok hb h2
            exact ⟨cs', fun _ => ⟨h1, k1, k2, k3⟩⟩
          · exact ⟨[], fun hh => absurd hh hlt⟩
        let F : Nat → List Value := fun i => (key i).choose
        have hF : ∀ i, i < m → w.cells? 0 (a.add (i * P.cellsOf e)) (P.cellsOf e) = some (F i) ∧ All2 okW ks (F i) ∧ P.cellsOf e = ks.length ∧ 0 < ks.length := fun i => (key i).choose_spec
        have cell : ∀ i, i < m → ∀ j v, (F i)[j]? = some v → w.cell? ((a.add (i * P.cellsOf e)).add j) = some v := fun i hi j v hv => by
          obtain ⟨h1, h2, h3, h4⟩ := hF i hi
          obtain ⟨_, g2, g3⟩ := World.cells?_some h1
          have hj : j < (F i).length := (List.getElem?_eq_some_iff.1 hv).1
          rw [g3 j (by omega)]; exact hv
        have spot : m ≠ 0 → a.spot = none := fun h0 => by
          obtain ⟨h1, h2, h3, h4⟩ := hF 0 (by omega)
          have hlen := h2.length
          have hv : (F 0)[0]? = some ((F 0)[0]'(by omega)) := List.getElem?_eq_getElem (by omega)
          have := World.cell?_spot (cell 0 (by omega) 0 _ hv)
          simpa [Addr.add] using this
        have add_at' : m ≠ 0 → ∀ n, a.add n = ⟨a.block, a.off + n, none⟩ := fun h0 n => by
          obtain ⟨b, o, sp⟩ := a
          have := spot h0
          simp only at this
          subst this
          exact add_at b o n
        refine ⟨_, .s len m false F, [(a.block, a.off)], rfl, ⟨hl, hm, fun h => by (cases h), fun i hi => (hF i (by omega)).2.1⟩, ⟨⟨fun i hi => ?_, fun h0 => ?_⟩, trivial⟩, fun ρ nm hρ => ⟨a.block, a.off, some a, by simpa using hρ 0 _ rfl, rfl, fun hlt => ?_, rfl, hl⟩⟩
        · obtain ⟨h1, h2, h3, h4⟩ := hF i (by omega)
          refine ⟨F i, den_tys h2, h2.length.symm, fun j v hv => ?_⟩
          have := cell i (by omega) j v hv
          rw [add_at' (by omega), add_at, h3] at this
          rw [show a.off + (i * ks.length + j) = a.off + i * ks.length + j by omega]
          exact this
        · obtain ⟨h1, h2, h3, h4⟩ := hF 0 (by omega)
          have hlen := h2.length
          have hv : (F 0)[0]? = some ((F 0)[0]'(by omega)) := List.getElem?_eq_getElem (by omega)
          have := cell 0 (by omega) 0 _ hv
          rw [add_at' (by omega), add_at] at this
          simp only [World.cell?] at this
          refine Nat.lt_of_not_le fun hge => ?_
          rw [Array.getElem?_eq_none hge] at this
          cases this
        · have := spot (by omega)
          obtain ⟨b, o, sp⟩ := a
          simp only at this
          subst this
          simp
    · cases hb
theorem hs_cons (s : Sh) (l : List Sh) (x : Da) (m : List Da) : hs (s :: l) (x :: m) = hs [s] [x] ++ hs l m ∨ ¬ OkDa s x := by
  cases s <;> cases x <;> first | exact .inl rfl | exact .inr id
theorem hs1_len {s : Sh} {x : Da} (h : OkDa s x) : (hs [s] [x]).length = match s with | .c _ => 0 | .s _ => 1 := by
  cases s <;> cases x <;> first | rfl | exact h.elim
theorem cs_cons {nm : Nat} {s : Sh} {l : List Sh} {x : Da} {m : List Da} (h : OkDa s x) : cs nm (s :: l) (x :: m) = c1 nm s x :: cs (nm + (hs [s] [x]).length) l m := by
  rw [hs1_len h]
  cases s <;> rfl
/-- A row of fields. -/
theorem shs_ok : ∀ {ss : List Sh} {ts : List TypeId} {vs : List Value}, ts.length = ss.length → vs.length = ss.length → (∀ (j : Nat) t s v, ts[j]? = some t → ss[j]? = some s → vs[j]? = some v → shB P t s = true ∧ ∃ fuel x, DataW.trod enc P w 0 (fun _ => true) true fuel t [v] = some x) →
    ∃ das locs, All2 OkDa ss das ∧ Lies w (hs ss das) locs ∧ ∀ (ρ : Env) (nm : Nat), (∀ i y, locs[i]? = some y → ρ (nm + i) = some y) → All2 (Den ρ) (cs nm ss das) vs
  | [], _, [], _, _, _ => ⟨[], [], trivial, trivial, fun _ _ _ => trivial⟩
  | s :: ss, t :: ts, v :: vs, h1, h2, h => by
    obtain ⟨hb, fuel, x, hx⟩ := h 0 t s v rfl rfl rfl
    obtain ⟨v', da, locs, e, hok, hl, hd⟩ := sh_ok hb hx
    injection e with e; subst e
    obtain ⟨das, locs', hok', hl', hd'⟩ := shs_ok (ss := ss) (ts := ts) (vs := vs) (by simpa using h1) (by simpa using h2) fun j t s v a b c => h (j + 1) t s v (by simpa using a) (by simpa using b) (by simpa using c)
    have e1 : hs (s :: ss) (da :: das) = hs [s] [da] ++ hs ss das := (hs_cons s ss da das).resolve_right fun hn => hn hok
    refine ⟨da :: das, locs ++ locs', ⟨hok, hok'⟩, by rw [e1]; exact hl.append hl', fun ρ nm hρ => ?_⟩
    rw [cs_cons hok]
    have hlen := hl.length
    refine ⟨hd ρ nm fun i y hi => hρ i y ?_, hd' ρ _ fun i y hi => ?_⟩
    · rw [List.getElem?_append_left (List.getElem?_eq_some_iff.1 hi).1]; exact hi
    · rw [show nm + (hs [s] [da]).length + i = nm + (locs.length + i) by omega]
      refine hρ _ y ?_
      rw [List.getElem?_append_right (by omega), show locs.length + i - locs.length = i by omega]; exact hi
  | [], _, _ :: _, _, h, _ => by simp at h
  | _ :: _, _, [], _, h, _ => by simp at h
  | _ :: _, [], _, h, _, _ => by simp at h
theorem fshB_get : ∀ {fs : List Field} {l : List Sh}, fshB P fs l = true → ∀ {j : Nat} {f : Field} {c : Sh}, fs[j]? = some f → l[j]? = some c → shB P f.type c = true
  | [], [], _, j, _, _, h, _ => by simp at h
  | f :: fs, c :: l, hb, j, f', c', h1, h2 => by
    simp only [fshB, Bool.and_eq_true] at hb
    cases j with
    | zero => simp at h1 h2; subst h1; subst h2; exact hb.1
    | succ j => exact fshB_get hb.2 (by simpa using h1) (by simpa using h2)
  | [], _ :: _, h, _, _, _, _, _ => by cases h
  | _ :: _, [], h, _, _, _, _, _ => by cases h
theorem cells_one {t : TypeId} {s : Sh} (hb : shB P t s = true) {r : Reach} {b : Nat} {v : Value} (h : Value.okWide P w r b t v) : v.cells = #[v] := by
  have key : ∀ {desc}, P.underlying t = some desc → (match desc with | .struct _ | .array _ _ => false | _ => true) = true → v.cells = #[v] := fun {desc} e hd => by
    simp only [Value.okWide, e] at h
    cases desc <;> first | (cases hd; done) | (cases v <;> first | rfl | (simp [Cell.okWide, Cell.ok] at h))
  cases s with
  | c k =>
    simp only [shB] at hb
    cases k <;> simp only [ckB] at hb <;> (split at hb <;> first | exact key (by assumption) rfl | cases hb)
  | s l =>
    simp only [shB] at hb
    split at hb
    · exact key (by assumption) rfl
    · cases hb
theorem segs_cells (l : List C) : cells (segs l) = l := cells_segs l
/-- A parameter. -/
theorem pa_ok {t : TypeId} {p : Pa} (hb : paB P t p = true) {r : Reach} {b : Nat} {v : Value} {dt : DataW H} {pl : List MemPlace} (hv : Value.okWide P w r b t v) (h : DataW.Trod enc P w 0 (fun _ => true) true t v dt pl) :
    ∃ das locs, All2 OkDa (shsOf p) das ∧ Lies w (hs (shsOf p) das) locs ∧ ∀ (ρ : Env) (nm : Nat), (∀ i y, locs[i]? = some y → ρ (nm + i) = some y) → DenR ρ (xP nm p das) v := by
  obtain ⟨fuel, h⟩ := h
  cases p with
  | one s =>
    rw [cells_one (s := s) hb hv] at h
    obtain ⟨das, locs, h1, h2, h3⟩ := shs_ok (enc := enc) (P := P) (w := w) (ss := [s]) (ts := [t]) (vs := [v]) rfl rfl fun j t' s' v' a b c => by
      cases j with
      | zero => simp at a b c; subst a; subst b; subst c; exact ⟨hb, fuel, _, h⟩
      | succ j => simp at a
    refine ⟨das, locs, h1, h2, fun ρ nm hρ => ?_⟩
    have h4 := h3 ρ nm hρ
    match das, h1, h4 with
    | [x], h1, h4 =>
      cases s with
      | c k => exact h4.1
      | s k => exact h4.1
    | [], h1, _ => exact h1.elim
    | _ :: _ :: _, h1, _ => exact h1.2.elim
  | agg l =>
    simp only [paB] at hb
    split at hb
    · rename_i fs hs'
      simp only [Bool.and_eq_true] at hb
      obtain ⟨g1, g2, g3, g4⟩ := hb
      have g2 := Nat.eq_of_beq_eq_true g2
      have g3 := Nat.eq_of_beq_eq_true g3
      obtain ⟨vs, rfl, hsz⟩ := okWide_struct hs' hv
      obtain ⟨ys, n, _, _, hlen, hyl, hf⟩ := DataW.trod_struct hs' h
      have hcs : (Value.agg vs).cells = vs := rfl
      rw [hcs] at hf hlen
      obtain ⟨das, locs, h1, h2, h3⟩ := shs_ok (enc := enc) (P := P) (w := w) (ss := l) (ts := fs.toList.map (·.type)) (vs := vs.toList) (by simp; omega) (by simp at hlen ⊢; omega) fun j t' s' v' a b c => by
        rw [List.getElem?_map] at a
        obtain ⟨f, hfj, rfl⟩ := Option.map_eq_some_iff.1 a
        have hfj' : fs[j]? = some f := by simpa using hfj
        obtain ⟨ho, hk⟩ := hone_of g1 j f hfj'
        have h5 := hf j f hfj'
        rw [ho, hk] at h5
        have hv' : j < vs.toList.length := (List.getElem?_eq_some_iff.1 c).1
        have e1 : (vs.toList.drop j).take 1 = [v'] := by
          rw [List.drop_eq_getElem_cons hv']
          have := (List.getElem?_eq_some_iff.1 c).2
          simp [this]
        have hjl : j < ys.length := by
          have := (List.getElem?_eq_some_iff.1 hfj).1
          simp at this; omega
        rw [e1, List.getElem?_eq_getElem hjl] at h5
        exact ⟨fshB_get g4 hfj b, n, _, h5⟩
      refine ⟨das, locs, h1, h2, fun ρ nm hρ => ⟨vs, rfl, ?_⟩⟩
      rw [segs_cells]
      exact h3 ρ nm hρ
    · cases hb
theorem pas_ok : ∀ {ps : List Pa} {ts : List TypeId} {vs : List Value} {ds : List (DataW H)} {pl : List MemPlace} {r : Reach} {b : Nat}, pasB P ts ps = true → (∀ (j : Nat) t v, ts[j]? = some t → vs[j]? = some v → Value.okWide P w r b t v) → DataW.TrodAll enc P w 0 (fun _ => true) true ts vs ds pl →
    ∃ D locs, OkAll ps D ∧ Lies w (hsP ps D) locs ∧ ∀ (ρ : Env) (nm : Nat), (∀ i y, locs[i]? = some y → ρ (nm + i) = some y) → All2 (DenR ρ) (xsP nm ps D) vs
  | [], [], vs, ds, pl, _, _, _, _, h => by
    obtain ⟨rfl, rfl, rfl⟩ := trodAll_nil h
    exact ⟨[], [], trivial, trivial, fun _ _ _ => trivial⟩
  | p :: ps, t :: ts, vs, ds, pl, r, b, hb, hv, h => by
    simp only [pasB, Bool.and_eq_true] at hb
    obtain ⟨v, vs', dt, ds', p1, p2, rfl, rfl, rfl, h1, h2⟩ := trodAll_cons h
    obtain ⟨das, locs, k1, k2, k3⟩ := pa_ok hb.1 (hv 0 t v rfl rfl) h1
    obtain ⟨D, locs', q1, q2, q3⟩ := pas_ok (ps := ps) hb.2 (fun j t v a b => hv (j + 1) t v (by simpa using a) (by simpa using b)) h2
    refine ⟨das :: D, locs ++ locs', ⟨k1, q1⟩, k2.append q2, fun ρ nm hρ => ?_⟩
    have hlen := k2.length
    refine ⟨k3 ρ nm fun i y hi => hρ i y ?_, q3 ρ _ fun i y hi => ?_⟩
    · rw [List.getElem?_append_left (List.getElem?_eq_some_iff.1 hi).1]; exact hi
    · rw [show nm + (hs (shsOf p) das).length + i = nm + (locs.length + i) by omega]
      refine hρ _ y ?_
      rw [List.getElem?_append_right (by omega), show locs.length + i - locs.length = i by omega]; exact hi
  | [], _ :: _, _, _, _, _, _, h, _, _ => by cases h
  | _ :: _, [], _, _, _, _, _, h, _, _ => by cases h
/-- All arguments, opened. -/
theorem open_all {ps : List Pa} {ts : List TypeId} {vs : List Value} {ds : List (DataW H)} {pl : List MemPlace} {r : Reach} {b : Nat} (hb : pasB P ts ps = true) (hv : ∀ (j : Nat) t v, ts[j]? = some t → vs[j]? = some v → Value.okWide P w r b t v) (h : DataW.TrodAll enc P w 0 (fun _ => true) true ts vs ds pl) :
    ∃ D ρ, OkAll ps D ∧ Rel ρ (hsP ps D) w ∧ (∀ n b, ¬ Owns ρ (hsP ps D) n b) ∧ All2 (DenR ρ) (xsP 0 ps D) vs := by
  obtain ⟨D, locs, h1, h2, h3⟩ := pas_ok hb hv h
  refine ⟨D, fun n => locs[n]?, h1, rel_lies h2, fun n b ⟨ob, o, g1, g2, _⟩ => ?_, h3 _ 0 fun i y hi => by rw [Nat.zero_add]; exact hi⟩
  obtain ⟨_, _, _, _, _, e, _⟩ := h2.get g1
  injection e with e; subst e; exact g2
end
/-! ### A law's row -/
theorem grow_same {ρ ρ' : Env} {h h' : Heap} {w w' : World} (hg : Grow ρ h w ρ' h' w') (hn : ∀ n b, ¬ Owns ρ h n b) {ps : List MemPlace} (hlt : ∀ p ∈ ps, p.block < w.heap.size) : ∀ p ∈ ps, w.sameAt w' p := fun p hp => by
  have hk : ∀ b, b < w.heap.size → w'.heap[b]? = w.heap[b]? := fun b hb => hg.keep b hb fun n ho => hn n b ho
  cases p with
  | cell b off => simp only [World.sameAt, World.cell?]; rw [hk b (hlt _ hp)]
  | map b => exact hk b (hlt _ hp)
theorem trodAll_carry {H : Type} {enc : TypeId × Value → H} {P : Program} {w w' : World} {base : Nat} {spare : Nat → Bool} {held : Bool} : ∀ {ts : List TypeId} {vs : List Value} {ds : List (DataW H)} {ps : List MemPlace}, DataW.TrodAll enc P w base spare held ts vs ds ps → (∀ p ∈ ps, w.sameAt w' p) → DataW.TrodAll enc P w' base spare held ts vs ds ps
  | [], [], [], _, h, _ => h
  | _ :: _, _ :: _, _ :: _, _, ⟨p, q, ⟨n, h1⟩, h2, e⟩, hs => ⟨p, q, ⟨n, DataW.trod_carry n _ _ _ h1 fun x hx => hs x (by rw [e]; exact List.mem_append_left _ hx)⟩, trodAll_carry h2 (fun x hx => hs x (by rw [e]; exact List.mem_append_right _ hx)), e⟩
  | [], [], _ :: _, _, h, _ => h.elim
  | [], _ :: _, _, _, h, _ => h.elim
  | _ :: _, [], _, _, h, _ => h.elim
  | _ :: _, _ :: _, [], _, h, _ => h.elim
/-- What a law's claim asks, where what was there stays as it was; new blocks may be frozen. -/
theorem post_kept {H : Type} {enc : TypeId × Value → H} {P : Program} {f : Func} {s : ChangeSpec} {W W' : World} {args : Array Value} {v : Value} {ds : List (DataW H)} {pa : List MemPlace}
    (hW : DataW.Whole enc P f.params.toList s.vars false W args.toList ds [] pa) (hb : ∀ q ∈ pa, q.block < W.heap.size)
    (hres : ∀ (b : Nat) (sp : Nat → Bool) (hd : Bool), DataW.TrodAll enc P W' b sp hd f.resultTypes.toList (v.resultList f.resultTypes.size) (s.fn H (ds ++ [])).results [])
    (hargs : ∀ sp : Nat → Bool, (∀ q ∈ pa, sp q.block = true) → DataW.TrodAll enc P W' 0 sp true f.params.toList args.toList (s.fn H (ds ++ [])).args pa)
    (hvars : ∀ sp : Nat → Bool, DataW.TrodVars enc P W' sp s.vars (s.fn H (ds ++ [])).vars [])
    (hk : W.keptBut W' (· ∈ pa)) (hfz : ∀ a : Addr, a.block < W.heap.size → W'.frozen? a = W.frozen? a)
    (hok : ∀ (j : Nat) (t : TypeId) (r : Value), f.resultTypes[j]? = some t → (v.resultList f.resultTypes.size)[j]? = some r → Value.okWide P W' .any 0 t r) :
    s.post enc P f false true false false W args v W' := by
  have hin : ∀ q ∈ pa, decide (q.block < W.heap.size) = true := fun q hq => decide_eq_true (hb q hq)
  have hfr : W.noneFrozen pa := by
    obtain ⟨_, _, _, _, _, hz, _⟩ := hW
    exact hz
  have hfr' : W'.noneFrozen pa := fun b off hq => (hfz ⟨b, off, none⟩ (hb _ hq)).trans (hfr b off hq)
  refine ⟨ds, [], pa, [], pa, [], hW, hres _ _ _, hargs _ hin, hvars _, World.keptBut_mono (fun q hq => ⟨hq, .inr (.inl hq)⟩) hk, fun _ => ⟨hok, _, _, pa ++ [], ⟨pa, [], trodAll_append (hargs _ fun _ _ => rfl) (hres _ _ _), hvars _, rfl, ?_, ?_⟩, ?_⟩⟩
  · rw [List.append_nil]; exact hfr'
  · intro h; cases h
  · intro q hq _
    rwa [List.append_nil] at hq
theorem law_body {C : Checked} {H : Type} {enc : TypeId × Value → H} {f : FuncId} {F : Func} {s : ChangeSpec} {W : World} {base : Nat} {args : Array Value} {ds gs : List (DataW H)} {before : List MemPlace} {ps : List Pa} {tb : TypeId} {cl : Cl}
    (kids : Kids C.prog (· < C.prog.types.size)) (full : ∀ t e, t < C.prog.types.size → C.prog.underlying t = some (.slice e) → 0 < C.prog.cellsOf e)
    (hts : ∀ t ∈ F.params.toList, t < C.prog.types.size) (hps : pasB C.prog F.params.toList ps = true) (hres : F.resultTypes = #[tb]) (htb : C.prog.underlying tb = some .bool) (hvs : s.vars = [])
    (hspec : s.fn H ds = { results := [.lit (.bool true)], args := ds })
    (hval : ∀ (j : Nat) t v, F.params[j]? = some t → args[j]? = some v → Value.okWide C.prog W .any base t v) (hW : DataW.Whole enc C.prog F.params.toList s.vars false W args.toList ds gs before)
    (hc : ClOk C.prog cl) (hrun : ∀ D, OkAll ps D → cl f [] (xsP 0 ps D) (hsP ps D) fun x _ => x = bv true) :
    Calls C.prog f args W fun e W' => ∃ v, e = .returned v ∧ s.post enc C.prog F false true false false W args v W' := by
  have hW' := hW
  have hlt := hW.lt
  obtain ⟨p, q, hA, hV, rfl, hfz, hnd⟩ := hW
  rw [hvs] at hV
  obtain ⟨rfl, rfl⟩ := trodVars_none hV
  simp only [List.append_nil] at hlt hW'
  obtain ⟨D, ρ, h1, h2, h3, h4⟩ := open_all hps (fun j t v a b => hval j t v (by simpa using a) (by simpa using b)) hA
  obtain ⟨_, h5⟩ := hc _ _ _ _ _ (hrun D h1)
  have h6 := h5 ρ W args.toList h2 h4
  refine h6.mono fun e W' ⟨v, he, x, ρ', h', k1, k2, k3, k4⟩ => ?_
  subst k1
  have hv : v = .bool true := k4.1
  subst hv
  have hsame := grow_same k3 h3 hlt
  have hsp : s.fn H (ds ++ []) = { results := [.lit (.bool true)], args := ds } := by rw [List.append_nil]; exact hspec
  refine ⟨_, he, post_kept (pa := p) (by simpa using hW') (fun q hq => hlt q (by simpa using hq)) (fun b sp hd => ?_) (fun sp hsp' => ?_) (fun sp => ?_) ?_ k3.frozen (ok_one hres rfl (okWide_bool_mk htb _))⟩
  · rw [hsp, hres]
    exact trodAll_cons_mk (shut_bool htb _) trodAll_mk0
  · rw [hsp]
    exact trodAll_carry (DataW.TrodAll.respare kids full hts hA (fun q hq => hsp' q (by simpa using hq))) hsame
  · rw [hvs, hsp]
    rfl
  · have hkb : World.keptBut W W' fun _ => False := ⟨k3.os, k3.output, fun i hi => by
      have e1 := (World.keptBut_refl W fun _ => False).2.2 i hi
      rw [k3.keep i hi (h3 · i)]
      exact e1⟩
    exact World.keptBut_mono (fun _ h => h.elim) hkb
end Go.Eng
