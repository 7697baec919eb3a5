/- The engine's meaning: what an abstract heap says of a world. -/
import Derived.Test.YtakcnoggkdfgfaaEngC
import Derived.Below
import Derived.RowKit3
namespace Go.Eng
open Go
variable {d : Nat}

def All2 {α β : Type} (p : α → β → Prop) : List α → List β → Prop
  | [], [] => True
  | a :: l, b :: m => p a b ∧ All2 p l m
  | _, _ => False
section
variable {α β : Type} {p q : α → β → Prop}
theorem All2.length : ∀ {l : List α} {m : List β}, All2 p l m → l.length = m.length
  | [], [], _ => rfl
  | _ :: _, _ :: _, h => by simp [All2.length h.2]
  | [], _ :: _, h => h.elim
  | _ :: _, [], h => h.elim
theorem All2.imp (hi : ∀ a b, p a b → q a b) : ∀ {l : List α} {m : List β}, All2 p l m → All2 q l m
  | [], [], _ => trivial
  | _ :: _, _ :: _, h => ⟨hi _ _ h.1, All2.imp hi h.2⟩
  | [], _ :: _, h => h.elim
  | _ :: _, [], h => h.elim
theorem All2.get : ∀ {l : List α} {m : List β}, All2 p l m → ∀ {i : Nat} {a : α}, l[i]? = some a → ∃ b, m[i]? = some b ∧ p a b
  | a :: _, b :: _, h, 0, x, hx => by simp at hx; exact ⟨b, rfl, hx ▸ h.1⟩
  | _ :: _, _ :: _, h, i + 1, x, hx => by simpa using All2.get h.2 (i := i) (by simpa using hx)
  | [], [], _, i, x, hx => by simp at hx
  | [], _ :: _, h, _, _, _ => h.elim
  | _ :: _, [], h, _, _, _ => h.elim
theorem All2.get' : ∀ {l : List α} {m : List β}, All2 p l m → ∀ {i : Nat} {b : β}, m[i]? = some b → ∃ a, l[i]? = some a ∧ p a b
  | a :: _, b :: _, h, 0, x, hx => by simp at hx; exact ⟨a, rfl, hx ▸ h.1⟩
  | _ :: _, _ :: _, h, i + 1, x, hx => by simpa using All2.get' h.2 (i := i) (by simpa using hx)
  | [], [], _, i, x, hx => by simp at hx
  | [], _ :: _, h, _, _, _ => h.elim
  | _ :: _, [], h, _, _, _ => h.elim
theorem All2.of_get : ∀ {l : List α} {m : List β}, l.length = m.length → (∀ (i : Nat) (a : α) (b : β), l[i]? = some a → m[i]? = some b → p a b) → All2 p l m
  | [], [], _, _ => trivial
  | a :: l, b :: m, h, hg => ⟨hg 0 a b rfl rfl, All2.of_get (by simpa using h) fun i x y hx hy => hg (i + 1) x y (by simpa using hx) (by simpa using hy)⟩
  | [], _ :: _, h, _ => by simp at h
  | _ :: _, [], h, _ => by simp at h
theorem All2.append : ∀ {l : List α} {m : List β} {l' : List α} {m' : List β}, All2 p l m → All2 p l' m' → All2 p (l ++ l') (m ++ m')
  | [], [], _, _, _, h => h
  | _ :: _, _ :: _, _, _, h, h' => ⟨h.1, All2.append h.2 h'⟩
  | [], _ :: _, _, _, h, _ => h.elim
  | _ :: _, [], _, _, h, _ => h.elim
theorem All2.drop {l : List α} {m : List β} (h : All2 p l m) (n : Nat) : All2 p (l.drop n) (m.drop n) :=
  All2.of_get (by simp [h.length]) fun i a b ha hb => by
    rw [List.getElem?_drop] at ha hb
    obtain ⟨c, hc, hp⟩ := h.get ha
    rw [hc] at hb; exact (Option.some.inj hb) ▸ hp
theorem All2.take {l : List α} {m : List β} (h : All2 p l m) (n : Nat) : All2 p (l.take n) (m.take n) :=
  All2.of_get (by simp [h.length]) fun i a b ha hb => by
    rw [List.getElem?_take] at ha hb
    split at ha
    · rename_i hlt
      rw [if_pos hlt] at hb
      obtain ⟨c, hc, hp⟩ := h.get ha
      rw [hc] at hb; exact (Option.some.inj hb) ▸ hp
    · simp at ha
end

/-- Where names lie: a block, a first cell. -/
abbrev Env := Nat → Option (Nat × Nat)
def solid : Value → Prop
  | .agg _ | .tuple _ => False
  | _ => True
def ptrAt (ρ : Env) (p : Nat × Nat) (a : Addr) : Prop := ∃ b o, ρ p.1 = some (b, o) ∧ a = ⟨b, o + p.2, none⟩
def Den (ρ : Env) : C → Value → Prop
  | .v x, y => y = x ∧ solid x
  | .ptr n off, y => ∃ b o, ρ n = some (b, o) ∧ y = .pointer (some ⟨b, o + off, none⟩)
  | .ept n base sz i j, y => ∃ b o, ρ n = some (b, o) ∧ y = .pointer (some ⟨b, o + (base + i * sz + j), none⟩)
  | .slc n base sz off len cap nl, y => ∃ b o a, ρ n = some (b, o) ∧ y = .slice a len cap ∧ (0 < cap → a = some ⟨b, o + (base + off * sz), none⟩) ∧ a.isNone = nl ∧ len ≤ cap
  | .mp n, y => ∃ b o, ρ n = some (b, o) ∧ y = .map (some b)
  | .ch n, y => ∃ b o, ρ n = some (b, o) ∧ y = .chan (some b)
  | .fn f caps, y => ∃ as : List Addr, y = .func f #[] (as.map fun a => Value.pointer (some a)).toArray ∧ All2 (ptrAt ρ) caps as
def Sub (ρ ρ' : Env) : Prop := ∀ n x, ρ n = some x → ρ' n = some x
theorem Sub.refl (ρ : Env) : Sub ρ ρ := fun _ _ h => h
theorem Sub.trans {a b c : Env} (h : Sub a b) (k : Sub b c) : Sub a c := fun n x hx => k n x (h n x hx)
theorem Den.mono {ρ ρ' : Env} (hs : Sub ρ ρ') {c : C} {x : Value} (h : Den ρ c x) : Den ρ' c x := by
  cases c with
  | v y => exact h
  | ptr n off => obtain ⟨b, o, h1, h2⟩ := h; exact ⟨b, o, hs _ _ h1, h2⟩
  | ept n base sz i j => obtain ⟨b, o, h1, h2⟩ := h; exact ⟨b, o, hs _ _ h1, h2⟩
  | slc n base sz off len cap nl => obtain ⟨b, o, a, h1, h2⟩ := h; exact ⟨b, o, a, hs _ _ h1, h2⟩
  | mp n => obtain ⟨b, o, h1, h2⟩ := h; exact ⟨b, o, hs _ _ h1, h2⟩
  | ch n => obtain ⟨b, o, h1, h2⟩ := h; exact ⟨b, o, hs _ _ h1, h2⟩
  | fn f caps => obtain ⟨as, h1, h2⟩ := h; exact ⟨as, h1, h2.imp fun p a ⟨b, o, h3, h4⟩ => ⟨b, o, hs _ _ h3, h4⟩⟩
theorem Den.solid {ρ : Env} {c : C} {x : Value} (h : Den ρ c x) : Eng.solid x := by
  cases c with
  | v y => exact h.1 ▸ h.2
  | ptr n off => obtain ⟨b, o, _, rfl⟩ := h; trivial
  | ept n base sz i j => obtain ⟨b, o, _, rfl⟩ := h; trivial
  | slc n base sz off len cap nl => obtain ⟨b, o, a, _, rfl, _⟩ := h; trivial
  | mp n => obtain ⟨b, o, _, rfl⟩ := h; trivial
  | ch n => obtain ⟨b, o, _, rfl⟩ := h; trivial
  | fn f caps => obtain ⟨as, rfl, _⟩ := h; trivial
theorem solid_cells {x : Value} (h : solid x) : x.cells = #[x] := by cases x <;> first | rfl | exact h.elim

/-- The cells of a row of segments. -/
def cells : List Seg → List C
  | [] => []
  | .c x :: r => x :: cells r
  | .arr n f :: r => (List.range n).map f ++ cells r
theorem nseg_cells : ∀ l : List Seg, nseg l = (cells l).length
  | [] => rfl
  | .c _ :: r => by simp [nseg, cells, nseg_cells r]
  | .arr n f :: r => by simp [nseg, cells, nseg_cells r]; omega
def DenT (ρ : Env) : T → Value → Prop
  | .one c, y => Den ρ c y
  | .agg l, y => ∃ vs : Array Value, y = .agg vs ∧ All2 (Den ρ) (cells l) vs.toList
def DenR (ρ : Env) : R → Value → Prop
  | .junk, _ => True
  | .t x, y => DenT ρ x y
  | .tup l, y => ∃ vs : Array Value, y = .tuple vs ∧ All2 (DenT ρ) l vs.toList
theorem DenT.mono {ρ ρ' : Env} (hs : Sub ρ ρ') {c : T} {x : Value} (h : DenT ρ c x) : DenT ρ' c x := by
  cases c with
  | one c => exact Den.mono hs h
  | agg l => obtain ⟨vs, h1, h2⟩ := h; exact ⟨vs, h1, h2.imp fun _ _ => Den.mono hs⟩
theorem DenR.mono {ρ ρ' : Env} (hs : Sub ρ ρ') {c : R} {x : Value} (h : DenR ρ c x) : DenR ρ' c x := by
  cases c with
  | junk => trivial
  | t c => exact DenT.mono hs h
  | tup l => obtain ⟨vs, h1, h2⟩ := h; exact ⟨vs, h1, h2.imp fun _ _ => DenT.mono hs⟩
/-- A value's cells. -/
theorem DenT.cells {ρ : Env} {x : T} {y : Value} (h : DenT ρ x y) : All2 (Den ρ) (Eng.cells (segsOf x)) y.cells.toList := by
  cases x with
  | one c => rw [solid_cells (Den.solid h)]; exact ⟨h, trivial⟩
  | agg l => obtain ⟨vs, rfl, h2⟩ := h; exact h2

/-! ### Temporaries -/
theorem Tr.getK_eq (k : R → Prop) : ∀ (d : Nat) (r : Tr d) (i : Nat), Tr.getK d r i k = k (Tr.get d r i)
  | 0, _, 0 => rfl
  | 0, _, _ + 1 => rfl
  | d + 1, (a, b), i => by
    simp only [Tr.getK, Tr.get]
    split
    · exact Tr.getK_eq k d a _
    · exact Tr.getK_eq k d b _
theorem Tr.get_even {d : Nat} (a b : Tr d) {i : Nat} (h : i % 2 = 0) : Tr.get (d + 1) (a, b) i = Tr.get d a (i / 2) := by simp only [Tr.get, h]
theorem Tr.get_odd {d : Nat} (a b : Tr d) {i : Nat} (h : i % 2 = 1) : Tr.get (d + 1) (a, b) i = Tr.get d b (i / 2) := by simp only [Tr.get, h]
theorem Tr.set_even {d : Nat} (a b : Tr d) {i : Nat} (x : R) (h : i % 2 = 0) : Tr.set (d + 1) (a, b) i x = (Tr.set d a (i / 2) x, b) := by
  show (match i % 2 with | 0 => ((Tr.set d a (i / 2) x, b) : Tr d × Tr d) | _ => (a, Tr.set d b (i / 2) x)) = _
  rw [h]; rfl
theorem Tr.set_odd {d : Nat} (a b : Tr d) {i : Nat} (x : R) (h : i % 2 = 1) : Tr.set (d + 1) (a, b) i x = (a, Tr.set d b (i / 2) x) := by
  show (match i % 2 with | 0 => ((Tr.set d a (i / 2) x, b) : Tr d × Tr d) | _ => (a, Tr.set d b (i / 2) x)) = _
  rw [h]; rfl
theorem Tr.setK_iff : ∀ (d : Nat) (r : Tr d) (i : Nat) (x : R) (k : Tr d → Prop), Tr.setK d r i x k ↔ i < 2 ^ d ∧ k (Tr.set d r i x)
  | 0, _, 0, x, k => by simp [Tr.setK, Tr.set]
  | 0, _, i + 1, x, k => by simp [Tr.setK]
  | d + 1, (a, b), i, x, k => by
    have hp : 2 ^ (d + 1) = 2 * 2 ^ d := by rw [Nat.pow_succ]; omega
    rcases Nat.mod_two_eq_zero_or_one i with e | e
    · rw [Tr.set_even a b x e]
      have : Tr.setK (d + 1) (a, b) i x k = Tr.setK d a (i / 2) x (fun a' => k (a', b)) := by simp only [Tr.setK, e]
      rw [this, Tr.setK_iff d a]
      constructor <;> (rintro ⟨h1, h2⟩; exact ⟨by omega, h2⟩)
    · rw [Tr.set_odd a b x e]
      have : Tr.setK (d + 1) (a, b) i x k = Tr.setK d b (i / 2) x (fun b' => k (a, b')) := by simp only [Tr.setK, e]
      rw [this, Tr.setK_iff d b]
      constructor <;> (rintro ⟨h1, h2⟩; exact ⟨by omega, h2⟩)
theorem Tr.get_set : ∀ (d : Nat) (r : Tr d) (i : Nat) (x : R) (j : Nat), i < 2 ^ d → Tr.get d (Tr.set d r i x) j = if j = i then x else Tr.get d r j
  | 0, _, i, x, j, hi => by
    have : i = 0 := by simpa using hi
    subst this
    cases j <;> simp [Tr.get, Tr.set]
  | d + 1, (a, b), i, x, j, hi => by
    have hp : 2 ^ (d + 1) = 2 * 2 ^ d := by rw [Nat.pow_succ]; omega
    rcases Nat.mod_two_eq_zero_or_one i with e | e <;> rcases Nat.mod_two_eq_zero_or_one j with e' | e'
    · rw [Tr.set_even a b x e, Tr.get_even _ _ e', Tr.get_even _ _ e', Tr.get_set d a _ _ _ (by omega)]
      by_cases hj : j = i
      · simp [hj]
      · rw [if_neg (by omega), if_neg hj]
    · rw [Tr.set_even a b x e, Tr.get_odd _ _ e', Tr.get_odd _ _ e', if_neg (by intro h; omega)]
    · rw [Tr.set_odd a b x e, Tr.get_even _ _ e', Tr.get_even _ _ e', if_neg (by intro h; omega)]
    · rw [Tr.set_odd a b x e, Tr.get_odd _ _ e', Tr.get_odd _ _ e', Tr.get_set d b _ _ _ (by omega)]
      by_cases hj : j = i
      · simp [hj]
      · rw [if_neg (by omega), if_neg hj]
theorem Tr.get_empty : ∀ (d : Nat) (i : Nat), Tr.get d (Tr.empty d) i = .junk
  | 0, 0 => rfl
  | 0, _ + 1 => rfl
  | d + 1, i => by simp only [Tr.empty, Tr.get]; split <;> exact Tr.get_empty d _
theorem Tr.set_comm : ∀ (d : Nat) (r : Tr d) (i j : Nat) (x y : R), i ≠ j → i < 2 ^ d → j < 2 ^ d → Tr.set d (Tr.set d r i x) j y = Tr.set d (Tr.set d r j y) i x
  | 0, _, i, j, x, y, h, hi, hj => by simp at hi hj; omega
  | d + 1, (a, b), i, j, x, y, h, hi, hj => by
    have hp : 2 ^ (d + 1) = 2 * 2 ^ d := by rw [Nat.pow_succ]; omega
    rcases Nat.mod_two_eq_zero_or_one i with e | e <;> rcases Nat.mod_two_eq_zero_or_one j with e' | e'
    · rw [Tr.set_even _ _ x e, Tr.set_even _ _ y e', Tr.set_even _ _ y e', Tr.set_even _ _ x e, Tr.set_comm d a _ _ x y (by omega) (by omega) (by omega)]
    · rw [Tr.set_even _ _ x e, Tr.set_odd _ _ y e', Tr.set_odd _ _ y e', Tr.set_even _ _ x e]
    · rw [Tr.set_odd _ _ x e, Tr.set_even _ _ y e', Tr.set_even _ _ y e', Tr.set_odd _ _ x e]
    · rw [Tr.set_odd _ _ x e, Tr.set_odd _ _ y e', Tr.set_odd _ _ y e', Tr.set_odd _ _ x e, Tr.set_comm d b _ _ x y (by omega) (by omega) (by omega)]
/-- The temporaries hold what the tree says. -/
def RelR (ρ : Env) (nt : Nat) (r : Tr d) (tmps : Array Value) : Prop := tmps.size = nt ∧ ∀ i, DenR ρ (r.get d i) (tmps.getD i undef)
theorem RelR.mono {ρ ρ' : Env} (hs : Sub ρ ρ') {nt : Nat} {r : Tr d} {tmps : Array Value} (h : RelR ρ nt r tmps) : RelR ρ' nt r tmps := ⟨h.1, fun i => (h.2 i).mono hs⟩
theorem RelR.set {ρ : Env} {nt : Nat} {r : Tr d} {tmps : Array Value} (h : RelR ρ nt r tmps) {i : Nat} {x : R} {v : Value} (hi : i < 2 ^ d) (hn : i < nt) (hx : DenR ρ x v) :
    RelR ρ nt (r.set d i x) (tmps.setIfInBounds i v) := by
  refine ⟨by simpa using h.1, fun j => ?_⟩
  rw [Tr.get_set d r i x j hi]
  by_cases hj : j = i
  · subst hj
    have : j < tmps.size := by rw [h.1]; exact hn
    simpa [this] using hx
  · rw [if_neg hj]
    have := h.2 j
    simpa [Array.getElem?_setIfInBounds_ne (Ne.symm hj)] using this

/-! ### The heap -/
/-- n elements of sz cells each lie from cell o of block b on. -/
def Elems (ρ : Env) (w : World) (b o sz n : Nat) (f : Nat → List C) : Prop :=
  ∀ i, i < n → ∃ vs, All2 (Den ρ) (f i) vs ∧ vs.length = sz ∧ ∀ j v, vs[j]? = some v → w.cell? ⟨b, o + (i * sz + j), none⟩ = some v
/-- No cell of it is a text's. -/
def free (fz : Nat × Nat) (n : Nat) : Prop := ∀ o, o < n → ¬ (fz.1 ≤ o ∧ o < fz.2)
def RelOb (ρ : Env) (w : World) (n : Nat) : Ob → Prop
  | .own l => ∃ b E fz arr, ρ n = some (b, 0) ∧ w.heap[b]? = some (.cells arr E fz) ∧ free fz arr.size ∧ All2 (Den ρ) (cells l) arr.toList
  | .row sz m f tot => (∃ x, ρ n = some x) ∧ m ≤ tot ∧ (tot ≠ 0 → ∃ b o E fz arr, ρ n = some (b, o) ∧ w.heap[b]? = some (.cells arr E fz) ∧ free fz arr.size ∧ o + tot * sz ≤ arr.size ∧ Elems ρ w b o sz m f)
  | .ro sz m f => ∃ b o, ρ n = some (b, o) ∧ Elems ρ w b o sz m f ∧ (m ≠ 0 → b < w.heap.size)
def Ob.owned : Ob → Prop
  | .own _ => True
  | .row _ _ _ tot => tot ≠ 0
  | .ro _ _ _ => False
def Owns (ρ : Env) (h : Heap) (n b : Nat) : Prop := ∃ ob o, h[n]? = some (.ob ob) ∧ ob.owned ∧ ρ n = some (b, o)
structure Rel (ρ : Env) (h : Heap) (w : World) : Prop where
  fresh : ∀ n, h[n]? = some .fresh ∨ h.length ≤ n → ρ n = none
  obs : ∀ n ob, h[n]? = some (.ob ob) → RelOb ρ w n ob
  inj : ∀ n m b, Owns ρ h n b → Owns ρ h m b → n = m
  apart : ∀ n m b o sz k f, Owns ρ h n b → h[m]? = some (.ob (.ro sz k f)) → k ≠ 0 → ρ m ≠ some (b, o)
structure Grow (ρ : Env) (h : Heap) (w : World) (ρ' : Env) (h' : Heap) (w' : World) : Prop where
  sub : Sub ρ ρ'
  os : w'.os = w.os
  tape : w'.tape = w.tape
  output : w'.output = w.output
  frozen : ∀ a, w'.frozen? a = w.frozen? a
  size : w.heap.size ≤ w'.heap.size
  keep : ∀ b, b < w.heap.size → (∀ n, ¬ Owns ρ h n b) → w'.heap[b]? = w.heap[b]?
  made : ∀ n b, Owns ρ' h' n b → (∃ m, Owns ρ h m b) ∨ w.heap.size ≤ b
theorem Grow.refl (ρ : Env) (h : Heap) (w : World) : Grow ρ h w ρ h w := ⟨Sub.refl _, rfl, rfl, rfl, fun _ => rfl, Nat.le_refl _, fun _ _ _ => rfl, fun n _ hb => .inl ⟨n, hb⟩⟩
theorem Grow.trans {ρ ρ1 ρ2 : Env} {h h1 h2 : Heap} {w w1 w2 : World} (a : Grow ρ h w ρ1 h1 w1) (b : Grow ρ1 h1 w1 ρ2 h2 w2) : Grow ρ h w ρ2 h2 w2 where
  sub := a.sub.trans b.sub
  os := b.os.trans a.os
  tape := b.tape.trans a.tape
  output := b.output.trans a.output
  frozen := fun x => (b.frozen x).trans (a.frozen x)
  size := Nat.le_trans a.size b.size
  keep := fun k hk hn => (b.keep k (Nat.lt_of_lt_of_le hk a.size) (fun n ho => by
    rcases a.made n k ho with ⟨m, hm⟩ | hge
    · exact hn m hm
    · omega)).trans (a.keep k hk hn)
  made := fun n k ho => by
    rcases b.made n k ho with ⟨m, hm⟩ | hge
    · exact a.made m k hm
    · exact .inr (Nat.le_trans a.size hge)
/-- An owned block is there. -/
theorem Rel.owns_lt {ρ : Env} {h : Heap} {w : World} (hr : Rel ρ h w) {n b : Nat} (ho : Owns ρ h n b) : b < w.heap.size := by
  obtain ⟨ob, o, h1, h2, h3⟩ := ho
  have := hr.obs n ob h1
  have key : ∀ {k : Nat} {x : Obj}, w.heap[k]? = some x → k < w.heap.size := fun {k x} hk => by
    rcases Nat.lt_or_ge k w.heap.size with hlt | hge
    · exact hlt
    · rw [Array.getElem?_eq_none hge] at hk; cases hk
  cases ob with
  | own l => obtain ⟨b', E, fz, arr, e1, e2, _⟩ := this; rw [e1] at h3; injection h3 with h3; injection h3 with h3 _; subst h3; exact key e2
  | row sz m f tot => obtain ⟨b', o', E, fz, arr, e1, e2, _⟩ := this.2.2 h2; rw [e1] at h3; injection h3 with h3; injection h3 with h3 _; subst h3; exact key e2
  | ro sz m f => exact h2.elim
end Go.Eng
