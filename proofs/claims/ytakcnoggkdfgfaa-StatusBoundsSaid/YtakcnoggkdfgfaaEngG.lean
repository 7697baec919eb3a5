/- What the evaluator says of a quiet operation holds of the model's. -/
import Derived.Test.YtakcnoggkdfgfaaEngF
import Derived.Laws.Strings
import Derived.Laws.BytesString
namespace Go.Eng
open Go
variable {d : Nat}
section
variable {P : Program} {tt : TT} {ρ : Env} {h : Heap} {w : World} {nt nm : Nat} {r : Tr d} {a : Act} {K : R → Option Ob → Prop}
def Ob.mine : Ob → Prop
  | .ro _ _ _ => False
  | _ => True
/-- A quiet operation's outcome. -/
def XOut (ρ : Env) (w : World) (nm : Nat) (K : R → Option Ob → Prop) (res : Result Value) : Prop :=
  ∃ x b v w', res = .ok v w' ∧ K x b ∧ match b with
    | none => w' = w ∧ DenR ρ x v
    | some ob => ob.mine ∧ ∃ arr E, w' = w.alloc (.cells arr E) ∧ ∀ ρ', Sub ρ ρ' → ρ' nm = some (w.heap.size, 0) → DenR ρ' x v ∧ RelOb ρ' w' nm ob
theorem XOut.val {x : R} {v : Value} {res : Result Value} (h1 : K x none) (h2 : res = .ok v w) (h3 : DenR ρ x v) : XOut ρ w nm K res :=
  ⟨x, none, v, w, h2, h1, rfl, h3⟩
theorem kindEq_ok {a b : IntKind} (h : kindEq a b = true) : a = b := by cases a <;> cases b <;> first | rfl | (simp [kindEq] at h)
theorem strEq_ok (x y : ByteArray) : (x.toList == y.toList) = strEq x y := by
  unfold strEq
  rw [ByteArray.toList_eq, ByteArray.toList_eq]
  by_cases h : x = y
  · subst h; simp
  · have : x.data.toList ≠ y.data.toList := fun e => h (by cases x; cases y; simp at e ⊢; exact e)
    rw [decide_eq_false h]
    exact beq_eq_false_iff_ne.2 this
theorem intBin_ok {op : BinOp} {k : IntKind} {x y : Int} {K : R → Prop} (hk : intBin op k x y K) (hs : op ≠ .shl) (hs' : op ≠ .shr) (t : TypeId) :
    ∃ z v, K z ∧ (binOp op t (.int k x) (.int k y)).run P w = .ok v w ∧ DenR ρ z v := by
  have fin : ∀ {n : Int} {res : Result Value}, K (iv k n) → res = .ok (.int k n) w → ∃ z v, K z ∧ res = .ok v w ∧ DenR ρ z v := fun {n res} h1 h2 => ⟨_, _, h1, h2, rfl, trivial⟩
  have fib : ∀ {n : Bool} {res : Result Value}, K (bv n) → res = .ok (.bool n) w → ∃ z v, K z ∧ res = .ok v w ∧ DenR ρ z v := fun {n res} h1 h2 => ⟨_, _, h1, h2, rfl, trivial⟩
  unfold intBin at hk
  cases op <;> simp only [] at hk <;> simp only [binOp, ne_eq, not_true_eq_false, if_false] 
  case add => exact fin (Bnd_ok hk) rfl
  case sub => exact fin (Bnd_ok hk) rfl
  case mul => exact fin (Bnd_ok hk) rfl
  case quo =>
    obtain ⟨h1, h2⟩ := Chk_ok hk
    have h1 : y ≠ 0 := by simpa using h1
    refine fin (Bnd_ok h2) ?_
    simp only [Op.intDiv, if_neg h1]; rfl
  case rem =>
    obtain ⟨h1, h2⟩ := Chk_ok hk
    have h1 : y ≠ 0 := by simpa using h1
    refine fin h2 ?_
    simp only [Op.intDiv, if_neg h1]; rfl
  case and => exact fin hk rfl
  case or => exact fin hk rfl
  case xor => exact fin hk rfl
  case shl => exact (hs rfl).elim
  case shr => exact (hs' rfl).elim
  case eql => exact fib hk (by simp [Op.intCmp, pure]; rfl)
  case neq => exact fib hk (by simp [Op.intCmp, pure, bne]; rfl)
  case lss => exact fib hk (by simp [Op.intCmp, pure])
  case leq => exact fib hk (by simp [Op.intCmp, pure])
  case gtr => exact fib hk (by simp [Op.intCmp, pure])
  case geq => exact fib hk (by simp [Op.intCmp, pure])
theorem shift_ok {op : BinOp} {k k' : IntKind} {x y : Int} {K : R → Prop} (hk : intBin op k x y K) (hs : op = .shl ∨ op = .shr) (t : TypeId) :
    ∃ z v, K z ∧ (binOp op t (.int k x) (.int k' y)).run P w = .ok v w ∧ DenR ρ z v := by
  have fin : ∀ {n : Int} {res : Result Value}, K (iv k n) → res = .ok (.int k n) w → ∃ z v, K z ∧ res = .ok v w ∧ DenR ρ z v := fun {n res} h1 h2 => ⟨_, _, h1, h2, rfl, trivial⟩
  unfold intBin at hk
  rcases hs with rfl | rfl <;> simp only [] at hk <;> simp only [binOp]
  · obtain ⟨h1, h2⟩ := Chk_ok hk
    have h1 : ¬ y < 0 := by have := of_decide_eq_true h1; omega
    refine fin (Bnd_ok h2) ?_
    simp only [Op.shift, if_neg h1]; rfl
  · obtain ⟨h1, h2⟩ := Chk_ok hk
    have h1 : ¬ y < 0 := by have := of_decide_eq_true h1; omega
    refine fin h2 ?_
    simp only [Op.shift, if_neg h1]; rfl
theorem eqC_ok {t : TypeId} {ti : TI} (ht : TIok P t ti) {x y : C} {k : Bool → Prop} (hk : eqC ti.desc x y k) {v u : Value} (hx : Den ρ x v) (hy : Den ρ y u) :
    ∃ b, k b ∧ (Op.equal t v u).run P w = .ok b w ∧ ((∀ z, v ≠ .string z) ∧ (∀ k n, v ≠ .int k n) ∧ (∀ l, v ≠ .agg l) ∧ v ≠ .nilIface) ∧ (∀ k b, v ≠ .float k b) ∧ (∀ k b c, v ≠ .complex k b c) := by
  obtain ⟨desc, h1, h2⟩ := ht.under (w := w)
  have h2' : ∀ w, (underlying t).run P w = .ok desc w := fun w => by
    obtain ⟨i, dd, z, q1, q2, _⟩ := ht
    have e := run_underlying (P := P) q2 w
    have e' := run_underlying (P := P) q2
    rw [e' _] at h2
    injection h2 with h2 _
    rw [e, h2]
  obtain ⟨n, e⟩ : ∃ n, Op.equal t v u = Op.equalIn (n + 1) t v u := ⟨9999, rfl⟩
  rw [e]; clear e
  unfold eqC at hk
  split at hk <;> try exact hk.elim
  all_goals (rename_i hd; rw [hd] at h1; cases desc <;> try exact h1.elim)
  all_goals simp only [Op.equalIn, Sem.run_bind, h2', Result.andThen_ok]
  · obtain ⟨rfl, _⟩ := hx; obtain ⟨rfl, _⟩ := hy
    exact ⟨_, hk, rfl, by simp⟩
  · obtain ⟨rfl, _⟩ := hx; obtain ⟨rfl, _⟩ := hy
    exact ⟨_, hk, rfl, by simp⟩
  · obtain ⟨b, o, _, rfl⟩ := hx; obtain ⟨rfl, _⟩ := hy
    exact ⟨_, hk, rfl, by simp⟩
  · obtain ⟨rfl, _⟩ := hx; obtain ⟨b, o, _, rfl⟩ := hy
    exact ⟨_, hk, rfl, by simp⟩
  · obtain ⟨b, o, _, rfl⟩ := hx; obtain ⟨rfl, _⟩ := hy
    exact ⟨_, hk, rfl, by simp⟩
  · obtain ⟨rfl, _⟩ := hx; obtain ⟨b, o, _, rfl⟩ := hy
    exact ⟨_, hk, rfl, by simp⟩
  · obtain ⟨b, o, a', _, rfl, _, hn, _⟩ := hx; obtain ⟨rfl, _⟩ := hy
    refine ⟨_, hk, ?_, by simp⟩
    subst hn
    cases a' <;> rfl
  · obtain ⟨rfl, _⟩ := hx; obtain ⟨b, o, a', _, rfl, _, hn, _⟩ := hy
    refine ⟨_, hk, ?_, by simp⟩
    subst hn
    cases a' <;> rfl
  · obtain ⟨rfl, _⟩ := hx; obtain ⟨rfl, _⟩ := hy
    exact ⟨_, hk, rfl, by simp⟩
end
end Go.Eng
