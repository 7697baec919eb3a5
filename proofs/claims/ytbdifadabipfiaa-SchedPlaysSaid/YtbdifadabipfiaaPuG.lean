/- Plain words, on: a node's plan. No program in sight. -/
import Derived.Test.YtbdifadabipfiaaPuF
import Derived.Test.YtbdifadabipfiaaPuB
namespace Go.Pu
deriving instance DecidableEq for Trg
def beat1 (m : Mat) (r : Int) : Int := if isM m then (if r < 0 ∨ 99 < r then m.length else m.length + (r + 1) * step m) else 0
def trgW (m : Mat) (who : Int) (w : Win) : Trg :=
  if w.kind = 2 then ⟨2, w.st, w.cyc, w.rep, w.msg, w.en - step m⟩
  else if (m.G w.msg.toNat).ow = who then ⟨1, w.st, w.cyc, w.rep, w.msg, w.st + m.enable⟩
  else ⟨3, w.en - 1, w.cyc, w.rep, w.msg, 0⟩
/-- Of the first windows. -/
def wTrgs (m : Mat) (who : Int) : Nat → List Trg
  | 0 => []
  | k + 1 => if (m.W k).kind = 3 then wTrgs m who k else wTrgs m who k ++ [trgW m who (m.W k)]
theorem wTrgs_len (m : Mat) (who : Int) : ∀ k, (wTrgs m who k).length ≤ k
  | 0 => Nat.le_refl _
  | k + 1 => by
    have := wTrgs_len m who k
    simp only [wTrgs]
    split
    · omega
    · simp only [List.length_append, List.length_cons, List.length_nil]; omega
def rankM (m : Mat) (v : Int) : Int := first m.nM fun j => decide (m.M j = v)
/-- Before it is sorted. -/
def rowL0 (m : Mat) (who : Int) : List Trg :=
  (if 0 ≤ rankM m who then wTrgs m who m.nW ++ [⟨4, m.length, 0, 1, 0, 0⟩] ++ [⟨4, beat1 m (rankM m who), 0, 1, 1, 0⟩] else wTrgs m who m.nW) ++ [⟨5, watch1 m, 0, 1, 0, 0⟩]
def at0L (l : List Trg) (i : Nat) : Trg := l.getD i trg0
theorem at0L_end (l : List Trg) (t : Trg) (i : Nat) (h : i < l.length + 1) : at0L (l ++ [t]) i = if i < l.length then at0L l i else t := by
  unfold at0L
  by_cases c : i < l.length
  · rw [if_pos c]; simp [List.getD, List.getElem?_append_left c]
  · rw [if_neg c]
    have : i = l.length := by omega
    subst this
    simp [List.getD]
theorem rowL0_len (m : Mat) (who : Int) : 1 ≤ (rowL0 m who).length ∧ (rowL0 m who).length ≤ m.nW + 3 := by
  have := wTrgs_len m who m.nW
  unfold rowL0
  split <;> simp only [List.length_append, List.length_cons, List.length_nil] <;> omega
def planF (m : Mat) (who : Int) : Nat → Trg := sortF (at0L (rowL0 m who)) (rowL0 m who).length
/-- What is due of the first i triggers. -/
def dueB (t : Trg) (c a b : Int) : Bool := decide (a < t.at_ ∧ t.at_ ≤ b) && comes t.cyc t.rep c
def dueL (T : Nat → Trg) (c a b : Int) : Nat → List Trg
  | 0 => []
  | i + 1 => if dueB (T i) c a b then dueL T c a b i ++ [T i] else dueL T c a b i
theorem dueL_len (T : Nat → Trg) (c a b : Int) : ∀ i, (dueL T c a b i).length ≤ i
  | 0 => Nat.le_refl _
  | i + 1 => by
    have := dueL_len T c a b i
    simp only [dueL]
    split
    · simp only [List.length_append, List.length_cons, List.length_nil]; omega
    · omega
theorem at0L_out (l : List Trg) (i : Nat) (h : l.length ≤ i) : at0L l i = trg0 := by
  unfold at0L
  simp [List.getD, List.getElem?_eq_none h]
theorem at0L_app (l : List Trg) (t : Trg) (i : Nat) : at0L (l ++ [t]) i = if i = l.length then t else at0L l i := by
  by_cases c : i < l.length + 1
  · rw [at0L_end _ _ _ c]
    by_cases d : i < l.length
    · rw [if_pos d, if_neg (by omega)]
    · rw [if_neg d, if_pos (by omega)]
  · rw [if_neg (by omega), at0L_out _ _ (by simp only [List.length_append, List.length_cons, List.length_nil]; omega), at0L_out _ _ (by omega)]
end Go.Pu
