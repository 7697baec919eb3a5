/- Plain words, on: triggers; a row sorted by insertion. No program in sight. -/
import Derived.Test.YtbdifadabipfiaaPuD
namespace Go.Pu
def trg0 : Trg := ⟨0, 0, 0, 0, 0, 0⟩
/-- The row with what stands at i put to place j. -/
def shF (T : Nat → Trg) (i j : Nat) (q : Nat) : Trg := if q < j then T q else if q = j then T i else if q ≤ i then T (q - 1) else T q
/-- Where what stands at i belongs: ahead of the first that is greater. -/
def posF (T : Nat → Trg) (i : Nat) : Nat := if first i (fun q => decide ((T i).at_ < (T q).at_)) = -1 then i else (first i (fun q => decide ((T i).at_ < (T q).at_))).toNat
def insF (T : Nat → Trg) (i : Nat) : Nat → Trg := shF T i (posF T i)
def sortF (T : Nat → Trg) : Nat → Nat → Trg
  | 0 => T
  | k + 1 => insF (sortF T k) k
def sortedF (T : Nat → Trg) (n : Nat) : Prop := ∀ p q, p < q → q < n → (T p).at_ ≤ (T q).at_
theorem posF_prop (T : Nat → Trg) (i : Nat) : posF T i ≤ i ∧ (∀ q, q < posF T i → (T q).at_ ≤ (T i).at_) ∧ (posF T i < i → (T i).at_ < (T (posF T i)).at_) := by
  unfold posF
  rcases first_cases i (fun q => decide ((T i).at_ < (T q).at_)) with ⟨h1, h2⟩ | ⟨j, h1, h2, h3, h4⟩
  · rw [if_pos h1]
    refine ⟨Nat.le_refl _, fun q hq => ?_, fun h => absurd h (Nat.lt_irrefl _)⟩
    have := of_decide_eq_false (h2 q hq); omega
  · rw [h2, if_neg (by omega), Int.toNat_natCast]
    refine ⟨by omega, fun q hq => ?_, fun _ => of_decide_eq_true h3⟩
    have := of_decide_eq_false (h4 q hq); omega
theorem posF_is {T : Nat → Trg} {i j : Nat} (h1 : j ≤ i) (h2 : ∀ q, q < j → (T q).at_ ≤ (T i).at_) (h3 : j < i → (T i).at_ < (T j).at_) : posF T i = j := by
  obtain ⟨g1, g2, g3⟩ := posF_prop T i
  rcases Nat.lt_trichotomy (posF T i) j with c | c | c
  · have := h2 _ c
    have := g3 (by omega); omega
  · exact c
  · have := g2 _ c
    have := h3 (by omega); omega
theorem shF_same (T : Nat → Trg) (i : Nat) : shF T i i = T := by
  funext q
  unfold shF
  by_cases h1 : q < i
  · rw [if_pos h1]
  · rw [if_neg h1]
    by_cases h2 : q = i
    · rw [if_pos h2, h2]
    · rw [if_neg h2, if_neg (by omega)]
theorem ins_sorted {T : Nat → Trg} {i : Nat} (h : sortedF T i) : sortedF (insF T i) (i + 1) := by
  obtain ⟨g1, g2, g3⟩ := posF_prop T i
  have key : ∀ q, posF T i ≤ q → q < i → (T i).at_ < (T q).at_ := fun q h1 h2 => by
    rcases Nat.lt_or_eq_of_le h1 with c | c
    · have := g3 (by omega)
      have := h _ _ c h2
      omega
    · rw [← c]; exact g3 (by omega)
  intro p q hpq hq
  unfold insF shF
  by_cases p1 : p < posF T i
  · rw [if_pos p1]
    by_cases q1 : q < posF T i
    · rw [if_pos q1]; exact h p q hpq (by omega)
    · rw [if_neg q1]
      by_cases q2 : q = posF T i
      · rw [if_pos q2]; exact g2 p p1
      · rw [if_neg q2, if_pos (by omega)]
        have := g2 p p1
        have := key (q - 1) (by omega) (by omega)
        omega
  · rw [if_neg p1, if_neg (show ¬ q < posF T i by omega), if_neg (show ¬ q = posF T i by omega), if_pos (show q ≤ i by omega)]
    by_cases p2 : p = posF T i
    · rw [if_pos p2]
      have := key (q - 1) (by omega) (by omega)
      omega
    · rw [if_neg p2, if_pos (by omega)]
      exact h (p - 1) (q - 1) (by omega) (by omega)
theorem sort_sorted (T : Nat → Trg) : ∀ n, sortedF (sortF T n) n
  | 0 => fun p q _ hq => absurd hq (Nat.not_lt_zero q)
  | n + 1 => ins_sorted (sort_sorted T n)
theorem sort_rest (T : Nat → Trg) : ∀ n q, n ≤ q → sortF T n q = T q
  | 0, _, _ => rfl
  | n + 1, q, h => by
    obtain ⟨g1, _, _⟩ := posF_prop (sortF T n) n
    show shF (sortF T n) n (posF (sortF T n) n) q = T q
    unfold shF
    rw [if_neg (by omega), if_neg (by omega), if_neg (by omega)]
    exact sort_rest T n q (by omega)
/-- The end of a place's way down. -/
theorem ins_end {T : Nat → Trg} {i j : Nat} (hs : sortedF T i) (h1 : j ≤ i) (h2 : ∀ q, j ≤ q → q < i → (T i).at_ < (T q).at_) (h3 : j = 0 ∨ (T (j - 1)).at_ ≤ (T i).at_) : shF T i j = insF T i := by
  unfold insF
  rw [posF_is h1 (fun q hq => ?_) (fun h => h2 j (Nat.le_refl _) h)]
  rcases h3 with e | e
  · omega
  · by_cases c : q = j - 1
    · rw [c]; exact e
    · have := hs q (j - 1) (by omega) (by omega); omega
theorem shF_down (T : Nat → Trg) {i j : Nat} (h0 : 0 < j) (h1 : j ≤ i) (q : Nat) : shF T i (j - 1) q = if q = j - 1 then T i else if q = j then T (j - 1) else shF T i j q := by
  unfold shF
  by_cases e1 : q = j - 1
  · rw [if_neg (by omega), if_pos e1, if_pos e1]
  · rw [if_neg e1, if_neg e1]
    by_cases e2 : q = j
    · rw [if_neg (by omega), if_pos (by omega), if_pos e2, e2]
    · rw [if_neg e2, if_neg e2]
      by_cases e3 : q < j - 1
      · rw [if_pos e3, if_pos (by omega)]
      · rw [if_neg e3, if_neg (show ¬ q < j by omega)]
end Go.Pu
