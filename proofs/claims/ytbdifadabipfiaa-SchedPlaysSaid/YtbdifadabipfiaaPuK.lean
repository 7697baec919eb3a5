/- Plain words, on: what is open. No program in sight. -/
import Derived.Test.YtbdifadabipfiaaPuJ
namespace Go.Pu
def sndB (t : Trg) : Bool := decide (t.kind = 1 ∨ t.kind = 2)
/-- What is open behind the first of some triggers. -/
def opnT (D : Nat → Trg) (o : Trg) : Nat → Trg
  | 0 => o
  | i + 1 => if sndB (D i) then D i else opnT D o i
def opnB (D : Nat → Trg) (b : Bool) : Nat → Bool
  | 0 => b
  | i + 1 => if sndB (D i) then true else opnB D b i
theorem opn_T (D : Nat → Trg) (o : Trg) (i : Nat) (h : sndB (D i) = true) : opnT D o (i + 1) = D i := if_pos h
theorem opn_TN (D : Nat → Trg) (o : Trg) (i : Nat) (h : ¬ sndB (D i) = true) : opnT D o (i + 1) = opnT D o i := if_neg h
theorem opn_B (D : Nat → Trg) (b : Bool) (i : Nat) (h : sndB (D i) = true) : opnB D b (i + 1) = true := if_pos h
theorem opn_BN (D : Nat → Trg) (b : Bool) (i : Nat) (h : ¬ sndB (D i) = true) : opnB D b (i + 1) = opnB D b i := if_neg h
theorem opn_from (D : Nat → Trg) (o : Trg) : ∀ k, opnT D o k = o ∨ ∃ q, q < k ∧ opnT D o k = D q
  | 0 => .inl rfl
  | k + 1 => by
    by_cases h : sndB (D k) = true
    · exact .inr ⟨k, by omega, opn_T D o k h⟩
    · rw [opn_TN D o k h]
      rcases opn_from D o k with e | ⟨q, hq, e⟩
      · exact .inl e
      · exact .inr ⟨q, by omega, e⟩
/-- What is due is of the row. -/
theorem due_from {T : Nat → Trg} {c a b : Int} : ∀ {n : Nat} {t : Trg}, t ∈ dueL T c a b n → ∃ i, i < n ∧ T i = t
  | 0, t, h => by cases h
  | n + 1, t, h => by
    simp only [dueL] at h
    by_cases d : dueB (T n) c a b = true
    · rw [if_pos d, List.mem_append, List.mem_singleton] at h
      rcases h with h | h
      · obtain ⟨i, hi, e⟩ := due_from h
        exact ⟨i, by omega, e⟩
      · exact ⟨n, by omega, h.symm⟩
    · rw [if_neg d] at h
      obtain ⟨i, hi, e⟩ := due_from h
      exact ⟨i, by omega, e⟩
theorem plan_til {m : Mat} (h : Pass m) {who : Int} {t : Trg} (ht : t ∈ rowL0 m who) : 0 ≤ t.til ∧ t.til ≤ 5000 := by
  have hi := h.is
  have hl := hi.head
  have hst := step_bd (m := m)
  unfold headP at hl
  rcases mem_row ht with ⟨i, h1, h2, rfl⟩ | ⟨_, rfl⟩ | ⟨_, rfl⟩ | rfl
  · have hw := (h.w h1)
    have hp := hw.1
    have h3 := hw.2.2.1
    have h4 := hw.2.2.2.1 h2
    unfold winP at hp
    unfold trgW
    split
    · show 0 ≤ (m.W i).en - step m ∧ (m.W i).en - step m ≤ 5000; omega
    · split
      · show 0 ≤ (m.W i).st + m.enable ∧ (m.W i).st + m.enable ≤ 5000; omega
      · exact ⟨Int.le_refl _, by show (0 : Int) ≤ 5000; decide⟩
  · exact ⟨Int.le_refl _, by show (0 : Int) ≤ 5000; decide⟩
  · exact ⟨Int.le_refl _, by show (0 : Int) ≤ 5000; decide⟩
  · exact ⟨Int.le_refl _, by show (0 : Int) ≤ 5000; decide⟩
/-- What is open of a plan's. -/
theorem open_til {m : Mat} (h : Pass m) {who c a b : Int} {k : Nat} (hk : (dueL (planF m who) c a b (rowL0 m who).length).length = k) : 0 ≤ (opnT (at0L (dueL (planF m who) c a b (rowL0 m who).length)) trg0 k).til ∧ (opnT (at0L (dueL (planF m who) c a b (rowL0 m who).length)) trg0 k).til ≤ 5000 := by
  rcases opn_from (at0L (dueL (planF m who) c a b (rowL0 m who).length)) trg0 k with e | ⟨q, hq, e⟩
  · rw [e]; exact ⟨Int.le_refl _, by show (0 : Int) ≤ 5000; decide⟩
  · rw [e]
    obtain ⟨i, hi, e2⟩ := due_from (at0L_mem (show q < (dueL (planF m who) c a b (rowL0 m who).length).length by omega))
    rw [← e2]
    exact plan_til h (plan_mem hi)
/-- Cut in two: the first, then the rest. -/
theorem due_split {T : Nat → Trg} {cy a b d : Int} (h : a ≤ b ∧ b ≤ d) : ∀ n, sortedF T n → dueL T cy a b n ++ dueL T cy b d n = dueL T cy a d n
  | 0, _ => rfl
  | n + 1, hs => by
    have ih := due_split (T := T) (cy := cy) h n fun p q h1 h2 => hs p q h1 (by omega)
    have e1 : dueL T cy a b (n + 1) = if dueB (T n) cy a b then dueL T cy a b n ++ [T n] else dueL T cy a b n := rfl
    have e2 : dueL T cy b d (n + 1) = if dueB (T n) cy b d then dueL T cy b d n ++ [T n] else dueL T cy b d n := rfl
    have e3 : dueL T cy a d (n + 1) = if dueB (T n) cy a d then dueL T cy a d n ++ [T n] else dueL T cy a d n := rfl
    rw [e1, e2, e3, ← ih]
    have f1 : dueB (T n) cy a b = (decide (a < (T n).at_ ∧ (T n).at_ ≤ b) && comes (T n).cyc (T n).rep cy) := rfl
    have f2 : dueB (T n) cy b d = (decide (b < (T n).at_ ∧ (T n).at_ ≤ d) && comes (T n).cyc (T n).rep cy) := rfl
    have f3 : dueB (T n) cy a d = (decide (a < (T n).at_ ∧ (T n).at_ ≤ d) && comes (T n).cyc (T n).rep cy) := rfl
    rw [f1, f2, f3]
    by_cases c : (T n).at_ ≤ b
    · have e : dueL T cy b d n = [] := due_none fun i hi => by have := hs i n hi (by omega); omega
      rw [e, decide_eq_false (show ¬ (b < (T n).at_ ∧ (T n).at_ ≤ d) by omega)]
      by_cases c2 : a < (T n).at_
      · rw [decide_eq_true (show a < (T n).at_ ∧ (T n).at_ ≤ b by omega), decide_eq_true (show a < (T n).at_ ∧ (T n).at_ ≤ d by omega)]
        cases comes (T n).cyc (T n).rep cy <;> simp
      · rw [decide_eq_false (show ¬ (a < (T n).at_ ∧ (T n).at_ ≤ b) by omega), decide_eq_false (show ¬ (a < (T n).at_ ∧ (T n).at_ ≤ d) by omega)]
        simp
    · rw [decide_eq_false (show ¬ (a < (T n).at_ ∧ (T n).at_ ≤ b) by omega)]
      by_cases c2 : (T n).at_ ≤ d
      · rw [decide_eq_true (show b < (T n).at_ ∧ (T n).at_ ≤ d by omega), decide_eq_true (show a < (T n).at_ ∧ (T n).at_ ≤ d by omega)]
        cases comes (T n).cyc (T n).rep cy <;> simp
      · rw [decide_eq_false (show ¬ (b < (T n).at_ ∧ (T n).at_ ≤ d) by omega), decide_eq_false (show ¬ (a < (T n).at_ ∧ (T n).at_ ≤ d) by omega)]
        simp
theorem at0L_right {A B : List Trg} {i : Nat} : at0L (A ++ B) (A.length + i) = at0L B i := by
  unfold at0L
  rw [List.getD_eq_getElem?_getD, List.getD_eq_getElem?_getD, List.getElem?_append_right (by omega), Nat.add_sub_cancel_left]
theorem at0L_left {A B : List Trg} {i : Nat} (h : i < A.length) : at0L (A ++ B) i = at0L A i := by
  unfold at0L
  rw [List.getD_eq_getElem?_getD, List.getD_eq_getElem?_getD, List.getElem?_append_left h]
end Go.Pu
