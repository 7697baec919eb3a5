/- Plain words, on: what a plan holds. No program in sight. -/
import Derived.Test.YtbdifadabipfiaaPuG
import Derived.Test.YtbdifadabipfiaaPuC
namespace Go.Pu
theorem ins_from {T : Nat → Trg} {i q : Nat} (hq : q ≤ i) : ∃ p, p ≤ i ∧ insF T i q = T p := by
  obtain ⟨g1, _, _⟩ := posF_prop T i
  show ∃ p, p ≤ i ∧ shF T i (posF T i) q = T p
  unfold shF
  by_cases h1 : q < posF T i
  · rw [if_pos h1]; exact ⟨q, hq, rfl⟩
  · rw [if_neg h1]
    by_cases h2 : q = posF T i
    · rw [if_pos h2]; exact ⟨i, Nat.le_refl _, rfl⟩
    · rw [if_neg h2, if_pos hq]; exact ⟨q - 1, by omega, rfl⟩
theorem ins_to {T : Nat → Trg} {i p : Nat} (hp : p ≤ i) : ∃ q, q ≤ i ∧ insF T i q = T p := by
  obtain ⟨g1, _, _⟩ := posF_prop T i
  show ∃ q, q ≤ i ∧ shF T i (posF T i) q = T p
  by_cases h1 : p < posF T i
  · refine ⟨p, hp, ?_⟩; unfold shF; rw [if_pos h1]
  · by_cases h2 : p = i
    · refine ⟨posF T i, g1, ?_⟩; unfold shF; rw [if_neg (Nat.lt_irrefl _), if_pos rfl, h2]
    · refine ⟨p + 1, by omega, ?_⟩; unfold shF; rw [if_neg (by omega), if_neg (by omega), if_pos (by omega)]; rfl
theorem sort_from (T : Nat → Trg) : ∀ n q, q < n → ∃ p, p < n ∧ sortF T n q = T p
  | 0, q, h => absurd h (Nat.not_lt_zero q)
  | n + 1, q, h => by
    obtain ⟨p, hp, e⟩ := ins_from (T := sortF T n) (i := n) (q := q) (by omega)
    show ∃ p, p < n + 1 ∧ insF (sortF T n) n q = T p
    rw [e]
    by_cases c : p = n
    · refine ⟨n, by omega, ?_⟩; rw [c]; exact sort_rest T n n (Nat.le_refl _)
    · obtain ⟨p', h1, h2⟩ := sort_from T n p (by omega)
      exact ⟨p', by omega, h2⟩
theorem sort_to (T : Nat → Trg) : ∀ n p, p < n → ∃ q, q < n ∧ sortF T n q = T p
  | 0, p, h => absurd h (Nat.not_lt_zero p)
  | n + 1, p, h => by
    by_cases c : p = n
    · obtain ⟨q, hq, e⟩ := ins_to (T := sortF T n) (i := n) (p := n) (Nat.le_refl _)
      refine ⟨q, by omega, ?_⟩
      show insF (sortF T n) n q = T p
      rw [e, c]; exact sort_rest T n n (Nat.le_refl _)
    · obtain ⟨p', h1, h2⟩ := sort_to T n p (by omega)
      obtain ⟨q, hq, e⟩ := ins_to (T := sortF T n) (i := n) (p := p') (by omega)
      refine ⟨q, by omega, ?_⟩
      show insF (sortF T n) n q = T p
      rw [e, h2]
theorem at0L_mem {l : List Trg} {i : Nat} (h : i < l.length) : at0L l i ∈ l := by
  unfold at0L
  rw [List.getD_eq_getElem?_getD, List.getElem?_eq_getElem h]
  exact List.getElem_mem h
theorem mem_at0L {l : List Trg} {t : Trg} (h : t ∈ l) : ∃ i, i < l.length ∧ at0L l i = t := by
  obtain ⟨i, hi, e⟩ := List.mem_iff_getElem.1 h
  refine ⟨i, hi, ?_⟩
  unfold at0L
  rw [List.getD_eq_getElem?_getD, List.getElem?_eq_getElem hi]
  exact e
theorem plan_mem {m : Mat} {who : Int} {q : Nat} (h : q < (rowL0 m who).length) : planF m who q ∈ rowL0 m who := by
  obtain ⟨p, hp, e⟩ := sort_from (at0L (rowL0 m who)) _ q h
  unfold planF
  rw [e]; exact at0L_mem hp
theorem mem_plan {m : Mat} {who : Int} {t : Trg} (h : t ∈ rowL0 m who) : ∃ q, q < (rowL0 m who).length ∧ planF m who q = t := by
  obtain ⟨p, hp, e⟩ := mem_at0L h
  obtain ⟨q, hq, e2⟩ := sort_to (at0L (rowL0 m who)) _ p hp
  exact ⟨q, hq, by unfold planF; rw [e2, e]⟩
theorem mem_wTrgs {m : Mat} {who : Int} {t : Trg} : ∀ k, t ∈ wTrgs m who k → ∃ i, i < k ∧ (m.W i).kind ≠ 3 ∧ t = trgW m who (m.W i)
  | 0, h => by cases h
  | k + 1, h => by
    simp only [wTrgs] at h
    by_cases c : (m.W k).kind = 3
    · rw [if_pos c] at h
      obtain ⟨i, h1, h2, h3⟩ := mem_wTrgs k h
      exact ⟨i, by omega, h2, h3⟩
    · rw [if_neg c, List.mem_append, List.mem_singleton] at h
      rcases h with h | h
      · obtain ⟨i, h1, h2, h3⟩ := mem_wTrgs k h
        exact ⟨i, by omega, h2, h3⟩
      · exact ⟨k, by omega, c, h⟩
/-- What a plan is made of. -/
theorem mem_row {m : Mat} {who : Int} {t : Trg} (h : t ∈ rowL0 m who) : (∃ i, i < m.nW ∧ (m.W i).kind ≠ 3 ∧ t = trgW m who (m.W i)) ∨ (0 ≤ rankM m who ∧ t = ⟨4, m.length, 0, 1, 0, 0⟩) ∨ (0 ≤ rankM m who ∧ t = ⟨4, beat1 m (rankM m who), 0, 1, 1, 0⟩) ∨ t = ⟨5, watch1 m, 0, 1, 0, 0⟩ := by
  unfold rowL0 at h
  rw [List.mem_append, List.mem_singleton] at h
  rcases h with h | h
  · by_cases c : 0 ≤ rankM m who
    · rw [if_pos c, List.mem_append, List.mem_append, List.mem_singleton, List.mem_singleton] at h
      rcases h with (h | h) | h
      · exact .inl (mem_wTrgs _ h)
      · exact .inr (.inl ⟨c, h⟩)
      · exact .inr (.inr (.inl ⟨c, h⟩))
    · rw [if_neg c] at h; exact .inl (mem_wTrgs _ h)
  · exact .inr (.inr (.inr h))
theorem watch_mem (m : Mat) (who : Int) : (⟨5, watch1 m, 0, 1, 0, 0⟩ : Trg) ∈ rowL0 m who := by
  unfold rowL0
  rw [List.mem_append, List.mem_singleton]; exact .inr rfl
/-! ### What is due -/
theorem due_congr {T : Nat → Trg} {c c2 a b : Int} {n : Nat} (h : ∀ i, i < n → comes (T i).cyc (T i).rep c = comes (T i).cyc (T i).rep c2) : dueL T c a b n = dueL T c2 a b n := by
  induction n with
  | zero => rfl
  | succ n ih =>
    simp only [dueL]
    rw [ih fun i hi => h i (by omega)]
    unfold dueB
    rw [h n (by omega)]
theorem due_none {T : Nat → Trg} {c a b : Int} {n : Nat} (h : ∀ i, i < n → (T i).at_ ≤ a) : dueL T c a b n = [] := by
  induction n with
  | zero => rfl
  | succ n ih =>
    simp only [dueL]
    have := h n (by omega)
    rw [ih fun i hi => h i (by omega), if_neg (by unfold dueB; rw [decide_eq_false (by omega)]; simp)]
theorem due_some {T : Nat → Trg} {c a b : Int} {n i : Nat} (hi : i < n) (h : dueB (T i) c a b = true) : 1 ≤ (dueL T c a b n).length := by
  induction n with
  | zero => omega
  | succ n ih =>
    simp only [dueL]
    by_cases e : i = n
    · subst e; rw [if_pos h, List.length_append]; simp
    · have := ih (by omega)
      split
      · rw [List.length_append]; omega
      · exact this
theorem plan_at {m : Mat} (h : Pass m) {who : Int} {t : Trg} (ht : t ∈ rowL0 m who) : t.at_ ≤ watch1 m := by
  have hi := h.is
  have hl := hi.head
  unfold headP at hl
  have hs := step_bd (m := m)
  have ew : watch1 m = m.length + ((m.nM : Int) + 2) * step m := by unfold watch1; rw [if_pos (isM_iff.2 hi)]; rfl
  have hw := watch_bd hi
  rcases mem_row ht with ⟨i, h1, h2, rfl⟩ | ⟨_, rfl⟩ | ⟨h1, rfl⟩ | rfl
  · have hp := hi.W i h1
    unfold winP at hp
    unfold trgW
    split
    · show (m.W i).st ≤ _; omega
    · split
      · show (m.W i).st ≤ _; omega
      · show (m.W i).en - 1 ≤ _; omega
  · show m.length ≤ _; omega
  · show beat1 m (rankM m who) ≤ _
    have hr : rankM m who < m.nM := by
      unfold rankM
      rcases first_cases m.nM (fun j => decide (m.M j = who)) with ⟨e, _⟩ | ⟨j, e1, e2, _⟩
      · rw [e]; have := hi.size.1; omega
      · rw [e2]; omega
    have hn := hi.size.2.1
    unfold beat1
    rw [if_pos (isM_iff.2 hi), if_neg (by omega), ew]
    have : (rankM m who + 1) * step m ≤ ((m.nM : Int) + 2) * step m := Int.mul_le_mul_of_nonneg_right (by omega) (by omega)
    omega
  · exact Int.le_refl _
theorem comes_1 {n : Int} (h : 0 ≤ n) : comes 0 1 n = true := by
  rw [comes_iff (by decide) ⟨by decide, by decide⟩ h]
  exact decide_eq_true (Int.tmod_one n)
theorem plan_comes {m : Mat} (h : Pass m) {who : Int} {t : Trg} (ht : t ∈ rowL0 m who) {n : Int} (hn : 0 ≤ n) : comes t.cyc t.rep (n + m.cycles) = comes t.cyc t.rep n := by
  have hi := h.is
  have hc := h.cyc8
  rcases mem_row ht with ⟨i, h1, h2, rfl⟩ | ⟨_, rfl⟩ | ⟨_, rfl⟩ | rfl
  · have hp := comes_round hi.head (hi.W i h1) hn
    unfold trgW
    split
    · exact hp
    · split <;> exact hp
  · show comes 0 1 _ = comes 0 1 _; rw [comes_1 (by omega), comes_1 hn]
  · show comes 0 1 _ = comes 0 1 _; rw [comes_1 (by omega), comes_1 hn]
  · show comes 0 1 _ = comes 0 1 _; rw [comes_1 (by omega), comes_1 hn]
end Go.Pu
