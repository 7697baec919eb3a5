/- Plain words, on: laying one by one is sorting. No program in sight. -/
import Derived.Test.YtbdifadabipfiaaPuG
namespace Go.Pu
theorem first_eq {n : Nat} {p q : Nat → Bool} (h : ∀ i, i < n → p i = q i) : first n p = first n q := by
  rcases first_cases n p with ⟨h1, h2⟩ | ⟨j, h1, h2, h3, h4⟩
  · rw [h1, first_none fun j hj => by rw [← h j hj]; exact h2 j hj]
  · rw [h2, first_some h1 (fun k hk => by rw [← h k (by omega)]; exact h4 k hk) (by rw [← h j h1]; exact h3)]
theorem posF_congr {A B : Nat → Trg} {i : Nat} (h : ∀ q, q ≤ i → A q = B q) : posF A i = posF B i := by
  unfold posF
  have e : first i (fun q => decide ((A i).at_ < (A q).at_)) = first i (fun q => decide ((B i).at_ < (B q).at_)) := first_eq fun q hq => by rw [h i (Nat.le_refl _), h q (by omega)]
  rw [e]
theorem insF_congr {A B : Nat → Trg} {i : Nat} (h : ∀ q, q ≤ i → A q = B q) {q : Nat} (hq : q ≤ i) : insF A i q = insF B i q := by
  have hp := posF_congr h
  have h1 := (posF_prop B i).1
  unfold insF shF
  rw [hp]
  by_cases c1 : q < posF B i
  · rw [if_pos c1, if_pos c1, h q hq]
  · rw [if_neg c1, if_neg c1]
    by_cases c2 : q = posF B i
    · rw [if_pos c2, if_pos c2, h i (Nat.le_refl _)]
    · rw [if_neg c2, if_neg c2, if_pos hq, if_pos hq, h (q - 1) (by omega)]
theorem sort_congr {A B : Nat → Trg} : ∀ (n : Nat), (∀ q, q < n → A q = B q) → ∀ q, q < n → sortF A n q = sortF B n q
  | 0, _, q, hq => absurd hq (Nat.not_lt_zero q)
  | n + 1, h, q, hq => by
    show insF (sortF A n) n q = insF (sortF B n) n q
    refine insF_congr (fun p hp => ?_) (by omega)
    by_cases c : p = n
    · rw [c, sort_rest A n n (Nat.le_refl _), sort_rest B n n (Nat.le_refl _)]; exact h n (by omega)
    · exact sort_congr n (fun q hq => h q (by omega)) p (by omega)
def behF (T : Nat → Trg) (n : Nat) (t : Trg) (q : Nat) : Trg := if q < n then T q else t
theorem lay_next {A : Nat → Trg} {L : List Trg} {t : Trg} {k : Nat} (hk : L.length = k) (hA : ∀ q, q < k → A q = sortF (at0L L) k q) {q : Nat} (hq : q < k + 1) : insF (behF A k t) k q = sortF (at0L (L ++ [t])) (k + 1) q := by
  show _ = insF (sortF (at0L (L ++ [t])) k) k q
  refine insF_congr (fun p hp => ?_) (by omega)
  unfold behF
  by_cases c : p < k
  · rw [if_pos c, hA p c]
    refine sort_congr k (fun q hq => ?_) p c
    rw [at0L_end _ _ _ (by omega), hk, if_pos hq]
  · obtain rfl : p = k := by omega
    rw [if_neg c, sort_rest _ p p (Nat.le_refl _), at0L_end _ _ _ (by omega), hk, if_neg c]
end Go.Pu
