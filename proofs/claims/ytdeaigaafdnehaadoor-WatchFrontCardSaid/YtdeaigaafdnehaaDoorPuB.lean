/- Plain words, on: matrices that pass the check; windows. No program in sight. -/
import Derived.Test.YtdeaigaafdnehaaDoorPuA
namespace Go.Pu
structure Pass (m : Mat) : Prop where
  is : m.Is
  len : step m ≤ m.length
  who : (chkO m).2 = 0
  two : (chkT m).2 = 0
  win : ∀ i, i < m.nW → winErr m i = 0
theorem pass_of {m : Mat} (h : (chk m).2 = 0) : Pass m := by
  unfold chk at h
  by_cases h1 : isM m = false
  · rw [if_pos h1] at h; cases h
  rw [if_neg h1] at h
  by_cases h2 : m.length < step m
  · rw [if_pos h2] at h; cases h
  rw [if_neg h2] at h
  by_cases h3 : (chkO m).2 = 0
  · rw [if_neg (by simp [h3])] at h
    by_cases h4 : (chkT m).2 = 0
    · rw [if_neg (by simp [h4])] at h
      by_cases h5 : (chkW m).2 = 0
      · refine ⟨isM_iff.1 (by simpa using h1), by omega, h3, h4, fun i hi => ?_⟩
        rcases first_cases m.nW (fun i => decide (winErr m i ≠ 0)) with ⟨_, q⟩ | ⟨j, q1, q2, q3, _⟩
        · have := q i hi
          simpa using this
        · exfalso
          unfold chkW at h5
          rw [q2, if_pos (by omega), Int.toNat_natCast] at h5
          have q3 := of_decide_eq_true q3
          exact q3 h5
      · rw [if_pos h5] at h; exact absurd h h5
    · rw [if_pos h4] at h; exact absurd h h4
  · rw [if_pos h3] at h; exact absurd h h3
theorem err_no {m : Mat} {i : Nat} (h : winErr m i = 0) : ¬ ((m.W i).kind = 1 ∧ ((m.nG : Int) ≤ (m.W i).msg ∨ (m.G (m.W i).msg.toNat).ev = true)) ∧ ¬ ((m.W i).st < step m ∨ ((m.W i).kind ≠ 3 ∧ (m.W i).en - (m.W i).st < step m)) ∧ anyB i (fun k => meet m i k) = false := by
  unfold winErr at h
  split at h
  · cases h
  · rename_i h1
    split at h
    · cases h
    · rename_i h2
      split at h
      · cases h
      · rename_i h3
        exact ⟨h1, h2, by simpa using h3⟩
/-- What passes, of a window. -/
theorem Pass.w {m : Mat} (h : Pass m) {i : Nat} (hi : i < m.nW) : winP m (m.W i) ∧ ((m.W i).kind = 1 → (m.W i).msg < m.nG ∧ (m.G (m.W i).msg.toNat).ev = false) ∧ step m ≤ (m.W i).st ∧ ((m.W i).kind ≠ 3 → step m ≤ (m.W i).en - (m.W i).st) ∧ ∀ k, k < i → meet m i k = false := by
  obtain ⟨h1, h2, h3⟩ := err_no (h.win i hi)
  refine ⟨h.is.W i hi, fun hk => ⟨?_, ?_⟩, by omega, by omega, fun k hk => anyB_false.1 h3 k hk⟩
  · by_cases e : (m.nG : Int) ≤ (m.W i).msg
    · exact absurd ⟨hk, .inl e⟩ h1
    · omega
  · cases hev : (m.G (m.W i).msg.toNat).ev with
    | false => rfl
    | true => exact absurd ⟨hk, .inr hev⟩ h1
/-! ### The window of a unit -/
def atB (m : Mat) (cycle unit : Int) (i : Nat) : Bool := comes (m.W i).cyc (m.W i).rep cycle && decide ((m.W i).st ≤ unit ∧ unit < (m.W i).en)
def at0 (m : Mat) (cycle unit : Int) : Int := first m.nW (atB m cycle unit)
def at1 (m : Mat) (cycle unit : Int) : Int := if (chk m).2 = 0 then at0 m cycle unit else -1
theorem at0_bd (m : Mat) (c u : Int) : -1 ≤ at0 m c u ∧ at0 m c u < m.nW := by
  unfold at0
  rcases first_cases m.nW (atB m c u) with ⟨h, _⟩ | ⟨j, h1, h2, _⟩
  · rw [h]; omega
  · rw [h2]; omega
def owner1 (m : Mat) (c u : Int) : Int := if at1 m c u < 0 ∨ (m.W (at1 m c u).toNat).kind ≠ 1 then -1 else (m.G (m.W (at1 m c u).toNat).msg.toNat).ow
/-- A sign, by a window's kind. -/
def sgn (k : Int) : Int := if k = 0 then 45 else if k = 1 then 69 else if k = 2 then 65 else 70
def kindAt (m : Mat) (c u : Int) : Int := if 0 ≤ at0 m c u then (m.W (at0 m c u).toNat).kind else 0
theorem sgn_bd (k : Int) : 45 ≤ sgn k ∧ sgn k ≤ 70 := by unfold sgn; split <;> (try split) <;> (try split) <;> omega
/-- How many of the first n units are free. -/
def freeN (F : Nat → Int) : Nat → Nat
  | 0 => 0
  | n + 1 => freeN F n + if F n = 45 ∨ F n = 70 then 1 else 0
theorem freeN_le (F : Nat → Int) : ∀ n, freeN F n ≤ n
  | 0 => Nat.le_refl _
  | n + 1 => by have := freeN_le F n; simp only [freeN]; split <;> omega
end Go.Pu
