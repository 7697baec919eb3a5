/- Plain words, on: windows of a cycle, their units. No program in sight. -/
import Derived.Test.YtbdifadabipfiaaPuB
namespace Go.Pu
/-! ### Coming round -/
theorem comes_iff {c r n : Int} (hr : 0 < r) (hc : 0 ≤ c ∧ c < r) (hn : 0 ≤ n) : comes c r n = decide (n.tmod r = c) := by
  unfold comes
  apply decide_eq_decide.2
  have q1 := Int.emod_def n r
  rw [Int.tmod_eq_emod_of_nonneg hn]
  constructor
  · rintro ⟨_, _, h3, h4⟩
    rw [Int.tmod_eq_emod_of_nonneg (by omega)] at h4
    have h5 := Int.emod_emod_of_dvd n (Int.dvd_refl r)
    have h6 : n % r = ((n - c) + c) % r := by congr 1; omega
    rw [h6, Int.add_emod, h4, Int.zero_add, Int.emod_emod_of_dvd _ (Int.dvd_refl r), Int.emod_eq_of_lt hc.1 hc.2]
  · intro h
    have h1 : n % r ≤ n := by have q2 : 0 ≤ r * (n / r) := Int.mul_nonneg (by omega) (Int.ediv_nonneg hn (by omega)); omega
    refine ⟨hr, hc.1, by omega, ?_⟩
    rw [Int.tmod_eq_emod_of_nonneg (by omega), show n - c = r * (n / r) by omega]
    exact Int.mul_emod_right r (n / r)
theorem power_dvd {r c : Int} (hr : power r) (hc : power c) (h : r ≤ c) : ∃ k : Int, c = r * k ∧ 1 ≤ k := by
  unfold power at hr hc
  rcases hr with rfl | rfl | rfl | rfl <;> rcases hc with rfl | rfl | rfl | rfl
  all_goals first
    | (exfalso; omega)
    | exact ⟨1, by omega, by omega⟩
    | exact ⟨2, by omega, by omega⟩
    | exact ⟨4, by omega, by omega⟩
    | exact ⟨8, by omega, by omega⟩
theorem tmod_add {n r k : Int} (hn : 0 ≤ n) (hr : 0 < r) (hk : 1 ≤ k) : (n + r * k).tmod r = n.tmod r := by
  have : 0 ≤ r * k := Int.mul_nonneg (by omega) (by omega)
  rw [Int.tmod_eq_emod_of_nonneg (by omega), Int.tmod_eq_emod_of_nonneg hn, Int.add_mul_emod_self_left]
/-- What a window says of a cycle. -/
theorem comes_w {m : Mat} {w : Win} (hw : winP m w) {n : Int} (hn : 0 ≤ n) : comes w.cyc w.rep n = decide (n.tmod w.rep = w.cyc) := by
  unfold winP power at hw
  exact comes_iff (by omega) (by omega) hn
theorem comes_round {m : Mat} {w : Win} (hh : headP m) (hw : winP m w) {n : Int} (hn : 0 ≤ n) : comes w.cyc w.rep (n + m.cycles) = comes w.cyc w.rep n := by
  have hc : power m.cycles := hh.2.2.2.2.1
  have hr : power w.rep := hw.2.2.2.2.2.2.2.1
  have hle : w.rep ≤ m.cycles := hw.2.2.2.2.2.2.2.2.1
  obtain ⟨k, h1, h2⟩ := power_dvd hr hc hle
  have h0 : 0 < w.rep := by unfold power at hr; omega
  have h3 : 0 ≤ m.cycles := by unfold power at hc; omega
  rw [comes_w hw (by omega), comes_w hw hn, h1, tmod_add hn h0 h2]
/-! ### Windows are apart -/
theorem meet_of {m : Mat} {i k : Nat} {n : Int} (hn : 0 ≤ n ∧ n < m.cycles) (h8 : m.cycles ≤ 8) (hi : i < m.nW) (hk : k < m.nW) (h1 : comes (m.W i).cyc (m.W i).rep n = true) (h2 : comes (m.W k).cyc (m.W k).rep n = true)
    (h3 : (m.W i).st < (m.W k).en) (h4 : (m.W k).st < (m.W i).en) : meet m i k = true := by
  unfold meet meetW
  rw [decide_eq_true (by omega), decide_eq_true (by simp only [Int.toNat_natCast]; omega), Bool.true_and, Bool.true_and, anyB_iff]
  refine ⟨n.toNat, by omega, ?_⟩
  rw [show ((n.toNat : Nat) : Int) = n by omega, Int.toNat_natCast, Int.toNat_natCast, h1, h2]; rfl
theorem Pass.cyc8 {m : Mat} (h : Pass m) : 1 ≤ m.cycles ∧ m.cycles ≤ 8 := by
  have hc : power m.cycles := h.is.head.2.2.2.2.1
  unfold power at hc; omega
/-- In a cycle one window at most has a unit. -/
theorem Pass.one {m : Mat} (h : Pass m) {n u : Int} (hn : 0 ≤ n ∧ n < m.cycles) {i k : Nat} (hi : i < m.nW) (hk : k < m.nW) (h1 : atB m n u i = true) (h2 : atB m n u k = true) : i = k := by
  unfold atB at h1 h2
  simp only [Bool.and_eq_true, decide_eq_true_eq] at h1 h2
  have h8 := h.cyc8.2
  rcases Nat.lt_trichotomy i k with c | c | c
  · have := (h.w hk).2.2.2.2 i c
    rw [meet_of hn h8 hk hi h2.1 h1.1 (by omega) (by omega)] at this; cases this
  · exact c
  · have := (h.w hi).2.2.2.2 k c
    rw [meet_of hn h8 hi hk h1.1 h2.1 (by omega) (by omega)] at this; cases this
theorem first_congr {n : Nat} {p q : Nat → Bool} (h : ∀ i, i < n → p i = q i) : first n p = first n q := by
  rcases first_cases n p with ⟨h1, h2⟩ | ⟨j, h1, h2, h3, h4⟩
  · rw [h1, first_none fun j hj => by rw [← h j hj]; exact h2 j hj]
  · rw [h2, first_some h1 (fun k hk => by rw [← h k (by omega)]; exact h4 k hk) (by rw [← h j h1]; exact h3)]
theorem at0_round {m : Mat} (h : Pass m) {n : Int} (hn : 0 ≤ n) (u : Int) : at0 m (n + m.cycles) u = at0 m n u := by
  unfold at0
  refine first_congr fun i hi => ?_
  unfold atB
  rw [comes_round h.is.head (h.is.W i hi) hn]
theorem at0_none {m : Mat} {n u : Int} (h : ∀ i, i < m.nW → ¬ ((m.W i).st ≤ u ∧ u < (m.W i).en)) : at0 m n u = -1 :=
  first_none fun i hi => by unfold atB; rw [decide_eq_false (h i hi), Bool.and_false]
/-! ### Counting -/
def cnt (p : Nat → Bool) : Nat → Nat
  | 0 => 0
  | n + 1 => cnt p n + if p n then 1 else 0
theorem cnt_le (p : Nat → Bool) : ∀ n, cnt p n ≤ n
  | 0 => Nat.le_refl _
  | n + 1 => by have := cnt_le p n; simp only [cnt]; split <;> omega
theorem cnt_congr {p q : Nat → Bool} : ∀ {n : Nat}, (∀ i, i < n → p i = q i) → cnt p n = cnt q n
  | 0, _ => rfl
  | n + 1, h => by simp only [cnt]; rw [cnt_congr fun i hi => h i (by omega), h n (by omega)]
theorem cnt_or {p q : Nat → Bool} : ∀ {n : Nat}, (∀ i, i < n → p i = true → q i = true → False) → cnt (fun i => p i || q i) n = cnt p n + cnt q n
  | 0, _ => rfl
  | n + 1, h => by
    have h1 := cnt_or (p := p) (q := q) (n := n) fun i hi => h i (by omega)
    have h2 := h n (by omega)
    simp only [cnt, h1]
    rcases Bool.eq_false_or_eq_true (p n) with hp | hp <;> rcases Bool.eq_false_or_eq_true (q n) with hq | hq
    · exact (h2 hp hq).elim
    · simp [hp, hq]; omega
    · simp [hp, hq]; omega
    · simp [hp, hq]
theorem cnt_no {p : Nat → Bool} : ∀ {n : Nat}, (∀ i, i < n → p i = false) → cnt p n = 0
  | 0, _ => rfl
  | n + 1, h => by simp only [cnt]; rw [cnt_no fun i hi => h i (by omega), h n (by omega)]; rfl
/-- How many of the first n lie from a to b - 1. -/
theorem cnt_range {a b : Int} (ha : 0 ≤ a) : ∀ n : Nat, (cnt (fun u => decide (a ≤ (u : Int) ∧ (u : Int) < b)) n : Int) = max 0 (min (n : Int) b - a)
  | 0 => by simp only [cnt]; omega
  | n + 1 => by
    have h := cnt_range (b := b) ha n
    simp only [cnt]
    by_cases c : a ≤ (n : Int) ∧ (n : Int) < b
    · rw [if_pos (decide_eq_true c)]; omega
    · rw [if_neg (by simpa using c)]; omega
/-! ### Units of windows -/
/-- A window that isn't free has the unit, in the cycle. -/
def busyB (m : Mat) (n : Int) (i : Nat) (u : Nat) : Bool := decide (n.tmod (m.W i).rep = (m.W i).cyc ∧ (m.W i).kind ≠ 3) && decide ((m.W i).st ≤ (u : Int) ∧ (u : Int) < (m.W i).en)
/-- Units of the first k windows of a cycle. -/
def sumW (m : Mat) (n : Int) : Nat → Int
  | 0 => 0
  | k + 1 => if n.tmod (m.W k).rep = (m.W k).cyc ∧ (m.W k).kind ≠ 3 then sumW m n k + (m.W k).en - (m.W k).st else sumW m n k
theorem busy_at {m : Mat} (h : Pass m) {n : Int} (hn : 0 ≤ n) {i u : Nat} (hi : i < m.nW) (hb : busyB m n i u = true) : atB m n u i = true ∧ (m.W i).kind ≠ 3 := by
  unfold busyB at hb
  simp only [Bool.and_eq_true, decide_eq_true_eq] at hb
  unfold atB
  rw [comes_w (h.is.W i hi) hn, decide_eq_true hb.1.1, decide_eq_true hb.2]
  exact ⟨rfl, hb.1.2⟩
theorem sumW_cnt {m : Mat} (h : Pass m) {n : Int} (hn : 0 ≤ n ∧ n < m.cycles) {L : Nat} (hL : m.length = L) : ∀ k, k ≤ m.nW → sumW m n k = (cnt (fun u => anyB k fun i => busyB m n i u) L : Nat)
  | 0, _ => by
    rw [cnt_no (p := fun u => anyB 0 fun i => busyB m n i u) fun i _ => rfl]; rfl
  | k + 1, hk => by
    have h1 := sumW_cnt h hn hL k (by omega)
    have hw := h.is.W k (by omega)
    unfold winP at hw
    have e : ∀ u, anyB (k + 1) (fun i => busyB m n i u) = (anyB k (fun i => busyB m n i u) || busyB m n k u) := fun u => by
      unfold anyB
      rw [List.range_succ, List.any_append]; simp
    have e2 : cnt (fun u => anyB (k + 1) fun i => busyB m n i u) L = cnt (fun u => anyB k fun i => busyB m n i u) L + cnt (fun u => busyB m n k u) L := by
      rw [← cnt_or fun u hu p1 p2 => ?_]
      · exact cnt_congr fun u _ => e u
      · obtain ⟨i, hi, hb⟩ := anyB_iff.1 p1
        have := h.one hn (i := i) (k := k) (by omega) (by omega) (busy_at h hn.1 (by omega) hb).1 (busy_at h hn.1 (by omega) p2).1
        omega
    rw [e2]
    simp only [sumW]
    by_cases c : n.tmod (m.W k).rep = (m.W k).cyc ∧ (m.W k).kind ≠ 3
    · have e3 := cnt_range (a := (m.W k).st) (b := (m.W k).en) (by omega) L
      have e4 : cnt (fun u => busyB m n k u) L = cnt (fun u : Nat => decide ((m.W k).st ≤ (u : Int) ∧ (u : Int) < (m.W k).en)) L := cnt_congr fun u _ => by
        unfold busyB; rw [decide_eq_true c, Bool.true_and]
      rw [if_pos c, e4]
      omega
    · rw [if_neg c, cnt_no (p := fun u => busyB m n k u) fun u _ => by unfold busyB; rw [decide_eq_false c]; rfl]
      omega
theorem free_cnt {m : Mat} (h : Pass m) {n : Int} (hn : 0 ≤ n ∧ n < m.cycles) : ∀ L : Nat, freeN (fun u => sgn (kindAt m n u)) L + cnt (fun u => anyB m.nW fun i => busyB m n i u) L = L
  | 0 => rfl
  | L + 1 => by
    have h1 := free_cnt h hn L
    simp only [freeN, cnt]
    have key : (sgn (kindAt m n L) = 45 ∨ sgn (kindAt m n L) = 70) ↔ anyB m.nW (fun i => busyB m n i L) = false := by
      unfold kindAt at0
      rcases first_cases m.nW (atB m n L) with ⟨e1, e2⟩ | ⟨j, e1, e2, e3, e4⟩
      · rw [e1, if_neg (by omega)]
        refine ⟨fun _ => anyB_false.2 fun i hi => ?_, fun _ => .inl rfl⟩
        refine Bool.eq_false_iff.2 fun hb => ?_
        have := (busy_at h hn.1 hi hb).1
        rw [e2 i hi] at this; cases this
      · rw [e2, if_pos (by omega), Int.toNat_natCast]
        have hw := h.is.W j e1
        have ec := comes_w hw hn.1
        unfold winP at hw
        have e5 := e3
        unfold atB at e5
        simp only [Bool.and_eq_true, decide_eq_true_eq] at e5
        rw [ec, decide_eq_true_eq] at e5
        constructor
        · intro hs
          refine anyB_false.2 fun i hi => Bool.eq_false_iff.2 fun hb => ?_
          obtain ⟨g1, g2⟩ := busy_at h hn.1 hi hb
          obtain rfl := h.one hn hi e1 g1 e3
          unfold sgn at hs
          rw [if_neg (by omega)] at hs
          by_cases k1 : (m.W i).kind = 1
          · rw [if_pos k1] at hs; omega
          · rw [if_neg k1] at hs
            rw [if_pos (by omega)] at hs; omega
        · intro hf
          have := anyB_false.1 hf j e1
          unfold busyB at this
          by_cases k3 : (m.W j).kind = 3
          · right; unfold sgn; rw [if_neg (by omega), if_neg (by omega), if_neg (by omega)]
          · rw [decide_eq_true ⟨e5.1, k3⟩, decide_eq_true e5.2] at this; cases this
    by_cases hb : (anyB m.nW fun i => busyB m n i L) = true
    · rw [if_neg (fun hs => by rw [key.1 hs] at hb; cases hb), if_pos hb]; omega
    · rw [if_pos (key.2 (by simpa using hb)), if_neg hb]; omega
end Go.Pu
