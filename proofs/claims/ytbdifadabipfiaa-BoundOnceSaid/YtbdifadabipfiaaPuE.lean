/- Plain words, on: sums over all cycles. No program in sight. -/
import Derived.Test.YtbdifadabipfiaaPuD
namespace Go.Pu
def sumF (g : Nat → Int) : Nat → Int
  | 0 => 0
  | n + 1 => sumF g n + g n
theorem sumF_congr {g h : Nat → Int} : ∀ {n : Nat}, (∀ i, i < n → g i = h i) → sumF g n = sumF h n
  | 0, _ => rfl
  | n + 1, e => by simp only [sumF]; rw [sumF_congr fun i hi => e i (by omega), e n (by omega)]
theorem sumF_add (g h : Nat → Int) : ∀ n : Nat, sumF (fun i => g i + h i) n = sumF g n + sumF h n
  | 0 => rfl
  | n + 1 => by simp only [sumF]; rw [sumF_add g h n]; omega
theorem sumF_zero : ∀ n : Nat, sumF (fun _ => 0) n = 0
  | 0 => rfl
  | n + 1 => by simp only [sumF]; rw [sumF_zero n]; rfl
theorem rowS_sumF (m : Mat) (f : Win → Int) (c s : Int) : ∀ i, rowS m f c s i = s + sumF (fun i => if comes (m.W i).cyc (m.W i).rep c then f (m.W i) else 0) i
  | 0 => (Int.add_zero s).symm
  | i + 1 => by simp only [rowS, sumF]; rw [rowS_sumF m f c s i]; split <;> omega
/-- By windows, instead of by cycles. -/
theorem totS_cols (m : Mat) (f : Win → Int) : ∀ C : Nat, totS m f C = sumF (fun i => (cnt (fun c => comes (m.W i).cyc (m.W i).rep c) C : Nat) * f (m.W i)) m.nW
  | 0 => by
    rw [sumF_congr (h := fun _ => 0) fun i _ => by show ((0 : Nat) : Int) * _ = 0; simp]
    exact (sumF_zero _).symm
  | C + 1 => by
    simp only [totS]
    rw [rowS_sumF, totS_cols m f C, ← sumF_add]
    refine sumF_congr fun i _ => ?_
    simp only [cnt]
    split
    · rw [Int.natCast_add, Int.add_mul]; simp
    · simp
theorem totS_congr {m : Mat} {f g : Win → Int} (h : ∀ i, i < m.nW → f (m.W i) = g (m.W i)) (C : Nat) : totS m f C = totS m g C := by
  rw [totS_cols, totS_cols]; exact sumF_congr fun i hi => by rw [h i hi]
theorem totS_add (m : Mat) (f g : Win → Int) (C : Nat) : totS m (fun w => f w + g w) C = totS m f C + totS m g C := by
  rw [totS_cols, totS_cols, totS_cols, ← sumF_add]; exact sumF_congr fun i _ => by rw [Int.mul_add]
theorem totS_zero (m : Mat) (C : Nat) : totS m (fun _ => 0) C = 0 := by
  rw [totS_cols, sumF_congr (h := fun _ => 0) fun i _ => by simp]; exact sumF_zero _
theorem totS_no {m : Mat} {f : Win → Int} (h : ∀ i, i < m.nW → f (m.W i) = 0) (C : Nat) : totS m f C = 0 := by
  rw [totS_congr (g := fun _ => 0) h C]; exact totS_zero m C
/-- How often a window comes. -/
theorem often : ∀ C ∈ [1, 2, 4, 8], ∀ r ∈ [1, 2, 4, 8], ∀ c ∈ List.range 8, c < r → r ≤ C → cnt (fun n => comes c r n) C = C / r := by decide +kernel
theorem power_in {r : Int} (h : power r) : ∃ k : Nat, r = k ∧ k ∈ [1, 2, 4, 8] := by
  unfold power at h
  rcases h with rfl | rfl | rfl | rfl
  · exact ⟨1, rfl, by decide⟩
  · exact ⟨2, rfl, by decide⟩
  · exact ⟨4, rfl, by decide⟩
  · exact ⟨8, rfl, by decide⟩
theorem often_w {m : Mat} {w : Win} (hh : headP m) (hw : winP m w) {C : Nat} (hC : m.cycles = C) : (cnt (fun c => comes w.cyc w.rep c) C : Int) = m.cycles.tdiv w.rep := by
  have hc : power m.cycles := hh.2.2.2.2.1
  have hr : power w.rep := hw.2.2.2.2.2.2.2.1
  have hle : w.rep ≤ m.cycles := hw.2.2.2.2.2.2.2.2.1
  have h0 : 0 ≤ w.cyc ∧ w.cyc ≤ w.rep - 1 := ⟨hw.2.2.2.2.2.2.2.2.2.1, hw.2.2.2.2.2.2.2.2.2.2.1⟩
  obtain ⟨k, hk, hk2⟩ := power_in hr
  obtain ⟨C', hC', hC2⟩ := power_in hc
  obtain rfl : C' = C := by omega
  obtain ⟨c, hc⟩ : ∃ c : Nat, w.cyc = c := ⟨w.cyc.toNat, by omega⟩
  have hk8 : k ≤ 8 := by simp at hk2; omega
  rw [hk, hc, hC, often C' hC2 k hk2 c (List.mem_range.2 (by omega)) (by omega) (by omega)]
  exact rfl
def sumQ (m : Mat) (n : Nat) : Int := sumF (fun i => m.cycles.tdiv (m.W i).rep) n
def sumS (m : Mat) (C n : Nat) : Int := sumF (fun g => totS m (fS g) C) n
theorem quo_bd {m : Mat} (hh : headP m) {w : Win} (hw : winP m w) : 1 ≤ w.rep ∧ w.rep ≤ 8 ∧ 0 ≤ m.cycles.tdiv w.rep ∧ m.cycles.tdiv w.rep ≤ 8 := by
  have hc : power m.cycles := hh.2.2.2.2.1
  have hr : power w.rep := hw.2.2.2.2.2.2.2.1
  unfold power at hc hr
  rcases hc with e | e | e | e <;> rcases hr with e2 | e2 | e2 | e2 <;> rw [e, e2] <;> decide
theorem sumF_bd {g : Nat → Int} {B : Int} : ∀ {n : Nat}, (∀ i, i < n → 0 ≤ g i ∧ g i ≤ B) → 0 ≤ sumF g n ∧ sumF g n ≤ n * B
  | 0, _ => by show (0 : Int) ≤ 0 ∧ (0 : Int) ≤ ((0 : Nat) : Int) * B; simp
  | n + 1, h => by
    have h1 := sumF_bd (n := n) fun i hi => h i (by omega)
    have h2 := h n (by omega)
    have e : ((n + 1 : Nat) : Int) * B = n * B + B := by rw [Int.natCast_add, Int.add_mul]; simp
    simp only [sumF]; rw [e]; omega
theorem sumQ_bd {m : Mat} (h : m.Is) {n : Nat} (hn : n ≤ m.nW) : 0 ≤ sumQ m n ∧ sumQ m n ≤ 128 := by
  have h1 := sumF_bd (g := fun i => m.cycles.tdiv (m.W i).rep) (B := 8) (n := n) fun i hi => (quo_bd h.head (h.W i (by omega))).2.2
  have h2 := h.size.2.2.2
  unfold sumQ; omega
theorem kinds_sum {m : Mat} (h : m.Is) {C : Nat} (hC : m.cycles = C) : totS m (fK 1) C + totS m (fK 2) C + totS m (fK 3) C = sumQ m m.nW := by
  rw [← totS_add, ← totS_add, totS_congr (g := fun _ => 1) fun i hi => ?_, totS_cols]
  · unfold sumQ
    refine sumF_congr fun i hi => ?_
    rw [often_w h.head (h.W i hi) hC]; omega
  · have hw := h.W i hi
    unfold winP at hw
    unfold fK
    rcases (show (m.W i).kind = 1 ∨ (m.W i).kind = 2 ∨ (m.W i).kind = 3 by omega) with e | e | e <;> rw [e] <;> decide
theorem fS_sum (w : Win) (h : 0 ≤ w.msg) : ∀ n : Nat, sumF (fun g => fS g w) n = if w.kind = 1 ∧ w.msg < n then 1 else 0
  | 0 => by rw [if_neg (by omega)]; rfl
  | n + 1 => by
    simp only [sumF]
    rw [fS_sum w h n]
    unfold fS
    by_cases h1 : w.kind = 1
    · by_cases h2 : w.msg < n
      · rw [if_pos ⟨h1, h2⟩, if_neg (by omega), if_pos (by omega)]; rfl
      · by_cases h3 : w.msg = n
        · rw [if_neg (by omega), if_pos ⟨h1, h3⟩, if_pos (by omega)]; rfl
        · rw [if_neg (by omega), if_neg (by omega), if_neg (by omega)]; rfl
    · rw [if_neg (by omega), if_neg (by omega), if_neg (by omega)]; rfl
theorem sends_sum (m : Mat) (C : Nat) : ∀ n : Nat, sumS m C n = totS m (fun w => sumF (fun g => fS g w) n) C
  | 0 => (totS_zero m C).symm
  | n + 1 => by
    have := sends_sum m C n
    unfold sumS at this ⊢
    simp only [sumF]
    rw [this, ← totS_add]
theorem sends_all {m : Mat} (h : Pass m) (C : Nat) : sumS m C m.nG = totS m (fK 1) C := by
  rw [sends_sum]
  refine totS_congr (fun i hi => ?_) C
  have hw := h.w hi
  have hp := hw.1
  unfold winP at hp
  rw [fS_sum _ (by omega)]
  unfold fK
  by_cases e : (m.W i).kind = 1
  · rw [if_pos ⟨e, (hw.2.1 e).1⟩, if_pos e]
  · rw [if_neg (by omega), if_neg e]
theorem sends_no {m : Mat} (h : Pass m) (C : Nat) : totS m (fS m.nG) C = 0 := totS_no (fun i hi => by
  have hw := h.w hi
  unfold fS
  rw [if_neg (fun e => by have := (hw.2.1 e.1).1; omega)]) C
theorem kind_no {m : Mat} (h : m.Is) {k : Int} (hk : k < 1 ∨ 3 < k) (C : Nat) : totS m (fK k) C = 0 := totS_no (fun i hi => by
  have hw := h.W i hi
  unfold winP at hw
  unfold fK
  rw [if_neg (by omega)]) C
theorem busy_row {m : Mat} (h : m.Is) {c : Int} (hc : 0 ≤ c) : ∀ i, i ≤ m.nW → rowS m fB c 0 i = sumW m c i
  | 0, _ => rfl
  | i + 1, hi => by
    simp only [rowS, sumW]
    rw [busy_row h hc i (by omega), comes_w (h.W i (by omega)) hc]
    unfold fB
    by_cases h1 : c.tmod (m.W i).rep = (m.W i).cyc <;> by_cases h2 : (m.W i).kind = 3
    · rw [if_pos (by simpa using h1), if_neg (by omega), if_neg (by omega)]; omega
    · rw [if_pos (by simpa using h1), if_pos h2, if_pos ⟨h1, h2⟩]; omega
    · rw [if_neg (by simpa using h1), if_neg (by omega)]
    · rw [if_neg (by simpa using h1), if_neg (by omega)]
theorem busy_le {m : Mat} (h : Pass m) {C : Nat} (hC : m.cycles = C) : ∀ c : Nat, c ≤ C → totS m fB c ≤ c * m.length
  | 0, _ => by show (0 : Int) ≤ ((0 : Nat) : Int) * _; simp
  | c + 1, hc => by
    have h1 := busy_le h hC c (by omega)
    have hl := h.is.head
    unfold headP at hl
    obtain ⟨L, hL⟩ : ∃ L : Nat, m.length = L := ⟨m.length.toNat, by omega⟩
    have h2 := sumW_cnt h (n := c) (by omega) hL m.nW (Nat.le_refl _)
    have h3 := cnt_le (fun u => anyB m.nW fun i => busyB m c i u) L
    have e : ((c + 1 : Nat) : Int) * m.length = c * m.length + m.length := by rw [Int.natCast_add, Int.add_mul]; simp
    simp only [totS]
    rw [rowS_add, busy_row h.is (by omega) m.nW (Nat.le_refl _), h2, e]
    omega
end Go.Pu
