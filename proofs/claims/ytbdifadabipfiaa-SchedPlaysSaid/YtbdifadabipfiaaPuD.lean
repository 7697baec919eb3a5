/- Plain words, on: how long, how many, how near. No program in sight. -/
import Derived.Test.YtbdifadabipfiaaPuC
namespace Go.Pu
def numU (m : Mat) (u : Int) : Int := min (max u 0) 100000 * m.unit
def bitsM (m : Mat) (u : Int) : Int := (numU m u + 3).tdiv 4
def bits1 (m : Mat) (u : Int) : Int := if (chk m).2 = 0 then bitsM m u else 0
def watch0 (m : Mat) : Int := m.length + (m.nM + 2) * step m
def watch1 (m : Mat) : Int := if isM m then watch0 m else 0
def later (m : Mat) : Int := watch0 m + m.init + (m.nM + 3) * step m
def again1 (m : Mat) : Int := if (chk m).2 = 0 then bitsM m (later m) + 840 else 0
/-- A sum, from s on, over the first windows of a cycle; over cycles. -/
def rowS (m : Mat) (f : Win → Int) (c s : Int) : Nat → Int
  | 0 => s
  | i + 1 => if comes (m.W i).cyc (m.W i).rep c then rowS m f c s i + f (m.W i) else rowS m f c s i
def totS (m : Mat) (f : Win → Int) : Nat → Int
  | 0 => 0
  | c + 1 => rowS m f c (totS m f c) m.nW
theorem rowS_add (m : Mat) (f : Win → Int) (c s : Int) : ∀ i, rowS m f c s i = s + rowS m f c 0 i
  | 0 => (Int.add_zero s).symm
  | i + 1 => by
    simp only [rowS]
    rw [rowS_add m f c s i]
    split <;> omega
def all1 (m : Mat) (f : Win → Int) : Int := if (chk m).2 = 0 then totS m f m.cycles.toNat else 0
def fK (k : Int) (w : Win) : Int := if w.kind = k then 1 else 0
def fS (g : Int) (w : Win) : Int := if w.kind = 1 ∧ w.msg = g then 1 else 0
def fB (w : Win) : Int := if w.kind ≠ 3 then w.en - w.st else 0
theorem fK_bd (k : Int) (w : Win) : 0 ≤ fK k w ∧ fK k w ≤ 1 := by unfold fK; split <;> omega
theorem fS_bd (k : Int) (w : Win) : 0 ≤ fS k w ∧ fS k w ≤ 1 := by unfold fS; split <;> omega
theorem fB_bd {m : Mat} {w : Win} (h : winP m w) (hh : headP m) : 0 ≤ fB w ∧ fB w ≤ m.length := by
  unfold winP at h; unfold headP at hh; unfold fB; split <;> omega
theorem rowS_bd {m : Mat} {f : Win → Int} {c s : Int} {B : Int} (hf : ∀ i, i < m.nW → 0 ≤ f (m.W i) ∧ f (m.W i) ≤ B) (hB : 0 ≤ B) : ∀ i : Nat, i ≤ m.nW → s ≤ rowS m f c s i ∧ rowS m f c s i ≤ s + i * B
  | 0, _ => by show s ≤ s ∧ s ≤ s + ((0 : Nat) : Int) * B; simp
  | i + 1, hi => by
    have h1 := rowS_bd hf hB (c := c) (s := s) i (by omega)
    have h2 := hf i (by omega)
    have e : ((i + 1 : Nat) : Int) * B = i * B + B := by rw [Int.natCast_add, Int.add_mul]; simp
    simp only [rowS]
    rw [e]
    split <;> omega
theorem totS_bd {m : Mat} {f : Win → Int} {B : Int} (hf : ∀ i, i < m.nW → 0 ≤ f (m.W i) ∧ f (m.W i) ≤ B) (hB : 0 ≤ B) : ∀ c : Nat, 0 ≤ totS m f c ∧ totS m f c ≤ c * (m.nW * B)
  | 0 => by show (0 : Int) ≤ 0 ∧ (0 : Int) ≤ ((0 : Nat) : Int) * _; simp
  | c + 1 => by
    have h1 := totS_bd hf hB c
    have h2 := rowS_bd hf hB (c := c) (s := totS m f c) m.nW (Nat.le_refl _)
    have e : ((c + 1 : Nat) : Int) * (m.nW * B) = c * (m.nW * B) + m.nW * B := by rw [Int.natCast_add, Int.add_mul]; simp
    simp only [totS]
    rw [e]
    omega
/-- Of a matrix that passes: small. -/
theorem sums_sm {m : Mat} (h : m.Is) {f : Win → Int} (hf : ∀ i, i < m.nW → 0 ≤ f (m.W i) ∧ f (m.W i) ≤ 4000) {c i : Nat} (hc : c ≤ m.cycles.toNat) (hi : i ≤ m.nW) : 0 ≤ totS m f c ∧ totS m f c ≤ 512000 ∧ 0 ≤ rowS m f c (totS m f c) i ∧ rowS m f c (totS m f c) i ≤ 576000 := by
  have h1 := totS_bd hf (by omega) c
  have h2 := rowS_bd hf (c := c) (s := totS m f c) (by omega) i hi
  have hn := h.size.2.2.2
  have hp : power m.cycles := h.head.2.2.2.2.1
  have hc8 : c ≤ 8 := by unfold power at hp; omega
  have g1 : (c : Int) * (m.nW * 4000) ≤ 8 * (16 * 4000) := Int.mul_le_mul (by omega) (by omega) (by omega) (by omega)
  omega
theorem fK_sm (m : Mat) (k : Int) : ∀ i, i < m.nW → 0 ≤ fK k (m.W i) ∧ fK k (m.W i) ≤ 4000 := fun i _ => by have := fK_bd k (m.W i); omega
theorem fS_sm (m : Mat) (k : Int) : ∀ i, i < m.nW → 0 ≤ fS k (m.W i) ∧ fS k (m.W i) ≤ 4000 := fun i _ => by have := fS_bd k (m.W i); omega
theorem fB_sm {m : Mat} (h : m.Is) : ∀ i, i < m.nW → 0 ≤ fB (m.W i) ∧ fB (m.W i) ≤ 4000 := fun i hi => by
  have := fB_bd (h.W i hi) h.head
  have := h.head.2.2.2.2.2.2.1
  omega
theorem numU_bd {m : Mat} (h : headP m) (u : Int) : 0 ≤ numU m u ∧ numU m u ≤ 6400000 := by
  unfold numU
  have h1 : 1 ≤ m.unit ∧ m.unit ≤ 64 := by unfold headP at h; omega
  have g1 : min (max u 0) 100000 * m.unit ≤ 100000 * 64 := Int.mul_le_mul (by omega) (by omega) (by omega) (by omega)
  have g2 : 0 ≤ min (max u 0) 100000 * m.unit := Int.mul_nonneg (by omega) (by omega)
  omega
theorem bitsM_bd {m : Mat} (h : headP m) (u : Int) : 0 ≤ bitsM m u ∧ bitsM m u ≤ 1600000 := by
  have := numU_bd h u
  unfold bitsM
  rw [Int.tdiv_eq_ediv_of_nonneg (by omega)]; omega
theorem bits_up {m : Mat} (h : headP m) (u : Int) : bitsM m u = (numU m u).tdiv 4 + if (numU m u).tmod 4 = 0 then 0 else 1 := by
  have := numU_bd h u
  unfold bitsM
  rw [Int.tdiv_eq_ediv_of_nonneg (by omega), Int.tdiv_eq_ediv_of_nonneg (by omega), Int.tmod_eq_emod_of_nonneg (by omega)]
  split <;> omega
theorem step_pos {m : Mat} (h : m.Is) : 2 ≤ step m := by
  unfold step
  rw [if_pos (isM_iff.2 h)]
  have hh := h.head
  unfold headP at hh
  have h0 : 0 ≤ (min (max (140 : Int) 0) 1000 * 4) / max m.unit 1 := Int.ediv_nonneg (by omega) (by omega)
  unfold units
  rw [Int.tdiv_eq_ediv_of_nonneg (by omega)]
  split <;> omega
theorem times_bd {a s : Int} {k B : Int} (h0 : 0 ≤ a) (h1 : a ≤ k) (h2 : 0 ≤ s) (h3 : s ≤ B) (hk : 0 ≤ k) : 0 ≤ a * s ∧ a * s ≤ k * B :=
  ⟨Int.mul_nonneg h0 h2, Int.mul_le_mul h1 h3 h2 hk⟩
theorem watch_bd {m : Mat} (h : m.Is) : 0 ≤ ((m.nM : Int) + 2) * step m ∧ ((m.nM : Int) + 2) * step m ≤ 30000 ∧ 0 ≤ ((m.nM : Int) + 3) * step m ∧ ((m.nM : Int) + 3) * step m ≤ 35000 := by
  have hs := step_bd (m := m)
  have hn := h.size
  unfold sizeP at hn
  have h1 := times_bd (a := (m.nM : Int) + 2) (s := step m) (k := 6) (B := 5000) (by omega) (by omega) (by omega) (by omega) (by omega)
  have h2 := times_bd (a := (m.nM : Int) + 3) (s := step m) (k := 7) (B := 5000) (by omega) (by omega) (by omega) (by omega) (by omega)
  omega
end Go.Pu
