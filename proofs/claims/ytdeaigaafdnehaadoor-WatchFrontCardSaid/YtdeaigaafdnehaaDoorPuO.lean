/- Plain words, on: a row with its own sum behind it has no sum. No program in sight. -/
import Derived.Test.YtdeaigaafdnehaaDoorPuM
namespace Go.Pu
abbrev B15 := BitVec 15
def fB (x : B15) : B15 := (x <<< 1) ^^^ (if x.msb then 17817#15 else 0#15)
def inB (b : Bool) : B15 := if b then 16384#15 else 0#15
def stB (c : B15) (b : Bool) : B15 := fB (c ^^^ inB b)
theorem fB_xor (x y : B15) : fB (x ^^^ y) = fB x ^^^ fB y := by
  unfold fB
  rw [BitVec.shiftLeft_xor_distrib, BitVec.msb_xor]
  generalize x <<< 1 = a
  generalize y <<< 1 = b
  have sw : ∀ p q r s : B15, (p ^^^ q) ^^^ (r ^^^ s) = (p ^^^ r) ^^^ (q ^^^ s) := fun p q r s => by
    rw [BitVec.xor_assoc, ← BitVec.xor_assoc q r s, BitVec.xor_comm q r, BitVec.xor_assoc r q s, ← BitVec.xor_assoc]
  rw [sw]
  cases x.msb <;> cases y.msb <;> simp
theorem fB_0 {x : B15} (h : fB x = 0#15) : x = 0#15 := by
  unfold fB at h
  have hm := BitVec.msb_eq_decide x
  have hlt := x.isLt
  cases hb : x.msb with
  | false =>
    rw [hb] at h hm
    have h := congrArg BitVec.toNat h
    simp [BitVec.toNat_shiftLeft, Nat.shiftLeft_eq] at h
    simp at hm
    apply BitVec.eq_of_toNat_eq
    show x.toNat = 0
    omega
  | true =>
    rw [hb] at h
    have h : x <<< 1 = 17817#15 := by
      have := congrArg (· ^^^ 17817#15) h
      simpa [BitVec.xor_assoc] using this
    have h := congrArg BitVec.toNat h
    simp [BitVec.toNat_shiftLeft, Nat.shiftLeft_eq] at h
    omega
theorem fB_clr (x : B15) : fB (x ^^^ inB x.msb) = x <<< 1 := by
  unfold fB inB
  rw [BitVec.shiftLeft_xor_distrib, BitVec.msb_xor]
  cases x.msb
  · simp
  · rw [if_pos rfl, show (16384#15 : B15).msb = true by decide, show (16384#15 : B15) <<< 1 = 0#15 by decide]; simp
def pwB (x : B15) : Nat → B15
  | 0 => x
  | k + 1 => pwB (fB x) k
theorem pwB_0 : ∀ {k : Nat} {x : B15}, pwB x k = 0#15 → x = 0#15
  | 0, _, h => h
  | _ + 1, _, h => fB_0 (pwB_0 h)
theorem lin (l : List Bool) : ∀ c d : B15, l.foldl stB (c ^^^ d) = pwB c l.length ^^^ l.foldl stB d := by
  induction l with
  | nil => intro c d; rfl
  | cons b l ih =>
    intro c d
    show l.foldl stB (stB (c ^^^ d) b) = pwB (fB c) l.length ^^^ l.foldl stB (stB d b)
    rw [← ih]
    congr 1
    unfold stB
    rw [BitVec.xor_assoc, fB_xor]
theorem self0 (v : Nat) : ∀ k, k ≤ 15 → (ofN v k).foldl stB (BitVec.ofNat 15 (v * 2 ^ (15 - k))) = 0#15
  | 0, _ => by
    show BitVec.ofNat 15 (v * 2 ^ 15) = 0#15
    apply BitVec.eq_of_toNat_eq
    simp
  | k + 1, h => by
    rw [ofN_succ]
    show (ofN v k).foldl stB (stB (BitVec.ofNat 15 (v * 2 ^ (15 - (k + 1)))) (bitN v k)) = 0#15
    have hm : (BitVec.ofNat 15 (v * 2 ^ (15 - (k + 1)))).msb = bitN v k := by
      rw [BitVec.msb_eq_getLsbD_last]
      rw [BitVec.getLsbD_ofNat]
      rw [show 15 - (k + 1) = 14 - k by omega]
      unfold bitN
      rw [show (15 - 1 : Nat) = 14 from rfl, Nat.testBit_eq_decide_div_mod_eq]
      have e : v * 2 ^ (14 - k) / 2 ^ 14 = v / 2 ^ k := by
        rw [show (2 : Nat) ^ 14 = 2 ^ k * 2 ^ (14 - k) by rw [← Nat.pow_add]; congr 1; omega]
        exact Nat.mul_div_mul_right _ _ (Nat.two_pow_pos _)
      rw [e]
      rfl
    have e : stB (BitVec.ofNat 15 (v * 2 ^ (15 - (k + 1)))) (bitN v k) = BitVec.ofNat 15 (v * 2 ^ (15 - k)) := by
      unfold stB
      rw [← hm, fB_clr]
      apply BitVec.eq_of_toNat_eq
      rw [BitVec.toNat_shiftLeft, Nat.shiftLeft_eq, BitVec.toNat_ofNat, BitVec.toNat_ofNat, show 15 - k = 15 - (k + 1) + 1 by omega, Nat.pow_succ 2 (15 - (k + 1)), ← Nat.mul_assoc]
      generalize v * 2 ^ (15 - (k + 1)) = z
      omega
    rw [e]
    exact self0 v k (by omega)
theorem crcAdd_B {c : Nat} (hc : c < 32768) (b : Bool) : BitVec.ofNat 15 (crcAdd c b) = stB (BitVec.ofNat 15 c) b := by
  apply BitVec.eq_of_toNat_eq
  rw [BitVec.toNat_ofNat, Nat.mod_eq_of_lt (crcAdd_lt c b)]
  have hm : (BitVec.ofNat 15 c).msb = (c / 16384 % 2 == 1) := by
    rw [BitVec.msb_eq_getLsbD_last, BitVec.getLsbD_ofNat, show (15 - 1 : Nat) = 14 from rfl, Nat.testBit_eq_decide_div_mod_eq]
    rfl
  have hi : (inB b).msb = b := by cases b <;> decide
  have hs : (BitVec.ofNat 15 c ^^^ inB b) <<< 1 = BitVec.ofNat 15 c <<< 1 := by
    rw [BitVec.shiftLeft_xor_distrib]
    cases b
    · simp [inB]
    · rw [show inB true <<< 1 = 0#15 by decide]; simp
  have h2 : (BitVec.ofNat 15 c <<< 1).toNat = 2 * c % 32768 := by
    rw [BitVec.toNat_shiftLeft, Nat.shiftLeft_eq, BitVec.toNat_ofNat, Nat.mod_eq_of_lt (show c < 2 ^ 15 from hc)]
    rw [Nat.mul_comm]
  unfold stB fB crcAdd
  rw [hs, BitVec.msb_xor, hm, hi, BitVec.toNat_xor, h2]
  have ex : (xor (c / 16384 % 2 == 1) b) = ((c / 16384 % 2 == 1) != b) := rfl
  rw [ex]
  cases ((c / 16384 % 2 == 1) != b)
  · simp
  · rfl
theorem crcFrom_B (l : List Bool) : ∀ {c : Nat}, c < 32768 → BitVec.ofNat 15 (crcFrom c l) = l.foldl stB (BitVec.ofNat 15 c) := by
  induction l with
  | nil => intro c _; rfl
  | cons b l ih =>
    intro c hc
    show BitVec.ofNat 15 (crcFrom (crcAdd c b) l) = l.foldl stB (stB (BitVec.ofNat 15 c) b)
    rw [ih (crcAdd_lt c b), crcAdd_B hc]
theorem ofN15_0 {a : Nat} (ha : a < 32768) (h : BitVec.ofNat 15 a = 0#15) : a = 0 := by
  have := congrArg BitVec.toNat h
  rw [BitVec.toNat_ofNat, Nat.mod_eq_of_lt (show a < 2 ^ 15 from ha)] at this
  simpa using this
/-- A row's sum, run over as many bits as it has itself. -/
theorem crc_zero {c v : Nat} (hc : c < 32768) (hv : v < 32768) : crcFrom c (ofN v 15) = 0 ↔ c = v := by
  have h0 := self0 v 15 (Nat.le_refl _)
  rw [show v * 2 ^ (15 - 15) = v by simp] at h0
  have h1 := crcFrom_B (ofN v 15) hc
  have h2 : (ofN v 15).foldl stB (BitVec.ofNat 15 c) = pwB (BitVec.ofNat 15 c ^^^ BitVec.ofNat 15 v) 15 := by
    have := lin (ofN v 15) (BitVec.ofNat 15 c ^^^ BitVec.ofNat 15 v) (BitVec.ofNat 15 v)
    rw [h0, ofN_len, BitVec.xor_assoc, BitVec.xor_self, BitVec.xor_zero, BitVec.xor_zero] at this
    exact this
  constructor
  · intro h
    rw [h2, h] at h1
    have := pwB_0 h1.symm
    have e : BitVec.ofNat 15 c = BitVec.ofNat 15 v := by
      have := congrArg (· ^^^ BitVec.ofNat 15 v) this
      simpa [BitVec.xor_assoc] using this
    have e := congrArg BitVec.toNat e
    rw [BitVec.toNat_ofNat, BitVec.toNat_ofNat, Nat.mod_eq_of_lt (show c < 2 ^ 15 from hc), Nat.mod_eq_of_lt (show v < 2 ^ 15 from hv)] at e
    exact e
  · rintro rfl
    apply ofN15_0 (crcFrom_lt hc _)
    rw [h1, h2, BitVec.xor_self]
    decide
end Go.Pu
