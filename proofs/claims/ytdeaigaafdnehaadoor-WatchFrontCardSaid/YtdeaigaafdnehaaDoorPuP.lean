/- Plain words, on: the machine's bit operations on numbers. No program in sight. -/
import Derived.Test.YtdeaigaafdnehaaDoorPuM
import Derived.Test.YtdeaigaafdnehaaDoorEnJ
namespace Go.Eng
open Go Go.Pu
theorem ofInt_nat {w n : Nat} : BitVec.ofInt w (n : Int) = BitVec.ofNat w n := BitVec.ofInt_natCast ..
theorem wrap_u {k : IntKind} (hk : k.signed = false) {n : Nat} (h : n < 2 ^ k.bits) : k.wrap (n : Int) = n := by
  have e : (2 ^ k.bits : Int) = ((2 ^ k.bits : Nat) : Int) := by simp
  unfold IntKind.wrap
  rw [hk]
  simp only [Bool.false_and, e]
  rw [if_neg (by simp)]
  rw [← Int.natCast_emod, Nat.mod_eq_of_lt h]
theorem andI_u {k : IntKind} (hk : k.signed = false) {a b : Nat} (ha : a < 2 ^ k.bits) (hb : b < 2 ^ k.bits) : andI k (a : Int) (b : Int) = ((a &&& b : Nat) : Int) := by
  unfold andI
  rw [ofInt_nat, ofInt_nat, BitVec.toNat_and, BitVec.toNat_ofNat, BitVec.toNat_ofNat, Nat.mod_eq_of_lt ha, Nat.mod_eq_of_lt hb]
  exact wrap_u hk (Nat.and_lt_two_pow _ hb)
theorem orI_u {k : IntKind} (hk : k.signed = false) {a b : Nat} (ha : a < 2 ^ k.bits) (hb : b < 2 ^ k.bits) : orI k (a : Int) (b : Int) = ((a ||| b : Nat) : Int) := by
  unfold orI
  rw [ofInt_nat, ofInt_nat, BitVec.toNat_or, BitVec.toNat_ofNat, BitVec.toNat_ofNat, Nat.mod_eq_of_lt ha, Nat.mod_eq_of_lt hb]
  exact wrap_u hk (Nat.or_lt_two_pow ha hb)
theorem xorI_u {k : IntKind} (hk : k.signed = false) {a b : Nat} (ha : a < 2 ^ k.bits) (hb : b < 2 ^ k.bits) : xorI k (a : Int) (b : Int) = ((a ^^^ b : Nat) : Int) := by
  unfold xorI
  rw [ofInt_nat, ofInt_nat, BitVec.toNat_xor, BitVec.toNat_ofNat, BitVec.toNat_ofNat, Nat.mod_eq_of_lt ha, Nat.mod_eq_of_lt hb]
  exact wrap_u hk (Nat.xor_lt_two_pow ha hb)
theorem shr_n (n i : Nat) : (n : Int).fdiv (2 ^ i) = ((n / 2 ^ i : Nat) : Int) := by
  have e : (2 ^ i : Int) = ((2 ^ i : Nat) : Int) := by simp
  rw [e, Int.fdiv_eq_ediv_of_nonneg _ (Int.natCast_nonneg _), ← Int.natCast_ediv]
/-- A bit, as the program asks for it. -/
theorem bit64 {n : Nat} (hn : n < 18446744073709551616) {i : Int} {j : Nat} (hj : i = (j : Int)) (hi : j < 64) : decide (andI .u64 ((n : Int).fdiv (2 ^ min i.toNat IntKind.u64.bits)) 1 = 1) = bitN n j := by
  subst hj
  rw [Int.toNat_natCast, show min j IntKind.u64.bits = j by show min j 64 = j; omega, shr_n]
  have h1 : n / 2 ^ j < 2 ^ 64 := Nat.lt_of_le_of_lt (Nat.div_le_self _ _) hn
  rw [show (1 : Int) = ((1 : Nat) : Int) from rfl, andI_u (k := .u64) rfl h1 (by decide), Nat.and_one_is_mod]
  unfold bitN
  generalize n / 2 ^ j = z
  rw [Bool.eq_iff_iff, decide_eq_true_eq, beq_iff_eq]
  omega
theorem bit14 {n : Nat} (hn : n < 65536) : decide (andI .u16 ((n : Int).fdiv (2 ^ min (Int.toNat 14) IntKind.u16.bits)) 1 = 1) = (n / 16384 % 2 == 1) := by
  rw [show min (Int.toNat 14) IntKind.u16.bits = 14 from rfl, shr_n]
  have h1 : n / 2 ^ 14 < 2 ^ 16 := Nat.lt_of_le_of_lt (Nat.div_le_self _ _) hn
  rw [show (1 : Int) = ((1 : Nat) : Int) from rfl, andI_u (k := .u16) rfl h1 (by decide), Nat.and_one_is_mod]
  rw [show n / 2 ^ 14 = n / 16384 from rfl]
  generalize n / 16384 = z
  rw [Bool.eq_iff_iff, decide_eq_true_eq, beq_iff_eq]
  omega
theorem mask15 {n : Nat} (hn : n < 65536) : andI .u16 (n : Int) 32767 = ((n % 32768 : Nat) : Int) := by
  rw [show (32767 : Int) = ((32767 : Nat) : Int) from rfl, andI_u (k := .u16) rfl hn (by decide)]
  congr 1
  exact Nat.and_two_pow_sub_one_eq_mod n 15
theorem poly {n : Nat} (hn : n < 65536) : xorI .u16 (n : Int) 17817 = ((Nat.xor n 17817 : Nat) : Int) := by
  rw [show (17817 : Int) = ((17817 : Nat) : Int) from rfl, xorI_u (k := .u16) rfl hn (by decide)]; rfl
theorem or1 {n : Nat} (hn : n < 9223372036854775808) : orI .u64 ((2 * n : Nat) : Int) 1 = ((2 * n + 1 : Nat) : Int) := by
  rw [show (1 : Int) = ((1 : Nat) : Int) from rfl, orI_u (k := .u64) rfl (show 2 * n < 2 ^ 64 by omega) (by decide)]
  congr 1
  have := Nat.two_pow_add_eq_or_of_lt (i := 1) (b := 1) (by decide) n
  rw [show 2 ^ 1 * n = 2 * n by omega] at this
  exact this.symm
theorem shl16 (c : Nat) : (c : Int) * 2 ^ min (Int.toNat 1) IntKind.u16.bits = ((2 * c : Nat) : Int) := by
  rw [show min (Int.toNat 1) IntKind.u16.bits = 1 from rfl]; omega
theorem shl64 (c : Nat) : (c : Int) * 2 ^ min (Int.toNat 1) IntKind.u64.bits = ((2 * c : Nat) : Int) := by
  rw [show min (Int.toNat 1) IntKind.u64.bits = 1 from rfl]; omega
theorem nB (a : Bool) : (!(a == a)) = false := by cases a <;> rfl
theorem nBne {a b : Bool} (h : ¬ a = b) : (!(a == b)) = true := by cases a <;> cases b <;> first | rfl | exact absurd rfl h
theorem crc_take {l : List Bool} {j : Nat} (h : j < l.length) : crc (l.take (j + 1)) = crcAdd (crc (l.take j)) (gb l j) := by
  rw [List.take_succ_eq_append_getElem h, crc_snoc]
  congr 1
  unfold gb
  rw [List.getD_eq_getElem?_getD, List.getElem?_eq_getElem h]; rfl
theorem crcAdd_same {c : Nat} {b : Bool} (h : (c / 16384 % 2 == 1) = b) : crcAdd c b = 2 * c % 32768 := by
  unfold crcAdd
  rw [h]
  cases b <;> rfl
theorem crcAdd_un {c : Nat} {b : Bool} (h : ¬ (c / 16384 % 2 == 1) = b) : crcAdd c b = Nat.xor (2 * c % 32768) 17817 := by
  unfold crcAdd
  rw [if_pos (by cases hx : (c / 16384 % 2 == 1) <;> cases b <;> simp_all)]
/-! ### Texts of bits -/
def cI (b : Bool) : Int := if b then 49 else 48
theorem bt_rd {s : ByteArray} {i : Nat} (h : i < s.size) : (bt s i = 49 ↔ gb (rd s) i = true) := by
  unfold bt gb rd
  have h' : i < s.data.toList.length := h
  rw [List.getD_eq_getElem?_getD, List.getD_eq_getElem?_getD, List.getElem?_map, List.getElem?_eq_getElem h']
  simp
  constructor
  · intro e
    exact UInt8.toNat.inj (by have e2 : s.data[i].toNat = 49 := by exact_mod_cast e
                              simpa using e2)
  · intro e
    rw [e]; rfl
theorem bt_bs {l : List Bool} {i : Nat} (h : i < l.length) : bt (bs l) i = cI (gb l i) := by
  unfold bt gb
  rw [bs_list, List.getD_eq_getElem?_getD, List.getD_eq_getElem?_getD, List.getElem?_map, List.getElem?_eq_getElem h]
  simp [bsg, cI]
  cases l[i] <;> rfl
theorem dec49 {s : ByteArray} {i : Nat} (h : i < s.size) : decide (bt s i = 49) = gb (rd s) i := by
  rw [Bool.eq_iff_iff, decide_eq_true_eq]; exact bt_rd h
theorem bt_bd (s : ByteArray) (i : Nat) : 0 ≤ bt s i ∧ bt s i ≤ 255 := by
  unfold bt
  have := (s.data.toList.getD i 0).toNat_lt
  constructor <;> omega
theorem ext_list (s : ByteArray) (a b : Nat) : (s.extract a b).data.toList = (s.data.toList.drop a).take (b - a) := by
  rw [ByteArray.data_extract, Array.toList_extract]
theorem bs_ext (l : List Bool) (a b : Nat) : (bs l).extract a b = bs ((l.drop a).take (b - a)) := by
  apply ba_ext
  rw [ext_list, bs_list, bs_list, List.map_take, List.map_drop]
theorem rd_ext (s : ByteArray) (a b : Nat) : rd (s.extract a b) = ((rd s).drop a).take (b - a) := by
  unfold rd
  rw [ext_list, List.map_take, List.map_drop]
theorem bt_nat (s : ByteArray) (i : Nat) : ∃ c : Nat, bt s i = (c : Int) ∧ c < 256 ∧ c = (s.data.toList.getD i 0).toNat := ⟨_, rfl, (s.data.toList.getD i 0).toNat_lt, rfl⟩
theorem by8_len (l : List UInt8) : (l.flatMap fun c => ofN c.toNat 8).length = 8 * l.length := by
  induction l with
  | nil => rfl
  | cons a l ih => simp only [List.flatMap_cons, List.length_append, ofN_len, List.length_cons]; rw [ih]; omega
def byP (s : ByteArray) (j : Nat) : List Bool := (s.data.toList.take j).flatMap fun c => ofN c.toNat 8
theorem byP_len {s : ByteArray} : ∀ {j : Nat}, j ≤ s.size → (byP s j).length = 8 * j := fun {j} h => by
  unfold byP
  have h' : j ≤ s.data.toList.length := h
  have hl : (s.data.toList.take j).length = j := by rw [List.length_take]; omega
  rw [by8_len, hl]
theorem byP_succ {s : ByteArray} {j : Nat} (h : j < s.size) : byP s (j + 1) = byP s j ++ ofN (s.data.toList.getD j 0).toNat 8 := by
  unfold byP
  have h' : j < s.data.toList.length := h
  rw [List.take_succ_eq_append_getElem h', List.flatMap_append, List.getD_eq_getElem?_getD, List.getElem?_eq_getElem h']
  simp
theorem byP_all (s : ByteArray) : byP s s.size = byB s := by
  unfold byP byB
  rw [show s.data.toList.take s.size = s.data.toList from List.take_of_length_le (show s.data.toList.length ≤ s.size from Nat.le_refl _)]
end Go.Eng
