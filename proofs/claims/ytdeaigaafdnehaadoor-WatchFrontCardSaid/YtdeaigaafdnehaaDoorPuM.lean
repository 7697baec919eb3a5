/- Plain words, on: rows of bits, their sums, bits laid between, frames. No program in sight. -/
import Derived.Test.YtdeaigaafdnehaaDoorPuA
namespace Go.Pu
/-! ### Rows of bits as texts -/
def bsg (b : Bool) : UInt8 := if b then 49 else 48
def bs (l : List Bool) : ByteArray := ⟨(l.map bsg).toArray⟩
theorem bs_size (l : List Bool) : (bs l).size = l.length := by
  show ((l.map bsg).toArray).size = _
  simp
theorem bs_list (l : List Bool) : (bs l).data.toList = l.map bsg := by simp [bs]
theorem ba_ext {a b : ByteArray} (h : a.data.toList = b.data.toList) : a = b := by
  cases a; cases b
  congr 1
  exact Array.toList_inj.1 h
theorem ba_app (a b : ByteArray) : (a ++ b).data.toList = a.data.toList ++ b.data.toList := by
  simp [ByteArray.data_append]
theorem bs_app (a b : List Bool) : bs a ++ bs b = bs (a ++ b) := by
  apply ba_ext
  rw [ba_app, bs_list, bs_list, bs_list, List.map_append]
theorem bs_nil : bs [] = ByteArray.empty := rfl
theorem bsg_inj {a b : Bool} (h : bsg a = bsg b) : a = b := by
  cases a <;> cases b <;> first | rfl | (exact absurd h (by decide))
theorem bs_inj {a b : List Bool} (h : bs a = bs b) : a = b := by
  have h := congrArg (fun x : ByteArray => x.data.toList) h
  simp only [bs_list] at h
  exact (List.map_inj_right (fun _ _ => bsg_inj)).1 h
/-- What a text tells as a row: each sign but '1' is a 0. -/
def rd (s : ByteArray) : List Bool := s.data.toList.map fun c => c == 49
theorem rd_len (s : ByteArray) : (rd s).length = s.size := by
  unfold rd; rw [List.length_map]; rfl
theorem rd_bs (l : List Bool) : rd (bs l) = l := by
  unfold rd
  rw [bs_list, List.map_map]
  have : (fun c => c == 49) ∘ bsg = id := by funext b; cases b <;> rfl
  rw [this, List.map_id]
def gb (l : List Bool) (i : Nat) : Bool := l.getD i false
/-! ### Numbers -/
def bitN (n i : Nat) : Bool := n / 2 ^ i % 2 == 1
/-- A number's lowest w bits, the highest first. -/
def ofN (n w : Nat) : List Bool := (List.range w).map fun q => bitN n (w - 1 - q)
theorem ofN_len (n w : Nat) : (ofN n w).length = w := by simp [ofN]
theorem ofN_get {n w q : Nat} (h : q < w) : gb (ofN n w) q = bitN n (w - 1 - q) := by
  unfold gb ofN
  rw [List.getD_eq_getElem?_getD, List.getElem?_map, List.getElem?_range h]; rfl
def num1 (a : Nat) (b : Bool) : Nat := 2 * a + b.toNat
def numB (l : List Bool) : Nat := l.foldl num1 0
theorem numB_app (l : List Bool) (b : Bool) : numB (l ++ [b]) = 2 * numB l + b.toNat := by
  unfold numB; rw [List.foldl_append]; rfl
theorem foldl_num (l : List Bool) : ∀ a, l.foldl num1 a = a * 2 ^ l.length + numB l := by
  induction l with
  | nil => intro a; simp [numB]
  | cons b l ih =>
    intro a
    show l.foldl num1 (num1 a b) = _
    have e : numB (b :: l) = l.foldl num1 (num1 0 b) := rfl
    rw [ih, e, ih (num1 0 b)]
    unfold num1
    rw [List.length_cons, Nat.pow_succ, Nat.add_mul, Nat.add_mul]
    have : 2 * a * 2 ^ l.length = a * (2 ^ l.length * 2) := by
      rw [Nat.mul_comm 2 a, Nat.mul_assoc, Nat.mul_comm 2]
    omega
theorem numB_lt (l : List Bool) : numB l < 2 ^ l.length := by
  induction l with
  | nil => decide
  | cons b l ih =>
    have e : numB (b :: l) = l.foldl num1 (num1 0 b) := rfl
    rw [e, foldl_num, List.length_cons, Nat.pow_succ]
    unfold num1
    cases b
    · simp; omega
    · simp; omega
theorem ofN_succ (n w : Nat) : ofN n (w + 1) = bitN n w :: ofN n w := by
  unfold ofN
  rw [List.range_succ_eq_map, List.map_cons, List.map_map]
  congr 1
  apply List.map_congr_left
  intro q hq
  have hq : q < w := by simpa using hq
  show bitN n (w + 1 - 1 - (q + 1)) = bitN n (w - 1 - q)
  rw [show w + 1 - 1 - (q + 1) = w - 1 - q by omega]
theorem num_ofN (n : Nat) : ∀ w, numB (ofN n w) = n % 2 ^ w
  | 0 => by simp [ofN, numB, Nat.mod_one]
  | w + 1 => by
    rw [ofN_succ]
    have e : numB (bitN n w :: ofN n w) = (ofN n w).foldl num1 (num1 0 (bitN n w)) := rfl
    rw [e, foldl_num, num_ofN n w, ofN_len, Nat.pow_succ, Nat.mod_mul]
    unfold num1 bitN
    have h2 : n / 2 ^ w % 2 = 0 ∨ n / 2 ^ w % 2 = 1 := by omega
    rcases h2 with h | h <;> rw [h] <;> simp <;> omega
theorem ofN_mod (n w : Nat) : ofN (n % 2 ^ w) w = ofN n w := by
  unfold ofN
  apply List.map_congr_left
  intro q hq
  have hq : q < w := by simpa using hq
  unfold bitN
  congr 1
  generalize hk : w - 1 - q = k
  have hkw : k < w := by omega
  rw [show (2 : Nat) ^ w = 2 ^ (k + 1) * 2 ^ (w - (k + 1)) by rw [← Nat.pow_add]; congr 1; omega]
  have h1 : n % (2 ^ (k + 1) * 2 ^ (w - (k + 1))) / 2 ^ k % 2 = n / 2 ^ k % 2 := by
    have a : ∀ m : Nat, m / 2 ^ k % 2 = m % 2 ^ (k + 1) / 2 ^ k := fun m => by
      rw [Nat.pow_succ, Nat.mod_mul_right_div_self]
    rw [a, a, Nat.mod_mul_right_mod]
  exact h1
theorem ofN_num : ∀ l : List Bool, ofN (numB l) l.length = l
  | [] => rfl
  | b :: l => by
    have e : numB (b :: l) = l.foldl num1 (num1 0 b) := rfl
    have e2 : numB (b :: l) = b.toNat * 2 ^ l.length + numB l := by rw [e, foldl_num]; unfold num1; simp
    have hlt := numB_lt l
    rw [List.length_cons, ofN_succ]
    have h1 : bitN (numB (b :: l)) l.length = b := by
      rw [e2]; unfold bitN
      rw [Nat.add_comm, Nat.add_mul_div_right _ _ (Nat.two_pow_pos _), Nat.div_eq_of_lt hlt]
      cases b <;> rfl
    rw [h1]
    congr 1
    rw [← ofN_mod, e2, Nat.add_comm, Nat.add_mul_mod_self_right, Nat.mod_eq_of_lt hlt]
    exact ofN_num l
/-! ### Sums -/
def crcAdd (c : Nat) (b : Bool) : Nat := if (c / 16384 % 2 == 1) != b then Nat.xor (2 * c % 32768) 17817 else 2 * c % 32768
def crcFrom (c : Nat) (l : List Bool) : Nat := l.foldl crcAdd c
def crc (l : List Bool) : Nat := crcFrom 0 l
theorem crcAdd_lt (c : Nat) (b : Bool) : crcAdd c b < 32768 := by
  unfold crcAdd
  have h : 2 * c % 32768 < 2 ^ 15 := Nat.mod_lt _ (by decide)
  split
  · exact Nat.xor_lt_two_pow h (by decide)
  · exact h
theorem crcFrom_lt {c : Nat} (hc : c < 32768) : ∀ l, crcFrom c l < 32768 := by
  intro l
  induction l generalizing c with
  | nil => exact hc
  | cons b l ih => exact ih (crcAdd_lt c b)
theorem crc_lt (l : List Bool) : crc l < 32768 := crcFrom_lt (by decide) l
theorem crc_app (a b : List Bool) : crc (a ++ b) = crcFrom (crc a) b := by unfold crc crcFrom; rw [List.foldl_append]
theorem crc_snoc (a : List Bool) (b : Bool) : crc (a ++ [b]) = crcAdd (crc a) b := crc_app a [b]
/-! ### Bits laid between -/
structure Run where
  last : Bool
  n : Nat
def Run.add (r : Run) (c : Bool) : Run := if 0 < r.n ∧ c = r.last then ⟨r.last, r.n + 1⟩ else ⟨c, 1⟩
def run0 : Run := ⟨false, 0⟩
/-- The row's run, and what is laid out, bit by bit. -/
def stuffGo (r : Run) : List Bool → List Bool
  | [] => []
  | c :: l => if (r.add c).n = 5 then c :: (!c) :: stuffGo ⟨!c, 1⟩ l else c :: stuffGo (r.add c) l
def stuff (l : List Bool) : List Bool := stuffGo run0 l
theorem stuffGo_len (r : Run) : ∀ l, (stuffGo r l).length ≤ 2 * l.length := by
  intro l
  induction l generalizing r with
  | nil => exact Nat.le_refl _
  | cons c l ih =>
    unfold stuffGo
    split
    · have := ih ⟨!c, 1⟩; simp only [List.length_cons]; omega
    · have := ih (r.add c); simp only [List.length_cons]; omega
/-! ### Frames -/
structure Frm where
  ext : Bool
  id : Nat
  rtr : Bool
  data : ByteArray
def Frm.ok (f : Frm) : Prop := (f.rtr = true → f.data.size = 0) ∧ f.data.size ≤ 8 ∧ f.id < (if f.ext then 536870912 else 2048)
instance (f : Frm) : Decidable f.ok := by unfold Frm.ok; infer_instance
def frm0 : Frm := ⟨false, 0, false, .empty⟩
def byB (s : ByteArray) : List Bool := s.data.toList.flatMap fun c => ofN c.toNat 8
def arb (f : Frm) : List Bool := if f.ext then false :: (ofN (f.id / 262144) 11 ++ (true :: true :: (ofN f.id 18 ++ [f.rtr]))) else false :: (ofN f.id 11 ++ [f.rtr, false])
def body (f : Frm) : List Bool := arb f ++ (if f.ext then [false, false] else [false]) ++ ofN f.data.size 4 ++ byB f.data
def encB (f : Frm) : List Bool := stuff (body f ++ ofN (crc (body f)) 15) ++ List.replicate 10 true
def enc (f : Frm) : ByteArray := if f.ok then bs (encB f) else .empty
/-- Each eight bits as a byte. -/
def bytesL : List Bool → List UInt8
  | a :: b :: c :: d :: e :: f :: g :: h :: l => UInt8.ofNat (numB [a, b, c, d, e, f, g, h]) :: bytesL l
  | _ => []
def bytes (l : List Bool) : ByteArray := ⟨(bytesL l).toArray⟩
theorem byB_len (s : ByteArray) : (byB s).length = 8 * s.size := by
  unfold byB
  rw [List.length_flatMap]
  have : s.size = s.data.toList.length := rfl
  rw [this]
  generalize s.data.toList = l
  induction l with
  | nil => rfl
  | cons a l ih => simp only [List.map_cons, List.sum_cons, ofN_len, List.length_cons] at ih ⊢; omega
theorem bytesL_by : ∀ l : List UInt8, bytesL (l.flatMap fun c => ofN c.toNat 8) = l
  | [] => rfl
  | c :: l => by
    rw [List.flatMap_cons]
    have h8 : ∃ a b d e f g h i, ofN c.toNat 8 = [a, b, d, e, f, g, h, i] := ⟨_, _, _, _, _, _, _, _, rfl⟩
    obtain ⟨a, b, d, e, f, g, h, i, he⟩ := h8
    rw [he]
    show UInt8.ofNat (numB [a, b, d, e, f, g, h, i]) :: bytesL (l.flatMap fun c => ofN c.toNat 8) = _
    rw [bytesL_by l, ← he, num_ofN]
    congr 1
    have := c.toNat_lt
    rw [Nat.mod_eq_of_lt (by simpa using this)]
    exact UInt8.ofNat_toNat
theorem bytes_by (s : ByteArray) : bytes (byB s) = s := by
  apply ba_ext
  show (bytesL (byB s)).toArray.toList = _
  unfold byB
  rw [bytesL_by]
/-- How many bits a frame has that begins so; 0: not known yet; an error's number. -/
def need (l : List Bool) : Nat × Nat :=
  if 0 < l.length ∧ gb l 0 = true then (0, 12)
  else if l.length ≤ 13 then (0, 0)
  else if gb l 13 = true then
    if gb l 12 = false then (0, 12)
    else if l.length < 39 then (0, 0)
    else if gb l 32 = true then (39, 0)
    else (39 + 8 * min (numB ((l.drop 35).take 4)) 8, 0)
  else if l.length < 19 then (0, 0)
  else if gb l 12 = true then (19, 0)
  else (19 + 8 * min (numB ((l.drop 15).take 4)) 8, 0)
/-- The frame of a row that is long enough. -/
def frmOf (l : List Bool) : Frm :=
  if gb l 13 = true then ⟨true, numB ((l.drop 1).take 11) * 262144 + numB ((l.drop 14).take 18), gb l 32, bytes ((l.drop 39).take ((need l).1 - 39))⟩
  else ⟨false, numB ((l.drop 1).take 11), gb l 12, bytes ((l.drop 19).take ((need l).1 - 19))⟩
def parse (l : List Bool) : Frm × Nat × Nat :=
  if (need l).2 ≠ 0 then (frm0, 0, (need l).2)
  else if (need l).1 = 0 ∨ l.length < (need l).1 then (frm0, 0, 10)
  else (frmOf l, (need l).1, 0)
/-! ### A frame's bits as they come -/
structure Rd where
  run : Run
  b : List Bool
  need : Nat
  sum : Nat
  fin : Nat
  laid : Bool
def rd0 : Rd := ⟨run0, [], 0, 0, 0, false⟩
def Rd.inB (r : Rd) : Bool := decide (r.need = 0 ∨ r.b.length < r.need + 15)
def Rd.right (r : Rd) : Bool := !r.inB && decide (r.sum = 0)
def Rd.add (r : Rd) (c : Bool) : Rd × Nat :=
  if 0 < r.need then ({ r with b := r.b ++ [c], sum := crcAdd r.sum c }, 0)
  else if (Pu.need (r.b ++ [c])).2 ≠ 0 then ({ r with b := r.b ++ [c], sum := crcAdd r.sum c }, (Pu.need (r.b ++ [c])).2)
  else ({ r with b := r.b ++ [c], sum := crcAdd r.sum c, need := (Pu.need (r.b ++ [c])).1 }, 0)
def Rd.tail (r : Rd) (c : Bool) : Rd × Nat :=
  ({ r with fin := r.fin + 1 }, if r.fin + 1 = 2 then 0 else if c = false then 12 else if r.fin + 1 = 3 ∧ r.right = false then 40 else 0)
def Rd.push (r : Rd) (c : Bool) : Rd × Nat :=
  if r.inB = true ∨ (r.run.n = 5 ∧ r.laid = false ∧ r.fin = 0) then
    if r.run.n = 5 ∧ c = r.run.last then (r, 20)
    else if r.run.n = 5 then ({ r with run := r.run.add c, laid := !r.inB }, 0)
    else ({ r with run := r.run.add c } : Rd).add c
  else r.tail c
def Rd.end_ (r : Rd) : Nat := r.fin - 3
/-- From place i on: the frame, bits or place, the error's number. -/
def decGo (r : Rd) (i : Nat) : List Bool → Frm × Nat × Nat
  | [] => (frm0, i, 10)
  | c :: l => if (r.push c).2 ≠ 0 then (frm0, i, (r.push c).2) else if (r.push c).1.end_ = 7 then ((parse (r.push c).1.b).1, i + 1, 0) else decGo (r.push c).1 (i + 1) l
def dec (l : List Bool) : Frm × Nat × Nat := decGo rd0 0 l
end Go.Pu
