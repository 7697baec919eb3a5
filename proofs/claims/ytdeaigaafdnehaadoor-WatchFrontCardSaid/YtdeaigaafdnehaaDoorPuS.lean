/- Plain words, on: the beat as a frame. No program in sight. -/
import Derived.Test.YtdeaigaafdnehaaDoorPuR
import Derived.Test.YtdeaigaafdnehaaDoorPuB
namespace Go.Pu
open Go.Eng
def bldOk (m : Mat) (rank cyc : Int) : Bool := isM m && decide (0 ≤ rank ∧ rank < m.nM ∧ 0 ≤ cyc ∧ cyc < m.cycles)
def bldD (m : Mat) (cyc : Int) (at_ : Nat) (disc : Bool) : ByteArray := if m.level = 2 then ⟨#[UInt8.ofNat cyc.toNat, UInt8.ofNat (if disc then 1 else 0), UInt8.ofNat (at_ / 256), UInt8.ofNat (at_ % 256)]⟩ else ⟨#[UInt8.ofNat cyc.toNat]⟩
def bldF (m : Mat) (rank cyc : Int) (at_ : Nat) (disc : Bool) : Frm := if bldOk m rank cyc then ⟨false, (m.ref + rank).toNat, false, bldD m cyc at_ disc⟩ else frm0
structure Bt where
  rank : Int
  cyc : Nat
  glob : Nat
  disc : Bool
def bt00 : Bt := ⟨0, 0, 0, false⟩
def byN (s : ByteArray) (i : Nat) : Nat := (s.data.toList.getD i 0).toNat
theorem byN_lt (s : ByteArray) (i : Nat) : byN s i < 256 := (s.data.toList.getD i 0).toNat_lt
/-- What a frame would be as a beat. -/
def btOf (m : Mat) (f : Frm) : Bt := if m.level = 2 ∧ f.data.size = 4 then ⟨f.id - m.ref, byN f.data 0, byN f.data 2 * 256 + byN f.data 3, decide (byN f.data 1 = 1)⟩ else ⟨f.id - m.ref, byN f.data 0, 0, false⟩
def frmEq (x : Frm) (f : Frm) : Bool := (x.ext == f.ext) && (decide ((x.id : Int) = (f.id : Int)) && ((x.rtr == f.rtr) && (strEq x.data f.data && true)))
def btOk (m : Mat) (f : Frm) : Bool := !(decide (f.data.size = 0 ∨ (f.id : Int) < m.ref ∨ (m.nM : Int) ≤ f.id - m.ref)) && (bldOk m (btOf m f).rank (btOf m f).cyc && frmEq (bldF m (btOf m f).rank (btOf m f).cyc (btOf m f).glob (btOf m f).disc) f)
def btR (m : Mat) (f : Frm) : Bt := if btOk m f then btOf m f else bt00
theorem bt_by (s : ByteArray) (i : Nat) : bt s i = (byN s i : Int) := rfl
end Go.Pu
namespace Go.Eng
open Go Go.Pu
theorem shr8 (n : Nat) : (n : Int).fdiv (2 ^ min (Int.toNat 8) IntKind.u16.bits) = ((n / 256 : Nat) : Int) := by
  rw [show min (Int.toNat 8) IntKind.u16.bits = 8 from rfl, shr_n]
theorem wrap8 (n : Nat) : IntKind.u8.wrap (n : Int) = ((n % 256 : Nat) : Int) := by
  unfold IntKind.wrap
  show (if (IntKind.u8.signed && _) = true then _ else (n : Int) % (2 ^ 8 : Int)) = _
  rw [show IntKind.u8.signed = false from rfl, Bool.false_and, if_neg (by simp)]
  omega
theorem bnd8 {n : Nat} {K : Int → Prop} (h : K ((n % 256 : Nat) : Int)) : Bnd .u8 (n : Int) K := by
  unfold Bnd
  cases hb : inR .u8 (n : Int)
  · show K (IntKind.u8.wrap n)
    rw [wrap8]; exact h
  · have := (inR_iff.1 hb).2
    have e : IntKind.max .u8 = 255 := rfl
    rw [e] at this
    show K (n : Int)
    rw [show n = n % 256 by omega]; exact h
theorem qU8F {n : Int} {a b : Prop} (h : ¬ (0 ≤ n ∧ n ≤ 255)) (h1 : b) : Cnd.match_1 (fun _ => Prop) (inR .u8 n) (fun _ => a) (fun _ => b) := by
  have e : inR .u8 n = false := Bool.eq_false_iff.2 fun hb => h (inR_iff.1 hb)
  rw [e]; exact h1
theorem shl168 (c : Nat) : (c : Int) * 2 ^ min (Int.toNat 8) IntKind.u16.bits = ((c * 256 : Nat) : Int) := by
  rw [show min (Int.toNat 8) IntKind.u16.bits = 8 from rfl]; omega
theorem or8 {a b : Nat} (ha : a < 256) (hb : b < 256) : orI .u16 ((a * 256 : Nat) : Int) (b : Nat) = ((a * 256 + b : Nat) : Int) := by
  rw [orI_u (k := .u16) rfl (show a * 256 < 2 ^ 16 by omega) (show b < 2 ^ 16 by omega)]
  congr 1
  have := Nat.two_pow_add_eq_or_of_lt (i := 8) (b := b) hb a
  rw [show 2 ^ 8 * a = a * 256 by omega] at this
  exact this.symm
end Go.Eng
