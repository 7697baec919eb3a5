/- The engine's words: an abstract heap of named blocks, an evaluator in continuation form over the model's own code. Plain definitions; nothing is proved here. -/
import Derived.Calls
import Derived.Orders
namespace Go.Eng
open Go

/-- One cell's value: a plain one, or one that leads to a named block. -/
inductive C where
  | v (x : Value)
  | ptr (n off : Nat)
  | ept (n base sz i j : Nat)
  | slc (n base sz off len cap : Nat) (nl : Bool)
  | mp (n : Nat)
  | ch (n : Nat)
  | fn (f : Fn) (caps : List (Nat × Nat))
/-- Cells in a row: one, or an array of one-celled elements. -/
inductive Seg where
  | c (x : C)
  | arr (n : Nat) (f : Nat → C)
/-- A value of one type. -/
inductive T where
  | one (c : C)
  | agg (l : List Seg)
/-- What a temporary holds. -/
inductive R where
  | junk
  | t (x : T)
  | tup (l : List T)
/-- What a named block holds. -/
inductive Ob where
  | own (l : List Seg)
  | row (sz n : Nat) (f : Nat → List C) (tot : Nat)
  | ro (sz n : Nat) (f : Nat → List C)
inductive HE where
  | fresh
  | dead
  | ob (o : Ob)
abbrev Heap := List HE

/-! ### Temporaries: a binary tree of depth d -/
def Tr : Nat → Type
  | 0 => R
  | d + 1 => Tr d × Tr d
def Tr.empty : (d : Nat) → Tr d
  | 0 => R.junk
  | d + 1 => (Tr.empty d, Tr.empty d)
def Tr.get : (d : Nat) → Tr d → Nat → R
  | 0, x, 0 => x
  | 0, _, _ + 1 => .junk
  | d + 1, (a, b), i => match i % 2 with
    | 0 => Tr.get d a (i / 2)
    | _ => Tr.get d b (i / 2)
def Tr.set : (d : Nat) → Tr d → Nat → R → Tr d
  | 0, _, _, x => x
  | d + 1, (a, b), i, x => match i % 2 with
    | 0 => (Tr.set d a (i / 2) x, b)
    | _ => (a, Tr.set d b (i / 2) x)
def Tr.getK : (d : Nat) → Tr d → Nat → (R → Prop) → Prop
  | 0, x, 0, k => k x
  | 0, _, _ + 1, k => k .junk
  | d + 1, (a, b), i, k => match i % 2 with
    | 0 => Tr.getK d a (i / 2) k
    | _ => Tr.getK d b (i / 2) k
def Tr.setK : (d : Nat) → Tr d → Nat → R → (Tr d → Prop) → Prop
  | 0, _, 0, x, k => k x
  | 0, _, _ + 1, _, _ => False
  | d + 1, (a, b), i, x, k => match i % 2 with
    | 0 => Tr.setK d a (i / 2) x fun a' => k (a', b)
    | _ => Tr.setK d b (i / 2) x fun b' => k (a, b')

/-! ### Tests and bounds: where the walk stops if they are not closed -/
def Cnd (b : Bool) (p q : Prop) : Prop := match b with | true => p | false => q
def Chk (b : Bool) (k : Prop) : Prop := Cnd b k False
def inR : IntKind → Int → Bool
  | .i64, n => decide (-9223372036854775808 ≤ n ∧ n ≤ 9223372036854775807)
  | k, n => decide (k.min ≤ n ∧ n ≤ k.max)
def Bnd (k : IntKind) (s : Int) (K : Int → Prop) : Prop := Cnd (inR k s) (K s) (K (k.wrap s))
theorem c2 {b : Bool} {p q : Prop} (h1 : b = true → p) (h2 : b = false → q) : Cnd b p q := by cases b <;> simp_all [Cnd]
theorem cT {b : Bool} {p q : Prop} (h1 : b = true) (h2 : p) : Cnd b p q := by simp_all [Cnd]
theorem cF {b : Bool} {p q : Prop} (h1 : b = false) (h2 : q) : Cnd b p q := by simp_all [Cnd]

/-! ### Types -/
inductive K where
  | int (k : IntKind) | bool | str | ptr (e : TypeId) | slice (e : TypeId) | arr (n : Nat) (e : TypeId) | struct (fs : List (Nat × TypeId)) | map (k e : TypeId) | chan (e : TypeId) | other
structure TI where
  desc : K
  size : Nat
  bytes : Nat
  zero : T
abbrev TT := List (TypeId × TI)
def tiK : TT → TypeId → (TI → Prop) → Prop
  | [], _, _ => False
  | (u, i) :: r, t, k => match Nat.beq t u with | true => k i | false => tiK r t k

/-! ### Views -/
def plainK : List Value → (List Seg → Prop) → Prop
  | [], k => k []
  | .agg _ :: _, _ => False
  | .tuple _ :: _, _ => False
  | x :: r, k => plainK r fun l => k (.c (.v x) :: l)
def constK (v : Value) (k : R → Prop) : Prop :=
  match v with
  | .agg cs => plainK cs.toList fun l => k (.t (.agg l))
  | .tuple _ => k .junk
  | .slice none 0 0 => k (.t (.one (.v (.slice none 0 0))))
  | .slice _ _ _ => k .junk
  | x => k (.t (.one (.v x)))
variable {d : Nat}
def opK (r : Tr d) (o : Operand) (k : R → Prop) : Prop :=
  match o with
  | .tmp t => r.getK d t k
  | .const v => constK v k
  | .global _ => k .junk
  | .func f => k (.t (.one (.fn (.func f) [])))
def intK (x : R) (k : IntKind → Int → Prop) : Prop := match x with | .t (.one (.v (.int kd n))) => k kd n | _ => False
def boolK (x : R) (k : Bool → Prop) : Prop := match x with | .t (.one (.v (.bool b))) => k b | _ => False
def tK (x : R) (k : T → Prop) : Prop := match x with | .t x => k x | _ => False
def cK (x : R) (k : C → Prop) : Prop := match x with | .t (.one c) => k c | _ => False
def segsOf : T → List Seg
  | .one c => [.c c]
  | .agg l => l

/-! ### Cells in a row of segments -/
/-- drop: the segments from cell off on (off at a segment's edge). -/
def dropK : List Seg → Nat → (List Seg → Prop) → Prop
  | l, 0, k => k l
  | .c _ :: r, n + 1, k => dropK r n k
  | .arr m _ :: r, n, k => match Nat.ble m n with | true => dropK r (n - m) k | false => False
  | [], _, _ => False
/-- take: the segments of the next sz cells. -/
def takeK : List Seg → Nat → (List Seg → Prop) → Prop
  | _, 0, k => k []
  | .c x :: r, n + 1, k => takeK r n fun l => k (.c x :: l)
  | .arr m f :: r, n, k => match Nat.ble m n with | true => takeK r (n - m) (fun l => k (.arr m f :: l)) | false => False
  | [], _, _ => False
/-- put: the segments ys in the place of as many cells from cell off on. -/
def overK : List Seg → List Seg → (List Seg → Prop) → Prop
  | l, [], k => k l
  | .c _ :: r, .c y :: ys, k => overK r ys fun l => k (.c y :: l)
  | .arr m _ :: r, .arr n g :: ys, k => match Nat.beq m n with | true => overK r ys (fun l => k (.arr n g :: l)) | false => False
  | _, _, _ => False
def putK : List Seg → Nat → List Seg → (List Seg → Prop) → Prop
  | l, 0, ys, k => overK l ys k
  | .c x :: r, n + 1, ys, k => putK r n ys fun l => k (.c x :: l)
  | .arr m f :: r, n, ys, k => match Nat.ble m n with | true => putK r (n - m) ys (fun l => k (.arr m f :: l)) | false => False
  | [], _, _, _ => False
def isAgg : K → Bool
  | .arr _ _ | .struct _ => true
  | _ => false
/-- segments as a value of a type. -/
def mkK (ti : TI) (l : List Seg) (k : T → Prop) : Prop :=
  match isAgg ti.desc, l with
  | true, l => k (.agg l)
  | false, [.c c] => k (.one c)
  | _, _ => False
/-- the list of cells as segments -/
def segs : List C → List Seg := List.map Seg.c
def cellsK : List Seg → (List C → Prop) → Prop
  | [], k => k []
  | .c x :: r, k => cellsK r fun l => k (x :: l)
  | .arr _ _ :: _, _ => False
def setK : List C → Nat → List C → (List C → Prop) → Prop
  | l, 0, ys, k => go l ys k
  | x :: r, n + 1, ys, k => setK r n ys fun l => k (x :: l)
  | [], _, _, _ => False
where go : List C → List C → (List C → Prop) → Prop
  | l, [], k => k l
  | _ :: r, y :: ys, k => go r ys fun l => k (y :: l)
  | [], _, _ => False

/-! ### The heap -/
def hgetK : Heap → Nat → (Ob → Prop) → Prop
  | .ob o :: _, 0, k => k o
  | _ :: r, n + 1, k => hgetK r n k
  | _, _, _ => False
def hsetK : Heap → Nat → HE → (Heap → Prop) → Prop
  | _ :: r, 0, e, k => k (e :: r)
  | x :: r, n + 1, e, k => hsetK r n e fun l => k (x :: l)
  | [], _, _, _ => False
def hlenK : Heap → Nat → (Nat → Prop) → Prop
  | [], m, k => k m
  | _ :: r, m, k => hlenK r (m + 1) k
def happK : Heap → HE → (Heap → Prop) → Prop
  | [], e, k => k [e]
  | x :: r, e, k => happK r e fun l => k (x :: l)

/-- Reading a value of a type at a pointer. -/
def loadK (tt : TT) (h : Heap) (t : TypeId) (p : C) (k : T → Prop) : Prop :=
  tiK tt t fun ti =>
  match p with
  | .ptr n off => hgetK h n fun o => match o with
    | .own l => dropK l off fun l => takeK l ti.size fun l => mkK ti l k
    | _ => False
  | .ept n base sz i j => hgetK h n fun o => match o with
    | .own l => match sz, j, ti.size with
      | 1, 0, 1 => dropK l base fun l => match l with
        | .arr m f :: _ => Chk (decide (i < m)) (mkK ti [.c (f i)] k)
        | _ => False
      | _, _, _ => False
    | .row sz' m f _ => match Nat.beq sz sz', base with
      | true, 0 => Chk (decide (i < m)) (dropK (segs (f i)) j fun l => takeK l ti.size fun l => mkK ti l k)
      | _, _ => False
    | .ro sz' m f => match Nat.beq sz sz', base with
      | true, 0 => Chk (decide (i < m)) (dropK (segs (f i)) j fun l => takeK l ti.size fun l => mkK ti l k)
      | _, _ => False
  | _ => False
def nseg : List Seg → Nat
  | [] => 0
  | .c _ :: r => nseg r + 1
  | .arr m _ :: r => nseg r + m
/-- Writing. -/
def storeK (tt : TT) (h : Heap) (t : TypeId) (p : C) (x : T) (k : Heap → Prop) : Prop :=
  tiK tt t fun ti => match Nat.beq (nseg (segsOf x)) ti.size with
  | false => False
  | true =>
  match p with
  | .ptr n off => hgetK h n fun o => match o with
    | .own l => putK l off (segsOf x) fun l => hsetK h n (.ob (.own l)) k
    | _ => False
  | .ept n base sz i j => hgetK h n fun o => match o with
    | .own l => match sz, j, x with
      | 1, 0, .one c => dropK l base fun r => match r with
        | .arr m f :: _ => Chk (decide (i < m)) (putK l base [.arr m fun q => if q = i then c else f q] fun l => hsetK h n (.ob (.own l)) k)
        | _ => False
      | _, _, _ => False
    | .row sz' m f tot => match Nat.beq sz sz', base with
      | true, 0 => Chk (decide (i < m)) (cellsK (segsOf x) fun ys => setK (f i) j ys fun cs => hsetK h n (.ob (.row sz m (fun q => if q = i then cs else f q) tot)) k)
      | _, _ => False
    | _ => False
  | _ => False
end Go.Eng
