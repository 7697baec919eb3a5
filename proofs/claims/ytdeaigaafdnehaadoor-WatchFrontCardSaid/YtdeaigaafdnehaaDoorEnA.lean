/- The engine, part A: an evaluator over the model's own code, and its soundness. Nothing is claimed of a program here. -/
import Derived.Calls
import Derived.Orders
/- The engine's words: an abstract heap of named blocks, an evaluator in continuation form over the model's own code. Plain definitions; nothing is proved here. -/
namespace Go.Eng
open Go

/-- One cell's value: a plain one, or one that leads to a named block. -/
inductive C where
  | v (x : Value)
  | ptr (n off : Nat)
  | ept (n base sz i j : Nat)
  | slc (n base sz off len cap : Nat) (nl : Bool)
  | mp (n : Nat)
  | ch (n : Nat)
  | fn (f : Fn) (caps : List (Nat × Nat))
/-- Cells in a row: one, or an array of one-celled elements. -/
inductive Seg where
  | c (x : C)
  | arr (n : Nat) (f : Nat → C)
/-- A value of one type. -/
inductive T where
  | one (c : C)
  | agg (l : List Seg)
/-- What a temporary holds. -/
inductive R where
  | junk
  | t (x : T)
  | tup (l : List T)
/-- What a named block holds that is no row of cells: an iterator over a text, a map from int to string, a channel of pairs. -/
inductive Rw where
  | sit (s : ByteArray) (pos : Nat)
  | ms (g : Int → Option ByteArray)
  | chq (cap : Nat) (l : List (Int × ByteArray))
  | gl (b : Nat) (v : Value)
/-- What a named block holds. -/
inductive Ob where
  | raw (x : Rw)
  | own (l : List Seg)
  | row (sz n : Nat) (f : Nat → List C) (tot : Nat)
  | ro (sz n : Nat) (f : Nat → List C)
inductive HE where
  | fresh
  | dead
  | ob (o : Ob)
abbrev Heap := List HE

/-! ### Temporaries: a binary tree of depth d -/
def Tr : Nat → Type
  | 0 => R
  | d + 1 => Tr d × Tr d
def Tr.empty : (d : Nat) → Tr d
  | 0 => R.junk
  | d + 1 => (Tr.empty d, Tr.empty d)
def Tr.get : (d : Nat) → Tr d → Nat → R
  | 0, x, 0 => x
  | 0, _, _ + 1 => .junk
  | d + 1, (a, b), i => match i % 2 with
    | 0 => Tr.get d a (i / 2)
    | _ => Tr.get d b (i / 2)
def Tr.set : (d : Nat) → Tr d → Nat → R → Tr d
  | 0, _, _, x => x
  | d + 1, (a, b), i, x => match i % 2 with
    | 0 => (Tr.set d a (i / 2) x, b)
    | _ => (a, Tr.set d b (i / 2) x)
def Tr.getK : (d : Nat) → Tr d → Nat → (R → Prop) → Prop
  | 0, x, 0, k => k x
  | 0, _, _ + 1, k => k .junk
  | d + 1, (a, b), i, k => match i % 2 with
    | 0 => Tr.getK d a (i / 2) k
    | _ => Tr.getK d b (i / 2) k
def Tr.setK : (d : Nat) → Tr d → Nat → R → (Tr d → Prop) → Prop
  | 0, _, 0, x, k => k x
  | 0, _, _ + 1, _, _ => False
  | d + 1, (a, b), i, x, k => match i % 2 with
    | 0 => Tr.setK d a (i / 2) x fun a' => k (a', b)
    | _ => Tr.setK d b (i / 2) x fun b' => k (a, b')

/-! ### Tests and bounds: where the walk stops if they are not closed -/
def Cnd (b : Bool) (p q : Prop) : Prop := match b with | true => p | false => q
def Chk (b : Bool) (k : Prop) : Prop := Cnd b k False
def inR : IntKind → Int → Bool
  | .i64, .ofNat m => Nat.ble m 9223372036854775807
  | .i64, .negSucc m => Nat.ble m 9223372036854775807
  | .u8, .ofNat m => Nat.ble m 255
  | .u16, .ofNat m => Nat.ble m 65535
  | .u32, .ofNat m => Nat.ble m 4294967295
  | .u64, .ofNat m => Nat.ble m 18446744073709551615
  | .u8, .negSucc _ => false
  | .u16, .negSucc _ => false
  | .u32, .negSucc _ => false
  | .u64, .negSucc _ => false
  | k, n => decide (k.min ≤ n ∧ n ≤ k.max)
theorem inR_iff {k : IntKind} {n : Int} : inR k n = true ↔ k.min ≤ n ∧ n ≤ k.max := by
  cases k <;> cases n <;> simp [inR, IntKind.min, IntKind.max, IntKind.signed, IntKind.bits, Nat.ble_eq] <;> omega
def Bnd (k : IntKind) (s : Int) (K : Int → Prop) : Prop := Cnd (inR k s) (K s) (K (k.wrap s))
theorem c2 {b : Bool} {p q : Prop} (h1 : b = true → p) (h2 : b = false → q) : Cnd b p q := by cases b <;> simp_all [Cnd]
theorem cT {b : Bool} {p q : Prop} (h1 : b = true) (h2 : p) : Cnd b p q := by simp_all [Cnd]
theorem cF {b : Bool} {p q : Prop} (h1 : b = false) (h2 : q) : Cnd b p q := by simp_all [Cnd]

/-! ### Types -/
inductive K where
  | int (k : IntKind) | bool | str | ptr (e : TypeId) | slice (e : TypeId) | arr (n : Nat) (e : TypeId) | struct (fs : List (Nat × TypeId)) | map (k e : TypeId) | chan (e : TypeId) | other
/-- A plain cell's kind. -/
inductive Lf where
  | int (k : IntKind) | bool | str
structure TI where
  desc : K
  size : Nat
  bytes : Nat
  zero : T
  cmp : List Lf
abbrev TT := List (TypeId × TI)
def tiK : TT → TypeId → (TI → Prop) → Prop
  | [], _, _ => False
  | (u, i) :: r, t, k => match Nat.beq t u with | true => k i | false => tiK r t k

/-! ### Views -/
def plainK : List Value → (List Seg → Prop) → Prop
  | [], k => k []
  | .agg _ :: _, _ => False
  | .tuple _ :: _, _ => False
  | x :: r, k => plainK r fun l => k (.c (.v x) :: l)
def constK (v : Value) (k : R → Prop) : Prop :=
  match v with
  | .agg cs => plainK cs.toList fun l => k (.t (.agg l))
  | .tuple _ => k .junk
  | .slice none 0 0 => k (.t (.one (.v (.slice none 0 0))))
  | .slice _ _ _ => k .junk
  | x => k (.t (.one (.v x)))
variable {d : Nat}
def opK (r : Tr d) (o : Operand) (k : R → Prop) : Prop :=
  match o with
  | .tmp t => r.getK d t k
  | .const v => constK v k
  | .global _ => k .junk
  | .func f => k (.t (.one (.fn (.func f) [])))
def intK (x : R) (k : IntKind → Int → Prop) : Prop := match x with | .t (.one (.v (.int kd n))) => k kd n | _ => False
def boolK (x : R) (k : Bool → Prop) : Prop := match x with | .t (.one (.v (.bool b))) => k b | _ => False
def tK (x : R) (k : T → Prop) : Prop := match x with | .t x => k x | _ => False
def cK (x : R) (k : C → Prop) : Prop := match x with | .t (.one c) => k c | _ => False
def segsOf : T → List Seg
  | .one c => [.c c]
  | .agg l => l

/-! ### Cells in a row of segments -/
/-- drop: the segments from cell off on (off at a segment's edge). -/
def dropK : List Seg → Nat → (List Seg → Prop) → Prop
  | l, 0, k => k l
  | .c _ :: r, n + 1, k => dropK r n k
  | .arr m _ :: r, n, k => match Nat.ble m n with | true => dropK r (n - m) k | false => False
  | [], _, _ => False
/-- take: the segments of the next sz cells. -/
def takeK : List Seg → Nat → (List Seg → Prop) → Prop
  | _, 0, k => k []
  | .c x :: r, n + 1, k => takeK r n fun l => k (.c x :: l)
  | .arr m f :: r, n, k => match Nat.ble m n with | true => takeK r (n - m) (fun l => k (.arr m f :: l)) | false => False
  | [], _, _ => False
/-- put: the segments ys in the place of as many cells from cell off on. -/
def overK : List Seg → List Seg → (List Seg → Prop) → Prop
  | l, [], k => k l
  | .c _ :: r, .c y :: ys, k => overK r ys fun l => k (.c y :: l)
  | .arr m _ :: r, .arr n g :: ys, k => match Nat.beq m n with | true => overK r ys (fun l => k (.arr n g :: l)) | false => False
  | _, _, _ => False
def putK : List Seg → Nat → List Seg → (List Seg → Prop) → Prop
  | l, 0, ys, k => overK l ys k
  | .c x :: r, n + 1, ys, k => putK r n ys fun l => k (.c x :: l)
  | .arr m f :: r, n, ys, k => match Nat.ble m n with | true => putK r (n - m) ys (fun l => k (.arr m f :: l)) | false => False
  | [], _, _, _ => False
def isAgg : K → Bool
  | .arr _ _ | .struct _ => true
  | _ => false
/-- segments as a value of a type. -/
def mkK (ti : TI) (l : List Seg) (k : T → Prop) : Prop :=
  match isAgg ti.desc, l with
  | true, l => k (.agg l)
  | false, [.c c] => k (.one c)
  | _, _ => False
/-- the list of cells as segments -/
def segs : List C → List Seg := List.map Seg.c
def cellsK : List Seg → (List C → Prop) → Prop
  | [], k => k []
  | .c x :: r, k => cellsK r fun l => k (x :: l)
  | .arr _ _ :: _, _ => False
def setK : List C → Nat → List C → (List C → Prop) → Prop
  | l, 0, ys, k => go l ys k
  | x :: r, n + 1, ys, k => setK r n ys fun l => k (x :: l)
  | [], _, _, _ => False
where go : List C → List C → (List C → Prop) → Prop
  | l, [], k => k l
  | _ :: r, y :: ys, k => go r ys fun l => k (y :: l)
  | [], _, _ => False

/-! ### The heap -/
def hgetK : Heap → Nat → (Ob → Prop) → Prop
  | .ob o :: _, 0, k => k o
  | _ :: r, n + 1, k => hgetK r n k
  | _, _, _ => False
def hsetK : Heap → Nat → HE → (Heap → Prop) → Prop
  | _ :: r, 0, e, k => k (e :: r)
  | x :: r, n + 1, e, k => hsetK r n e fun l => k (x :: l)
  | [], _, _, _ => False
def hlenK : Heap → Nat → (Nat → Prop) → Prop
  | [], m, k => k m
  | _ :: r, m, k => hlenK r (m + 1) k
def happK : Heap → HE → (Heap → Prop) → Prop
  | [], e, k => k [e]
  | x :: r, e, k => happK r e fun l => k (x :: l)

/-- Reading a value of a type at a pointer. -/
def loadK (tt : TT) (h : Heap) (t : TypeId) (p : C) (k : T → Prop) : Prop :=
  tiK tt t fun ti =>
  match p with
  | .ptr n off => hgetK h n fun o => match o with
    | .own l => dropK l off fun l => takeK l ti.size fun l => mkK ti l k
    | _ => False
  | .ept n base sz i j => hgetK h n fun o => match o with
    | .own l => match sz, j, ti.size with
      | 1, 0, 1 => dropK l base fun l => match l with
        | .arr m f :: _ => Chk (decide (i < m)) (mkK ti [.c (f i)] k)
        | _ => False
      | _, _, _ => False
    | .row sz' m f _ => match Nat.beq sz sz', base with
      | true, 0 => Chk (decide (i < m)) (dropK (segs (f i)) j fun l => takeK l ti.size fun l => mkK ti l k)
      | _, _ => False
    | .ro sz' m f => match Nat.beq sz sz', base with
      | true, 0 => Chk (decide (i < m)) (dropK (segs (f i)) j fun l => takeK l ti.size fun l => mkK ti l k)
      | _, _ => False
    | .raw _ => False
  | _ => False
def nseg : List Seg → Nat
  | [] => 0
  | .c _ :: r => nseg r + 1
  | .arr m _ :: r => nseg r + m
/-- Writing. -/
def storeK (tt : TT) (h : Heap) (t : TypeId) (p : C) (x : T) (k : Heap → Prop) : Prop :=
  tiK tt t fun ti => match Nat.beq (nseg (segsOf x)) ti.size with
  | false => False
  | true =>
  match p with
  | .ptr n off => hgetK h n fun o => match o with
    | .own l => putK l off (segsOf x) fun l => hsetK h n (.ob (.own l)) k
    | _ => False
  | .ept n base sz i j => hgetK h n fun o => match o with
    | .own l => match sz, j, x with
      | 1, 0, .one c => dropK l base fun r => match r with
        | .arr m f :: _ => Chk (decide (i < m)) (putK l base [.arr m fun q => if q = i then c else f q] fun l => hsetK h n (.ob (.own l)) k)
        | _ => False
      | _, _, _ => False
    | .row sz' m f tot => match Nat.beq sz sz', base with
      | true, 0 => Chk (decide (i < m)) (cellsK (segsOf x) fun ys => setK (f i) j ys fun cs => hsetK h n (.ob (.row sz m (fun q => if q = i then cs else f q) tot)) k)
      | _, _ => False
    | _ => False
  | _ => False
end Go.Eng

/- The engine's evaluator. Plain definitions; nothing is proved here. -/
namespace Go.Eng
open Go
variable {d : Nat}

def iv (k : IntKind) (n : Int) : R := .t (.one (.v (.int k n)))
def bv (b : Bool) : R := .t (.one (.v (.bool b)))
def sv (s : ByteArray) : R := .t (.one (.v (.string s)))
/-- A byte of a text. -/
def bt (s : ByteArray) (i : Nat) : Int := ((s.data.toList.getD i 0).toNat : Int)
def andI (k : IntKind) (a b : Int) : Int := k.wrap ((BitVec.ofInt k.bits a &&& BitVec.ofInt k.bits b).toNat)
def orI (k : IntKind) (a b : Int) : Int := k.wrap ((BitVec.ofInt k.bits a ||| BitVec.ofInt k.bits b).toNat)
def xorI (k : IntKind) (a b : Int) : Int := k.wrap ((BitVec.ofInt k.bits a ^^^ BitVec.ofInt k.bits b).toNat)
def kindEq (a b : IntKind) : Bool := match a, b with
  | .i8, .i8 | .i16, .i16 | .i32, .i32 | .i64, .i64 | .u8, .u8 | .u16, .u16 | .u32, .u32 | .u64, .u64 => true
  | _, _ => false
def strEq (a b : ByteArray) : Bool := decide (a = b)
def intBin (op : BinOp) (k : IntKind) (a b : Int) (K : R → Prop) : Prop :=
  match op with
  | .add => Bnd k (a + b) fun s => K (iv k s)
  | .sub => Bnd k (a - b) fun s => K (iv k s)
  | .mul => Bnd k (a * b) fun s => K (iv k s)
  | .quo => Chk (decide (b ≠ 0)) (Bnd k (a.tdiv b) fun s => K (iv k s))
  | .rem => Chk (decide (b ≠ 0)) (K (iv k (a.tmod b)))
  | .and => K (iv k (andI k a b))
  | .or => K (iv k (orI k a b))
  | .xor => K (iv k (xorI k a b))
  | .shl => Chk (decide (0 ≤ b)) (Bnd k (a * 2 ^ (min b.toNat k.bits)) fun s => K (iv k s))
  | .shr => Chk (decide (0 ≤ b)) (K (iv k (a.fdiv (2 ^ (min b.toNat k.bits)))))
  | .eql => K (bv (decide (a = b)))
  | .neq => K (bv (!decide (a = b)))
  | .lss => K (bv (decide (a < b)))
  | .leq => K (bv (decide (a ≤ b)))
  | .gtr => K (bv (decide (b < a)))
  | .geq => K (bv (decide (b ≤ a)))
  | _ => False
/-- Equality of values, as far as it is seen. -/
def eqC (desc : K) (x y : C) (k : Bool → Prop) : Prop :=
  match desc, x, y with
  | .bool, .v (.bool a), .v (.bool b) => k (a == b)
  | .ptr _, .v (.pointer none), .v (.pointer none) => k true
  | .ptr _, .ptr _ _, .v (.pointer none) => k false
  | .ptr _, .v (.pointer none), .ptr _ _ => k false
  | .ptr _, .ept _ _ _ _ _, .v (.pointer none) => k false
  | .ptr _, .v (.pointer none), .ept _ _ _ _ _ => k false
  | .slice _, .slc _ _ _ _ _ _ nl, .v (.slice none 0 0) => k nl
  | .slice _, .v (.slice none 0 0), .slc _ _ _ _ _ _ nl => k nl
  | .slice _, .v (.slice none 0 0), .v (.slice none 0 0) => k true
  | _, _, _ => False
/-- Equality of structs of plain cells. -/
def eqLf (f : Lf) (x y : Value) (K : Bool → Prop) : Prop :=
  match f, x, y with
  | .int k, .int k1 a, .int k2 b => match kindEq k k1 && kindEq k k2 with | true => K (decide (a = b)) | false => False
  | .bool, .bool a, .bool b => K (a == b)
  | .str, .string a, .string b => K (strEq a b)
  | _, _, _ => False
def eqSegs : List Lf → List Seg → List Seg → (Bool → Prop) → Prop
  | [], [], [], K => K true
  | f :: fs, .c (.v x) :: l, .c (.v y) :: m, K => eqLf f x y fun b => eqSegs fs l m fun c => K (b && c)
  | _, _, _, _ => False
def eqOp (op : BinOp) (b : Bool) (k : R → Prop) : Prop :=
  match op with
  | .eql => k (bv b)
  | .neq => k (bv (!b))
  | _ => False
def binK (tt : TT) (op : BinOp) (t : TypeId) (x y : R) (K : R → Prop) : Prop :=
  match x, y with
  | .t (.one (.v (.int k a))), .t (.one (.v (.int k' b))) =>
    match op with
    | .shl => intBin .shl k a b K
    | .shr => intBin .shr k a b K
    | op => match kindEq k k' with | true => intBin op k a b K | false => False
  | .t (.one (.v (.string a))), .t (.one (.v (.string b))) =>
    match op with
    | .add => Chk (decide (a.size + b.size ≤ 9223372036854775807)) (K (sv (a ++ b)))
    | op => eqOp op (strEq a b) K
  | .t (.one a), .t (.one b) => tiK tt t fun ti => eqC ti.desc a b fun e => eqOp op e K
  | .t (.agg a), .t (.agg b) => tiK tt t fun ti => match ti.cmp with
    | [] => False
    | fs => eqSegs fs a b fun e => eqOp op e K
  | _, _ => False
def unK (op : UnOp) (x : R) (K : R → Prop) : Prop :=
  match op, x with
  | .not, .t (.one (.v (.bool b))) => K (bv (!b))
  | .neg, .t (.one (.v (.int k n))) => Bnd k (0 - n) fun s => K (iv k s)
  | _, _ => False
def nthK {α : Type} : List α → Nat → (α → Prop) → Prop
  | x :: _, 0, k => k x
  | _ :: r, n + 1, k => nthK r n k
  | [], _, _ => False
def nthD {α : Type} (z : α) : List α → Nat → α
  | x :: _, 0 => x
  | _ :: r, n + 1 => nthD z r n
  | [], _ => z
def opsK (r : Tr d) : List Operand → (List R → Prop) → Prop
  | [], k => k []
  | o :: l, k => opK r o fun x => opsK r l fun xs => k (x :: xs)
def optK (r : Tr d) : Option Operand → (Option Int → Prop) → Prop
  | none, k => k none
  | some o, k => opK r o fun x => intK x fun _ n => k (some n)
/-- The bounds of a slice expression: low, high, upper. -/
def bounds (len cap : Nat) (lo hi mx : Option Int) (K : Nat → Nat → Nat → Prop) : Prop :=
  match lo, hi, mx with
  | none, none, none => K 0 len cap
  | some l, none, none => Chk (decide (0 ≤ l ∧ l ≤ len)) (K l.toNat len cap)
  | none, some h, none => Chk (decide (0 ≤ h ∧ h ≤ cap)) (K 0 h.toNat cap)
  | some l, some h, none => Chk (decide (0 ≤ l ∧ l ≤ h ∧ h ≤ cap)) (K l.toNat h.toNat cap)
  | none, some h, some m => Chk (decide (0 ≤ h ∧ h ≤ m ∧ m ≤ cap)) (K 0 h.toNat m.toNat)
  | some l, some h, some m => Chk (decide (0 ≤ l ∧ l ≤ h ∧ h ≤ m ∧ m ≤ cap)) (K l.toNat h.toNat m.toNat)
  | _, _, _ => False
/-- Elements that are read: how many, which. Of a row, of an array in a struct, of a text. -/
def srcK (h : Heap) (x : R) (K : Nat → (Nat → List C) → Prop) : Prop :=
  match x with
  | .t (.one (.v (.slice none 0 0))) => K 0 fun _ => []
  | .t (.one (.v (.string s))) => K s.size fun i => [.v (.int .u8 (bt s i))]
  | .t (.one (.slc n base sz off len _ _)) => hgetK h n fun o => match o with
    | .row sz' m f _ => match Nat.beq sz sz', base with
      | true, 0 => Chk (decide (off + len ≤ m)) (K len fun i => f (off + i))
      | _, _ => False
    | .ro sz' m f => match Nat.beq sz sz', base with
      | true, 0 => Chk (decide (off + len ≤ m)) (K len fun i => f (off + i))
      | _, _ => False
    | .own l => dropK l base fun r => match r, sz with
      | .arr m f :: _, 1 => Chk (decide (off + len ≤ m)) (K len fun i => [f (off + i)])
      | _, _ => False
    | .raw _ => False
  | _ => False
/-- How many cells an element has. -/
def szB (x : R) (sz : Nat) : Bool :=
  match x with
  | .t (.one (.v (.string _))) => Nat.beq 1 sz
  | .t (.one (.slc _ _ s _ _ _ _)) => Nat.beq s sz
  | _ => true
/-- A text out of bytes. -/
def mkStr (len : Nat) (f : Nat → List C) : ByteArray :=
  ⟨((List.range len).map fun i => match f i with | [.v (.int .u8 n)] => UInt8.ofNat n.toNat | _ => 0).toArray⟩
def byteB (l : List C) : Bool := match l with | [.v (.int .u8 _)] => true | _ => false
def bytesB (len : Nat) (f : Nat → List C) : Bool := (List.range len).all fun i => byteB (f i)
def partsK (r : Tr d) : List (Nat × Operand) → (List (Nat × T) → Prop) → Prop
  | [], k => k []
  | (i, o) :: l, k => opK r o fun x => tK x fun x => partsK r l fun xs => k ((i, x) :: xs)
/-- A struct's parts, an array's. -/
def fillK (tt : TT) (desc : K) : List Seg → List (Nat × T) → (List Seg → Prop) → Prop
  | z, [], k => k z
  | z, (i, x) :: l, k => match desc with
    | .struct fs => nthK fs i fun f => tiK tt f.2 fun fi => match Nat.beq (nseg (segsOf x)) fi.size with
      | true => putK z f.1 (segsOf x) fun z => fillK tt desc z l k
      | false => False
    | .arr _ e => tiK tt e fun fi => match Nat.beq (nseg (segsOf x)) fi.size with
      | true => putK z (i * fi.size) (segsOf x) fun z => fillK tt desc z l k
      | false => False
    | _ => False
def elemsK (sz : Nat) : Nat → List (Nat × T) → (List (List C) → Prop) → Prop
  | _, [], k => k []
  | i, (j, x) :: l, k => match Nat.beq j i with
    | true => match Nat.beq (nseg (segsOf x)) sz with
      | true => cellsK (segsOf x) fun cs => elemsK sz (i + 1) l fun r => k (cs :: r)
      | false => False
    | false => False
def ptrsK : List R → (List (Nat × Nat) → Prop) → Prop
  | [], k => k []
  | .t (.one (.ptr n off)) :: l, k => ptrsK l fun r => k ((n, off) :: r)
  | _, _ => False
def isPlain : List Seg → Bool
  | [] => true
  | .c (.v _) :: r => isPlain r
  | _ => false

/-- An operation that writes nothing that is there: what it yields, the new block that it makes (its name is nm). -/
def evX (tt : TT) (r : Tr d) (h : Heap) (nm : Nat) (o : Op) (K : R → Option Ob → Prop) : Prop :=
  match o with
  | .move x | .assign x => opK r x fun v => K v none
  | .pick c a b => opK r c fun c => boolK c fun c => opK r a fun x => opK r b fun y => Cnd c (K x none) (K y none)
  | .nilCheck x => opK r x fun x => cK x fun c => match c with
    | .ptr n off => K (.t (.one (.ptr n off))) none
    | .ept n b s i j => K (.t (.one (.ept n b s i j))) none
    | .fn f c => K (.t (.one (.fn f c))) none
    | _ => False
  | .fieldAddr s x f => tiK tt s fun ti => match ti.desc with
    | .struct fs => nthK fs f fun fd => tiK tt fd.2 fun fi => match Nat.blt 0 fi.size with
      | true => opK r x fun x => cK x fun c => match c with
        | .ptr n off => K (.t (.one (.ptr n (off + fd.1)))) none
        | .ept n b sz i j => K (.t (.one (.ept n b sz i (j + fd.1)))) none
        | _ => False
      | false => False
    | _ => False
  | .field s x f => tiK tt s fun ti => match ti.desc with
    | .struct fs => nthK fs f fun fd => tiK tt fd.2 fun fi => opK r x fun x => tK x fun x => match x with
      | .agg l => dropK l fd.1 fun l => takeK l fi.size fun l => mkK fi l fun v => K (.t v) none
      | _ => False
    | _ => False
  | .indexAddr t x i => tiK tt t fun ti => opK r i fun i => intK i fun _ i => opK r x fun x => cK x fun c => match ti.desc, c with
    | .slice e, .slc n base sz off len _ _ => tiK tt e fun ei => match Nat.beq sz ei.size with
      | true => Chk (decide (0 ≤ i ∧ i < len)) (K (.t (.one (.ept n base sz (off + i.toNat) 0))) none)
      | false => False
    | .arr m e, .ptr n off => tiK tt e fun ei => Chk (decide (0 ≤ i ∧ i < m)) (match ti.zero with
      | .agg (.arr _ _ :: _) => match Nat.beq ei.size 1 with | true => K (.t (.one (.ept n off 1 i.toNat 0))) none | false => False
      | _ => K (.t (.one (.ptr n (off + i.toNat * ei.size)))) none)
    | _, _ => False
  | .index t x i => tiK tt t fun ti => opK r i fun i => intK i fun _ i => opK r x fun x => tK x fun x => match ti.desc, x with
    | .str, .one (.v (.string s)) => Chk (decide (0 ≤ i ∧ i < s.size)) (K (iv .u8 (bt s i.toNat)) none)
    | .arr m e, .agg l => tiK tt e fun ei => Chk (decide (0 ≤ i ∧ i < m)) (match l with
      | [.arr n f] => match Nat.beq ei.size 1, isAgg ei.desc, Nat.ble m n with
        | true, false, true => K (.t (.one (f i.toNat))) none
        | _, _, _ => False
      | l => dropK l (i.toNat * ei.size) fun l => takeK l ei.size fun l => mkK ei l fun v => K (.t v) none)
    | _, _ => False
  | .load t x => opK r x fun x => cK x fun c => loadK tt h t c fun v => K (.t v) none
  | .binOp op t x y _ => opK r x fun x => opK r y fun y => binK tt op t x y fun v => K v none
  | .unOp op _ x => opK r x fun x => unK op x fun v => K v none
  | .convert s t x => tiK tt s fun si => tiK tt t fun ti => opK r x fun x => match si.desc, ti.desc, x with
    | .int _, .int k, .t (.one (.v (.int _ n))) => Bnd k n fun n => K (iv k n) none
    | .str, .str, .t (.one (.v (.string s))) => K (sv s) none
    | .slice e, .str, .t (.one (.slc n b sz off len cap nl)) => tiK tt e fun ei => match ei.desc with
      | .int .u8 => match Nat.beq sz 1 with
        | true => srcK h (.t (.one (.slc n b sz off len cap nl))) fun len f => Chk (bytesB len f) (K (sv (mkStr len f)) none)
        | false => False
      | _ => False
    | .slice e, .str, .t (.one (.v (.slice none 0 0))) => tiK tt e fun ei => match ei.desc with
      | .int .u8 => K (sv .empty) none
      | _ => False
    | _, _, _ => False
  | .makeFunc f first caps => match first.toList with
    | [] => opsK r caps.toList fun l => ptrsK l fun l => K (.t (.one (.fn f l))) none
    | _ => False
  | .extract x i => opK r x fun x => match x with
    | .tup l => nthK l i fun v => K (.t v) none
    | _ => False
  | .alloc t => tiK tt t fun ti => K (.t (.one (.ptr nm 0))) (some (.own (segsOf ti.zero)))
  | .box t x => tiK tt t fun _ => opK r x fun x => tK x fun x => K (.t (.one (.ptr nm 0))) (some (.own (segsOf x)))
  | .build t ps => tiK tt t fun ti => match ti.desc with
    | .struct fs => partsK r ps.toList fun ps => fillK tt (.struct fs) (segsOf ti.zero) ps fun l => K (.t (.agg l)) none
    | .arr n e => tiK tt e fun _ => partsK r ps.toList fun ps => fillK tt (.arr n e) (segsOf ti.zero) ps fun l => K (.t (.agg l)) none
    | _ => False
  | .buildSlice t len ps => tiK tt t fun ti => match ti.desc with
    | .slice e => tiK tt e fun ei => match Nat.ble (len * ei.size) 16777216 && Nat.blt 0 ei.size with
      | true => partsK r ps.toList fun ps => elemsK ei.size 0 ps fun l => match Nat.beq l.length len with
        | true => K (.t (.one (.slc nm 0 ei.size 0 len len false))) (some (.row ei.size len (fun i => nthD [] l i) len))
        | false => False
      | false => False
    | _ => False
  | .makeSlice t l c => tiK tt t fun ti => match ti.desc with
    | .slice e => tiK tt e fun ei => opK r l fun l => intK l fun _ l => opK r c fun c => intK c fun _ c => cellsK (segsOf ei.zero) fun z => match Nat.beq z.length ei.size with
      | false => False
      | true =>
        Chk (decide (0 ≤ l ∧ l ≤ c ∧ ei.bytes * c ≤ 281474976710656 ∧ c ≤ 9223372036854775807)) (K (.t (.one (.slc nm 0 ei.size 0 l.toNat c.toNat false))) (some (.row ei.size c.toNat (fun _ => z) c.toNat)))
    | _ => False
  | .slice t x lo hi mx => tiK tt t fun ti => opK r x fun x => cK x fun c => optK r lo fun lo => optK r hi fun hi => optK r mx fun mx => match ti.desc, c with
    | .str, .v (.string s) => match mx with | none => bounds s.size s.size lo hi none (fun l h _ => K (sv (s.extract l h)) none) | some _ => False
    | .slice e, .slc n base sz off len cap nl => tiK tt e fun ei => match Nat.beq sz ei.size with
      | true => bounds len cap lo hi mx fun l h m => K (.t (.one (.slc n base sz (off + l) (h - l) (m - l) nl))) none
      | false => False
    | .slice e, .v (.slice none 0 0) => tiK tt e fun _ => bounds 0 0 lo hi mx fun _ _ _ => K (.t (.one (.v (.slice none 0 0)))) none
    | .arr n e, .ptr b off => tiK tt e fun ei => bounds n n lo hi mx fun l h m => K (.t (.one (.slc b off ei.size l (h - l) (m - l) false))) none
    | _, _ => False
  | .range t x => tiK tt t fun ti => opK r x fun x => cK x fun c => match ti.desc, c with
    | .str, .v (.string s) => K (.t (.one (.ptr nm 0))) (some (.raw (.sit s 0)))
    | _, _ => False
  | .call c => match c.callee with
    | .builtin .len => opsK r c.args.toList fun xs => match xs, c.argTypes.toList with
      | [x], t :: _ => tiK tt t fun ti => cK x fun c => match ti.desc, c with
        | .str, .v (.string s) => K (iv .i64 s.size) none
        | .slice _, .slc _ _ _ _ len _ _ => K (iv .i64 len) none
        | .slice _, .v (.slice none 0 0) => K (iv .i64 0) none
        | _, _ => False
      | _, _ => False
    | .builtin .cap => opsK r c.args.toList fun xs => match xs, c.argTypes.toList with
      | [x], t :: _ => tiK tt t fun ti => cK x fun c => match ti.desc, c with
        | .slice _, .slc _ _ _ _ _ cap _ => K (iv .i64 cap) none
        | _, _ => False
      | _, _ => False
    | .builtin .min => opsK r c.args.toList fun xs => match xs with
      | [x, y] => intK x fun k a => intK y fun k' b => match kindEq k k' with | true => K (iv k (min a b)) none | false => False
      | _ => False
    | .builtin .max => opsK r c.args.toList fun xs => match xs with
      | [x, y] => intK x fun k a => intK y fun k' b => match kindEq k k' with | true => K (iv k (max a b)) none | false => False
      | _ => False
    | _ => False
  | _ => False
/-- May it make a block? -/
def makes : Op → Bool
  | .alloc _ | .box _ _ | .buildSlice _ _ _ | .makeSlice _ _ _ | .range _ _ => true
  | _ => false
/-- Does it write what is there, or run code? -/
def acts : Op → Bool
  | .store _ _ _ => true
  | .call c => match c.callee with
    | .builtin .len | .builtin .cap | .builtin .min | .builtin .max => false
    | _ => true
  | .mapUpdate _ _ _ _ | .send _ _ | .recv _ _ _ | .select _ _ | .panic _ | .next _ _ => true
  | _ => false
end Go.Eng

/- The engine's evaluator: what writes, regions, code. Plain definitions. -/
namespace Go.Eng
open Go
variable {d : Nat}

/-- A call's meaning: function (a value of it), the names that it must not touch, arguments, heap, what follows. -/
abbrev Cl := FuncId → List Nat → List R → Heap → (R → Heap → Prop) → Prop

def away (av : List Nat) (n : Nat) (p : Prop) : Prop := match av.elem n with | true => False | false => p
def nameK (c : C) (k : Nat → Prop) : Prop :=
  match c with
  | .ptr n _ | .ept n _ _ _ _ | .slc n _ _ _ _ _ _ | .mp n | .ch n => k n
  | _ => False
/-- The names that a quiet operation reads lie apart from av. -/
def apart1 (av : List Nat) (r : Tr d) (o : Op) (p : Prop) : Prop :=
  match av with
  | [] => p
  | _ => match o with
    | .load _ x => opK r x fun x => cK x fun c => nameK c fun n => away av n p
    | .convert _ _ x => opK r x fun x => match x with
      | .t (.one (.slc n _ _ _ _ _ _)) => away av n p
      | _ => p
    | _ => p
/-- The room that an append may ask for. -/
def roomy (need bytes : Nat) : Bool := decide (need * bytes ≤ 1099511627776)
def appendK (tt : TT) (av : List Nat) (h : Heap) (t : TypeId) (x y : R) (K : R → Heap → Prop) : Prop :=
  tiK tt t fun ti => match ti.desc with
  | .slice e => tiK tt e fun ei => match Nat.blt 0 ei.bytes && Nat.beq (nseg (segsOf ei.zero)) ei.size with
   | false => False
   | true => srcK h y fun l2 g => match szB y ei.size with
   | false => False
   | true =>
    match x with
    | .t (.one (.v (.slice none 0 0))) =>
      Chk (roomy l2 ei.bytes) (∀ cap, l2 ≤ cap → hlenK h 0 fun nm => happK h (.ob (.row ei.size l2 g cap)) fun h =>
        K (.t (.one (.slc nm 0 ei.size 0 l2 cap (decide (l2 = 0))))) h)
    | .t (.one (.slc n 0 sz off len cap nl)) => match Nat.beq sz ei.size with
      | true => away av n (hgetK h n fun o => match o with
        | .row sz' m f tot => match Nat.beq sz sz' with
          | true => Chk (roomy (len + l2) ei.bytes) (Chk (decide (off + len ≤ m ∧ off + cap ≤ tot)) (∀ cap', len + l2 ≤ cap' → hsetK h n .dead fun h => hlenK h 0 fun nm =>
              happK h (.ob (.row sz (len + l2) (fun i => if i < len then f (off + i) else g (i - len)) cap')) fun h =>
                K (.t (.one (.slc nm 0 sz 0 (len + l2) cap' (nl && decide (l2 = 0))))) h))
          | false => False
        | _ => False)
      | false => False
    | _ => False
  | _ => False
def one1 (l : List C) : C := match l with | [c] => c | _ => .v (.bool false)
def copyTo (av : List Nat) (h : Heap) (n base sz off len l2 : Nat) (g : Nat → List C) (K : R → Heap → Prop) : Prop :=
  away av n (hgetK h n fun o => match o, base with
    | .row sz' m f tot, 0 => match Nat.beq sz sz' with
      | true => Chk (decide (off + len ≤ m)) (hsetK h n (.ob (.row sz m (fun i => if off ≤ i ∧ i < off + min l2 len then g (i - off) else f i) tot)) fun h => K (iv .i64 (min l2 len : Nat)) h)
      | false => False
    | .own l, base => dropK l base fun r => match r, sz with
      | .arr m f :: _, 1 => Chk (decide (off + len ≤ m)) (putK l base [.arr m fun i => if off ≤ i ∧ i < off + min l2 len then one1 (g (i - off)) else f i] fun l => hsetK h n (.ob (.own l)) fun h => K (iv .i64 (min l2 len : Nat)) h)
      | _, _ => False
    | _, _ => False)
def copyK (tt : TT) (av : List Nat) (h : Heap) (t : TypeId) (x y : R) (K : R → Heap → Prop) : Prop :=
  tiK tt t fun ti => match ti.desc with
  | .slice e => tiK tt e fun ei => srcK h y fun l2 g => match x with
    | .t (.one (.v (.slice none 0 0))) => match szB y ei.size with | true => K (iv .i64 0) h | false => False
    | .t (.one (.slc n base sz off len _ _)) => match Nat.beq sz ei.size && szB y ei.size with
      | true => copyTo av h n base sz off len l2 g K
      | false => False
    | _ => False
  | _ => False
def clearK (tt : TT) (av : List Nat) (h : Heap) (t : TypeId) (x : R) (K : R → Heap → Prop) : Prop :=
  tiK tt t fun ti => match ti.desc with
  | .slice e => tiK tt e fun ei => cellsK (segsOf ei.zero) fun z => match Nat.beq z.length ei.size with
   | false => False
   | true => match x with
    | .t (.one (.slc n 0 sz off len _ _)) => away av n (hgetK h n fun o => match o with
      | .row sz' m f tot => match Nat.beq sz sz', Nat.beq sz ei.size with
        | true, true => Chk (decide (off + len ≤ m)) (hsetK h n (.ob (.row sz m (fun i => if off ≤ i ∧ i < off + len then z else f i) tot)) fun h => K .junk h)
        | _, _ => False
      | _ => False)
    | _ => False
  | _ => False
/-- The next sign of a text (of one byte). -/
def nextK (av : List Nat) (h : Heap) (c : C) (K : R → Heap → Prop) : Prop :=
  match c with
  | .ptr n 0 => away av n (hgetK h n fun o => match o with
    | .raw (.sit s pos) => Cnd (decide (pos < s.size))
        (bt s pos < 128 ∧ (hsetK h n (.ob (.raw (.sit s (pos + 1)))) fun h => K (.tup [.one (.v (.bool true)), .one (.v (.int .i64 pos)), .one (.v (.int .i32 (bt s pos)))]) h))
        (K (.tup [.one (.v (.bool false))]) h)
    | _ => False)
  | _ => False
/-- An operation that acts. -/
def evW (cl : Cl) (tt : TT) (av : List Nat) (r : Tr d) (h : Heap) (o : Op) (K : R → Heap → Prop) : Prop :=
  match o with
  | .store t a x => opK r a fun a => cK a fun a => opK r x fun x => tK x fun x => nameK a fun n => away av n (storeK tt h t a x fun h => K .junk h)
  | .next it true => opK r it fun x => cK x fun c => nextK av h c K
  | .call c => match c.callee with
    | .builtin .append => opsK r c.args.toList fun xs => match xs, c.argTypes.toList with
      | [x, y], t :: u :: _ => tiK tt u fun ui => match ui.desc with
        | .slice _ => appendK tt av h t x y K
        | .str => appendK tt av h t x y K
        | _ => False
      | _, _ => False
    | .builtin .copy => opsK r c.args.toList fun xs => match xs, c.argTypes.toList with
      | [x, y], t :: _ => copyK tt av h t x y K
      | _, _ => False
    | .builtin .clear => opsK r c.args.toList fun xs => match xs, c.argTypes.toList with
      | [x], t :: _ => clearK tt av h t x K
      | _, _ => False
    | .value f => opK r f fun f => cK f fun f => opsK r c.args.toList fun xs => match f with
      | .fn (.func f) caps => cl f av (xs ++ caps.map fun p => .t (.one (.ptr p.1 p.2))) h K
      | _ => False
    | _ => False
  | _ => False

/-! ### Regions -/
def putR (nt : Nat) (r : Tr d) (dst : Option Tmp) (x : R) (k : Tr d → Prop) : Prop :=
  match dst with
  | none => k r
  | some t => match Nat.blt t nt with | true => r.setK d t x k | false => False
def isU (x : R) (p q : Prop) : Prop := match x with | .tup [] => p | _ => q
def isB (x : R) (k : Bool → Prop) (e : Prop) : Prop := match x with | .t (.one (.v (.bool b))) => k b | _ => e
/-- The guard: the operation's turn comes, or it is passed by. -/
def guardK (ops : List Oper) (r : Tr d) (o : Oper) (yes no : Tr d → Prop) : Prop :=
  match o.guard with
  | none => yes r
  | some (j, want) => nthK ops j fun g => match g.dst with
    | none => False
    | some t => r.getK d t fun x => isU x (no r) <| boolK x fun b => Cnd b (r.setK d t (bv true) fun r => match want with | true => yes r | false => no r) (r.setK d t (bv false) fun r => match want with | true => no r | false => yes r)
/-- What an operation does, its guard aside. -/
def bodyK (cl : Cl) (tt : TT) (r : Tr d) (h : Heap) (o : Op) (K : R → Heap → Prop) : Prop :=
  match acts o with
  | true => evW cl tt [] r h o K
  | false => match makes o with
    | true => hlenK h 0 fun nm => evX tt r h nm o fun x b => match b with
      | some b => happK h (.ob b) fun h => K x h
      | none => False
    | false => evX tt r h 0 o fun x b => match b with
      | none => K x h
      | some _ => False
def stepK (cl : Cl) (tt : TT) (nt : Nat) (ops : List Oper) (o : Oper) (r : Tr d) (h : Heap) (k : Tr d → Heap → Prop) : Prop :=
  guardK ops r o (fun r => bodyK cl tt r h o.op fun x h => putR nt r o.dst x fun r => k r h) (fun r => putR nt r o.dst (.tup []) fun r => k r h)
/-- A region whose order is that of the text. -/
def evOps (cl : Cl) (tt : TT) (nt : Nat) (ops : List Oper) : List Oper → Tr d → Heap → (Tr d → Heap → Prop) → Prop
  | [], r, h, k => k r h
  | o :: l, r, h, k => stepK cl tt nt ops o r h fun r h => evOps cl tt nt ops l r h k

/-! ### Regions that draw their order -/
/-- What to do in which order: 'op': a quiet operation, for the first time; 're': it would yield the same now; 'ch': an operation that acts, may come up now, then p; q: the others that may. -/
inductive Plan where
  | stop
  | nil
  | op (i : Nat) (p : Plan)
  | re (i : Nat) (p : Plan)
  | ch (i : Nat) (p q : Plan)
def sameV : Value → Value → Bool
  | .bool a, .bool b => decide (a = b)
  | .int k a, .int k' b => kindEq k k' && decide (a = b)
  | .string a, .string b => strEq a b
  | .pointer none, .pointer none => true
  | .slice none l c, .slice none l' c' => Nat.beq l l' && Nat.beq c c'
  | .map none, .map none => true
  | .chan none, .chan none => true
  | .nilFunc, .nilFunc => true
  | .nilIface, .nilIface => true
  | _, _ => false
def sameC : C → C → Bool
  | .v x, .v y => sameV x y
  | .ptr n o, .ptr m p => Nat.beq n m && decide (o = p)
  | .ept n b s i j, .ept n' b' s' i' j' => Nat.beq n n' && (decide (b = b') && (decide (s = s') && (decide (i = i') && decide (j = j'))))
  | .slc n b s o l c nl, .slc n' b' s' o' l' c' nl' => Nat.beq n n' && (decide (b = b') && (decide (s = s') && (decide (o = o') && (decide (l = l') && (decide (c = c') && decide (nl = nl'))))))
  | .mp n, .mp m => Nat.beq n m
  | .ch n, .ch m => Nat.beq n m
  | .fn (.func f) c, .fn (.func g) c' => Nat.beq f g && decide (c = c')
  | _, _ => false
def sameSegs : List Seg → List Seg → Bool
  | [], [] => true
  | .c x :: l, .c y :: m => sameC x y && sameSegs l m
  | _, _ => false
def sameT : T → T → Bool
  | .one x, .one y => sameC x y
  | .agg l, .agg m => sameSegs l m
  | _, _ => false
def sameTs : List T → List T → Bool
  | [], [] => true
  | x :: l, y :: m => sameT x y && sameTs l m
  | _, _ => false
def sameR : R → R → Bool
  | .junk, .junk => true
  | .t x, .t y => sameT x y
  | .tup l, .tup m => sameTs l m
  | _, _ => false
def sameK (r : Tr d) (dst : Option Tmp) (x : R) (p : Prop) : Prop :=
  match dst with
  | none => p
  | some t => r.getK d t fun y => Chk (sameR x y) p
def evPlan (cl : Cl) (tt : TT) (nt : Nat) (ops : List Oper) : Plan → Tr d → Heap → (Tr d → Heap → Prop) → Prop
  | .stop, r, h, k => k r h
  | .nil, _, _, _ => True
  | .op i p, r, h, k => nthK ops i fun o => guardK ops r o (fun r => evX tt r h 0 o.op fun x b => match b with
      | none => putR nt r o.dst x fun r => evPlan cl tt nt ops p r h k
      | some _ => False) (fun r => putR nt r o.dst (.tup []) fun r => evPlan cl tt nt ops p r h k)
  | .re i p, r, h, k => nthK ops i fun o => guardK ops r o (fun r => evX tt r h 0 o.op fun x b => match b with
      | none => sameK r o.dst x (evPlan cl tt nt ops p r h k)
      | some _ => False) (fun r => sameK r o.dst (.tup []) (evPlan cl tt nt ops p r h k))
  | .ch i p .nil, r, h, k => nthK ops i fun o => stepK cl tt nt ops o r h fun r h => evPlan cl tt nt ops p r h k
  | .ch i p q, r, h, k => (nthK ops i fun o => stepK cl tt nt ops o r h fun r h => evPlan cl tt nt ops p r h k) ∧ evPlan cl tt nt ops q r h k

/-! ### Code -/
inductive Ex where
  | normal
  | exit (id : Nat)
  | ret
/-- What a piece of code does: from temporaries and heap, by what follows. -/
abbrev Pt (d : Nat) := Tr d → Heap → (Ex → Tr d → Heap → Prop) → Prop
/-- The meaning of a loop, given its round's. -/
abbrev Lp (d : Nat) := Pt d → Pt d
/-- The temporaries that a piece of code assigns. -/
def asgOps : List Oper → List Nat
  | [] => []
  | o :: l => match o.dst with | some t => t :: asgOps l | none => asgOps l
def asgC : Code → List Nat
  | .region _ ops _ => asgOps ops.toList
  | .seq a b | .cond _ a b => asgC a ++ asgC b
  | .block _ b | .loop b | .scope b => asgC b
  | _ => []
def junkK : List Nat → Tr d → (Tr d → Prop) → Prop
  | [], r, k => k r
  | t :: l, r, k => r.setK d t .junk fun r => junkK l r k
def updK : List (Nat × R) → Tr d → (Tr d → Prop) → Prop
  | [], r, k => k r
  | (t, x) :: l, r, k => r.setK d t x fun r => updK l r k
/-- Other names for the blocks. -/
def renC (g : Nat → Nat) : C → C
  | .v x => .v x
  | .ptr n off => .ptr (g n) off
  | .ept n b s i j => .ept (g n) b s i j
  | .slc n b s off len cap nl => .slc (g n) b s off len cap nl
  | .mp n => .mp (g n)
  | .ch n => .ch (g n)
  | .fn f caps => .fn f (caps.map fun p => (g p.1, p.2))
def renSeg (g : Nat → Nat) : Seg → Seg
  | .c x => .c (renC g x)
  | .arr n f => .arr n fun i => renC g (f i)
def renT (g : Nat → Nat) : T → T
  | .one c => .one (renC g c)
  | .agg l => .agg (l.map (renSeg g))
def renR (g : Nat → Nat) : R → R
  | .junk => .junk
  | .t x => .t (renT g x)
  | .tup l => .tup (l.map (renT g))
def leR (g : Nat → Nat) (x y : R) : Prop := match y with | .junk => True | y => x = renR g y
def leT (g : Nat → Nat) : (d : Nat) → Tr d → Tr d → Prop
  | 0, x, y => leR g x y
  | d + 1, (a, b), (a', b') => leT g d a a' ∧ leT g d b b'
def leSeg (g : Nat → Nat) : Seg → Seg → Prop
  | .c x, .c y => x = renC g y
  | .arr n f, .arr m f' => n = m ∧ ∀ i, i < m → f i = renC g (f' i)
  | _, _ => False
def leSegs (g : Nat → Nat) : List Seg → List Seg → Prop
  | [], [] => True
  | x :: l, y :: m => leSeg g x y ∧ leSegs g l m
  | _, _ => False
def leHE (g : Nat → Nat) : HE → HE → Prop
  | _, .dead => True
  | .fresh, .fresh => True
  | .ob (.raw x), .ob (.raw y) => x = y
  | .ob (.own l), .ob (.own m) => leSegs g l m
  | .ob (.row sz n f tot), .ob (.row sz' n' f' tot') => sz = sz' ∧ n = n' ∧ tot = tot' ∧ ∀ i, i < n' → f i = (f' i).map (renC g)
  | .ob (.ro sz n f), .ob (.ro sz' n' f') => (sz = sz' ∨ n' = 0) ∧ n' ≤ n ∧ ∀ i, i < n' → f i = (f' i).map (renC g)
  | .ob (.row sz n f _), .ob (.ro sz' n' f') => (sz = sz' ∨ n' = 0) ∧ n' ≤ n ∧ ∀ i, i < n' → f i = (f' i).map (renC g)
  | .ob (.own _), .ob (.ro _ n' _) => n' = 0
  | _, _ => False
def hentK : Heap → Nat → (HE → Prop) → Prop
  | e :: _, 0, k => k e
  | _ :: r, n + 1, k => hentK r n k
  | [], _, _ => False
def leH (g : Nat → Nat) (h : Heap) : List Nat → Heap → Prop
  | [], [] => True
  | j :: l, e :: m => (match e with | .dead => True | e => hentK h j fun x => leHE g x e) ∧ leH g h l m
  | _, _ => False
def sig (h : Heap) (l : List Nat) (i : Nat) : Nat := match l[i]? with | some j => j | none => h.length
/-- 0, 1, .. first. -/
def firstB : Nat → Nat → List Nat → Bool
  | 0, _, _ => true
  | n + 1, i, j :: l => Nat.beq i j && firstB n (i + 1) l
  | _ + 1, _, [] => false
def nodupB : List Nat → Bool
  | [] => true
  | x :: l => !l.elem x && nodupB l
/-- A state says at least as much as another, under other names; the first n0 names stay. -/
structure Le (n0 : Nat) (r : Tr d) (h : Heap) (r' : Tr d) (h' : Heap) : Prop where
  out : ∃ l : List Nat, (firstB n0 0 l && nodupB l) = true ∧ leH (sig h l) h l h' ∧ leT (sig h l) d r r'
/-- A loop: whoever walks names a family of states, and a measure that every round lowers. -/
structure LoopGoal (n0 : Nat) (asg : List Nat) (round : Pt d) (r : Tr d) (h : Heap) (k : Ex → Tr d → Heap → Prop) : Prop where
  out : ∃ (S : Type) (I : S → Tr d × Heap) (m : S → Nat) (s : S), Le n0 r h (I s).1 (I s).2 ∧ ∀ s, round (I s).1 (I s).2 fun e r' h' => match e with
    | .normal => ∃ s', m s' < m s ∧ Le n0 r' h' (I s').1 (I s').2
    | e => k e r' h'
def lpAsk (n0 : Nat) : List Nat → Lp d := fun asg round r h k => LoopGoal n0 asg round r h k
/-- Temporaries out of a list. -/
def trOf (d : Nat) : List (Nat × R) → Tr d
  | [] => Tr.empty d
  | (i, x) :: l => Tr.set d (trOf d l) i x
def unroll (lp : Lp d) (round : Pt d) : Nat → Pt d
  | 0, r, h, k => lp round r h k
  | n + 1, r, h, k => round r h fun e r h => match e with | .normal => unroll lp round n r h k | e => k e r h
abbrev Pl := List (Nat × Plan)
def plK : Pl → Nat → (Plan → Prop) → Prop
  | [], _, _ => False
  | (j, p) :: l, i, k => match Nat.beq i j with | true => k p | false => plK l i k
def evC (cl : Cl) (tt : TT) (nt : Nat) (lp : List Nat → Lp d) (un : Nat → Nat) (pl : Pl) : Code → Nat → Pt d
  | .skip, _, r, h, k => k .normal r h
  | .label _, _, r, h, k => k .normal r h
  | .region id ops draw, _, r, h, k => match draw with
    | false => evOps cl tt nt ops.toList ops.toList r h fun r h => k .normal r h
    | true => plK pl id fun p => evPlan cl tt nt ops.toList p r h fun r h => k .normal r h
  | .seq a b, n, r, h, k => evC cl tt nt lp un pl a n r h fun e r h => match e with | .normal => evC cl tt nt lp un pl b n r h k | e => k e r h
  | .cond c a b, n, r, h, k => opK r c fun x => boolK x fun x => Cnd x (evC cl tt nt lp un pl a n r h k) (evC cl tt nt lp un pl b n r h k)
  | .block id b, _, r, h, k => evC cl tt nt lp un pl b (un id) r h fun e r h => match e with
    | .exit j => match Nat.beq j id with | true => k .normal r h | false => k (.exit j) r h
    | e => k e r h
  | .loop b, n, r, h, k => unroll (lp (asgC b)) (evC cl tt nt lp un pl b 0) n r h k
  | .exit id, _, r, h, k => k (.exit id) r h
  | .scope b, n, r, h, k => evC cl tt nt lp un pl b n r h k
  | .ret, _, r, h, k => k .ret r h
  | _, _, _, _, _ => False
/-- What is handed back. -/
def resK (tt : TT) (r : Tr d) (h : Heap) : List ResultVar → (List R → Prop) → Prop
  | [], k => k []
  | .tmp t :: l, k => r.getK d t fun x => resK tt r h l fun xs => k (x :: xs)
  | .cell a t :: l, k => r.getK d a fun x => cK x fun c => loadK tt h t c fun v => resK tt r h l fun xs => k (.t v :: xs)
def tupK : List R → (List T → Prop) → Prop
  | [], k => k []
  | .t x :: l, k => tupK l fun xs => k (x :: xs)
  | _, _ => False
def resultK (tt : TT) (r : Tr d) (h : Heap) (l : List ResultVar) (k : R → Prop) : Prop :=
  resK tt r h l fun xs => match xs with
  | [x] => k x
  | xs => tupK xs fun ts => k (.tup ts)
def argsK : List R → Nat → Tr d → (Tr d → Prop) → Prop
  | [], _, r, k => k r
  | x :: l, n, r, k => r.setK d n x fun r => argsK l (n + 1) r k
/-- A function, as the walk takes it: how many temporaries, body, results, the plans of its regions. -/
structure Fn where
  nt : Nat
  code : Code
  res : List ResultVar
  pl : Pl
  un : Nat → Nat
/-- A function's body, run. -/
def evF (d : Nat) (cl : Cl) (tt : TT) (f : Fn) (xs : List R) (h : Heap) (K : R → Heap → Prop) : Prop :=
  match Nat.ble xs.length f.nt with
  | true => hlenK h 0 fun n0 => argsK xs 0 (Tr.empty d) fun r => evC cl tt f.nt (lpAsk n0) f.un f.pl f.code 0 r h fun e r h => match e with
    | .exit _ => False
    | _ => resultK tt r h f.res fun x => K x h
  | false => False
/-- Everything inlined. tab: the functions. -/
def clGo (d : Nat) (tt : TT) (cl : Cl) (f : FuncId) (xs : List R) (h : Heap) (K : R → Heap → Prop) : List (FuncId × Fn) → Prop
  | [] => False
  | (g, fn) :: l => match Nat.beq f g with
    | true => evF d cl tt fn xs h K
    | false => clGo d tt cl f xs h K l
def clRun (d : Nat) (tt : TT) (tab : List (FuncId × Fn)) : Nat → Cl
  | 0 => fun _ _ _ _ _ => False
  | n + 1 => fun f _ xs h K => clGo d tt (clRun d tt tab n) f xs h K tab
end Go.Eng
