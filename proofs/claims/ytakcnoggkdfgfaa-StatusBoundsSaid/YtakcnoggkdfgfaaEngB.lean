/- The engine's evaluator. Plain definitions; nothing is proved here. -/
import Derived.Test.YtakcnoggkdfgfaaEngA
namespace Go.Eng
open Go
variable {d : Nat}

def iv (k : IntKind) (n : Int) : R := .t (.one (.v (.int k n)))
def bv (b : Bool) : R := .t (.one (.v (.bool b)))
def sv (s : ByteArray) : R := .t (.one (.v (.string s)))
/-- A byte of a text. -/
def bt (s : ByteArray) (i : Nat) : Int := ((s.data.toList.getD i 0).toNat : Int)
def andI (k : IntKind) (a b : Int) : Int := k.wrap ((BitVec.ofInt k.bits a &&& BitVec.ofInt k.bits b).toNat)
def orI (k : IntKind) (a b : Int) : Int := k.wrap ((BitVec.ofInt k.bits a ||| BitVec.ofInt k.bits b).toNat)
def xorI (k : IntKind) (a b : Int) : Int := k.wrap ((BitVec.ofInt k.bits a ^^^ BitVec.ofInt k.bits b).toNat)
def kindEq (a b : IntKind) : Bool := match a, b with
  | .i8, .i8 | .i16, .i16 | .i32, .i32 | .i64, .i64 | .u8, .u8 | .u16, .u16 | .u32, .u32 | .u64, .u64 => true
  | _, _ => false
def strEq (a b : ByteArray) : Bool := decide (a = b)
def intBin (op : BinOp) (k : IntKind) (a b : Int) (K : R → Prop) : Prop :=
  match op with
  | .add => Bnd k (a + b) fun s => K (iv k s)
  | .sub => Bnd k (a - b) fun s => K (iv k s)
  | .mul => Bnd k (a * b) fun s => K (iv k s)
  | .quo => Chk (decide (b ≠ 0)) (Bnd k (a.tdiv b) fun s => K (iv k s))
  | .rem => Chk (decide (b ≠ 0)) (K (iv k (a.tmod b)))
  | .and => K (iv k (andI k a b))
  | .or => K (iv k (orI k a b))
  | .xor => K (iv k (xorI k a b))
  | .shl => Chk (decide (0 ≤ b)) (Bnd k (a * 2 ^ (min b.toNat k.bits)) fun s => K (iv k s))
  | .shr => Chk (decide (0 ≤ b)) (K (iv k (a.fdiv (2 ^ (min b.toNat k.bits)))))
  | .eql => K (bv (decide (a = b)))
  | .neq => K (bv (!decide (a = b)))
  | .lss => K (bv (decide (a < b)))
  | .leq => K (bv (decide (a ≤ b)))
  | .gtr => K (bv (decide (b < a)))
  | .geq => K (bv (decide (b ≤ a)))
  | _ => False
/-- Equality of values, as far as it is seen. -/
def eqC (desc : K) (x y : C) (k : Bool → Prop) : Prop :=
  match desc, x, y with
  | .bool, .v (.bool a), .v (.bool b) => k (a == b)
  | .ptr _, .v (.pointer none), .v (.pointer none) => k true
  | .ptr _, .ptr _ _, .v (.pointer none) => k false
  | .ptr _, .v (.pointer none), .ptr _ _ => k false
  | .ptr _, .ept _ _ _ _ _, .v (.pointer none) => k false
  | .ptr _, .v (.pointer none), .ept _ _ _ _ _ => k false
  | .slice _, .slc _ _ _ _ _ _ nl, .v (.slice none 0 0) => k nl
  | .slice _, .v (.slice none 0 0), .slc _ _ _ _ _ _ nl => k nl
  | .slice _, .v (.slice none 0 0), .v (.slice none 0 0) => k true
  | _, _, _ => False
def eqOp (op : BinOp) (b : Bool) (k : R → Prop) : Prop :=
  match op with
  | .eql => k (bv b)
  | .neq => k (bv (!b))
  | _ => False
def binK (tt : TT) (op : BinOp) (t : TypeId) (x y : R) (K : R → Prop) : Prop :=
  match x, y with
  | .t (.one (.v (.int k a))), .t (.one (.v (.int k' b))) =>
    match op with
    | .shl => intBin .shl k a b K
    | .shr => intBin .shr k a b K
    | op => match kindEq k k' with | true => intBin op k a b K | false => False
  | .t (.one (.v (.string a))), .t (.one (.v (.string b))) =>
    match op with
    | .add => Chk (decide (a.size + b.size ≤ 9223372036854775807)) (K (sv (a ++ b)))
    | op => eqOp op (strEq a b) K
  | .t (.one a), .t (.one b) => tiK tt t fun ti => eqC ti.desc a b fun e => eqOp op e K
  | _, _ => False
def unK (op : UnOp) (x : R) (K : R → Prop) : Prop :=
  match op, x with
  | .not, .t (.one (.v (.bool b))) => K (bv (!b))
  | .neg, .t (.one (.v (.int k n))) => Bnd k (0 - n) fun s => K (iv k s)
  | _, _ => False
def nthK {α : Type} : List α → Nat → (α → Prop) → Prop
  | x :: _, 0, k => k x
  | _ :: r, n + 1, k => nthK r n k
  | [], _, _ => False
def nthD {α : Type} (z : α) : List α → Nat → α
  | x :: _, 0 => x
  | _ :: r, n + 1 => nthD z r n
  | [], _ => z
def opsK (r : Tr d) : List Operand → (List R → Prop) → Prop
  | [], k => k []
  | o :: l, k => opK r o fun x => opsK r l fun xs => k (x :: xs)
def optK (r : Tr d) : Option Operand → (Option Int → Prop) → Prop
  | none, k => k none
  | some o, k => opK r o fun x => intK x fun _ n => k (some n)
/-- The bounds of a slice expression: low, high, upper. -/
def bounds (len cap : Nat) (lo hi mx : Option Int) (K : Nat → Nat → Nat → Prop) : Prop :=
  match lo, hi, mx with
  | none, none, none => K 0 len cap
  | some l, none, none => Chk (decide (0 ≤ l ∧ l ≤ len)) (K l.toNat len cap)
  | none, some h, none => Chk (decide (0 ≤ h ∧ h ≤ cap)) (K 0 h.toNat cap)
  | some l, some h, none => Chk (decide (0 ≤ l ∧ l ≤ h ∧ h ≤ cap)) (K l.toNat h.toNat cap)
  | none, some h, some m => Chk (decide (0 ≤ h ∧ h ≤ m ∧ m ≤ cap)) (K 0 h.toNat m.toNat)
  | some l, some h, some m => Chk (decide (0 ≤ l ∧ l ≤ h ∧ h ≤ m ∧ m ≤ cap)) (K l.toNat h.toNat m.toNat)
  | _, _, _ => False
/-- Elements that are read: how many, which. Of a row, of an array in a struct, of a text. -/
def srcK (h : Heap) (x : R) (K : Nat → (Nat → List C) → Prop) : Prop :=
  match x with
  | .t (.one (.v (.slice none 0 0))) => K 0 fun _ => []
  | .t (.one (.v (.string s))) => K s.size fun i => [.v (.int .u8 (bt s i))]
  | .t (.one (.slc n base sz off len _ _)) => hgetK h n fun o => match o with
    | .row sz' m f _ => match Nat.beq sz sz', base with
      | true, 0 => Chk (decide (off + len ≤ m)) (K len fun i => f (off + i))
      | _, _ => False
    | .ro sz' m f => match Nat.beq sz sz', base with
      | true, 0 => Chk (decide (off + len ≤ m)) (K len fun i => f (off + i))
      | _, _ => False
    | .own l => dropK l base fun r => match r, sz with
      | .arr m f :: _, 1 => Chk (decide (off + len ≤ m)) (K len fun i => [f (off + i)])
      | _, _ => False
  | _ => False
/-- How many cells an element has. -/
def szB (x : R) (sz : Nat) : Bool :=
  match x with
  | .t (.one (.v (.string _))) => Nat.beq 1 sz
  | .t (.one (.slc _ _ s _ _ _ _)) => Nat.beq s sz
  | _ => true
/-- A text out of bytes. -/
def mkStr (len : Nat) (f : Nat → List C) : ByteArray :=
  ⟨((List.range len).map fun i => match f i with | [.v (.int .u8 n)] => UInt8.ofNat n.toNat | _ => 0).toArray⟩
def byteB (l : List C) : Bool := match l with | [.v (.int .u8 _)] => true | _ => false
def bytesB (len : Nat) (f : Nat → List C) : Bool := (List.range len).all fun i => byteB (f i)
def partsK (r : Tr d) : List (Nat × Operand) → (List (Nat × T) → Prop) → Prop
  | [], k => k []
  | (i, o) :: l, k => opK r o fun x => tK x fun x => partsK r l fun xs => k ((i, x) :: xs)
/-- A struct's parts, an array's. -/
def fillK (tt : TT) (desc : K) : List Seg → List (Nat × T) → (List Seg → Prop) → Prop
  | z, [], k => k z
  | z, (i, x) :: l, k => match desc with
    | .struct fs => nthK fs i fun f => tiK tt f.2 fun fi => match Nat.beq (nseg (segsOf x)) fi.size with
      | true => putK z f.1 (segsOf x) fun z => fillK tt desc z l k
      | false => False
    | .arr _ e => tiK tt e fun fi => match Nat.beq (nseg (segsOf x)) fi.size with
      | true => putK z (i * fi.size) (segsOf x) fun z => fillK tt desc z l k
      | false => False
    | _ => False
def elemsK (sz : Nat) : Nat → List (Nat × T) → (List (List C) → Prop) → Prop
  | _, [], k => k []
  | i, (j, x) :: l, k => match Nat.beq j i with
    | true => match Nat.beq (nseg (segsOf x)) sz with
      | true => cellsK (segsOf x) fun cs => elemsK sz (i + 1) l fun r => k (cs :: r)
      | false => False
    | false => False
def ptrsK : List R → (List (Nat × Nat) → Prop) → Prop
  | [], k => k []
  | .t (.one (.ptr n off)) :: l, k => ptrsK l fun r => k ((n, off) :: r)
  | _, _ => False
def isPlain : List Seg → Bool
  | [] => true
  | .c (.v _) :: r => isPlain r
  | _ => false

/-- An operation that writes nothing that is there: what it yields, the new block that it makes (its name is nm). -/
def evX (tt : TT) (r : Tr d) (h : Heap) (nm : Nat) (o : Op) (K : R → Option Ob → Prop) : Prop :=
  match o with
  | .move x | .assign x => opK r x fun v => K v none
  | .pick c a b => opK r c fun c => boolK c fun c => opK r a fun x => opK r b fun y => Cnd c (K x none) (K y none)
  | .nilCheck x => opK r x fun x => cK x fun c => match c with
    | .ptr n off => K (.t (.one (.ptr n off))) none
    | .ept n b s i j => K (.t (.one (.ept n b s i j))) none
    | .fn f c => K (.t (.one (.fn f c))) none
    | _ => False
  | .fieldAddr s x f => tiK tt s fun ti => match ti.desc with
    | .struct fs => nthK fs f fun fd => tiK tt fd.2 fun fi => match Nat.blt 0 fi.size with
      | true => opK r x fun x => cK x fun c => match c with
        | .ptr n off => K (.t (.one (.ptr n (off + fd.1)))) none
        | .ept n b sz i j => K (.t (.one (.ept n b sz i (j + fd.1)))) none
        | _ => False
      | false => False
    | _ => False
  | .field s x f => tiK tt s fun ti => match ti.desc with
    | .struct fs => nthK fs f fun fd => tiK tt fd.2 fun fi => opK r x fun x => tK x fun x => match x with
      | .agg l => dropK l fd.1 fun l => takeK l fi.size fun l => mkK fi l fun v => K (.t v) none
      | _ => False
    | _ => False
  | .indexAddr t x i => tiK tt t fun ti => opK r i fun i => intK i fun _ i => opK r x fun x => cK x fun c => match ti.desc, c with
    | .slice e, .slc n base sz off len _ _ => tiK tt e fun ei => match Nat.beq sz ei.size with
      | true => Chk (decide (0 ≤ i ∧ i < len)) (K (.t (.one (.ept n base sz (off + i.toNat) 0))) none)
      | false => False
    | .arr m e, .ptr n off => tiK tt e fun ei => Chk (decide (0 ≤ i ∧ i < m)) (match ti.zero with
      | .agg (.arr _ _ :: _) => match Nat.beq ei.size 1 with | true => K (.t (.one (.ept n off 1 i.toNat 0))) none | false => False
      | _ => K (.t (.one (.ptr n (off + i.toNat * ei.size)))) none)
    | _, _ => False
  | .index t x i => tiK tt t fun ti => opK r i fun i => intK i fun _ i => opK r x fun x => tK x fun x => match ti.desc, x with
    | .str, .one (.v (.string s)) => Chk (decide (0 ≤ i ∧ i < s.size)) (K (iv .u8 (bt s i.toNat)) none)
    | .arr m e, .agg l => tiK tt e fun ei => Chk (decide (0 ≤ i ∧ i < m)) (match l with
      | [.arr n f] => match Nat.beq ei.size 1, isAgg ei.desc, Nat.ble m n with
        | true, false, true => K (.t (.one (f i.toNat))) none
        | _, _, _ => False
      | l => dropK l (i.toNat * ei.size) fun l => takeK l ei.size fun l => mkK ei l fun v => K (.t v) none)
    | _, _ => False
  | .load t x => opK r x fun x => cK x fun c => loadK tt h t c fun v => K (.t v) none
  | .binOp op t x y _ => opK r x fun x => opK r y fun y => binK tt op t x y fun v => K v none
  | .unOp op _ x => opK r x fun x => unK op x fun v => K v none
  | .convert s t x => tiK tt s fun si => tiK tt t fun ti => opK r x fun x => match si.desc, ti.desc, x with
    | .int _, .int k, .t (.one (.v (.int _ n))) => Bnd k n fun n => K (iv k n) none
    | .str, .str, .t (.one (.v (.string s))) => K (sv s) none
    | .slice e, .str, .t (.one (.slc n b sz off len cap nl)) => tiK tt e fun ei => match ei.desc with
      | .int .u8 => match Nat.beq sz 1 with
        | true => srcK h (.t (.one (.slc n b sz off len cap nl))) fun len f => Chk (bytesB len f) (K (sv (mkStr len f)) none)
        | false => False
      | _ => False
    | .slice e, .str, .t (.one (.v (.slice none 0 0))) => tiK tt e fun ei => match ei.desc with
      | .int .u8 => K (sv .empty) none
      | _ => False
    | _, _, _ => False
  | .makeFunc f first caps => match first.toList with
    | [] => opsK r caps.toList fun l => ptrsK l fun l => K (.t (.one (.fn f l))) none
    | _ => False
  | .extract x i => opK r x fun x => match x with
    | .tup l => nthK l i fun v => K (.t v) none
    | _ => False
  | .alloc t => tiK tt t fun ti => K (.t (.one (.ptr nm 0))) (some (.own (segsOf ti.zero)))
  | .box t x => tiK tt t fun _ => opK r x fun x => tK x fun x => K (.t (.one (.ptr nm 0))) (some (.own (segsOf x)))
  | .build t ps => tiK tt t fun ti => match ti.desc with
    | .struct fs => partsK r ps.toList fun ps => fillK tt (.struct fs) (segsOf ti.zero) ps fun l => K (.t (.agg l)) none
    | .arr n e => tiK tt e fun _ => partsK r ps.toList fun ps => fillK tt (.arr n e) (segsOf ti.zero) ps fun l => K (.t (.agg l)) none
    | _ => False
  | .buildSlice t len ps => tiK tt t fun ti => match ti.desc with
    | .slice e => tiK tt e fun ei => match Nat.ble (len * ei.size) 16777216 && Nat.blt 0 ei.size with
      | true => partsK r ps.toList fun ps => elemsK ei.size 0 ps fun l => match Nat.beq l.length len with
        | true => K (.t (.one (.slc nm 0 ei.size 0 len len false))) (some (.row ei.size len (fun i => nthD [] l i) len))
        | false => False
      | false => False
    | _ => False
  | .makeSlice t l c => tiK tt t fun ti => match ti.desc with
    | .slice e => tiK tt e fun ei => opK r l fun l => intK l fun _ l => opK r c fun c => intK c fun _ c => cellsK (segsOf ei.zero) fun z => match Nat.beq z.length ei.size with
      | false => False
      | true =>
        Chk (decide (0 ≤ l ∧ l ≤ c ∧ ei.bytes * c ≤ 281474976710656 ∧ c ≤ 9223372036854775807)) (K (.t (.one (.slc nm 0 ei.size 0 l.toNat c.toNat false))) (some (.row ei.size c.toNat (fun _ => z) c.toNat)))
    | _ => False
  | .slice t x lo hi mx => tiK tt t fun ti => opK r x fun x => cK x fun c => optK r lo fun lo => optK r hi fun hi => optK r mx fun mx => match ti.desc, c with
    | .str, .v (.string s) => match mx with | none => bounds s.size s.size lo hi none (fun l h _ => K (sv (s.extract l h)) none) | some _ => False
    | .slice e, .slc n base sz off len cap nl => tiK tt e fun ei => match Nat.beq sz ei.size with
      | true => bounds len cap lo hi mx fun l h m => K (.t (.one (.slc n base sz (off + l) (h - l) (m - l) nl))) none
      | false => False
    | .slice e, .v (.slice none 0 0) => tiK tt e fun _ => bounds 0 0 lo hi mx fun _ _ _ => K (.t (.one (.v (.slice none 0 0)))) none
    | .arr n e, .ptr b off => tiK tt e fun ei => bounds n n lo hi mx fun l h m => K (.t (.one (.slc b off ei.size l (h - l) (m - l) false))) none
    | _, _ => False
  | .call c => match c.callee with
    | .builtin .len => opsK r c.args.toList fun xs => match xs, c.argTypes.toList with
      | [x], t :: _ => tiK tt t fun ti => cK x fun c => match ti.desc, c with
        | .str, .v (.string s) => K (iv .i64 s.size) none
        | .slice _, .slc _ _ _ _ len _ _ => K (iv .i64 len) none
        | .slice _, .v (.slice none 0 0) => K (iv .i64 0) none
        | _, _ => False
      | _, _ => False
    | .builtin .cap => opsK r c.args.toList fun xs => match xs, c.argTypes.toList with
      | [x], t :: _ => tiK tt t fun ti => cK x fun c => match ti.desc, c with
        | .slice _, .slc _ _ _ _ _ cap _ => K (iv .i64 cap) none
        | _, _ => False
      | _, _ => False
    | .builtin .min => opsK r c.args.toList fun xs => match xs with
      | [x, y] => intK x fun k a => intK y fun k' b => match kindEq k k' with | true => K (iv k (min a b)) none | false => False
      | _ => False
    | .builtin .max => opsK r c.args.toList fun xs => match xs with
      | [x, y] => intK x fun k a => intK y fun k' b => match kindEq k k' with | true => K (iv k (max a b)) none | false => False
      | _ => False
    | _ => False
  | _ => False
/-- May it make a block? -/
def makes : Op → Bool
  | .alloc _ | .box _ _ | .buildSlice _ _ _ | .makeSlice _ _ _ => true
  | _ => false
/-- Does it write what is there, or run code? -/
def acts : Op → Bool
  | .store _ _ _ => true
  | .call c => match c.callee with
    | .builtin .len | .builtin .cap | .builtin .min | .builtin .max => false
    | _ => true
  | .mapUpdate _ _ _ _ | .send _ _ | .recv _ _ _ | .select _ _ | .panic _ => true
  | _ => false
end Go.Eng
