/- The engine's evaluator: what writes, regions, code. Plain definitions. -/
import Derived.Test.YtakcnoggkdfgfaaEngB
namespace Go.Eng
open Go
variable {d : Nat}

/-- A call's meaning: function (a value of it), the names that it must not touch, arguments, heap, what follows. -/
abbrev Cl := FuncId → List Nat → List R → Heap → (R → Heap → Prop) → Prop

def away (av : List Nat) (n : Nat) (p : Prop) : Prop := match av.elem n with | true => False | false => p
def nameK (c : C) (k : Nat → Prop) : Prop :=
  match c with
  | .ptr n _ | .ept n _ _ _ _ | .slc n _ _ _ _ _ _ | .mp n | .ch n => k n
  | _ => False
/-- The names that a quiet operation reads lie apart from av. -/
def apart1 (av : List Nat) (r : Tr d) (o : Op) (p : Prop) : Prop :=
  match av with
  | [] => p
  | _ => match o with
    | .load _ x => opK r x fun x => cK x fun c => nameK c fun n => away av n p
    | .convert _ _ x => opK r x fun x => match x with
      | .t (.one (.slc n _ _ _ _ _ _)) => away av n p
      | _ => p
    | _ => p
/-- The room that an append may ask for. -/
def roomy (need bytes : Nat) : Bool := decide (need * bytes ≤ 1099511627776)
def appendK (tt : TT) (av : List Nat) (h : Heap) (t : TypeId) (x y : R) (K : R → Heap → Prop) : Prop :=
  tiK tt t fun ti => match ti.desc with
  | .slice e => tiK tt e fun ei => match Nat.blt 0 ei.bytes && Nat.beq (nseg (segsOf ei.zero)) ei.size with
   | false => False
   | true => srcK h y fun l2 g => match szB y ei.size with
   | false => False
   | true =>
    match x with
    | .t (.one (.v (.slice none 0 0))) =>
      Chk (roomy l2 ei.bytes) (∀ cap, l2 ≤ cap → hlenK h 0 fun nm => happK h (.ob (.row ei.size l2 g cap)) fun h =>
        K (.t (.one (.slc nm 0 ei.size 0 l2 cap (decide (l2 = 0))))) h)
    | .t (.one (.slc n 0 sz off len cap nl)) => match Nat.beq sz ei.size with
      | true => away av n (hgetK h n fun o => match o with
        | .row sz' m f tot => match Nat.beq sz sz' with
          | true => Chk (roomy (len + l2) ei.bytes) (Chk (decide (off + len ≤ m ∧ off + cap ≤ tot)) (∀ cap', len + l2 ≤ cap' → hsetK h n .dead fun h => hlenK h 0 fun nm =>
              happK h (.ob (.row sz (len + l2) (fun i => if i < len then f (off + i) else g (i - len)) cap')) fun h =>
                K (.t (.one (.slc nm 0 sz 0 (len + l2) cap' (nl && decide (l2 = 0))))) h))
          | false => False
        | _ => False)
      | false => False
    | _ => False
  | _ => False
def one1 (l : List C) : C := match l with | [c] => c | _ => .v (.bool false)
def copyTo (av : List Nat) (h : Heap) (n base sz off len l2 : Nat) (g : Nat → List C) (K : R → Heap → Prop) : Prop :=
  away av n (hgetK h n fun o => match o, base with
    | .row sz' m f tot, 0 => match Nat.beq sz sz' with
      | true => Chk (decide (off + len ≤ m)) (hsetK h n (.ob (.row sz m (fun i => if off ≤ i ∧ i < off + min l2 len then g (i - off) else f i) tot)) fun h => K (iv .i64 (min l2 len : Nat)) h)
      | false => False
    | .own l, base => dropK l base fun r => match r, sz with
      | .arr m f :: _, 1 => Chk (decide (off + len ≤ m)) (putK l base [.arr m fun i => if off ≤ i ∧ i < off + min l2 len then one1 (g (i - off)) else f i] fun l => hsetK h n (.ob (.own l)) fun h => K (iv .i64 (min l2 len : Nat)) h)
      | _, _ => False
    | _, _ => False)
def copyK (tt : TT) (av : List Nat) (h : Heap) (t : TypeId) (x y : R) (K : R → Heap → Prop) : Prop :=
  tiK tt t fun ti => match ti.desc with
  | .slice e => tiK tt e fun ei => srcK h y fun l2 g => match x with
    | .t (.one (.v (.slice none 0 0))) => match szB y ei.size with | true => K (iv .i64 0) h | false => False
    | .t (.one (.slc n base sz off len _ _)) => match Nat.beq sz ei.size && szB y ei.size with
      | true => copyTo av h n base sz off len l2 g K
      | false => False
    | _ => False
  | _ => False
def clearK (tt : TT) (av : List Nat) (h : Heap) (t : TypeId) (x : R) (K : R → Heap → Prop) : Prop :=
  tiK tt t fun ti => match ti.desc with
  | .slice e => tiK tt e fun ei => cellsK (segsOf ei.zero) fun z => match Nat.beq z.length ei.size with
   | false => False
   | true => match x with
    | .t (.one (.slc n 0 sz off len _ _)) => away av n (hgetK h n fun o => match o with
      | .row sz' m f tot => match Nat.beq sz sz', Nat.beq sz ei.size with
        | true, true => Chk (decide (off + len ≤ m)) (hsetK h n (.ob (.row sz m (fun i => if off ≤ i ∧ i < off + len then z else f i) tot)) fun h => K .junk h)
        | _, _ => False
      | _ => False)
    | _ => False
  | _ => False
/-- An operation that acts. -/
def evW (cl : Cl) (tt : TT) (av : List Nat) (r : Tr d) (h : Heap) (o : Op) (K : R → Heap → Prop) : Prop :=
  match o with
  | .store t a x => opK r a fun a => cK a fun a => opK r x fun x => tK x fun x => nameK a fun n => away av n (storeK tt h t a x fun h => K .junk h)
  | .call c => match c.callee with
    | .builtin .append => opsK r c.args.toList fun xs => match xs, c.argTypes.toList with
      | [x, y], t :: u :: _ => tiK tt u fun ui => match ui.desc with
        | .slice _ => appendK tt av h t x y K
        | .str => appendK tt av h t x y K
        | _ => False
      | _, _ => False
    | .builtin .copy => opsK r c.args.toList fun xs => match xs, c.argTypes.toList with
      | [x, y], t :: _ => copyK tt av h t x y K
      | _, _ => False
    | .builtin .clear => opsK r c.args.toList fun xs => match xs, c.argTypes.toList with
      | [x], t :: _ => clearK tt av h t x K
      | _, _ => False
    | .value f => opK r f fun f => cK f fun f => opsK r c.args.toList fun xs => match f with
      | .fn (.func f) caps => cl f av (xs ++ caps.map fun p => .t (.one (.ptr p.1 p.2))) h K
      | _ => False
    | _ => False
  | _ => False

/-! ### Regions -/
def putR (nt : Nat) (r : Tr d) (dst : Option Tmp) (x : R) (k : Tr d → Prop) : Prop :=
  match dst with
  | none => k r
  | some t => match Nat.blt t nt with | true => r.setK d t x k | false => False
def isB (x : R) (k : Bool → Prop) (e : Prop) : Prop := match x with | .t (.one (.v (.bool b))) => k b | _ => e
/-- The guard: the operation's turn comes, or it is passed by. -/
def guardK (ops : List Oper) (r : Tr d) (o : Oper) (yes no : Tr d → Prop) : Prop :=
  match o.guard with
  | none => yes r
  | some (j, want) => nthK ops j fun g => match g.dst with
    | none => False
    | some t => r.getK d t fun x => boolK x fun b => Cnd b (r.setK d t (bv true) fun r => match want with | true => yes r | false => no r) (r.setK d t (bv false) fun r => match want with | true => no r | false => yes r)
/-- What an operation does, its guard aside. -/
def bodyK (cl : Cl) (tt : TT) (r : Tr d) (h : Heap) (o : Op) (K : R → Heap → Prop) : Prop :=
  match acts o with
  | true => evW cl tt [] r h o K
  | false => match makes o with
    | true => hlenK h 0 fun nm => evX tt r h nm o fun x b => match b with
      | some b => happK h (.ob b) fun h => K x h
      | none => False
    | false => evX tt r h 0 o fun x b => match b with
      | none => K x h
      | some _ => False
def stepK (cl : Cl) (tt : TT) (nt : Nat) (ops : List Oper) (o : Oper) (r : Tr d) (h : Heap) (k : Tr d → Heap → Prop) : Prop :=
  guardK ops r o (fun r => bodyK cl tt r h o.op fun x h => putR nt r o.dst x fun r => k r h) (fun r => putR nt r o.dst .junk fun r => k r h)
/-- A region whose order is that of the text. -/
def evOps (cl : Cl) (tt : TT) (nt : Nat) (ops : List Oper) : List Oper → Tr d → Heap → (Tr d → Heap → Prop) → Prop
  | [], r, h, k => k r h
  | o :: l, r, h, k => stepK cl tt nt ops o r h fun r h => evOps cl tt nt ops l r h k

/-! ### Regions that draw their order -/
/-- What to do in which order: 'op': a quiet operation, for the first time; 're': it would yield the same now; 'ch': an operation that acts, may come up now, then p; q: the others that may. -/
inductive Plan where
  | stop
  | nil
  | op (i : Nat) (p : Plan)
  | re (i : Nat) (p : Plan)
  | ch (i : Nat) (p q : Plan)
def sameV : Value → Value → Bool
  | .bool a, .bool b => decide (a = b)
  | .int k a, .int k' b => kindEq k k' && decide (a = b)
  | .string a, .string b => strEq a b
  | .pointer none, .pointer none => true
  | .slice none l c, .slice none l' c' => Nat.beq l l' && Nat.beq c c'
  | .map none, .map none => true
  | .chan none, .chan none => true
  | .nilFunc, .nilFunc => true
  | .nilIface, .nilIface => true
  | _, _ => false
def sameC : C → C → Bool
  | .v x, .v y => sameV x y
  | .ptr n o, .ptr m p => Nat.beq n m && decide (o = p)
  | .ept n b s i j, .ept n' b' s' i' j' => Nat.beq n n' && (decide (b = b') && (decide (s = s') && (decide (i = i') && decide (j = j'))))
  | .slc n b s o l c nl, .slc n' b' s' o' l' c' nl' => Nat.beq n n' && (decide (b = b') && (decide (s = s') && (decide (o = o') && (decide (l = l') && (decide (c = c') && decide (nl = nl'))))))
  | .mp n, .mp m => Nat.beq n m
  | .ch n, .ch m => Nat.beq n m
  | .fn (.func f) c, .fn (.func g) c' => Nat.beq f g && decide (c = c')
  | _, _ => false
def sameSegs : List Seg → List Seg → Bool
  | [], [] => true
  | .c x :: l, .c y :: m => sameC x y && sameSegs l m
  | _, _ => false
def sameT : T → T → Bool
  | .one x, .one y => sameC x y
  | .agg l, .agg m => sameSegs l m
  | _, _ => false
def sameTs : List T → List T → Bool
  | [], [] => true
  | x :: l, y :: m => sameT x y && sameTs l m
  | _, _ => false
def sameR : R → R → Bool
  | .junk, .junk => true
  | .t x, .t y => sameT x y
  | .tup l, .tup m => sameTs l m
  | _, _ => false
def sameK (r : Tr d) (dst : Option Tmp) (x : R) (p : Prop) : Prop :=
  match dst with
  | none => p
  | some t => r.getK d t fun y => Chk (sameR x y) p
def evPlan (cl : Cl) (tt : TT) (nt : Nat) (ops : List Oper) : Plan → Tr d → Heap → (Tr d → Heap → Prop) → Prop
  | .stop, r, h, k => k r h
  | .nil, _, _, _ => True
  | .op i p, r, h, k => nthK ops i fun o => guardK ops r o (fun r => evX tt r h 0 o.op fun x b => match b with
      | none => putR nt r o.dst x fun r => evPlan cl tt nt ops p r h k
      | some _ => False) (fun r => putR nt r o.dst .junk fun r => evPlan cl tt nt ops p r h k)
  | .re i p, r, h, k => nthK ops i fun o => guardK ops r o (fun r => evX tt r h 0 o.op fun x b => match b with
      | none => sameK r o.dst x (evPlan cl tt nt ops p r h k)
      | some _ => False) (fun r => sameK r o.dst .junk (evPlan cl tt nt ops p r h k))
  | .ch i p .nil, r, h, k => nthK ops i fun o => stepK cl tt nt ops o r h fun r h => evPlan cl tt nt ops p r h k
  | .ch i p q, r, h, k => (nthK ops i fun o => stepK cl tt nt ops o r h fun r h => evPlan cl tt nt ops p r h k) ∧ evPlan cl tt nt ops q r h k

/-! ### Code -/
inductive Ex where
  | normal
  | exit (id : Nat)
  | ret
/-- What a piece of code does: from temporaries and heap, by what follows. -/
abbrev Pt (d : Nat) := Tr d → Heap → (Ex → Tr d → Heap → Prop) → Prop
/-- The meaning of a loop, given its round's. -/
abbrev Lp (d : Nat) := Pt d → Pt d
/-- Other names for the blocks. -/
def renC (g : Nat → Nat) : C → C
  | .v x => .v x
  | .ptr n off => .ptr (g n) off
  | .ept n b s i j => .ept (g n) b s i j
  | .slc n b s off len cap nl => .slc (g n) b s off len cap nl
  | .mp n => .mp (g n)
  | .ch n => .ch (g n)
  | .fn f caps => .fn f (caps.map fun p => (g p.1, p.2))
def renSeg (g : Nat → Nat) : Seg → Seg
  | .c x => .c (renC g x)
  | .arr n f => .arr n fun i => renC g (f i)
def renT (g : Nat → Nat) : T → T
  | .one c => .one (renC g c)
  | .agg l => .agg (l.map (renSeg g))
def renR (g : Nat → Nat) : R → R
  | .junk => .junk
  | .t x => .t (renT g x)
  | .tup l => .tup (l.map (renT g))
def leR (g : Nat → Nat) (x y : R) : Prop := match y with | .junk => True | y => x = renR g y
def leT (g : Nat → Nat) : (d : Nat) → Tr d → Tr d → Prop
  | 0, x, y => leR g x y
  | d + 1, (a, b), (a', b') => leT g d a a' ∧ leT g d b b'
def leSeg (g : Nat → Nat) : Seg → Seg → Prop
  | .c x, .c y => x = renC g y
  | .arr n f, .arr m f' => n = m ∧ ∀ i, i < m → f i = renC g (f' i)
  | _, _ => False
def leSegs (g : Nat → Nat) : List Seg → List Seg → Prop
  | [], [] => True
  | x :: l, y :: m => leSeg g x y ∧ leSegs g l m
  | _, _ => False
def leHE (g : Nat → Nat) : HE → HE → Prop
  | _, .dead => True
  | .fresh, .fresh => True
  | .ob (.own l), .ob (.own m) => leSegs g l m
  | .ob (.row sz n f tot), .ob (.row sz' n' f' tot') => sz = sz' ∧ n = n' ∧ tot = tot' ∧ ∀ i, i < n' → f i = (f' i).map (renC g)
  | .ob (.ro sz n f), .ob (.ro sz' n' f') => sz = sz' ∧ n = n' ∧ ∀ i, i < n' → f i = (f' i).map (renC g)
  | _, _ => False
def hentK : Heap → Nat → (HE → Prop) → Prop
  | e :: _, 0, k => k e
  | _ :: r, n + 1, k => hentK r n k
  | [], _, _ => False
def leH (g : Nat → Nat) (h : Heap) : List Nat → Heap → Prop
  | [], [] => True
  | j :: l, e :: m => (match e with | .dead => True | e => hentK h j fun x => leHE g x e) ∧ leH g h l m
  | _, _ => False
def sig (h : Heap) (l : List Nat) (i : Nat) : Nat := match l[i]? with | some j => j | none => h.length
/-- 0, 1, .. first. -/
def firstB : Nat → Nat → List Nat → Bool
  | 0, _, _ => true
  | n + 1, i, j :: l => Nat.beq i j && firstB n (i + 1) l
  | _ + 1, _, [] => false
def nodupB : List Nat → Bool
  | [] => true
  | x :: l => !l.elem x && nodupB l
/-- A state says at least as much as another, under other names; the first n0 names stay. -/
def Le (n0 : Nat) (r : Tr d) (h : Heap) (r' : Tr d) (h' : Heap) : Prop := ∃ l : List Nat, (firstB n0 0 l && nodupB l) = true ∧ leH (sig h l) h l h' ∧ leT (sig h l) d r r'
/-- A loop: whoever walks names a family of states, and a measure that every round lowers. -/
def lpAsk (n0 : Nat) : Lp d := fun round r h k => ∃ (S : Type) (I : S → Tr d × Heap) (m : S → Nat) (s : S), Le n0 r h (I s).1 (I s).2 ∧ ∀ s, round (I s).1 (I s).2 fun e r' h' => match e with
  | .normal => ∃ s', m s' < m s ∧ Le n0 r' h' (I s').1 (I s').2
  | e => k e r' h'
/-- Temporaries out of a list. -/
def trOf (d : Nat) : List (Nat × R) → Tr d
  | [] => Tr.empty d
  | (i, x) :: l => Tr.set d (trOf d l) i x
def unroll (lp : Lp d) (round : Pt d) : Nat → Pt d
  | 0, r, h, k => lp round r h k
  | n + 1, r, h, k => round r h fun e r h => match e with | .normal => unroll lp round n r h k | e => k e r h
abbrev Pl := List (Nat × Plan)
def plK : Pl → Nat → (Plan → Prop) → Prop
  | [], _, _ => False
  | (j, p) :: l, i, k => match Nat.beq i j with | true => k p | false => plK l i k
def evC (cl : Cl) (tt : TT) (nt : Nat) (lp : Lp d) (un : Nat → Nat) (pl : Pl) : Code → Nat → Pt d
  | .skip, _, r, h, k => k .normal r h
  | .label _, _, r, h, k => k .normal r h
  | .region id ops draw, _, r, h, k => match draw with
    | false => evOps cl tt nt ops.toList ops.toList r h fun r h => k .normal r h
    | true => plK pl id fun p => evPlan cl tt nt ops.toList p r h fun r h => k .normal r h
  | .seq a b, n, r, h, k => evC cl tt nt lp un pl a n r h fun e r h => match e with | .normal => evC cl tt nt lp un pl b n r h k | e => k e r h
  | .cond c a b, n, r, h, k => opK r c fun x => boolK x fun x => Cnd x (evC cl tt nt lp un pl a n r h k) (evC cl tt nt lp un pl b n r h k)
  | .block id b, _, r, h, k => evC cl tt nt lp un pl b (un id) r h fun e r h => match e with
    | .exit j => match Nat.beq j id with | true => k .normal r h | false => k (.exit j) r h
    | e => k e r h
  | .loop b, n, r, h, k => unroll lp (evC cl tt nt lp un pl b 0) n r h k
  | .exit id, _, r, h, k => k (.exit id) r h
  | .scope b, n, r, h, k => evC cl tt nt lp un pl b n r h k
  | .ret, _, r, h, k => k .ret r h
  | _, _, _, _, _ => False
/-- What is handed back. -/
def resK (tt : TT) (r : Tr d) (h : Heap) : List ResultVar → (List R → Prop) → Prop
  | [], k => k []
  | .tmp t :: l, k => r.getK d t fun x => resK tt r h l fun xs => k (x :: xs)
  | .cell a t :: l, k => r.getK d a fun x => cK x fun c => loadK tt h t c fun v => resK tt r h l fun xs => k (.t v :: xs)
def tupK : List R → (List T → Prop) → Prop
  | [], k => k []
  | .t x :: l, k => tupK l fun xs => k (x :: xs)
  | _, _ => False
def resultK (tt : TT) (r : Tr d) (h : Heap) (l : List ResultVar) (k : R → Prop) : Prop :=
  resK tt r h l fun xs => match xs with
  | [x] => k x
  | xs => tupK xs fun ts => k (.tup ts)
def argsK : List R → Nat → Tr d → (Tr d → Prop) → Prop
  | [], _, r, k => k r
  | x :: l, n, r, k => r.setK d n x fun r => argsK l (n + 1) r k
/-- A function, as the walk takes it: how many temporaries, body, results, the plans of its regions. -/
structure Fn where
  nt : Nat
  code : Code
  res : List ResultVar
  pl : Pl
  un : Nat → Nat
/-- A function's body, run. -/
def evF (d : Nat) (cl : Cl) (tt : TT) (f : Fn) (xs : List R) (h : Heap) (K : R → Heap → Prop) : Prop :=
  match Nat.ble xs.length f.nt with
  | true => hlenK h 0 fun n0 => argsK xs 0 (Tr.empty d) fun r => evC cl tt f.nt (lpAsk n0) f.un f.pl f.code 0 r h fun e r h => match e with
    | .exit _ => False
    | _ => resultK tt r h f.res fun x => K x h
  | false => False
/-- Everything inlined. tab: the functions. -/
def clGo (d : Nat) (tt : TT) (cl : Cl) (f : FuncId) (xs : List R) (h : Heap) (K : R → Heap → Prop) : List (FuncId × Fn) → Prop
  | [] => False
  | (g, fn) :: l => match Nat.beq f g with
    | true => evF d cl tt fn xs h K
    | false => clGo d tt cl f xs h K l
def clRun (d : Nat) (tt : TT) (tab : List (FuncId × Fn)) : Nat → Cl
  | 0 => fun _ _ _ _ _ => False
  | n + 1 => fun f _ xs h K => clGo d tt (clRun d tt tab n) f xs h K tab
end Go.Eng
