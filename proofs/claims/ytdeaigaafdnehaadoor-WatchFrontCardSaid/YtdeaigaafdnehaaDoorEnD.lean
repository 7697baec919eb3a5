/- The engine, part D: an evaluator over the model's own code, and its soundness. Nothing is claimed of a program here. -/
import Derived.Test.YtdeaigaafdnehaaDoorEnC
import Derived.ProofKit
/- A quiet operation yields one thing: the evaluator's continuation form is a function. It looks at its operands alone. -/
namespace Go.Eng
open Go
variable {d : Nat}
def Det {α : Type} (F : (α → Prop) → Prop) : Prop := ∀ K, F K → ∃ x, K x ∧ ∀ K', K' x → F K'
section
variable {α β γ δ : Type}
theorem det_pure (x : α) : Det fun K => K x := fun _ h => ⟨x, h, fun _ h' => h'⟩
theorem det_false : Det fun _ : α → Prop => False := fun _ h => h.elim
theorem det_bind {G : (β → Prop) → Prop} (hG : Det G) {F : β → (α → Prop) → Prop} (hF : ∀ y, Det (F y)) : Det fun K => G fun y => F y K := fun K h => by
  obtain ⟨y, h1, h2⟩ := hG _ h
  obtain ⟨x, h3, h4⟩ := hF y _ h1
  exact ⟨x, h3, fun K' h' => h2 _ (h4 _ h')⟩
theorem det_bind2 {G : (β → γ → Prop) → Prop} (hG : Det fun K => G fun a b => K (a, b)) {F : β → γ → (α → Prop) → Prop} (hF : ∀ a b, Det (F a b)) : Det fun K => G fun a b => F a b K := fun K h => by
  obtain ⟨y, h1, h2⟩ := hG (fun p => F p.1 p.2 K) h
  obtain ⟨x, h3, h4⟩ := hF y.1 y.2 _ h1
  exact ⟨x, h3, fun K' h' => h2 (fun p => F p.1 p.2 K') (h4 _ h')⟩
theorem det_bind3 {G : (β → γ → δ → Prop) → Prop} (hG : Det fun K => G fun a b c => K (a, b, c)) {F : β → γ → δ → (α → Prop) → Prop} (hF : ∀ a b c, Det (F a b c)) : Det fun K => G fun a b c => F a b c K := fun K h => by
  obtain ⟨y, h1, h2⟩ := hG (fun p => F p.1 p.2.1 p.2.2 K) h
  obtain ⟨x, h3, h4⟩ := hF y.1 y.2.1 y.2.2 _ h1
  exact ⟨x, h3, fun K' h' => h2 (fun p => F p.1 p.2.1 p.2.2 K') (h4 _ h')⟩
theorem det_chk {b : Bool} {F : (α → Prop) → Prop} (hF : Det F) : Det fun K => Chk b (F K) := by
  cases b with
  | false => exact det_false
  | true => exact hF
theorem det_cnd {b : Bool} {F G : (α → Prop) → Prop} (hF : Det F) (hG : Det G) : Det fun K => Cnd b (F K) (G K) := by
  cases b with
  | false => exact hG
  | true => exact hF
end
theorem det_bnd (k : IntKind) (s : Int) : Det (Bnd k s) := det_cnd (det_pure _) (det_pure _)
theorem det_tiK : ∀ (tt : TT) (t : TypeId), Det (tiK tt t)
  | [], _ => det_false
  | (u, i) :: r, t => by
    show Det fun K => match Nat.beq t u with | true => K i | false => tiK r t K
    split
    · exact det_pure _
    · exact det_tiK r t
theorem det_nthK {α : Type} : ∀ (l : List α) (n : Nat), Det (nthK l n)
  | x :: _, 0 => det_pure x
  | _ :: r, n + 1 => det_nthK r n
  | [], _ => det_false
theorem det_plainK : ∀ (l : List Value), Det (plainK l)
  | [] => det_pure _
  | x :: r => by
    have key : Det fun K => plainK r fun l => K (.c (.v x) :: l) := det_bind (det_plainK r) fun _ => det_pure _
    cases x <;> first | exact key | exact det_false
theorem det_constK (v : Value) : Det (constK v) := by
  unfold constK
  split
  · exact det_bind (det_plainK _) fun _ => det_pure _
  all_goals exact det_pure _
theorem det_opK (r : Tr d) (o : Operand) : Det (opK r o) := by
  cases o with
  | tmp t => show Det fun K => r.getK d t K; simp only [Tr.getK_eq]; exact det_pure _
  | const v => exact det_constK v
  | global g => exact det_pure _
  | func f => exact det_pure _
theorem det_intK (x : R) : Det fun K => intK x fun k n => K (k, n) := by unfold intK; split <;> first | exact det_pure _ | exact det_false
theorem det_boolK (x : R) : Det (boolK x) := by unfold boolK; split <;> first | exact det_pure _ | exact det_false
theorem det_tK (x : R) : Det (tK x) := by unfold tK; split <;> first | exact det_pure _ | exact det_false
theorem det_cK (x : R) : Det (cK x) := by unfold cK; split <;> first | exact det_pure _ | exact det_false
theorem det_dropK : ∀ (l : List Seg) (n : Nat), Det (dropK l n)
  | l, 0 => by
    have e : dropK l 0 = fun k => k l := by cases l with
      | nil => rfl
      | cons s _ => cases s <;> rfl
    rw [e]; exact det_pure _
  | .c _ :: r, n + 1 => det_dropK r n
  | .arr m _ :: r, n + 1 => by
    show Det fun K => match Nat.ble m (n + 1) with | true => dropK r (n + 1 - m) K | false => False
    split
    · exact det_dropK r _
    · exact det_false
  | [], _ + 1 => det_false
theorem det_takeK : ∀ (l : List Seg) (n : Nat), Det (takeK l n)
  | l, 0 => by
    have e : takeK l 0 = fun k => k [] := by cases l with
      | nil => rfl
      | cons s _ => cases s <;> rfl
    rw [e]; exact det_pure _
  | .c x :: r, n + 1 => by
    show Det fun K => takeK r n fun l => K (.c x :: l)
    exact det_bind (det_takeK r n) fun _ => det_pure _
  | .arr m f :: r, n + 1 => by
    show Det fun K => match Nat.ble m (n + 1) with | true => takeK r (n + 1 - m) (fun l => K (.arr m f :: l)) | false => False
    split
    · exact det_bind (det_takeK r _) fun _ => det_pure _
    · exact det_false
  | [], _ + 1 => det_false
theorem det_overK : ∀ (l ys : List Seg), Det (overK l ys)
  | l, [] => by
    have e : overK l [] = fun k => k l := by cases l with
      | nil => rfl
      | cons s _ => cases s <;> rfl
    rw [e]; exact det_pure _
  | .c _ :: r, .c y :: ys => by
    show Det fun K => overK r ys fun l => K (.c y :: l)
    exact det_bind (det_overK r ys) fun _ => det_pure _
  | .arr m _ :: r, .arr n g :: ys => by
    show Det fun K => match Nat.beq m n with | true => overK r ys (fun l => K (.arr n g :: l)) | false => False
    split
    · exact det_bind (det_overK r ys) fun _ => det_pure _
    · exact det_false
  | .c _ :: _, .arr _ _ :: _ => by show Det fun _ => False; exact det_false
  | .arr _ _ :: _, .c _ :: _ => by show Det fun _ => False; exact det_false
  | [], .c _ :: _ => by show Det fun _ => False; exact det_false
  | [], .arr _ _ :: _ => by show Det fun _ => False; exact det_false
theorem det_putK : ∀ (l : List Seg) (n : Nat) (ys : List Seg), Det (putK l n ys)
  | l, 0, ys => by
    have e : putK l 0 ys = fun k => overK l ys k := by cases l with
      | nil => rfl
      | cons s _ => cases s <;> rfl
    rw [e]; exact det_overK l ys
  | .c x :: r, n + 1, ys => by
    show Det fun K => putK r n ys fun l => K (.c x :: l)
    exact det_bind (det_putK r n ys) fun _ => det_pure _
  | .arr m f :: r, n + 1, ys => by
    show Det fun K => match Nat.ble m (n + 1) with | true => putK r (n + 1 - m) ys (fun l => K (.arr m f :: l)) | false => False
    split
    · exact det_bind (det_putK r _ ys) fun _ => det_pure _
    · exact det_false
  | [], _ + 1, _ => det_false
theorem det_mkK (ti : TI) (l : List Seg) : Det (mkK ti l) := by unfold mkK; split <;> first | exact det_pure _ | exact det_false
theorem det_cellsK : ∀ l : List Seg, Det (cellsK l)
  | [] => det_pure _
  | .c x :: r => det_bind (F := fun l K => K (x :: l)) (det_cellsK r) fun _ => det_pure _
  | .arr _ _ :: _ => det_false
theorem det_hgetK : ∀ (h : Heap) (n : Nat), Det (hgetK h n)
  | .ob o :: _, 0 => det_pure o
  | .ob _ :: r, n + 1 => det_hgetK r n
  | .fresh :: r, n + 1 => det_hgetK r n
  | .dead :: r, n + 1 => det_hgetK r n
  | .fresh :: _, 0 => det_false
  | .dead :: _, 0 => det_false
  | [], _ => det_false
theorem det_loadK (tt : TT) (h : Heap) (t : TypeId) (p : C) : Det (loadK tt h t p) := by
  have row : ∀ (b : Bool) (ti : TI) (l : List Seg) (j : Nat), Det fun K => Chk b (dropK l j fun l => takeK l ti.size fun l => mkK ti l K) := fun b ti l j => det_chk (det_bind (det_dropK _ _) fun _ => det_bind (det_takeK _ _) fun _ => det_mkK _ _)
  show Det fun K => loadK tt h t p K
  unfold loadK
  refine det_bind (det_tiK tt t) fun ti => ?_
  split
  · refine det_bind (det_hgetK _ _) fun o => ?_
    split
    · exact det_bind (det_dropK _ _) fun _ => det_bind (det_takeK _ _) fun _ => det_mkK _ _
    · exact det_false
  · refine det_bind (det_hgetK _ _) fun o => ?_
    split
    · split
      · refine det_bind (det_dropK _ _) fun l => ?_
        split
        · exact det_chk (det_mkK _ _)
        · exact det_false
      · exact det_false
    · split
      · exact row _ _ _ _
      · exact det_false
    · split
      · exact row _ _ _ _
      · exact det_false
    · exact det_false
  · exact det_false
theorem det_opsK (r : Tr d) : ∀ l : List Operand, Det (opsK r l)
  | [] => det_pure _
  | o :: l => det_bind (F := fun x K => opsK r l fun xs => K (x :: xs)) (det_opK r o) fun x => det_bind (F := fun xs K => K (x :: xs)) (det_opsK r l) fun _ => det_pure _
theorem det_optK (r : Tr d) : ∀ l : Option Operand, Det (optK r l)
  | none => det_pure _
  | some o => det_bind (F := fun x K => intK x fun _ n => K (some n)) (det_opK r o) fun x => det_bind2 (F := fun _ n K => K (some n)) (det_intK x) fun _ _ => det_pure _
theorem det_partsK (r : Tr d) : ∀ l : List (Nat × Operand), Det (partsK r l)
  | [] => det_pure _
  | (i, o) :: l => det_bind (F := fun x K => tK x fun x => partsK r l fun xs => K ((i, x) :: xs)) (det_opK r o) fun x => det_bind (F := fun x K => partsK r l fun xs => K ((i, x) :: xs)) (det_tK x) fun x =>
      det_bind (F := fun xs K => K ((i, x) :: xs)) (det_partsK r l) fun _ => det_pure _
theorem det_fillK (tt : TT) (desc : K) : ∀ (l : List (Nat × T)) (z : List Seg), Det (fillK tt desc z l)
  | [], z => det_pure z
  | (i, x) :: l, z => by
    show Det fun K => fillK tt desc z ((i, x) :: l) K
    unfold fillK
    split
    · refine det_bind (det_nthK _ _) fun f => det_bind (det_tiK _ _) fun fi => ?_
      split
      · exact det_bind (det_putK _ _ _) fun z => det_fillK tt _ l z
      · exact det_false
    · refine det_bind (det_tiK _ _) fun fi => ?_
      split
      · exact det_bind (det_putK _ _ _) fun z => det_fillK tt _ l z
      · exact det_false
    · exact det_false
theorem det_srcK (h : Heap) (x : R) : Det fun K => srcK h x fun n f => K (n, f) := by
  unfold srcK
  split
  · exact det_pure (0, _)
  · exact det_pure (_, _)
  · refine det_bind (det_hgetK _ _) fun o => ?_
    split
    · split
      · exact det_chk (det_pure (_, _))
      · exact det_false
    · split
      · exact det_chk (det_pure (_, _))
      · exact det_false
    · refine det_bind (det_dropK _ _) fun r => ?_
      split
      · exact det_chk (det_pure (_, _))
      · exact det_false
    · exact det_false
  · exact det_false
theorem det_bounds (len cap : Nat) (lo hi mx : Option Int) : Det fun K => bounds len cap lo hi mx fun a b c => K (a, b, c) := by
  unfold bounds
  split <;> first | exact det_pure (_, _, _) | exact det_chk (det_pure (_, _, _)) | exact det_false
theorem det_ptrsK : ∀ l : List R, Det (ptrsK l)
  | [] => det_pure _
  | x :: l => by
    cases x with
    | t y => cases y with
      | one c => cases c with
        | ptr n off =>
          show Det fun K => ptrsK l fun r => K ((n, off) :: r)
          exact det_bind (det_ptrsK l) fun _ => det_pure _
        | _ => exact det_false
      | agg _ => exact det_false
    | _ => exact det_false
theorem det_intBin (op : BinOp) (k : IntKind) (a b : Int) : Det (intBin op k a b) := by
  have bn : ∀ s, Det fun K : R → Prop => Bnd k s fun s => K (iv k s) := fun s => det_bind (det_bnd k s) fun _ => det_pure _
  show Det fun K => intBin op k a b K
  unfold intBin
  split <;> first | exact bn _ | exact det_chk (bn _) | exact det_chk (det_pure _) | exact det_pure _ | exact det_false
theorem det_eqC (desc : K) (x y : C) : Det (eqC desc x y) := by
  show Det fun K => eqC desc x y K
  unfold eqC
  split <;> first | exact det_pure _ | exact det_false
theorem det_eqOp (op : BinOp) (b : Bool) : Det (eqOp op b) := by
  show Det fun K => eqOp op b K
  unfold eqOp
  split <;> first | exact det_pure _ | exact det_false
theorem det_eqLf (f : Lf) (x y : Value) : Det (eqLf f x y) := by
  show Det fun K => eqLf f x y K
  unfold eqLf
  split
  · split <;> first | exact det_pure _ | exact det_false
  all_goals first | exact det_pure _ | exact det_false
theorem det_eqSegs : ∀ (fs : List Lf) (l m : List Seg), Det (eqSegs fs l m)
  | [], [], [] => by show Det fun K : Bool → Prop => K true; exact det_pure _
  | f :: fs, .c (.v x) :: l, .c (.v y) :: m => by
    show Det fun K => eqLf f x y fun b => eqSegs fs l m fun c => K (b && c)
    exact det_bind (det_eqLf f x y) fun b => det_bind (det_eqSegs fs l m) fun _ => det_pure _
  | fs, l, m => by
    intro K hK
    unfold eqSegs at hK ⊢
    split at hK
    · exact ⟨true, hK, fun _ h => h⟩
    · obtain ⟨b, h1, h2⟩ := det_eqLf _ _ _ _ hK
      obtain ⟨c, h3, h4⟩ := det_eqSegs _ _ _ _ h1
      exact ⟨_, h3, fun K' h' => h2 _ (h4 _ h')⟩
    · exact hK.elim
theorem det_binK (tt : TT) (op : BinOp) (t : TypeId) (x y : R) : Det (binK tt op t x y) := by
  show Det fun K => binK tt op t x y K
  unfold binK
  split
  · split
    · exact det_intBin _ _ _ _
    · exact det_intBin _ _ _ _
    · split
      · exact det_intBin _ _ _ _
      · exact det_false
  · split
    · exact det_chk (det_pure _)
    · exact det_eqOp _ _
  · exact det_bind (det_tiK _ _) fun _ => det_bind (det_eqC _ _ _) fun _ => det_eqOp _ _
  · refine det_bind (det_tiK _ _) fun _ => ?_
    split
    · exact det_false
    · exact det_bind (det_eqSegs _ _ _) fun _ => det_eqOp _ _
  · exact det_false
theorem det_unK (op : UnOp) (x : R) : Det (unK op x) := by
  show Det fun K => unK op x K
  unfold unK
  split
  · exact det_pure _
  · exact det_bind (det_bnd _ _) fun _ => det_pure _
  · exact det_false
theorem Det.none {F : (R → Prop) → Prop} (h : Det F) : Det fun K : R × Option Ob → Prop => F fun x => K (x, none) := det_bind h fun _ => det_pure _
theorem det_evX (tt : TT) (r : Tr d) (h : Heap) (o : Op) (hm : makes o = false) : Det fun K => evX tt r h 0 o fun x b => K (x, b) := by
  cases o <;> simp only [evX] <;> (try exact det_false) <;> (try cases hm)
  case move x => exact (det_opK r x).none
  case assign x => exact (det_opK r x).none
  case pick c a b => exact det_bind (det_opK _ _) fun c => det_bind (det_boolK _) fun c => det_bind (det_opK _ _) fun x => det_bind (det_opK _ _) fun y => det_cnd (det_pure (_, _)) (det_pure (_, _))
  case nilCheck x =>
    refine det_bind (det_opK _ _) fun c => det_bind (det_cK _) fun c => ?_
    split <;> first | exact det_pure (_, _) | exact det_false
  case fieldAddr s x f =>
    refine det_bind (det_tiK _ _) fun ti => ?_
    split
    · refine det_bind (det_nthK _ _) fun fd => det_bind (det_tiK _ _) fun fi => ?_
      split
      · refine det_bind (det_opK _ _) fun c => det_bind (det_cK _) fun c => ?_
        split <;> first | exact det_pure (_, _) | exact det_false
      · exact det_false
    · exact det_false
  case field s x f =>
    refine det_bind (det_tiK _ _) fun ti => ?_
    split
    · refine det_bind (det_nthK _ _) fun fd => det_bind (det_tiK _ _) fun fi => det_bind (det_opK _ _) fun c => det_bind (det_tK _) fun c => ?_
      split
      · exact det_bind (det_dropK _ _) fun _ => det_bind (det_takeK _ _) fun _ => det_bind (det_mkK _ _) fun _ => det_pure (_, _)
      · exact det_false
    · exact det_false
  case indexAddr t x i =>
    refine det_bind (det_tiK _ _) fun ti => det_bind (det_opK _ _) fun i => det_bind2 (det_intK _) fun _ i => det_bind (det_opK _ _) fun c => det_bind (det_cK _) fun c => ?_
    split
    · refine det_bind (det_tiK _ _) fun ei => ?_
      split
      · exact det_chk (det_pure (_, _))
      · exact det_false
    · refine det_bind (det_tiK _ _) fun ei => det_chk ?_
      split
      · split
        · exact det_pure (_, _)
        · exact det_false
      · exact det_pure (_, _)
    · exact det_false
  case index t x i =>
    refine det_bind (det_tiK _ _) fun ti => det_bind (det_opK _ _) fun i => det_bind2 (det_intK _) fun _ i => det_bind (det_opK _ _) fun c => det_bind (det_tK _) fun c => ?_
    split
    · exact det_chk (det_pure (_, _))
    · refine det_bind (det_tiK _ _) fun ei => det_chk ?_
      split
      · split
        · exact det_pure (_, _)
        · exact det_false
      · exact det_bind (det_dropK _ _) fun _ => det_bind (det_takeK _ _) fun _ => det_bind (det_mkK _ _) fun _ => det_pure (_, _)
    · exact det_false
  case load t x => exact det_bind (det_opK _ _) fun c => det_bind (det_cK _) fun c => det_bind (det_loadK _ _ _ _) fun _ => det_pure (_, _)
  case binOp op t x y u => exact det_bind (det_opK _ _) fun x => det_bind (det_opK _ _) fun y => (det_binK _ _ _ _ _).none
  case unOp op t x => exact det_bind (det_opK _ _) fun x => (det_unK _ _).none
  case convert s t x =>
    refine det_bind (det_tiK _ _) fun si => det_bind (det_tiK _ _) fun ti => det_bind (det_opK _ _) fun x => ?_
    split
    · exact det_bind (det_bnd _ _) fun _ => det_pure (_, _)
    · exact det_pure (_, _)
    · refine det_bind (det_tiK _ _) fun ei => ?_
      split
      · split
        · exact det_bind2 (det_srcK _ _) fun _ _ => det_chk (det_pure (_, _))
        · exact det_false
      · exact det_false
    · refine det_bind (det_tiK _ _) fun ei => ?_
      split
      · exact det_pure (_, _)
      · exact det_false
    · exact det_false
  case makeFunc f first caps =>
    split
    · exact det_bind (det_opsK _ _) fun _ => det_bind (det_ptrsK _) fun _ => det_pure (_, _)
    · exact det_false
  case extract x i =>
    refine det_bind (det_opK _ _) fun x => ?_
    split
    · exact det_bind (det_nthK _ _) fun _ => det_pure (_, _)
    · exact det_false
  case build t ps =>
    refine det_bind (det_tiK _ _) fun ti => ?_
    split
    · exact det_bind (det_partsK _ _) fun _ => det_bind (det_fillK _ _ _ _) fun _ => det_pure (_, _)
    · exact det_bind (det_tiK _ _) fun _ => det_bind (det_partsK _ _) fun _ => det_bind (det_fillK _ _ _ _) fun _ => det_pure (_, _)
    · exact det_false
  case slice t x lo hi mx =>
    refine det_bind (det_tiK _ _) fun ti => det_bind (det_opK _ _) fun x => det_bind (det_cK _) fun c => det_bind (det_optK _ _) fun lo => det_bind (det_optK _ _) fun hi => det_bind (det_optK _ _) fun mx => ?_
    split
    · split
      · exact det_bind3 (det_bounds _ _ _ _ _) fun _ _ _ => det_pure (_, _)
      · exact det_false
    · refine det_bind (det_tiK _ _) fun ei => ?_
      split
      · exact det_bind3 (det_bounds _ _ _ _ _) fun _ _ _ => det_pure (_, _)
      · exact det_false
    · exact det_bind (det_tiK _ _) fun ei => det_bind3 (det_bounds _ _ _ _ _) fun _ _ _ => det_pure (_, _)
    · exact det_bind (det_tiK _ _) fun ei => det_bind3 (det_bounds _ _ _ _ _) fun _ _ _ => det_pure (_, _)
    · exact det_false
  case call c =>
    split
    · refine det_bind (det_opsK _ _) fun xs => ?_
      split
      · refine det_bind (det_tiK _ _) fun ti => det_bind (det_cK _) fun c => ?_
        split <;> first | exact det_pure (_, _) | exact det_false
      · exact det_false
    · refine det_bind (det_opsK _ _) fun xs => ?_
      split
      · refine det_bind (det_tiK _ _) fun ti => det_bind (det_cK _) fun c => ?_
        split <;> first | exact det_pure (_, _) | exact det_false
      · exact det_false
    · refine det_bind (det_opsK _ _) fun xs => ?_
      split
      · refine det_bind2 (det_intK _) fun k a => det_bind2 (det_intK _) fun k' b => ?_
        split
        · exact det_pure (_, _)
        · exact det_false
      · exact det_false
    · refine det_bind (det_opsK _ _) fun xs => ?_
      split
      · refine det_bind2 (det_intK _) fun k a => det_bind2 (det_intK _) fun k' b => ?_
        split
        · exact det_pure (_, _)
        · exact det_false
      · exact det_false
    · exact det_false
end Go.Eng

/- Regions that draw their order: one plan serves every order. -/
namespace Go.Eng
open Go
variable {d : Nat}
section
variable {r r' : Tr d}
theorem opK_congr {x : Operand} (h : ∀ t, x = .tmp t → r'.get d t = r.get d t) : opK r' x = opK r x := by
  funext k
  cases x with
  | tmp t => simp only [opK, Tr.getK_eq, h t rfl]
  | _ => rfl
theorem opsK_congr : ∀ {l : List Operand}, (∀ x ∈ l, opK r' x = opK r x) → opsK r' l = opsK r l
  | [], _ => rfl
  | o :: l, h => by
    funext k
    simp only [opsK, h o (by simp), opsK_congr (l := l) fun x hx => h x (by simp [hx])]
theorem optK_congr {o : Option Operand} (h : ∀ x ∈ o.toList, opK r' x = opK r x) : optK r' o = optK r o := by
  funext k
  cases o with
  | none => rfl
  | some o => simp only [optK, h o (by simp)]
theorem partsK_congr : ∀ {l : List (Nat × Operand)}, (∀ x ∈ l.map (·.2), opK r' x = opK r x) → partsK r' l = partsK r l
  | [], _ => rfl
  | (i, o) :: l, h => by
    funext k
    simp only [partsK, h o (by simp), partsK_congr (l := l) fun x hx => h x (by simp at hx ⊢; exact .inr hx)]
theorem evX_congr {tt : TT} {hp : Heap} {nm : Nat} {o : Op} {K : R → Option Ob → Prop} (h : ∀ x ∈ o.operands.toList, opK r' x = opK r x) : evX tt r' hp nm o K = evX tt r hp nm o K := by
  cases o <;> simp only [Op.operands] at h <;> (try rfl)
  case build t ps => simp only [evX, partsK_congr (l := ps.toList) fun x hx => h x (by simpa using hx)]
  case buildSlice t n ps => simp only [evX, partsK_congr (l := ps.toList) fun x hx => h x (by simpa using hx)]
  case makeFunc f first caps => simp only [evX, opsK_congr (l := caps.toList) fun x hx => h x (by simp at hx ⊢; exact .inr hx)]
  case slice t x lo hi mx => simp only [evX, h x (by simp), optK_congr (o := lo) fun x hx => h x (by simp at hx ⊢; simp [hx]), optK_congr (o := hi) fun x hx => h x (by simp at hx ⊢; simp [hx]), optK_congr (o := mx) fun x hx => h x (by simp at hx ⊢; simp [hx])]
  case call c => simp only [evX, opsK_congr (l := c.args.toList) fun x hx => h x (by simp [Call.operands] at hx ⊢; exact .inr hx)]
  all_goals (simp at h; simp only [evX, h])
theorem evW_congr {cl : Cl} {tt : TT} {av : List Nat} {hp : Heap} {o : Op} {K : R → Heap → Prop} (h : ∀ x ∈ o.operands.toList, opK r' x = opK r x) : evW cl tt av r' hp o K = evW cl tt av r hp o K := by
  cases o <;> simp only [Op.operands] at h <;> (try rfl)
  case store t a v => simp at h; simp only [evW, h]
  case next it s => cases s <;> first | rfl | (simp at h; simp only [evW, h])
  case call c =>
    have h2 := opsK_congr (l := c.args.toList) fun x hx => h x (by simp [Call.operands] at hx ⊢; exact .inr hx)
    obtain ⟨callee, args, tys⟩ := c
    cases callee with
    | value f => simp only [evW, h2, h f (by simp [Call.operands])]
    | builtin b => cases b <;> simp only [evW, h2]
    | invoke _ _ => rfl
theorem bodyK_congr {cl : Cl} {tt : TT} {hp : Heap} {o : Op} {K : R → Heap → Prop} (h : ∀ x ∈ o.operands.toList, opK r' x = opK r x) : bodyK cl tt r' hp o K = bodyK cl tt r hp o K := by
  simp only [bodyK, evW_congr h, evX_congr h]
end
theorem Tr.get_big : ∀ (d : Nat) (r : Tr d) (t : Nat), 2 ^ d ≤ t → Tr.get d r t = .junk
  | 0, _, 0, h => by simp at h
  | 0, _, _ + 1, _ => rfl
  | d + 1, (a, b), t, h => by
    have hp : 2 ^ (d + 1) = 2 * 2 ^ d := by rw [Nat.pow_succ]; omega
    rcases Nat.mod_two_eq_zero_or_one t with e | e
    · rw [Tr.get_even _ _ e]; exact Tr.get_big d a _ (by omega)
    · rw [Tr.get_odd _ _ e]; exact Tr.get_big d b _ (by omega)
def junkL (d : Nat) : List Nat → Tr d → Tr d
  | [], r => r
  | t :: l, r => if t < 2 ^ d then (junkL d l r).set d t .junk else junkL d l r
theorem get_junkL {r : Tr d} : ∀ (l : List Nat) (t : Nat), (junkL d l r).get d t = if t ∈ l then .junk else r.get d t
  | [], t => by simp [junkL]
  | u :: l, t => by
    unfold junkL
    split
    · rename_i c
      rw [Tr.get_set d _ u _ t c, get_junkL l t]
      by_cases e : t = u <;> simp [e]
    · rename_i c
      rw [get_junkL l t]
      by_cases e : t = u
      · subst e; rw [Tr.get_big d r t (by omega)]; simp
      · simp [e]
theorem kindEq_iff' {a b : IntKind} (h : kindEq a b = true) : a = b := by cases a <;> cases b <;> first | rfl | cases h
theorem sameV_ok {a b : Value} (h : sameV a b = true) : a = b := by
  unfold sameV at h
  split at h <;> (try simp only [Bool.and_eq_true, decide_eq_true_eq, strEq] at h) <;> first
    | rfl
    | (subst h; rfl)
    | (obtain ⟨h1, h2⟩ := h; first | (rw [kindEq_iff' h1, h2]; done) | (rw [Nat.eq_of_beq_eq_true h1, Nat.eq_of_beq_eq_true h2]; done))
    | cases h
theorem sameC_ok {a b : C} (h : sameC a b = true) : a = b := by
  unfold sameC at h
  split at h <;> (try simp only [Bool.and_eq_true, decide_eq_true_eq] at h)
  · rw [sameV_ok h]
  · rw [Nat.eq_of_beq_eq_true h.1, h.2]
  · obtain ⟨h1, h2, h3, h4, h5⟩ := h; rw [Nat.eq_of_beq_eq_true h1, h2, h3, h4, h5]
  · obtain ⟨h1, h2, h3, h4, h5, h6, h7⟩ := h; rw [Nat.eq_of_beq_eq_true h1, h2, h3, h4, h5, h6, h7]
  · rw [Nat.eq_of_beq_eq_true h]
  · rw [Nat.eq_of_beq_eq_true h]
  · rw [Nat.eq_of_beq_eq_true h.1, h.2]
  · cases h
theorem sameSegs_ok : ∀ {l m : List Seg}, sameSegs l m = true → l = m
  | [], [], _ => rfl
  | .c x :: l, .c y :: m, h => by simp only [sameSegs, Bool.and_eq_true] at h; rw [sameC_ok h.1, sameSegs_ok h.2]
  | .arr _ _ :: _, [], h => by cases h
  | .c _ :: _, [], h => by cases h
  | .arr _ _ :: _, .c _ :: _, h => by cases h
  | .arr _ _ :: _, .arr _ _ :: _, h => by cases h
  | .c _ :: _, .arr _ _ :: _, h => by cases h
  | [], .c _ :: _, h => by cases h
  | [], .arr _ _ :: _, h => by cases h
theorem sameT_ok {x y : T} (h : sameT x y = true) : x = y := by
  cases x <;> cases y <;> simp only [sameT] at h <;> first | (rw [sameC_ok h]; done) | (rw [sameSegs_ok h]; done) | cases h
theorem sameTs_ok : ∀ {l m : List T}, sameTs l m = true → l = m
  | [], [], _ => rfl
  | x :: l, y :: m, h => by simp only [sameTs, Bool.and_eq_true] at h; rw [sameT_ok h.1, sameTs_ok h.2]
  | [], _ :: _, h => by cases h
  | _ :: _, [], h => by cases h
theorem sameR_ok {x y : R} (h : sameR x y = true) : x = y := by
  cases x <;> cases y <;> simp only [sameR] at h <;> first | rfl | (rw [sameT_ok h]; done) | (rw [sameTs_ok h]; done) | cases h
/-- What can be compared. -/
def okV : Value → Bool
  | .bool _ | .int _ _ | .string _ | .pointer none | .slice none _ _ | .map none | .chan none | .nilFunc | .nilIface => true
  | _ => false
def okC : C → Bool
  | .v x => okV x
  | .fn (.func _) _ => true
  | .fn _ _ => false
  | _ => true
def okSegs : List Seg → Bool
  | [] => true
  | .c x :: l => okC x && okSegs l
  | _ => false
def okT : T → Bool
  | .one x => okC x
  | .agg l => okSegs l
def okR : R → Bool
  | .junk => true
  | .t x => okT x
  | .tup l => l.all okT
theorem kindEq_refl (k : IntKind) : kindEq k k = true := by cases k <;> rfl
theorem okV_same {v : Value} (h : okV v = true) : sameV v v = true := by
  unfold okV at h
  split at h <;> first | (simp [sameV, kindEq_refl, strEq]; done) | rfl | cases h
theorem okC_same {c : C} (h : okC c = true) : sameC c c = true := by
  unfold okC at h
  split at h
  · exact okV_same h
  · simp [sameC]
  · cases h
  · cases c <;> first | (simp [sameC]; done) | (rename_i h1 h2 h3; first | exact absurd rfl (h1 _) | exact absurd rfl (h3 _ _))
theorem okSegs_same : ∀ {l : List Seg}, okSegs l = true → sameSegs l l = true
  | [], _ => rfl
  | .c x :: l, h => by simp only [okSegs, Bool.and_eq_true] at h; simp [sameSegs, okC_same h.1, okSegs_same h.2]
  | .arr _ _ :: _, h => by cases h
theorem okT_same {x : T} (h : okT x = true) : sameT x x = true := by
  cases x with
  | one c => exact okC_same h
  | agg l => exact okSegs_same h
theorem okTs_same : ∀ {l : List T}, l.all okT = true → sameTs l l = true
  | [], _ => rfl
  | x :: l, h => by simp only [List.all_cons, Bool.and_eq_true] at h; simp [sameTs, okT_same h.1, okTs_same h.2]
/-- The same thing, seen twice. -/
theorem cS {x y : R} {p : Prop} (h1 : x = y) (h2 : okR x = true) (h3 : p) : Cnd (sameR x y) p False := by
  subst h1
  refine cT ?_ h3
  cases x with
  | junk => rfl
  | t x => exact okT_same h2
  | tup l => exact okTs_same h2
end Go.Eng

/- Regions that draw their order: the plan's check, and that it serves. -/
namespace Go.Eng
open Go
variable {d : Nat}
/-! ### The check -/
def preds (o : Oper) : List Nat := (o.after.toList.filter (Region.binds .any)).map (·.on)
def ins : List Nat → List Nat → List Nat
  | acc, [] => acc
  | acc, x :: m => ins (match acc.contains x with | true => acc | false => x :: acc) m
def clo (ops : List Oper) : Nat → List Nat → List Nat
  | 0, l => l
  | n + 1, l => match (l.flatMap fun j => match ops[j]? with | some o => preds o | none => []).filter (fun x => !l.contains x) with
    | [] => l
    | m => clo ops n (ins l m)
def eyes (ops : List Oper) (o : Oper) : List Tmp :=
  (o.op.operands.toList.filterMap fun | .tmp t => some t | _ => none) ++ (match o.guard with | some (g, _) => ((ops[g]?).bind (·.dst)).toList | none => [])
def dstIn (o : Oper) (l : List Tmp) : Bool := match o.dst with | none => false | some t => l.contains t
def dstNe (o o' : Oper) : Bool := match o.dst, o'.dst with | some t, some t' => !(t == t') | _, _ => true
def edgesIn (D : List Nat) (o : Oper) : Bool := (preds o).all fun j => D.contains j
def withOp (ops : List Oper) (i : Nat) (f : Oper → Bool) : Bool := match ops[i]? with | some o => f o | none => false
/-- i does not see what j, not yet done, would write. -/
def blindB (ops : List Oper) (o : Oper) (i j : Nat) : Bool := withOp ops j fun oj => !dstIn oj (eyes ops o) || (!(j == i) && (clo ops ops.length (preds o)).contains j)
def opB (ops : List Oper) (C S : List Nat) (i : Nat) : Bool := withOp ops i fun o => !acts o.op && !makes o.op && !C.contains i && !S.contains i && edgesIn (C ++ S) o &&
  (i :: S).all fun j => blindB ops o i j && withOp ops j fun oj => !dstIn o (eyes ops oj) && (j == i || dstNe o oj)
def chB (ops : List Oper) (C S : List Nat) (i : Nat) : Bool := withOp ops i fun o => !C.contains i && !S.contains i && edgesIn (C ++ S) o && S.all fun j => blindB ops o i j
def factsB (ops : List Oper) (C S F : List Nat) : Bool := let D := clo ops ops.length C; S.all fun i => F.contains i || D.contains i
def satB (ops : List Oper) (C S F pre : List Nat) : Bool := factsB ops C S F && (List.range ops.length).all fun j => C.contains j || S.contains j || pre.contains j || !(withOp ops j fun o => edgesIn (C ++ S) o)
def planB (ops : List Oper) : List Nat → List Nat → List Nat → List Nat → Plan → Bool
  | C, S, F, pre, .stop => pre.isEmpty && satB ops C S F [] && (List.range ops.length).all fun j => C.contains j || S.contains j
  | C, S, F, pre, .nil => !pre.isEmpty && satB ops C S F pre
  | C, S, F, pre, .op i p => pre.isEmpty && opB ops C S i && planB ops C (i :: S) (i :: F) [] p
  | C, S, F, pre, .re i p => pre.isEmpty && S.contains i && planB ops C S (i :: F) [] p
  | C, S, F, pre, .ch i p q => chB ops C S i && planB ops (i :: C) S [] [] p && planB ops C S F (i :: pre) q

/-! ### What it says -/
theorem mem_ins : ∀ {m acc : List Nat} {x : Nat}, x ∈ ins acc m → x ∈ acc ∨ x ∈ m
  | [], acc, x, h => .inl h
  | y :: m, acc, x, h => by
    rcases mem_ins (m := m) h with h | h
    · split at h
      · exact .inl h
      · simp at h; rcases h with rfl | h
        · exact .inr (by simp)
        · exact .inl h
    · exact .inr (by simp [h])
theorem mem_clo {ops : List Oper} {D : Nat → Prop} (hD : ∀ j o, D j → ops[j]? = some o → ∀ e ∈ preds o, D e) : ∀ (n : Nat) (l : List Nat), (∀ j ∈ l, D j) → ∀ j ∈ clo ops n l, D j
  | 0, l, hl, j, hj => hl j hj
  | n + 1, l, hl, j, hj => by
    unfold clo at hj
    split at hj
    · exact hl j hj
    · refine mem_clo hD n _ (fun x hx => ?_) j hj
      rcases mem_ins hx with hx | hx
      · exact hl x hx
      · simp only [List.mem_filter, List.mem_flatMap] at hx
        obtain ⟨⟨y, hy, hx⟩, _⟩ := hx
        split at hx
        · rename_i o ho; exact hD y o (hl y hy) ho x hx
        · cases hx
theorem withOp_iff {ops : List Oper} {i : Nat} {f : Oper → Bool} (h : withOp ops i f = true) : ∃ o, ops[i]? = some o ∧ f o = true := by
  unfold withOp at h
  split at h
  · exact ⟨_, by assumption, h⟩
  · cases h
theorem dstIn_not {o : Oper} {l : List Tmp} (h : dstIn o l = false) {t : Tmp} (ht : o.dst = some t) : t ∉ l := by
  simp only [dstIn, ht] at h; simpa using h
theorem dstNe_iff {o o' : Oper} (h : dstNe o o' = true) {t : Tmp} (ht : o.dst = some t) : o'.dst ≠ some t := by
  intro e
  simp only [dstNe, ht, e] at h
  simp at h
section
variable {P : Program} {tt : TT} {nt : Nat} {ops : Array Oper} {cl : Cl}
def Dn (listed : Array Bool) (j : Nat) : Prop := listed.getD j false = true
def Fact (tt : TT) (ops : List Oper) (r : Tr d) (h : Heap) (i : Nat) : Prop := ∃ o, ops[i]? = some o ∧ acts o.op = false ∧ makes o.op = false ∧
  ((Says ops r o true ∧ evX tt r h 0 o.op fun x b => b = none ∧ ∀ t, o.dst = some t → x = r.get d t) ∨ (Says ops r o false ∧ ∀ t, o.dst = some t → r.get d t = .tup []))
theorem eyes_op {ops : List Oper} {r r' : Tr d} {o : Oper} (h : ∀ t ∈ eyes ops o, r'.get d t = r.get d t) : ∀ x ∈ o.op.operands.toList, opK r' x = opK r x := fun x hx =>
  opK_congr fun t ht => h t (List.mem_append_left _ (List.mem_filterMap.2 ⟨x, hx, by subst ht; rfl⟩))
theorem eyes_says {ops : List Oper} {r r' : Tr d} {o : Oper} (h : ∀ t ∈ eyes ops o, r'.get d t = r.get d t) {c : Bool} (hs : Says ops r o c) : Says ops r' o c := by
  unfold Says at *
  split at hs
  · rename_i e; simpa [e] using hs
  · rename_i j want e
    obtain ⟨g, t, h1, h2, h3⟩ := hs
    refine ⟨g, t, h1, h2, ?_⟩
    rw [h t (List.mem_append_right _ (by simp [e, h1, h2]))]; exact h3
theorem Fact.keep {ops : List Oper} {r r' : Tr d} {h : Heap} {i : Nat} (hf : Fact tt ops r h i) (hs : ∀ o, ops[i]? = some o → ∀ t, t ∈ eyes ops o ∨ o.dst = some t → r'.get d t = r.get d t) : Fact tt ops r' h i := by
  obtain ⟨o, h1, q1, q2, h2⟩ := hf
  have hs := hs o h1
  have hd : ∀ t, o.dst = some t → r'.get d t = r.get d t := fun t ht => hs t (.inr ht)
  have he : ∀ t ∈ eyes ops o, r'.get d t = r.get d t := fun t ht => hs t (.inl ht)
  refine ⟨o, h1, q1, q2, ?_⟩
  rcases h2 with ⟨h2, h3⟩ | ⟨h2, h3⟩
  · refine .inl ⟨eyes_says he h2, ?_⟩
    rw [evX_congr (eyes_op he)]
    have e : (fun (x : R) (b : Option Ob) => b = none ∧ ∀ t, o.dst = some t → x = r'.get d t) = fun x b => b = none ∧ ∀ t, o.dst = some t → x = r.get d t := by
      funext x b
      refine propext ⟨fun ⟨h1, h2⟩ => ⟨h1, fun t ht => by rw [h2 t ht, hd t ht]⟩, fun ⟨h1, h2⟩ => ⟨h1, fun t ht => by rw [h2 t ht, hd t ht]⟩⟩
    rw [e]; exact h3
  · exact .inr ⟨eyes_says he h2, fun t ht => by rw [hd t ht]; exact h3 t ht⟩
/-- The order in which S came: each behind what it waits for. -/
def Topo (ops : List Oper) (C : List Nat) : List Nat → Prop
  | [] => True
  | i :: S => (∀ o, ops[i]? = some o → ∀ j ∈ preds o, j ∈ C ∨ j ∈ S) ∧ Topo ops C S
theorem Topo.mono {ops : List Oper} {C C' : List Nat} (hC : ∀ j ∈ C, j ∈ C') : ∀ {S : List Nat}, Topo ops C S → Topo ops C' S
  | [], _ => trivial
  | _ :: _, h => ⟨fun o ho j hj => (h.1 o ho j hj).imp (hC j) id, Topo.mono hC h.2⟩
/-- If one is not done, one is that may come up. -/
theorem Topo.first {ops : List Oper} {C : List Nat} {D : Nat → Prop} (hC : ∀ j ∈ C, D j) : ∀ {S : List Nat}, Topo ops C S → (∃ j ∈ S, ¬ D j) → ∃ j ∈ S, ¬ D j ∧ ∀ o, ops[j]? = some o → ∀ e ∈ preds o, D e
  | [], _, ⟨_, h, _⟩ => by cases h
  | i :: S, h, hex => by
    by_cases hS : ∃ j ∈ S, ¬ D j
    · obtain ⟨j, h1, h2⟩ := Topo.first hC h.2 hS
      exact ⟨j, by simp [h1], h2⟩
    · have hall : ∀ j ∈ S, D j := fun j hj => Classical.byContradiction fun hn => hS ⟨j, hj, hn⟩
      obtain ⟨j, hj, hn⟩ := hex
      have : j = i := by
        rcases List.mem_cons.1 hj with e | e
        · exact e
        · exact absurd (hall j e) hn
      subst this
      exact ⟨j, by simp, hn, fun o ho e he => (h.1 o ho e he).elim (hC e) (hall e)⟩
structure Inv (tt : TT) (ops : Array Oper) (nt : Nat) (C S F : List Nat) (r : Tr d) (h : Heap) (listed : Array Bool) (a : Act) (w : World) (ρ : Env) : Prop where
  size : listed.size = ops.size
  sub : ∀ j, Dn listed j → j ∈ C ∨ j ∈ S
  sup : ∀ j ∈ C, Dn listed j
  closed : ∀ j o, Dn listed j → ops.toList[j]? = some o → ∀ e ∈ preds o, Dn listed e
  topo : Topo ops.toList C S
  low : ∀ j ∈ S, ∃ o, ops.toList[j]? = some o ∧ acts o.op = false ∧ makes o.op = false
  blind : ∀ i ∈ S, ∀ j ∈ S, ∀ o oj, ops.toList[i]? = some o → ops.toList[j]? = some oj → (∀ t, oj.dst = some t → t ∉ eyes ops.toList o) ∨ (j ≠ i ∧ j ∈ clo ops.toList ops.toList.length (preds o))
  uniq : ∀ i ∈ S, ∀ j ∈ S, i ≠ j → ∀ o oj, ops.toList[i]? = some o → ops.toList[j]? = some oj → ∀ t, o.dst = some t → oj.dst ≠ some t
  small : ∀ j ∈ S, ∀ o, ops.toList[j]? = some o → ∀ t, o.dst = some t → t < nt
  tmps : a.tmps.size = nt
  regs : ∀ t, (∀ j o, j ∈ S → ¬ Dn listed j → ops.toList[j]? = some o → o.dst ≠ some t) → DenR ρ (r.get d t) (a.tmps.getD t undef)
  heap : Rel ρ h w
  calm : a.defers = []
  fs : ∀ i ∈ F, i ∈ S
  facts : ∀ i ∈ F, ¬ Dn listed i → Fact tt ops.toList r h i
end
end Go.Eng

/- Regions that draw their order: a plan that is checked serves every order. -/
namespace Go.Eng
open Go
variable {d : Nat}
section
variable {P : Program} {tt : TT} {nt : Nat} {ops : Array Oper} {cl : Cl} {C S F : List Nat} {r : Tr d} {h : Heap} {listed : Array Bool} {a : Act} {w : World} {ρ : Env} {k : Tr d → Heap → Prop}
theorem Inv.same (hI : Inv tt ops nt C S F r h listed a w ρ) {r' : Tr d} (hs : Same r r') : Inv tt ops nt C S F r' h listed a w ρ :=
  { hI with
    regs := fun t ht => by rw [hs t]; exact hI.regs t ht
    facts := fun i hi hn => (hI.facts i hi hn).keep fun _ _ t _ => hs t }
theorem putR_get {dst : Option Tmp} {x : R} {k : Tr d → Prop} (hk : putR nt r dst x k) : ∃ r', k r' ∧ (∀ t, dst = some t → r'.get d t = x) ∧ (∀ t, dst ≠ some t → r'.get d t = r.get d t) ∧ ∀ t, dst = some t → t < nt := by
  unfold putR at hk
  split at hk
  · exact ⟨r, hk, (fun _ ht => by simp at ht), fun _ _ => rfl, (fun _ ht => by simp at ht)⟩
  · rename_i u
    split at hk
    · rename_i hb
      obtain ⟨h1, h2⟩ := (Tr.setK_iff d r u _ _).1 hk
      refine ⟨_, h2, fun t ht => ?_, fun t ht => ?_, fun t ht => ?_⟩
      · injection ht with ht; subst ht; rw [Tr.get_set d r u x u h1, if_pos rfl]
      · rw [Tr.get_set d r u x t h1, if_neg (fun e => ht (by rw [e]))]
      · injection ht with ht; subst ht; exact Nat.le_of_ble_eq_true hb
    · exact hk.elim
def head : Plan → Prop
  | .stop | .ch _ _ _ => True
  | _ => False
theorem Inv.op (hI : Inv tt ops nt C S F r h listed a w ρ) {i : Nat} (hB : opB ops.toList C S i = true) {o : Oper} (ho : ops.toList[i]? = some o) {r2 : Tr d} (h2 : ∀ t, o.dst ≠ some t → r2.get d t = r.get d t) (hnt : ∀ t, o.dst = some t → t < nt)
    (hf : (∀ t ∈ eyes ops.toList o, r2.get d t = r.get d t) → Fact tt ops.toList r2 h i) : Inv tt ops nt C (i :: S) (i :: F) r2 h listed a w ρ := by
  obtain ⟨o', ho', hB⟩ := withOp_iff hB
  rw [ho] at ho'; injection ho' with e; subst e
  simp only [Bool.and_eq_true, Bool.not_eq_true', List.all_eq_true] at hB
  obtain ⟨⟨⟨⟨⟨q1, q2⟩, q3⟩, q4⟩, q5⟩, q6⟩ := hB
  have q3 : i ∉ C := by simpa using q3
  have q4 : i ∉ S := by simpa using q4
  have hn : ¬ Dn listed i := fun hd => (hI.sub i hd).elim q3 q4
  have hpre : ∀ j ∈ preds o, j ∈ C ∨ j ∈ S := fun j hj => by
    have := q5; simp only [edgesIn, List.all_eq_true] at this
    simpa using this j hj
  have see : ∀ j ∈ i :: S, ∀ oj, ops.toList[j]? = some oj → (∀ t, o.dst = some t → t ∉ eyes ops.toList oj) ∧ (j ≠ i → ∀ t, o.dst = some t → oj.dst ≠ some t) ∧ ((∀ t, oj.dst = some t → t ∉ eyes ops.toList o) ∨ (j ≠ i ∧ j ∈ clo ops.toList ops.toList.length (preds o))) := fun j hj oj hoj => by
    obtain ⟨c1, c2⟩ := q6 j hj
    obtain ⟨oj', e1, c1⟩ := withOp_iff c1
    rw [hoj] at e1; injection e1 with e; subst e
    obtain ⟨oj', e1, c2⟩ := withOp_iff c2
    rw [hoj] at e1; injection e1 with e; subst e
    simp only [Bool.and_eq_true, Bool.not_eq_true', Bool.or_eq_true, beq_iff_eq] at c1 c2
    refine ⟨fun t ht => dstIn_not c2.1 ht, fun hji t ht => dstNe_iff (c2.2.resolve_left hji) ht, ?_⟩
    rcases c1 with c1 | c1
    · exact .inl fun t ht => dstIn_not c1 ht
    · exact .inr ⟨by simpa using c1.1, by simpa using c1.2⟩
  have ownEyes : ∀ t ∈ eyes ops.toList o, r2.get d t = r.get d t := fun t ht => h2 t fun e => (see i (by simp) o ho).1 t e ht
  exact { hI with
    sub := fun j hj => (hI.sub j hj).imp id fun h => by simp [h]
    topo := ⟨fun o' e j hj => by rw [ho] at e; injection e with e; subst e; exact hpre j hj, hI.topo⟩
    low := fun j hj => by
      rcases List.mem_cons.1 hj with rfl | hj
      · exact ⟨o, ho, q1, q2⟩
      · exact hI.low j hj
    blind := fun x hx y hy ox oy e1 e2 => by
      rcases List.mem_cons.1 hx with rfl | hx'
      · rw [ho] at e1; injection e1 with e; subst e
        exact (see y hy oy e2).2.2
      · rcases List.mem_cons.1 hy with rfl | hy'
        · rw [ho] at e2; injection e2 with e; subst e
          exact .inl (see x hx ox e1).1
        · exact hI.blind x hx' y hy' ox oy e1 e2
    uniq := fun x hx y hy hne ox oy e1 e2 t ht => by
      rcases List.mem_cons.1 hx with rfl | hx'
      · rw [ho] at e1; injection e1 with e; subst e
        exact (see y hy oy e2).2.1 (Ne.symm hne) t ht
      · rcases List.mem_cons.1 hy with rfl | hy'
        · rw [ho] at e2; injection e2 with e; subst e
          intro ht'
          exact (see x hx ox e1).2.1 hne t ht' ht
        · exact hI.uniq x hx' y hy' hne ox oy e1 e2 t ht
    small := fun j hj oj hoj => by
      rcases List.mem_cons.1 hj with rfl | hj
      · rw [ho] at hoj; injection hoj with e; subst e; exact hnt
      · exact hI.small j hj oj hoj
    regs := fun t ht => by
      rw [h2 t (ht i o (by simp) hn ho)]
      exact hI.regs t fun j oj hj hnj e => ht j oj (by simp [hj]) hnj e
    fs := fun j hj => by
      rcases List.mem_cons.1 hj with rfl | hj
      · simp
      · simp [hI.fs j hj]
    facts := fun j hj hnj => by
      rcases List.mem_cons.1 hj with rfl | hj
      · exact hf ownEyes
      · have hjS := hI.fs j hj
        have hji : j ≠ i := fun e => q4 (e ▸ hjS)
        refine (hI.facts j hj hnj).keep fun oj e t ht => h2 t fun hd => ?_
        have := see j (by simp [hjS]) oj e
        rcases ht with ht | ht
        · exact this.1 t hd ht
        · exact this.2.1 hji t hd ht }
theorem sameK_ok {dst : Option Tmp} {x : R} {p : Prop} (hk : sameK r dst x p) : (∀ t, dst = some t → x = r.get d t) ∧ p := by
  unfold sameK at hk
  split at hk
  · exact ⟨fun t ht => by (try simp at ht), hk⟩
  · rename_i u
    rw [Tr.getK_eq] at hk
    obtain ⟨h1, h2⟩ := Chk_ok hk
    exact ⟨fun t ht => by injection ht with ht; subst ht; exact sameR_ok h1, h2⟩
theorem virt : ∀ (p : Plan) (S F : List Nat) (r : Tr d), planB ops.toList C S F [] p = true → evPlan cl tt nt ops.toList p r h k → Inv tt ops nt C S F r h listed a w ρ →
    ∃ p' S' F' r', head p' ∧ planB ops.toList C S' F' [] p' = true ∧ evPlan cl tt nt ops.toList p' r' h k ∧ Inv tt ops nt C S' F' r' h listed a w ρ
  | .stop, S, F, r, hB, hk, hI => ⟨.stop, S, F, r, trivial, hB, hk, hI⟩
  | .ch i p q, S, F, r, hB, hk, hI => ⟨.ch i p q, S, F, r, trivial, hB, hk, hI⟩
  | .nil, S, F, r, hB, hk, hI => by simp [planB] at hB
  | .op i p, S, F, r, hB, hk, hI => by
    simp only [planB, Bool.and_eq_true] at hB
    obtain ⟨⟨_, hB⟩, hp⟩ := hB
    obtain ⟨o, ho, hk⟩ := nthK_ok hk
    obtain ⟨o', ho', hq⟩ := withOp_iff hB
    rw [ho] at ho'; injection ho' with e; subst e
    simp only [Bool.and_eq_true, Bool.not_eq_true'] at hq
    have q1 := hq.1.1.1.1.1
    have q2 := hq.1.1.1.1.2
    obtain ⟨r1, c, g1, g2, g3⟩ := guardK_ok hk
    cases c with
    | true =>
      obtain ⟨⟨x, b⟩, k1, k2⟩ := det_evX tt r1 h o.op q2 (fun y => match y.2 with
        | none => putR nt r1 o.dst y.1 fun r => evPlan cl tt nt ops.toList p r h k
        | some _ => False) g3
      cases b with
      | some b => exact k1.elim
      | none =>
        obtain ⟨r2, e1, e2, e3, e4⟩ := putR_get k1
        have e5 : ∀ t, o.dst ≠ some t → r2.get d t = r.get d t := fun t ht => (e3 t ht).trans (g1 t)
        refine virt p _ _ r2 hp e1 (hI.op hB ho e5 e4 fun he => ⟨o, ho, q1, q2, .inl ⟨eyes_says he g2, ?_⟩⟩)
        have := k2 (fun y => y.2 = none ∧ ∀ t, o.dst = some t → y.1 = r2.get d t) ⟨rfl, fun t ht => (e2 t ht).symm⟩
        rw [evX_congr (r := r1) (eyes_op fun t ht => (he t ht).trans (g1 t).symm)]
        exact this
    | false =>
      obtain ⟨r2, e1, e2, e3, e4⟩ := putR_get g3
      have e5 : ∀ t, o.dst ≠ some t → r2.get d t = r.get d t := fun t ht => (e3 t ht).trans (g1 t)
      exact virt p _ _ r2 hp e1 (hI.op hB ho e5 e4 fun he => ⟨o, ho, q1, q2, .inr ⟨eyes_says he g2, e2⟩⟩)
  | .re i p, S, F, r, hB, hk, hI => by
    simp only [planB, Bool.and_eq_true] at hB
    obtain ⟨⟨_, hB⟩, hp⟩ := hB
    have hB : i ∈ S := by simpa using hB
    obtain ⟨o, ho, hk⟩ := nthK_ok hk
    obtain ⟨o', ho', q1, q2⟩ := hI.low i hB
    rw [ho] at ho'; injection ho' with e; subst e
    obtain ⟨r1, c, g1, g2, g3⟩ := guardK_ok hk
    have fin : Fact tt ops.toList r1 h i → Inv tt ops nt C S (i :: F) r1 h listed a w ρ := fun hf =>
      { hI.same g1 with
        fs := fun j hj => by
          rcases List.mem_cons.1 hj with rfl | hj
          · exact hB
          · exact hI.fs j hj
        facts := fun j hj hn => by
          rcases List.mem_cons.1 hj with rfl | hj
          · exact hf
          · exact (hI.same g1).facts j hj hn }
    have g2' : ∀ {c}, Says ops.toList r o c → Says ops.toList r1 o c := fun hs => eyes_says (fun t _ => g1 t) hs
    cases c with
    | true =>
      obtain ⟨⟨x, b⟩, k1, k2⟩ := det_evX tt r1 h o.op q2 (fun y => match y.2 with
        | none => sameK r1 o.dst y.1 (evPlan cl tt nt ops.toList p r1 h k)
        | some _ => False) g3
      cases b with
      | some b => exact k1.elim
      | none =>
        obtain ⟨e1, e2⟩ := sameK_ok k1
        exact virt p _ _ r1 hp e2 (fin ⟨o, ho, q1, q2, .inl ⟨g2' g2, k2 (fun y => y.2 = none ∧ ∀ t, o.dst = some t → y.1 = r1.get d t) ⟨rfl, e1⟩⟩⟩)
    | false =>
      obtain ⟨e1, e2⟩ := sameK_ok g3
      exact virt p _ _ r1 hp e2 (fin ⟨o, ho, q1, q2, .inr ⟨g2' g2, fun t ht => (e1 t ht).symm⟩⟩)
def Branch (cl : Cl) (tt : TT) (nt : Nat) (ops : Array Oper) (C S : List Nat) (r : Tr d) (h : Heap) (k : Tr d → Heap → Prop) (j : Nat) : Prop :=
  ∃ o p, ops.toList[j]? = some o ∧ chB ops.toList C S j = true ∧ planB ops.toList (j :: C) S [] [] p = true ∧ stepK cl tt nt ops.toList o r h fun r h => evPlan cl tt nt ops.toList p r h k
theorem evPlan_ch {i : Nat} {p q : Plan} (hk : evPlan cl tt nt ops.toList (.ch i p q) r h k) : (nthK ops.toList i fun o => stepK cl tt nt ops.toList o r h fun r h => evPlan cl tt nt ops.toList p r h k) ∧ evPlan cl tt nt ops.toList q r h k := by
  cases q with
  | nil => exact ⟨hk, trivial⟩
  | _ => exact hk
theorem branches : ∀ (p : Plan) (pre : List Nat), (head p ∨ pre ≠ []) → planB ops.toList C S F pre p = true → evPlan cl tt nt ops.toList p r h k → (∀ j ∈ pre, Branch cl tt nt ops C S r h k j) →
    ∃ pre', satB ops.toList C S F pre' = true ∧ ∀ j ∈ pre', Branch cl tt nt ops C S r h k j
  | .stop, pre, _, hB, _, _ => by
    simp only [planB, Bool.and_eq_true] at hB
    exact ⟨[], hB.1.2, fun j hj => by cases hj⟩
  | .nil, pre, _, hB, _, hpre => by
    simp only [planB, Bool.and_eq_true] at hB
    exact ⟨pre, hB.2, hpre⟩
  | .op i p, pre, hh, hB, _, _ => by
    simp only [planB, Bool.and_eq_true] at hB
    rcases hh with hh | hh
    · exact hh.elim
    · exact absurd (List.isEmpty_iff.1 hB.1.1) hh
  | .re i p, pre, hh, hB, _, _ => by
    simp only [planB, Bool.and_eq_true] at hB
    rcases hh with hh | hh
    · exact hh.elim
    · exact absurd (List.isEmpty_iff.1 hB.1.1) hh
  | .ch i p q, pre, _, hB, hk, hpre => by
    simp only [planB, Bool.and_eq_true] at hB
    obtain ⟨⟨h1, h2⟩, h3⟩ := hB
    obtain ⟨k1, k2⟩ := evPlan_ch hk
    refine branches q (i :: pre) (.inr (by simp)) h3 k2 fun j hj => ?_
    rcases List.mem_cons.1 hj with e | hj
    · subst e
      obtain ⟨o, ho, k1⟩ := nthK_ok k1
      exact ⟨o, p, ho, h1, h2, k1⟩
    · exact hpre j hj
end
end Go.Eng

/- Regions that draw their order: the theorem. -/
namespace Go.Eng
open Go
variable {d : Nat}
section
variable {P : Program} {tt : TT} {nt : Nat} {ops : Array Oper} {cl : Cl} {C S F : List Nat} {r : Tr d} {h : Heap} {listed : Array Bool} {a : Act} {w : World} {ρ : Env} {k : Tr d → Heap → Prop}
/-! ### How many are left -/
def left (listed : Array Bool) : Nat → Nat
  | 0 => 0
  | n + 1 => left listed n + (if listed.getD n false then 0 else 1)
theorem left_zero : ∀ {n : Nat}, left listed n = 0 → ∀ j, j < n → Dn listed j
  | n + 1, h0, j, hj => by
    simp only [left] at h0
    by_cases e : j = n
    · subst e
      unfold Dn
      by_cases c : listed.getD j false = true
      · exact c
      · rw [if_neg c] at h0; omega
    · exact left_zero (n := n) (by omega) j (by omega)
theorem Dn_set {i j : Nat} (hj : j < listed.size) : Dn (listed.setIfInBounds j true) i ↔ i = j ∨ Dn listed i := by
  unfold Dn
  by_cases e : i = j
  · subst e; simp [hj]
  · simp [Array.getElem?_setIfInBounds_ne (Ne.symm e), e]
theorem left_mono {j : Nat} (hj : j < listed.size) : ∀ n, left (listed.setIfInBounds j true) n ≤ left listed n
  | 0 => Nat.le_refl _
  | n + 1 => by
    simp only [left]
    have h1 := left_mono hj n
    have h2 := Dn_set (i := n) hj
    unfold Dn at h2
    by_cases c : listed.getD n false = true
    · rw [if_pos (h2.2 (.inr c)), if_pos c]; omega
    · rw [if_neg c]; split <;> omega
theorem left_set {j : Nat} (hj : j < listed.size) (hn : ¬ Dn listed j) : ∀ n, j < n → left (listed.setIfInBounds j true) n < left listed n
  | n + 1, h => by
    simp only [left]
    have h2 := Dn_set (i := n) hj
    unfold Dn at h2
    by_cases e : j = n
    · subst e
      have h1 := left_mono hj j
      rw [if_pos (h2.2 (.inl rfl)), if_neg (show ¬ listed.getD j false = true from hn)]; omega
    · have h1 := left_set hj hn n (by omega)
      by_cases c : listed.getD n false = true
      · rw [if_pos (h2.2 (.inr c)), if_pos c]; omega
      · rw [if_neg c]; split <;> omega
/-! ### One real step -/
theorem mem_readyE {j : Nat} (hsz : listed.size = ops.size) : j ∈ Region.ready .any ops listed ↔ ∃ o, ops.toList[j]? = some o ∧ ¬ Dn listed j ∧ ∀ e ∈ preds o, Dn listed e := by
  rw [mem_ready]
  have hd : ∀ o, ops[j]? = some o → (listed.getD j true = false ↔ ¬ Dn listed j) := fun o ho => by
    have hlt : j < listed.size := by rw [hsz]; exact (Array.getElem?_eq_some_iff.1 ho).1
    unfold Dn
    simp [hlt]
  constructor
  · rintro ⟨h1, o, h2, h3⟩
    refine ⟨o, by simpa using h2, (hd o h2).1 h1, fun e he => ?_⟩
    obtain ⟨ed, hed, rfl⟩ := List.mem_map.1 he
    have := List.mem_filter.1 hed
    exact h3 ed (by simpa using this.1) this.2
  · rintro ⟨o, h1, h2, h3⟩
    have h1' : ops[j]? = some o := by simpa using h1
    exact ⟨(hd o h1').2 h2, o, h1', fun e he hb => h3 e.on (List.mem_map.2 ⟨e, List.mem_filter.2 ⟨by simpa using he, hb⟩, rfl⟩)⟩
/-- The temporaries, those that are still to come left out. -/
def waiting (ops : Array Oper) (S : List Nat) (listed : Array Bool) : List Nat := S.filterMap fun i => match listed.getD i false with | true => none | false => (ops.toList[i]?).bind (·.dst)
theorem mem_waiting {t : Nat} : t ∈ waiting ops S listed ↔ ∃ i o, i ∈ S ∧ ¬ Dn listed i ∧ ops.toList[i]? = some o ∧ o.dst = some t := by
  unfold waiting Dn
  rw [List.mem_filterMap]
  constructor
  · rintro ⟨i, hi, e⟩
    split at e
    · cases e
    · rename_i hd
      cases ho : ops.toList[i]? with
      | none => rw [ho] at e; cases e
      | some o => rw [ho] at e; exact ⟨i, o, hi, by rw [hd]; simp, ho, e⟩
  · rintro ⟨i, o, hi, hd, ho, e⟩
    refine ⟨i, hi, ?_⟩
    have : listed.getD i false = false := by simpa using hd
    rw [this]; simp [ho, e]
theorem Inv.regsJ (hI : Inv tt ops nt C S F r h listed a w ρ) : RelR ρ nt (junkL d (waiting ops S listed) r) a.tmps := ⟨hI.tmps, fun t => by
  rw [get_junkL]
  split
  · trivial
  · rename_i hn
    exact hI.regs t fun j o hj hd ho e => hn (mem_waiting.2 ⟨j, o, hj, hd, ho, e⟩)⟩
theorem Inv.seesJ (hI : Inv tt ops nt C S F r h listed a w ρ) {o : Oper} {i : Nat} (hp : ∀ e ∈ preds o, Dn listed e) (hb : ∀ j ∈ S, ∀ oj, ops.toList[j]? = some oj → (∀ t, oj.dst = some t → t ∉ eyes ops.toList o) ∨ (j ≠ i ∧ j ∈ clo ops.toList ops.toList.length (preds o))) :
    ∀ t ∈ eyes ops.toList o, (junkL d (waiting ops S listed) r).get d t = r.get d t := fun t ht => by
  rw [get_junkL, if_neg]
  intro hm
  obtain ⟨j, oj, hj, hd, ho, e⟩ := mem_waiting.1 hm
  rcases hb j hj oj ho with c | ⟨_, c⟩
  · exact c t e ht
  · exact hd (mem_clo hI.closed _ _ hp j c)
theorem Inv.done (hI : Inv tt ops nt C S F r h listed a w ρ) {j : Nat} {o : Oper} (hn : ¬ Dn listed j) (ho : ops.toList[j]? = some o) (hp : ∀ e ∈ preds o, Dn listed e) {C' F' : List Nat} (hC1 : ∀ i ∈ C', i ∈ C ∨ i = j) (hC2 : ∀ i ∈ C, i ∈ C') (hj : j ∈ C' ∨ j ∈ S)
    {r2 : Tr d} {h' : Heap} {w' : World} {ρ' : Env} {v : Value} (hr2 : ∀ t, o.dst ≠ some t → r2.get d t = r.get d t) (hx : ∀ t, o.dst = some t → DenR ρ' (r2.get d t) v ∧ t < nt) (hs : Sub ρ ρ') (hh : Rel ρ' h' w')
    (hF : ∀ i ∈ F', i ∈ S) (hf : ∀ i ∈ F', ¬ Dn (listed.setIfInBounds j true) i → Fact tt ops.toList r2 h' i) : Inv tt ops nt C' S F' r2 h' (listed.setIfInBounds j true) (a.put o.dst v) w' ρ' := by
  have hlt : j < listed.size := by
    rw [hI.size]
    have := (List.getElem?_eq_some_iff.1 ho).1
    simpa using this
  have hD := fun i => Dn_set (i := i) hlt
  exact {
    size := by simpa using hI.size
    sub := fun i hi => by
      rcases (hD i).1 hi with rfl | hi
      · exact hj
      · exact (hI.sub i hi).imp (hC2 i) id
    sup := fun i hi => (hD i).2 ((hC1 i hi).elim (fun h => .inr (hI.sup i h)) .inl)
    closed := fun i oi hi hoi e he => by
      rcases (hD i).1 hi with rfl | hi
      · rw [ho] at hoi; injection hoi with hoi; subst hoi
        exact (hD e).2 (.inr (hp e he))
      · exact (hD e).2 (.inr (hI.closed i oi hi hoi e he))
    topo := hI.topo.mono hC2
    low := hI.low
    blind := hI.blind
    uniq := hI.uniq
    small := hI.small
    tmps := by cases o.dst <;> simp [Act.put, hI.tmps]
    regs := fun t ht => by
      by_cases e : o.dst = some t
      · obtain ⟨h1, h2⟩ := hx t e
        rw [e]
        simpa [Act.put, hI.tmps, h2] using h1
      · have h1 := hI.regs t fun i oi hi hdi hoi => by
          by_cases eij : i = j
          · subst eij; rw [ho] at hoi; injection hoi with hoi; subst hoi; exact e
          · exact ht i oi hi (fun hd => ((hD i).1 hd).elim eij hdi) hoi
        rw [hr2 t e]
        have h2 : (a.put o.dst v).tmps.getD t undef = a.tmps.getD t undef := by
          cases hd : o.dst with
          | none => rfl
          | some u =>
            have : u ≠ t := fun c => e (by rw [hd, c])
            simp [Act.put, Array.getElem?_setIfInBounds_ne this]
        rw [h2]
        exact h1.mono hs
    heap := hh
    calm := by cases o.dst <;> exact hI.calm
    fs := hF
    facts := hf }
theorem fact_fires (hT : TTok P tt) (hI : Inv tt ops nt C S F r h listed a w ρ) {j : Nat} (hj : j ∈ S) (hF : Fact tt ops.toList r h j) (hn : ¬ Dn listed j) {o : Oper} (ho : ops.toList[j]? = some o) (hp : ∀ e ∈ preds o, Dn listed e) {Q : Exit → Act → World → Prop} {Kc : Act → World → Prop}
    (hK : ∀ a', Inv tt ops nt C S F r h (listed.setIfInBounds j true) a' w ρ → Kc a' w) : wpOp P ops Q j Kc a w := by
  obtain ⟨o', ho', q1, q2, hF⟩ := hF
  rw [ho] at ho'; injection ho' with e; subst e
  have hlt : j < listed.size := by
    rw [hI.size]
    have := (List.getElem?_eq_some_iff.1 ho).1
    simpa using this
  have hsee := hI.seesJ (o := o) (i := j) hp fun i hi oi hoi => hI.blind j hj i hi o oi ho hoi
  have next : ∀ v, (∀ t, o.dst = some t → DenR ρ (r.get d t) v) → Kc (a.put o.dst v) w := fun v hv => hK _ (hI.done hn ho hp (fun i hi => .inl hi) (fun i hi => hi) (.inr hj) (fun _ _ => rfl) (fun t ht => ⟨hv t ht, hI.small j hj o ho t ht⟩) (Sub.refl _) hI.heap hI.fs fun i hi hd => hI.facts i hi fun hd' => hd ((Dn_set hlt).2 (.inr hd')))
  unfold wpOp
  have ho'' : ops[j]? = some o := by simpa using ho
  rw [ho'']
  rcases hF with ⟨h1, h2⟩ | ⟨h1, h2⟩
  · simp only [(eyes_says hsee h1).wanted hI.regsJ, if_true]
    refine .inl ?_
    rw [← evX_congr (eyes_op hsee)] at h2
    obtain ⟨x, b, v, w', e1, ⟨rfl, e2⟩, e3, e4⟩ := evX_ok (P := P) hT hI.regsJ hI.heap h2
    unfold Oper.wp
    rw [e1, e3]
    exact next v fun t ht => by rw [← e2 t ht]; exact e4
  · simp only [(eyes_says hsee h1).wanted hI.regsJ, Bool.false_eq_true, if_false]
    exact next undef fun t ht => by rw [h2 t ht]; exact ⟨#[], rfl, trivial⟩
theorem branch_fires (hc : ClOk P cl) (hT : TTok P tt) (hI : Inv tt ops nt C S F r h listed a w ρ) {j : Nat} {o : Oper} (hn : ¬ Dn listed j) (ho : ops.toList[j]? = some o) (hp : ∀ e ∈ preds o, Dn listed e) (hB : chB ops.toList C S j = true) {kk : Tr d → Heap → Prop} (hk : stepK cl tt nt ops.toList o r h kk) {Q : Exit → Act → World → Prop} {Kc : Act → World → Prop}
    (hK : ∀ r2 h' a' w' ρ', kk r2 h' → Inv tt ops nt (j :: C) S [] r2 h' (listed.setIfInBounds j true) a' w' ρ' → Grow ρ h w ρ' h' w' → Kc a' w') : wpOp P ops Q j Kc a w := by
  obtain ⟨o', ho', hB⟩ := withOp_iff hB
  rw [ho] at ho'; injection ho' with e; subst e
  simp only [Bool.and_eq_true, List.all_eq_true] at hB
  have hsee := hI.seesJ (o := o) (i := j) hp fun i hi oi hoi => by
    obtain ⟨oj', e1, c1⟩ := withOp_iff (hB.2 i hi)
    rw [hoi] at e1; injection e1 with e; subst e
    simp only [Bool.and_eq_true, Bool.not_eq_true', Bool.or_eq_true] at c1
    rcases c1 with c1 | c1
    · exact .inl fun t ht => dstIn_not c1 ht
    · exact .inr ⟨by simpa using c1.1, by simpa using c1.2⟩
  obtain ⟨r1, c, g1, g2, g3⟩ := guardK_ok hk
  have next : ∀ x v h' w' ρ', putR nt r1 o.dst x (fun r => kk r h') → Rel ρ' h' w' → Grow ρ h w ρ' h' w' → DenR ρ' x v → Kc (a.put o.dst v) w' := fun x v h' w' ρ' k1 k2 k3 k4 => by
    obtain ⟨r2, e1, e2, e3, e4⟩ := putR_get k1
    exact hK r2 h' _ w' ρ' e1 (hI.done hn ho hp (fun i hi => by rcases List.mem_cons.1 hi with e | e; exact .inr e; exact .inl e) (fun i hi => by simp [hi]) (.inl (by simp)) (fun t ht => (e3 t ht).trans (g1 t)) (fun t ht => ⟨by rw [e2 t ht]; exact k4, e4 t ht⟩) k3.sub k2 (fun i hi => by cases hi) fun i hi => by cases hi) k3
  unfold wpOp
  have ho'' : ops[j]? = some o := by simpa using ho
  rw [ho'']
  simp only [(eyes_says hsee g2).wanted hI.regsJ]
  cases c with
  | true =>
    rw [if_pos rfl]
    refine .inl ?_
    have hb : bodyK cl tt (junkL d (waiting ops S listed) r) h o.op fun x h => putR nt r1 o.dst x fun r => kk r h := by
      rw [bodyK_congr (r := r1) (eyes_op fun t ht => (hsee t ht).trans (g1 t).symm)]
      exact g3
    exact (bodyK_ok hc hT hI.regsJ hI.heap hb).wp fun x ρ' h' v w' k1 k2 k3 k4 => next x v h' w' ρ' k1 k2 k3 k4
  | false =>
    rw [if_neg (by simp)]
    exact next (.tup []) undef h w ρ g3 hI.heap (Grow.refl _ _ _) ⟨#[], rfl, trivial⟩
theorem wpAny_plan (hc : ClOk P cl) (hT : TTok P tt) {Q : Exit → Act → World → Prop} {w0 : World} {ρ0 : Env} {h0 : Heap} (fin : ∀ ρ' r' h' a' w', k r' h' → At ρ' nt r' h' a' w' → Grow ρ0 h0 w0 ρ' h' w' → Q .normal a' w') :
    ∀ (fuel : Nat) (p : Plan) (C S F : List Nat) (r : Tr d) (h : Heap) (listed : Array Bool) (a : Act) (w : World) (ρ : Env), planB ops.toList C S F [] p = true → evPlan cl tt nt ops.toList p r h k →
      Inv tt ops nt C S F r h listed a w ρ → Grow ρ0 h0 w0 ρ h w → left listed ops.size ≤ fuel → wpAny P .any ops Q fuel listed a w := by
  intro fuel
  induction fuel with
  | zero =>
    intro p C S F r h listed a w ρ hB hk hI hG hl
    obtain ⟨p, S, F, r, hh, hB, hk, hI⟩ := virt p S F r hB hk hI
    have hall : ∀ j o, ops.toList[j]? = some o → Dn listed j := fun j o ho => left_zero (n := ops.size) (by omega) j (by have := (List.getElem?_eq_some_iff.1 ho).1; simpa using this)
    refine ⟨?_, ?_⟩
    · refine List.eq_nil_iff_forall_not_mem.2 fun j hj => ?_
      obtain ⟨o, h1, h2, _⟩ := (mem_readyE hI.size).1 hj
      exact h2 (hall j o h1)
    · cases p with
      | stop => exact fin ρ r h a w hk ⟨⟨hI.tmps, fun t => hI.regs t fun j o _ hn ho => absurd (hall j o ho) hn⟩, hI.heap, hI.calm⟩ hG
      | ch i p q =>
        simp only [planB, Bool.and_eq_true] at hB
        obtain ⟨o, ho, hq⟩ := withOp_iff hB.1.1
        simp only [Bool.and_eq_true, Bool.not_eq_true'] at hq
        have := hI.sub i (hall i o ho)
        simp at hq
        rcases this with e | e
        · exact absurd e hq.1.1.1
        · exact absurd e hq.1.1.2
      | _ => exact hh.elim
  | succ fuel ih =>
    intro p C S F r h listed a w ρ hB hk hI hG hl
    obtain ⟨p, S, F, r, hh, hB, hk, hI⟩ := virt p S F r hB hk hI
    obtain ⟨pre, hsat, hbr⟩ := branches p [] (.inl hh) hB hk (fun j hj => by cases hj)
    simp only [satB, Bool.and_eq_true, List.all_eq_true, factsB] at hsat
    obtain ⟨hfacts, hsat⟩ := hsat
    refine ⟨fun hnil => ?_, fun j hj => ?_⟩
    · have hS : ∀ j ∈ S, Dn listed j := fun j hj => Classical.byContradiction fun hn => by
        obtain ⟨i, h1, h2, h3⟩ := hI.topo.first hI.sup ⟨j, hj, hn⟩
        obtain ⟨o, ho, _⟩ := hI.low i h1
        have := (mem_readyE hI.size).2 ⟨o, ho, h2, h3 o ho⟩
        rw [hnil] at this; cases this
      cases p with
      | stop => exact fin ρ r h a w hk ⟨⟨hI.tmps, fun t => hI.regs t fun j o hj hn ho => absurd (hS j hj) hn⟩, hI.heap, hI.calm⟩ hG
      | ch i p q =>
        simp only [planB, Bool.and_eq_true] at hB
        obtain ⟨o, ho, hq⟩ := withOp_iff hB.1.1
        simp only [Bool.and_eq_true, Bool.not_eq_true'] at hq
        have he := hq.1.2
        simp only [edgesIn, List.all_eq_true] at he
        simp at hq
        have hi : ¬ Dn listed i := fun hd => (hI.sub i hd).elim hq.1.1.1 hq.1.1.2
        have := (mem_readyE hI.size).2 ⟨o, ho, hi, fun e hm => by
          have := he e hm
          simp at this
          exact this.elim (hI.sup e) (hS e)⟩
        rw [hnil] at this; cases this
      | _ => exact hh.elim
    · obtain ⟨o, ho, hn, hp⟩ := (mem_readyE hI.size).1 hj
      have hjn : j < ops.size := by have := (List.getElem?_eq_some_iff.1 ho).1; simpa using this
      have hjl : j < listed.size := by rw [hI.size]; exact hjn
      have hleft : left (listed.setIfInBounds j true) ops.size ≤ fuel := by have := left_set hjl hn ops.size hjn; omega
      by_cases hjS : j ∈ S
      · have hF : j ∈ F := by
          have := hfacts j hjS
          simp only [Bool.or_eq_true] at this
          rcases this with h1 | h1
          · simpa using h1
          · exact absurd (mem_clo hI.closed _ _ hI.sup j (by simpa using h1)) hn
        exact fact_fires hT hI hjS (hI.facts j hF hn) hn ho hp fun a' hI' => ih p C S F r h _ a' w ρ hB hk hI' hG hleft
      · have hjC : j ∉ C := fun hc => hn (hI.sup j hc)
        have hjp : j ∈ pre := by
          have := hsat j (by simpa using hjn)
          simp only [Bool.or_eq_true, Bool.not_eq_true'] at this
          rcases this with ((h1 | h1) | h1) | h1
          · exact absurd (by simpa using h1) hjC
          · exact absurd (by simpa using h1) hjS
          · simpa using h1
          · exfalso
            have : withOp ops.toList j (fun o => edgesIn (C ++ S) o) = true := by
              simp only [withOp, ho, edgesIn, List.all_eq_true]
              intro e he
              have := hI.sub e (hp e he)
              simpa using this
            rw [this] at h1; cases h1
        obtain ⟨o', p', ho', b1, b2, b3⟩ := hbr j hjp
        rw [ho] at ho'; injection ho' with e; subst e
        exact branch_fires hc hT hI hn ho hp b1 b3 fun r2 h' a' w' ρ' k1 k2 k3 => ih p' _ _ _ r2 h' _ a' w' ρ' b2 k1 k2 (hG.trans k3) hleft
theorem drew_at (hA : At ρ nt r h a w) : At ρ nt r h a { w with drawn := w.drawn + 1 } := ⟨hA.regs, ⟨hA.heap.fresh, fun n ob hn => (hA.heap.obs n ob hn).keep (Sub.refl _) (Nat.le_refl _) fun _ _ _ _ => rfl, hA.heap.inj, hA.heap.apart⟩, hA.calm⟩
theorem drew_grow : Grow ρ h w ρ h { w with drawn := w.drawn + 1 } := ⟨Sub.refl _, rfl, rfl, rfl, fun _ _ => rfl, Nat.le_refl _, fun _ _ _ => rfl, fun n _ hb => .inl ⟨n, hb⟩⟩
def plB (pl : Pl) (id : Nat) (ops : List Oper) : Bool := match pl.find? (fun p => Nat.beq id p.1) with | some (_, p) => planB ops [] [] [] [] p | none => false
theorem plK_ok {id : Nat} {kk : Plan → Prop} : ∀ {pl : Pl}, plK pl id kk → ∃ q, pl.find? (fun p => Nat.beq id p.1) = some q ∧ kk q.2
  | [], h => h.elim
  | (j, p) :: l, h => by
    unfold plK at h
    split at h
    · rename_i e; exact ⟨(j, p), by simp [List.find?, e], h⟩
    · rename_i e
      obtain ⟨q, h1, h2⟩ := plK_ok h
      exact ⟨q, by simp only [List.find?, e]; exact h1, h2⟩
def plansB (pl : Pl) : Code → Bool
  | .region id ops draw => match draw with | true => plB pl id ops.toList | false => true
  | .seq a b | .cond _ a b => plansB pl a && plansB pl b
  | .block _ b | .loop b | .scope b => plansB pl b
  | _ => true
theorem plansB_ok (hm : P.follows .mixedOrders = true) (hc : ClOk P cl) (hT : TTok P tt) {pl : Pl} : ∀ {c : Code}, plansB pl c = true → PlansOk P cl tt nt d pl c
  | .region id ops draw, h => fun hd n0 => by
    subst hd
    intro ρ0 h0 w0 ρ r hp a w k Q hb hG hA hk hK
    obtain ⟨q, h1, h2⟩ := plK_ok hk
    have hB : planB ops.toList [] [] [] [] q.2 = true := by
      have := h; simp only [plansB, plB, h1] at this; exact this
    have hA' := drew_at hA
    refine wp_region_any hm (wpAny_plan (ρ0 := ρ0) (h0 := h0) (w0 := w0) hc hT (fun ρ' r' h' a' w' g1 g2 g3 => hK .normal ρ' r' h' a' w' g1 g2 g3) ops.size q.2 [] [] [] r hp _ a _ ρ hB h2 ?_ (hG.trans drew_grow) ?_)
    · have hno : ∀ j, ¬ Dn (Array.replicate ops.size false) j := fun j hj => by
        unfold Dn at hj
        rcases Nat.lt_or_ge j ops.size with c | c <;> simp [c] at hj
      exact {
        size := by simp
        sub := fun j hj => absurd hj (hno j)
        sup := fun j hj => by cases hj
        closed := fun j _ hj => absurd hj (hno j)
        topo := trivial
        low := fun j hj => by cases hj
        blind := fun j hj => by cases hj
        uniq := fun j hj => by cases hj
        small := fun j hj => by cases hj
        tmps := hA'.regs.1
        regs := fun t _ => hA'.regs.2 t
        heap := hA'.heap
        calm := hA'.calm
        fs := fun j hj => by cases hj
        facts := fun j hj => by cases hj }
    · have : ∀ (l : Array Bool) n, left l n ≤ n := fun l n => by
        induction n with
        | zero => exact Nat.le_refl _
        | succ n ih => simp only [left]; split <;> omega
      exact this _ _
  | .seq a b, h => by simp only [plansB, Bool.and_eq_true] at h; exact ⟨plansB_ok hm hc hT h.1, plansB_ok hm hc hT h.2⟩
  | .cond _ a b, h => by simp only [plansB, Bool.and_eq_true] at h; exact ⟨plansB_ok hm hc hT h.1, plansB_ok hm hc hT h.2⟩
  | .block _ b, h => plansB_ok (c := b) hm hc hT h
  | .loop b, h => plansB_ok (c := b) hm hc hT h
  | .scope b, h => plansB_ok (c := b) hm hc hT h
  | .skip, _ => trivial
  | .label _, _ => trivial
  | .exit _, _ => trivial
  | .ret, _ => trivial
  | .rangeFunc _ _ _ _, _ => trivial
  | .goto _, _ => trivial
  | .refuse _, _ => trivial
end
end Go.Eng

/- The walk's end: what a claim asks; checks by program. -/
namespace Go.Eng
open Go
variable {d : Nat}
/-! ### The type table, checked -/
def eqV : Value → Value → Bool
  | .bool a, .bool b => match a, b with | true, true => true | false, false => true | _, _ => false
  | .int k n, .int k' n' => kindEq k k' && decide (n = n')
  | .string a, .string b => a.data.toList.isEmpty && b.data.toList.isEmpty
  | .pointer none, .pointer none => true
  | .slice none l c, .slice none l' c' => Nat.beq l l' && Nat.beq c c'
  | .map none, .map none => true
  | .chan none, .chan none => true
  | .nilFunc, .nilFunc => true
  | .nilIface, .nilIface => true
  | _, _ => false
theorem kindEq_iff {a b : IntKind} (h : kindEq a b = true) : a = b := by cases a <;> cases b <;> first | rfl | cases h
theorem eqV_ok {a b : Value} (h : eqV a b = true) : b = a ∧ solid a := by
  unfold eqV at h
  split at h
  · split at h <;> first | exact ⟨rfl, trivial⟩ | cases h
  · simp only [Bool.and_eq_true, decide_eq_true_eq] at h
    obtain ⟨h1, h2⟩ := h
    exact ⟨by rw [kindEq_iff h1, h2], trivial⟩
  · rename_i x y
    simp only [Bool.and_eq_true, List.isEmpty_iff] at h
    refine ⟨?_, trivial⟩
    obtain ⟨⟨x⟩⟩ := x
    obtain ⟨⟨y⟩⟩ := y
    obtain ⟨h1, h2⟩ := h
    simp only at h1 h2
    rw [h1, h2]
  · exact ⟨rfl, trivial⟩
  · simp only [Bool.and_eq_true] at h
    rw [Nat.eq_of_beq_eq_true h.1, Nat.eq_of_beq_eq_true h.2]
    exact ⟨rfl, trivial⟩
  all_goals first | exact ⟨rfl, trivial⟩ | cases h
def cellB : C → Value → Bool
  | .v x, y => eqV x y
  | _, _ => false
def cellsB : List C → List Value → Bool
  | [], [] => true
  | c :: l, v :: m => cellB c v && cellsB l m
  | _, _ => false
theorem cellB_ok {c : C} {v : Value} (h : cellB c v = true) (ρ : Env) : Den ρ c v := by
  cases c with
  | v x => exact eqV_ok h
  | _ => cases h
theorem cellsB_ok : ∀ {l : List C} {m : List Value}, cellsB l m = true → ∀ ρ, All2 (Den ρ) l m
  | [], [], _, _ => trivial
  | c :: l, v :: m, h, ρ => by simp only [cellsB, Bool.and_eq_true] at h; exact ⟨cellB_ok h.1 ρ, cellsB_ok h.2 ρ⟩
  | [], _ :: _, h, _ => by cases h
  | _ :: _, [], h, _ => by cases h
def denB : T → Value → Bool
  | .one c, v => cellB c v
  | .agg l, .agg vs => cellsB (cells l) vs.toList
  | _, _ => false
theorem denB_ok {x : T} {v : Value} (h : denB x v = true) (ρ : Env) : DenT ρ x v := by
  unfold denB at h
  split at h
  · exact cellB_ok h ρ
  · exact ⟨_, rfl, cellsB_ok h ρ⟩
  · cases h
def fieldsB : List (Nat × TypeId) → List Field → Bool
  | [], [] => true
  | (o, t) :: l, f :: m => Nat.beq o f.offset && Nat.beq t f.type && fieldsB l m
  | _, _ => false
theorem fieldsB_ok : ∀ {l : List (Nat × TypeId)} {m : List Field}, fieldsB l m = true → l = m.map fun f => (f.offset, f.type)
  | [], [], _ => rfl
  | (o, t) :: l, f :: m, h => by
    simp only [fieldsB, Bool.and_eq_true] at h
    have h1 := Nat.eq_of_beq_eq_true h.1.1
    have h2 := Nat.eq_of_beq_eq_true h.1.2
    rw [fieldsB_ok h.2, h1, h2]; rfl
  | [], _ :: _, h => by cases h
  | _ :: _, [], h => by cases h
def descB : K → TypeDesc → Bool
  | .int k, .int k' => kindEq k k'
  | .bool, .bool | .str, .string => true
  | .ptr e, .pointer e' | .slice e, .slice e' | .chan e, .chan _ e' => Nat.beq e e'
  | .arr n e, .array n' e' => Nat.beq n n' && Nat.beq e e'
  | .map k e, .map k' e' => Nat.beq k k' && Nat.beq e e'
  | .struct fs, .struct fields => fieldsB fs fields.toList
  | .other, .struct _ | .other, .array _ _ => false
  | .other, _ => true
  | _, _ => false
theorem descB_ok {k : K} {t : TypeDesc} (h : descB k t = true) : descOk k t := by
  cases k <;> cases t <;> simp only [descB] at h <;> (try cases h) <;> simp only [descOk] <;>
    first
      | trivial
      | exact kindEq_iff h
      | exact Nat.eq_of_beq_eq_true h
      | exact fieldsB_ok h
      | (simp only [Bool.and_eq_true] at h; exact ⟨Nat.eq_of_beq_eq_true h.1, Nat.eq_of_beq_eq_true h.2⟩)
def placesB (P : Program) : TypeDesc → Bool
  | .struct fields => fields.toList.all fun f => (P.info? f.type).isSome
  | _ => true
def lfB : Lf → Lf → Bool
  | .int a, .int b => kindEq a b
  | .bool, .bool => true
  | .str, .str => true
  | _, _ => false
def lfsB : List Lf → List Lf → Bool
  | [], [] => true
  | a :: l, b :: m => lfB a b && lfsB l m
  | _, _ => false
theorem lfsB_ok : ∀ {l m : List Lf}, lfsB l m = true → l = m
  | [], [], _ => rfl
  | a :: l, b :: m, h => by
    simp only [lfsB, Bool.and_eq_true] at h
    have e : a = b := by
      have := h.1
      cases a <;> cases b <;> first | rfl | (cases this; done) | (rw [kindEq_iff this])
    rw [e, lfsB_ok h.2]
  | [], _ :: _, h => by cases h
  | _ :: _, [], h => by cases h
def cmpB (P : Program) (t : TypeId) : List Lf → Bool
  | [] => true
  | l => (match P.underlying t with | some (.struct _) => true | _ => false) && ((match leaves P 6 t with | some m => lfsB m l | none => false) && !P.eqGuardType P.depth t)
theorem cmpB_ok {P : Program} {t : TypeId} {l : List Lf} (h : cmpB P t l = true) (hl : l ≠ []) : CmpOk P t l := by
  unfold cmpB at h
  split at h
  · exact absurd rfl hl
  · simp only [Bool.and_eq_true, Bool.not_eq_true'] at h
    obtain ⟨h1, h2, h3⟩ := h
    refine ⟨?_, ?_, h3⟩
    · split at h1
      · exact ⟨_, by assumption⟩
      · cases h1
    · split at h2
      · rename_i e; rw [e, lfsB_ok h2]
      · cases h2
def tiB (P : Program) (t : TypeId) (ti : TI) : Bool := match P.info? t, P.underlying t with
  | some i, some desc => descB ti.desc desc && Nat.beq i.size ti.size && Nat.beq i.bytes ti.bytes && placesB P desc && cmpB P t ti.cmp && match i.zero with | some z => denB ti.zero z | none => false
  | _, _ => false
theorem mapM_some {α β : Type} {f : α → Option β} : ∀ {l : List α}, (∀ x ∈ l, (f x).isSome) → ∃ r, l.mapM f = some r
  | [], _ => ⟨[], rfl⟩
  | x :: l, h => by
    obtain ⟨y, hy⟩ := Option.isSome_iff_exists.1 (h x (by simp))
    obtain ⟨r, hr⟩ := mapM_some (l := l) fun z hz => h z (by simp [hz])
    exact ⟨y :: r, by simp [List.mapM_cons, hy, hr]⟩
theorem tiB_ok {P : Program} {t : TypeId} {ti : TI} (h : tiB P t ti = true) : TIok P t ti := by
  unfold tiB at h
  split at h
  · rename_i i desc h1 h2
    simp only [Bool.and_eq_true] at h
    obtain ⟨⟨⟨⟨⟨g1, g2⟩, g3⟩, g4⟩, g6⟩, g5⟩ := h
    split at g5
    · rename_i z hz
      refine ⟨i, desc, z, h1, h2, descB_ok g1, Nat.eq_of_beq_eq_true g2, Nat.eq_of_beq_eq_true g3, hz, fun ρ => denB_ok g5 ρ, fun fields e => ?_, cmpB_ok g6⟩
      subst e
      refine mapM_some fun f hf => ?_
      simp only [placesB, List.all_eq_true] at g4
      have := g4 f hf
      cases e : P.info? f.type with
      | none => rw [e] at this; cases this
      | some x => rfl
    · cases g5
  · cases h
def ttB (P : Program) (tt : TT) : Bool := tt.all fun p => tiB P p.1 p.2
theorem ttB_ok {P : Program} {tt : TT} (h : ttB P tt = true) : TTok P tt := fun t ti hm => tiB_ok (List.all_eq_true.1 h (t, ti) hm)

/-! ### The functions, checked -/
theorem fn_ok {P : Program} {cl : Cl} {tt : TT} {f : FuncId} {F : Func} {fn : Fn} (hm : P.follows .mixedOrders = true) (hc : ClOk P cl) (hT : TTok P tt) (h1 : P.funcs[f]? = some F) (h2 : F.body = some fn.code) (h3 : (F.name == "runtime.NumGoroutine") = false) (h4 : F.ntmps = fn.nt) (h5 : F.results.toList = fn.res)
    (h6 : plansB fn.pl fn.code = true) : FnOk P cl tt d f fn := ⟨⟨F, h1, h2, h3, h4, h5⟩, plansB_ok hm hc hT h6⟩

/-! ### What a claim asks -/
def none' : Env := fun _ => none
theorem rel_none (w : World) : Rel none' [] w := ⟨fun _ _ => rfl, fun n ob hn => by simp at hn, fun n m b ⟨ob, o, h1, _⟩ => by simp at h1, fun n m b o ob2 ⟨ob, o', h1, _⟩ => by simp at h1⟩
end Go.Eng
