/- A quiet operation yields one thing: the evaluator's continuation form is a function. It looks at its operands alone. -/
import Derived.Test.YtakcnoggkdfgfaaEngZ
namespace Go.Eng
open Go
variable {d : Nat}
def Det {α : Type} (F : (α → Prop) → Prop) : Prop := ∀ K, F K → ∃ x, K x ∧ ∀ K', K' x → F K'
section
variable {α β γ δ : Type}
theorem det_pure (x : α) : Det fun K => K x := fun _ h => ⟨x, h, fun _ h' => h'⟩
theorem det_false : Det fun _ : α → Prop => False := fun _ h => h.elim
theorem det_bind {G : (β → Prop) → Prop} (hG : Det G) {F : β → (α → Prop) → Prop} (hF : ∀ y, Det (F y)) : Det fun K => G fun y => F y K := fun K h => by
  obtain ⟨y, h1, h2⟩ := hG _ h
  obtain ⟨x, h3, h4⟩ := hF y _ h1
  exact ⟨x, h3, fun K' h' => h2 _ (h4 _ h')⟩
theorem det_bind2 {G : (β → γ → Prop) → Prop} (hG : Det fun K => G fun a b => K (a, b)) {F : β → γ → (α → Prop) → Prop} (hF : ∀ a b, Det (F a b)) : Det fun K => G fun a b => F a b K := fun K h => by
  obtain ⟨y, h1, h2⟩ := hG (fun p => F p.1 p.2 K) h
  obtain ⟨x, h3, h4⟩ := hF y.1 y.2 _ h1
  exact ⟨x, h3, fun K' h' => h2 (fun p => F p.1 p.2 K') (h4 _ h')⟩
theorem det_bind3 {G : (β → γ → δ → Prop) → Prop} (hG : Det fun K => G fun a b c => K (a, b, c)) {F : β → γ → δ → (α → Prop) → Prop} (hF : ∀ a b c, Det (F a b c)) : Det fun K => G fun a b c => F a b c K := fun K h => by
  obtain ⟨y, h1, h2⟩ := hG (fun p => F p.1 p.2.1 p.2.2 K) h
  obtain ⟨x, h3, h4⟩ := hF y.1 y.2.1 y.2.2 _ h1
  exact ⟨x, h3, fun K' h' => h2 (fun p => F p.1 p.2.1 p.2.2 K') (h4 _ h')⟩
theorem det_chk {b : Bool} {F : (α → Prop) → Prop} (hF : Det F) : Det fun K => Chk b (F K) := by
  cases b with
  | false => exact det_false
  | true => exact hF
theorem det_cnd {b : Bool} {F G : (α → Prop) → Prop} (hF : Det F) (hG : Det G) : Det fun K => Cnd b (F K) (G K) := by
  cases b with
  | false => exact hG
  | true => exact hF
end
theorem det_bnd (k : IntKind) (s : Int) : Det (Bnd k s) := det_cnd (det_pure _) (det_pure _)
theorem det_tiK : ∀ (tt : TT) (t : TypeId), Det (tiK tt t)
  | [], _ => det_false
  | (u, i) :: r, t => by
    show Det fun K => match Nat.beq t u with | true => K i | false => tiK r t K
    split
    · exact det_pure _
    · exact det_tiK r t
theorem det_nthK {α : Type} : ∀ (l : List α) (n : Nat), Det (nthK l n)
  | x :: _, 0 => det_pure x
  | _ :: r, n + 1 => det_nthK r n
  | [], _ => det_false
theorem det_plainK : ∀ (l : List Value), Det (plainK l)
  | [] => det_pure _
  | x :: r => by
    have key : Det fun K => plainK r fun l => K (.c (.v x) :: l) := det_bind (det_plainK r) fun _ => det_pure _
    cases x <;> first | exact key | exact det_false
theorem det_constK (v : Value) : Det (constK v) := by
  unfold constK
  split
  · exact det_bind (det_plainK _) fun _ => det_pure _
  all_goals exact det_pure _
theorem det_opK (r : Tr d) (o : Operand) : Det (opK r o) := by
  cases o with
  | tmp t => show Det fun K => r.getK d t K; simp only [Tr.getK_eq]; exact det_pure _
  | const v => exact det_constK v
  | global g => exact det_pure _
  | func f => exact det_pure _
theorem det_intK (x : R) : Det fun K => intK x fun k n => K (k, n) := by unfold intK; split <;> first | exact det_pure _ | exact det_false
theorem det_boolK (x : R) : Det (boolK x) := by unfold boolK; split <;> first | exact det_pure _ | exact det_false
theorem det_tK (x : R) : Det (tK x) := by unfold tK; split <;> first | exact det_pure _ | exact det_false
theorem det_cK (x : R) : Det (cK x) := by unfold cK; split <;> first | exact det_pure _ | exact det_false
theorem det_dropK : ∀ (l : List Seg) (n : Nat), Det (dropK l n)
  | l, 0 => by
    have e : dropK l 0 = fun k => k l := by cases l with
      | nil => rfl
      | cons s _ => cases s <;> rfl
    rw [e]; exact det_pure _
  | .c _ :: r, n + 1 => det_dropK r n
  | .arr m _ :: r, n + 1 => by
    show Det fun K => match Nat.ble m (n + 1) with | true => dropK r (n + 1 - m) K | false => False
    split
    · exact det_dropK r _
    · exact det_false
  | [], _ + 1 => det_false
theorem det_takeK : ∀ (l : List Seg) (n : Nat), Det (takeK l n)
  | l, 0 => by
    have e : takeK l 0 = fun k => k [] := by cases l with
      | nil => rfl
      | cons s _ => cases s <;> rfl
    rw [e]; exact det_pure _
  | .c x :: r, n + 1 => by
    show Det fun K => takeK r n fun l => K (.c x :: l)
    exact det_bind (det_takeK r n) fun _ => det_pure _
  | .arr m f :: r, n + 1 => by
    show Det fun K => match Nat.ble m (n + 1) with | true => takeK r (n + 1 - m) (fun l => K (.arr m f :: l)) | false => False
    split
    · exact det_bind (det_takeK r _) fun _ => det_pure _
    · exact det_false
  | [], _ + 1 => det_false
theorem det_overK : ∀ (l ys : List Seg), Det (overK l ys)
  | l, [] => by
    have e : overK l [] = fun k => k l := by cases l with
      | nil => rfl
      | cons s _ => cases s <;> rfl
    rw [e]; exact det_pure _
  | .c _ :: r, .c y :: ys => by
    show Det fun K => overK r ys fun l => K (.c y :: l)
    exact det_bind (det_overK r ys) fun _ => det_pure _
  | .arr m _ :: r, .arr n g :: ys => by
    show Det fun K => match Nat.beq m n with | true => overK r ys (fun l => K (.arr n g :: l)) | false => False
    split
    · exact det_bind (det_overK r ys) fun _ => det_pure _
    · exact det_false
  | .c _ :: _, .arr _ _ :: _ => by show Det fun _ => False; exact det_false
  | .arr _ _ :: _, .c _ :: _ => by show Det fun _ => False; exact det_false
  | [], .c _ :: _ => by show Det fun _ => False; exact det_false
  | [], .arr _ _ :: _ => by show Det fun _ => False; exact det_false
theorem det_putK : ∀ (l : List Seg) (n : Nat) (ys : List Seg), Det (putK l n ys)
  | l, 0, ys => by
    have e : putK l 0 ys = fun k => overK l ys k := by cases l with
      | nil => rfl
      | cons s _ => cases s <;> rfl
    rw [e]; exact det_overK l ys
  | .c x :: r, n + 1, ys => by
    show Det fun K => putK r n ys fun l => K (.c x :: l)
    exact det_bind (det_putK r n ys) fun _ => det_pure _
  | .arr m f :: r, n + 1, ys => by
    show Det fun K => match Nat.ble m (n + 1) with | true => putK r (n + 1 - m) ys (fun l => K (.arr m f :: l)) | false => False
    split
    · exact det_bind (det_putK r _ ys) fun _ => det_pure _
    · exact det_false
  | [], _ + 1, _ => det_false
theorem det_mkK (ti : TI) (l : List Seg) : Det (mkK ti l) := by unfold mkK; split <;> first | exact det_pure _ | exact det_false
theorem det_cellsK : ∀ l : List Seg, Det (cellsK l)
  | [] => det_pure _
  | .c x :: r => det_bind (F := fun l K => K (x :: l)) (det_cellsK r) fun _ => det_pure _
  | .arr _ _ :: _ => det_false
theorem det_hgetK : ∀ (h : Heap) (n : Nat), Det (hgetK h n)
  | .ob o :: _, 0 => det_pure o
  | .ob _ :: r, n + 1 => det_hgetK r n
  | .fresh :: r, n + 1 => det_hgetK r n
  | .dead :: r, n + 1 => det_hgetK r n
  | .fresh :: _, 0 => det_false
  | .dead :: _, 0 => det_false
  | [], _ => det_false
theorem det_loadK (tt : TT) (h : Heap) (t : TypeId) (p : C) : Det (loadK tt h t p) := by
  have row : ∀ (b : Bool) (ti : TI) (l : List Seg) (j : Nat), Det fun K => Chk b (dropK l j fun l => takeK l ti.size fun l => mkK ti l K) := fun b ti l j => det_chk (det_bind (det_dropK _ _) fun _ => det_bind (det_takeK _ _) fun _ => det_mkK _ _)
  show Det fun K => loadK tt h t p K
  unfold loadK
  refine det_bind (det_tiK tt t) fun ti => ?_
  split
  · refine det_bind (det_hgetK _ _) fun o => ?_
    split
    · exact det_bind (det_dropK _ _) fun _ => det_bind (det_takeK _ _) fun _ => det_mkK _ _
    · exact det_false
  · refine det_bind (det_hgetK _ _) fun o => ?_
    split
    · split
      · refine det_bind (det_dropK _ _) fun l => ?_
        split
        · exact det_chk (det_mkK _ _)
        · exact det_false
      · exact det_false
    · split
      · exact row _ _ _ _
      · exact det_false
    · split
      · exact row _ _ _ _
      · exact det_false
  · exact det_false
theorem det_opsK (r : Tr d) : ∀ l : List Operand, Det (opsK r l)
  | [] => det_pure _
  | o :: l => det_bind (F := fun x K => opsK r l fun xs => K (x :: xs)) (det_opK r o) fun x => det_bind (F := fun xs K => K (x :: xs)) (det_opsK r l) fun _ => det_pure _
theorem det_optK (r : Tr d) : ∀ l : Option Operand, Det (optK r l)
  | none => det_pure _
  | some o => det_bind (F := fun x K => intK x fun _ n => K (some n)) (det_opK r o) fun x => det_bind2 (F := fun _ n K => K (some n)) (det_intK x) fun _ _ => det_pure _
theorem det_partsK (r : Tr d) : ∀ l : List (Nat × Operand), Det (partsK r l)
  | [] => det_pure _
  | (i, o) :: l => det_bind (F := fun x K => tK x fun x => partsK r l fun xs => K ((i, x) :: xs)) (det_opK r o) fun x => det_bind (F := fun x K => partsK r l fun xs => K ((i, x) :: xs)) (det_tK x) fun x =>
      det_bind (F := fun xs K => K ((i, x) :: xs)) (det_partsK r l) fun _ => det_pure _
theorem det_fillK (tt : TT) (desc : K) : ∀ (l : List (Nat × T)) (z : List Seg), Det (fillK tt desc z l)
  | [], z => det_pure z
  | (i, x) :: l, z => by
    show Det fun K => fillK tt desc z ((i, x) :: l) K
    unfold fillK
    split
    · refine det_bind (det_nthK _ _) fun f => det_bind (det_tiK _ _) fun fi => ?_
      split
      · exact det_bind (det_putK _ _ _) fun z => det_fillK tt _ l z
      · exact det_false
    · refine det_bind (det_tiK _ _) fun fi => ?_
      split
      · exact det_bind (det_putK _ _ _) fun z => det_fillK tt _ l z
      · exact det_false
    · exact det_false
theorem det_srcK (h : Heap) (x : R) : Det fun K => srcK h x fun n f => K (n, f) := by
  unfold srcK
  split
  · exact det_pure (0, _)
  · exact det_pure (_, _)
  · refine det_bind (det_hgetK _ _) fun o => ?_
    split
    · split
      · exact det_chk (det_pure (_, _))
      · exact det_false
    · split
      · exact det_chk (det_pure (_, _))
      · exact det_false
    · refine det_bind (det_dropK _ _) fun r => ?_
      split
      · exact det_chk (det_pure (_, _))
      · exact det_false
  · exact det_false
theorem det_bounds (len cap : Nat) (lo hi mx : Option Int) : Det fun K => bounds len cap lo hi mx fun a b c => K (a, b, c) := by
  unfold bounds
  split <;> first | exact det_pure (_, _, _) | exact det_chk (det_pure (_, _, _)) | exact det_false
theorem det_ptrsK : ∀ l : List R, Det (ptrsK l)
  | [] => det_pure _
  | x :: l => by
    cases x with
    | t y => cases y with
      | one c => cases c with
        | ptr n off =>
          show Det fun K => ptrsK l fun r => K ((n, off) :: r)
          exact det_bind (det_ptrsK l) fun _ => det_pure _
        | _ => exact det_false
      | agg _ => exact det_false
    | _ => exact det_false
theorem det_intBin (op : BinOp) (k : IntKind) (a b : Int) : Det (intBin op k a b) := by
  have bn : ∀ s, Det fun K : R → Prop => Bnd k s fun s => K (iv k s) := fun s => det_bind (det_bnd k s) fun _ => det_pure _
  show Det fun K => intBin op k a b K
  unfold intBin
  split <;> first | exact bn _ | exact det_chk (bn _) | exact det_chk (det_pure _) | exact det_pure _ | exact det_false
theorem det_eqC (desc : K) (x y : C) : Det (eqC desc x y) := by
  show Det fun K => eqC desc x y K
  unfold eqC
  split <;> first | exact det_pure _ | exact det_false
theorem det_eqOp (op : BinOp) (b : Bool) : Det (eqOp op b) := by
  show Det fun K => eqOp op b K
  unfold eqOp
  split <;> first | exact det_pure _ | exact det_false
theorem det_binK (tt : TT) (op : BinOp) (t : TypeId) (x y : R) : Det (binK tt op t x y) := by
  show Det fun K => binK tt op t x y K
  unfold binK
  split
  · split
    · exact det_intBin _ _ _ _
    · exact det_intBin _ _ _ _
    · split
      · exact det_intBin _ _ _ _
      · exact det_false
  · split
    · exact det_chk (det_pure _)
    · exact det_eqOp _ _
  · exact det_bind (det_tiK _ _) fun _ => det_bind (det_eqC _ _ _) fun _ => det_eqOp _ _
  · exact det_false
theorem det_unK (op : UnOp) (x : R) : Det (unK op x) := by
  show Det fun K => unK op x K
  unfold unK
  split
  · exact det_pure _
  · exact det_bind (det_bnd _ _) fun _ => det_pure _
  · exact det_false
theorem Det.none {F : (R → Prop) → Prop} (h : Det F) : Det fun K : R × Option Ob → Prop => F fun x => K (x, none) := det_bind h fun _ => det_pure _
theorem det_evX (tt : TT) (r : Tr d) (h : Heap) (o : Op) (hm : makes o = false) : Det fun K => evX tt r h 0 o fun x b => K (x, b) := by
  cases o <;> simp only [evX] <;> (try exact det_false) <;> (try cases hm)
  case move x => exact (det_opK r x).none
  case assign x => exact (det_opK r x).none
  case pick c a b => exact det_bind (det_opK _ _) fun c => det_bind (det_boolK _) fun c => det_bind (det_opK _ _) fun x => det_bind (det_opK _ _) fun y => det_cnd (det_pure (_, _)) (det_pure (_, _))
  case nilCheck x =>
    refine det_bind (det_opK _ _) fun c => det_bind (det_cK _) fun c => ?_
    split <;> first | exact det_pure (_, _) | exact det_false
  case fieldAddr s x f =>
    refine det_bind (det_tiK _ _) fun ti => ?_
    split
    · refine det_bind (det_nthK _ _) fun fd => det_bind (det_tiK _ _) fun fi => ?_
      split
      · refine det_bind (det_opK _ _) fun c => det_bind (det_cK _) fun c => ?_
        split <;> first | exact det_pure (_, _) | exact det_false
      · exact det_false
    · exact det_false
  case field s x f =>
    refine det_bind (det_tiK _ _) fun ti => ?_
    split
    · refine det_bind (det_nthK _ _) fun fd => det_bind (det_tiK _ _) fun fi => det_bind (det_opK _ _) fun c => det_bind (det_tK _) fun c => ?_
      split
      · exact det_bind (det_dropK _ _) fun _ => det_bind (det_takeK _ _) fun _ => det_bind (det_mkK _ _) fun _ => det_pure (_, _)
      · exact det_false
    · exact det_false
  case indexAddr t x i =>
    refine det_bind (det_tiK _ _) fun ti => det_bind (det_opK _ _) fun i => det_bind2 (det_intK _) fun _ i => det_bind (det_opK _ _) fun c => det_bind (det_cK _) fun c => ?_
    split
    · refine det_bind (det_tiK _ _) fun ei => ?_
      split
      · exact det_chk (det_pure (_, _))
      · exact det_false
    · refine det_bind (det_tiK _ _) fun ei => det_chk ?_
      split
      · split
        · exact det_pure (_, _)
        · exact det_false
      · exact det_pure (_, _)
    · exact det_false
  case index t x i =>
    refine det_bind (det_tiK _ _) fun ti => det_bind (det_opK _ _) fun i => det_bind2 (det_intK _) fun _ i => det_bind (det_opK _ _) fun c => det_bind (det_tK _) fun c => ?_
    split
    · exact det_chk (det_pure (_, _))
    · refine det_bind (det_tiK _ _) fun ei => det_chk ?_
      split
      · split
        · exact det_pure (_, _)
        · exact det_false
      · exact det_bind (det_dropK _ _) fun _ => det_bind (det_takeK _ _) fun _ => det_bind (det_mkK _ _) fun _ => det_pure (_, _)
    · exact det_false
  case load t x => exact det_bind (det_opK _ _) fun c => det_bind (det_cK _) fun c => det_bind (det_loadK _ _ _ _) fun _ => det_pure (_, _)
  case binOp op t x y u => exact det_bind (det_opK _ _) fun x => det_bind (det_opK _ _) fun y => (det_binK _ _ _ _ _).none
  case unOp op t x => exact det_bind (det_opK _ _) fun x => (det_unK _ _).none
  case convert s t x =>
    refine det_bind (det_tiK _ _) fun si => det_bind (det_tiK _ _) fun ti => det_bind (det_opK _ _) fun x => ?_
    split
    · exact det_bind (det_bnd _ _) fun _ => det_pure (_, _)
    · exact det_pure (_, _)
    · refine det_bind (det_tiK _ _) fun ei => ?_
      split
      · split
        · exact det_bind2 (det_srcK _ _) fun _ _ => det_chk (det_pure (_, _))
        · exact det_false
      · exact det_false
    · refine det_bind (det_tiK _ _) fun ei => ?_
      split
      · exact det_pure (_, _)
      · exact det_false
    · exact det_false
  case makeFunc f first caps =>
    split
    · exact det_bind (det_opsK _ _) fun _ => det_bind (det_ptrsK _) fun _ => det_pure (_, _)
    · exact det_false
  case extract x i =>
    refine det_bind (det_opK _ _) fun x => ?_
    split
    · exact det_bind (det_nthK _ _) fun _ => det_pure (_, _)
    · exact det_false
  case build t ps =>
    refine det_bind (det_tiK _ _) fun ti => ?_
    split
    · exact det_bind (det_partsK _ _) fun _ => det_bind (det_fillK _ _ _ _) fun _ => det_pure (_, _)
    · exact det_bind (det_tiK _ _) fun _ => det_bind (det_partsK _ _) fun _ => det_bind (det_fillK _ _ _ _) fun _ => det_pure (_, _)
    · exact det_false
  case slice t x lo hi mx =>
    refine det_bind (det_tiK _ _) fun ti => det_bind (det_opK _ _) fun x => det_bind (det_cK _) fun c => det_bind (det_optK _ _) fun lo => det_bind (det_optK _ _) fun hi => det_bind (det_optK _ _) fun mx => ?_
    split
    · split
      · exact det_bind3 (det_bounds _ _ _ _ _) fun _ _ _ => det_pure (_, _)
      · exact det_false
    · refine det_bind (det_tiK _ _) fun ei => ?_
      split
      · exact det_bind3 (det_bounds _ _ _ _ _) fun _ _ _ => det_pure (_, _)
      · exact det_false
    · exact det_bind (det_tiK _ _) fun ei => det_bind3 (det_bounds _ _ _ _ _) fun _ _ _ => det_pure (_, _)
    · exact det_bind (det_tiK _ _) fun ei => det_bind3 (det_bounds _ _ _ _ _) fun _ _ _ => det_pure (_, _)
    · exact det_false
  case call c =>
    split
    · refine det_bind (det_opsK _ _) fun xs => ?_
      split
      · refine det_bind (det_tiK _ _) fun ti => det_bind (det_cK _) fun c => ?_
        split <;> first | exact det_pure (_, _) | exact det_false
      · exact det_false
    · refine det_bind (det_opsK _ _) fun xs => ?_
      split
      · refine det_bind (det_tiK _ _) fun ti => det_bind (det_cK _) fun c => ?_
        split <;> first | exact det_pure (_, _) | exact det_false
      · exact det_false
    · refine det_bind (det_opsK _ _) fun xs => ?_
      split
      · refine det_bind2 (det_intK _) fun k a => det_bind2 (det_intK _) fun k' b => ?_
        split
        · exact det_pure (_, _)
        · exact det_false
      · exact det_false
    · refine det_bind (det_opsK _ _) fun xs => ?_
      split
      · refine det_bind2 (det_intK _) fun k a => det_bind2 (det_intK _) fun k' b => ?_
        split
        · exact det_pure (_, _)
        · exact det_false
      · exact det_false
    · exact det_false
end Go.Eng
