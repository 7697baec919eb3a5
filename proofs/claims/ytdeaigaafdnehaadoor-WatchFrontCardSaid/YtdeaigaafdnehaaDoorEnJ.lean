/- The engine, part J: the evaluator of code once more, by the recursors themselves, so that the elaborator and the kernel unfold it alike; it is the one of part A. -/
import Derived.Test.YtdeaigaafdnehaaDoorEnI
namespace Go.Eng
open Go
variable {d : Nat}
noncomputable def evOpsX (cl : Cl) (tt : TT) (nt : Nat) (ops : List Oper) (l : List Oper) : Tr d → Heap → (Tr d → Heap → Prop) → Prop :=
  List.rec (motive := fun _ => Tr d → Heap → (Tr d → Heap → Prop) → Prop) (fun r h k => k r h) (fun o _ ih r h k => stepK cl tt nt ops o r h fun r h => ih r h k) l
theorem evOpsX_eq (cl : Cl) (tt : TT) (nt : Nat) (ops : List Oper) : ∀ l : List Oper, evOpsX (d := d) cl tt nt ops l = evOps cl tt nt ops l
  | [] => rfl
  | o :: l => by
    funext r h k
    show (stepK cl tt nt ops o r h fun r h => evOpsX cl tt nt ops l r h k) = _
    rw [evOpsX_eq cl tt nt ops l]; rfl
noncomputable def evPlanX (cl : Cl) (tt : TT) (nt : Nat) (ops : List Oper) (p : Plan) : Tr d → Heap → (Tr d → Heap → Prop) → Prop :=
  Plan.rec (motive := fun _ => Tr d → Heap → (Tr d → Heap → Prop) → Prop)
    (fun r h k => k r h)
    (fun _ _ _ => True)
    (fun i _ ih r h k => nthK ops i fun o => guardK ops r o (fun r => evX tt r h 0 o.op fun x b => match b with
      | none => putR nt r o.dst x fun r => ih r h k
      | some _ => False) (fun r => putR nt r o.dst (.tup []) fun r => ih r h k))
    (fun i _ ih r h k => nthK ops i fun o => guardK ops r o (fun r => evX tt r h 0 o.op fun x b => match b with
      | none => sameK r o.dst x (ih r h k)
      | some _ => False) (fun r => sameK r o.dst (.tup []) (ih r h k)))
    (fun i _ q ihp ihq r h k => match q with
      | .nil => nthK ops i fun o => stepK cl tt nt ops o r h fun r h => ihp r h k
      | _ => (nthK ops i fun o => stepK cl tt nt ops o r h fun r h => ihp r h k) ∧ ihq r h k) p
theorem evPlanX_eq (cl : Cl) (tt : TT) (nt : Nat) (ops : List Oper) : ∀ p : Plan, evPlanX (d := d) cl tt nt ops p = evPlan cl tt nt ops p
  | .stop => by funext r h k; rfl
  | .nil => by funext r h k; rfl
  | .op i p => by
    funext r h k
    show (nthK ops i fun o => guardK ops r o (fun r => evX tt r h 0 o.op fun x b => match b with
      | none => putR nt r o.dst x fun r => evPlanX cl tt nt ops p r h k
      | some _ => False) (fun r => putR nt r o.dst (.tup []) fun r => evPlanX cl tt nt ops p r h k)) = _
    rw [evPlanX_eq cl tt nt ops p]; rfl
  | .re i p => by
    funext r h k
    show (nthK ops i fun o => guardK ops r o (fun r => evX tt r h 0 o.op fun x b => match b with
      | none => sameK r o.dst x (evPlanX cl tt nt ops p r h k)
      | some _ => False) (fun r => sameK r o.dst (.tup []) (evPlanX cl tt nt ops p r h k))) = _
    rw [evPlanX_eq cl tt nt ops p]; rfl
  | .ch i p .nil => by
    funext r h k
    show (nthK ops i fun o => stepK cl tt nt ops o r h fun r h => evPlanX cl tt nt ops p r h k) = _
    rw [evPlanX_eq cl tt nt ops p]; rfl
  | .ch i p .stop => by
    funext r h k
    show ((nthK ops i fun o => stepK cl tt nt ops o r h fun r h => evPlanX cl tt nt ops p r h k) ∧ evPlanX cl tt nt ops .stop r h k) = _
    rw [evPlanX_eq cl tt nt ops p]; rfl
  | .ch i p (.op j q) => by
    funext r h k
    show ((nthK ops i fun o => stepK cl tt nt ops o r h fun r h => evPlanX cl tt nt ops p r h k) ∧ evPlanX cl tt nt ops (.op j q) r h k) = _
    rw [evPlanX_eq cl tt nt ops p, evPlanX_eq cl tt nt ops (.op j q)]; rfl
  | .ch i p (.re j q) => by
    funext r h k
    show ((nthK ops i fun o => stepK cl tt nt ops o r h fun r h => evPlanX cl tt nt ops p r h k) ∧ evPlanX cl tt nt ops (.re j q) r h k) = _
    rw [evPlanX_eq cl tt nt ops p, evPlanX_eq cl tt nt ops (.re j q)]; rfl
  | .ch i p (.ch j q q') => by
    funext r h k
    show ((nthK ops i fun o => stepK cl tt nt ops o r h fun r h => evPlanX cl tt nt ops p r h k) ∧ evPlanX cl tt nt ops (.ch j q q') r h k) = _
    rw [evPlanX_eq cl tt nt ops p, evPlanX_eq cl tt nt ops (.ch j q q')]; rfl
noncomputable def unrollX (lp : Lp d) (round : Pt d) (n : Nat) : Pt d :=
  Nat.rec (motive := fun _ => Pt d) (fun r h k => lp round r h k) (fun _ ih r h k => round r h fun e r h => match e with | .normal => ih r h k | e => k e r h) n
theorem unrollX_eq (lp : Lp d) (round : Pt d) : ∀ n : Nat, unrollX lp round n = unroll lp round n
  | 0 => by funext r h k; rfl
  | n + 1 => by
    funext r h k
    show (round r h fun e r h => match e with | .normal => unrollX lp round n r h k | e => k e r h) = _
    rw [unrollX_eq lp round n]; rfl
noncomputable def evCX (cl : Cl) (tt : TT) (nt : Nat) (lp : List Nat → Lp d) (un : Nat → Nat) (pl : Pl) (c : Code) : Nat → Pt d :=
  Code.rec (motive := fun _ => Nat → Pt d)
    (fun _ r h k => k .normal r h)
    (fun id ops draw _ r h k => match draw with
      | false => evOpsX cl tt nt ops.toList ops.toList r h fun r h => k .normal r h
      | true => plK pl id fun p => evPlanX cl tt nt ops.toList p r h fun r h => k .normal r h)
    (fun _ _ iha ihb n r h k => iha n r h fun e r h => match e with | .normal => ihb n r h k | e => k e r h)
    (fun c _ _ iha ihb n r h k => opK r c fun x => boolK x fun x => Cnd x (iha n r h k) (ihb n r h k))
    (fun id _ ih _ r h k => ih (un id) r h fun e r h => match e with
      | .exit j => match Nat.beq j id with | true => k .normal r h | false => k (.exit j) r h
      | e => k e r h)
    (fun b ih n r h k => unrollX (lp (asgC b)) (ih 0) n r h k)
    (fun _ _ _ _ _ _ _ _ _ _ => False)
    (fun id _ r h k => k (.exit id) r h)
    (fun _ ih n r h k => ih n r h k)
    (fun _ _ r h k => k .normal r h)
    (fun _ _ _ _ _ => False)
    (fun _ r h k => k .ret r h)
    (fun _ _ _ _ _ => False) c
theorem evCX_eq (cl : Cl) (tt : TT) (nt : Nat) (lp : List Nat → Lp d) (un : Nat → Nat) (pl : Pl) : ∀ c : Code, evCX cl tt nt lp un pl c = evC cl tt nt lp un pl c
  | .skip => by funext n r h k; rfl
  | .region id ops draw => by
    funext n r h k
    cases draw with
    | false =>
      show (evOpsX cl tt nt ops.toList ops.toList r h fun r h => k .normal r h) = _
      rw [evOpsX_eq]; rfl
    | true =>
      show (plK pl id fun p => evPlanX cl tt nt ops.toList p r h fun r h => k .normal r h) = _
      simp only [evPlanX_eq]; rfl
  | .seq a b => by
    funext n r h k
    show (evCX cl tt nt lp un pl a n r h fun e r h => match e with | .normal => evCX cl tt nt lp un pl b n r h k | e => k e r h) = _
    rw [evCX_eq cl tt nt lp un pl a, evCX_eq cl tt nt lp un pl b]; rfl
  | .cond c a b => by
    funext n r h k
    show (opK r c fun x => boolK x fun x => Cnd x (evCX cl tt nt lp un pl a n r h k) (evCX cl tt nt lp un pl b n r h k)) = _
    rw [evCX_eq cl tt nt lp un pl a, evCX_eq cl tt nt lp un pl b]; rfl
  | .block id b => by
    funext n r h k
    show (evCX cl tt nt lp un pl b (un id) r h fun e r h => match e with
      | .exit j => match Nat.beq j id with | true => k .normal r h | false => k (.exit j) r h
      | e => k e r h) = _
    rw [evCX_eq cl tt nt lp un pl b]; rfl
  | .loop b => by
    funext n r h k
    show unrollX (lp (asgC b)) (evCX cl tt nt lp un pl b 0) n r h k = _
    rw [evCX_eq cl tt nt lp un pl b, unrollX_eq]; rfl
  | .rangeFunc _ _ _ _ => by funext n r h k; rfl
  | .exit id => by funext n r h k; rfl
  | .scope b => by
    funext n r h k
    show evCX cl tt nt lp un pl b n r h k = _
    rw [evCX_eq cl tt nt lp un pl b]; rfl
  | .label _ => by funext n r h k; rfl
  | .goto _ => by funext n r h k; rfl
  | .ret => by funext n r h k; rfl
  | .refuse _ => by funext n r h k; rfl
noncomputable def evFX (d : Nat) (cl : Cl) (tt : TT) (f : Fn) (xs : List R) (h : Heap) (K : R → Heap → Prop) : Prop :=
  match Nat.ble xs.length f.nt with
  | true => hlenK h 0 fun n0 => argsK xs 0 (Tr.empty d) fun r => evCX cl tt f.nt (lpAsk n0) f.un f.pl f.code 0 r h fun e r h => match e with
    | .exit _ => False
    | _ => resultK tt r h f.res fun x => K x h
  | false => False
theorem evFX_eq (d : Nat) (cl : Cl) (tt : TT) (f : Fn) (xs : List R) (h : Heap) (K : R → Heap → Prop) : evFX d cl tt f xs h K = evF d cl tt f xs h K := by
  unfold evFX evF
  simp only [evCX_eq]
  rfl
noncomputable def clGoX (d : Nat) (tt : TT) (cl : Cl) (f : FuncId) (xs : List R) (h : Heap) (K : R → Heap → Prop) (l : List (FuncId × Fn)) : Prop :=
  List.rec (motive := fun _ => Prop) False (fun p _ ih => match Nat.beq f p.1 with
    | true => evFX d cl tt p.2 xs h K
    | false => ih) l
theorem clGoX_eq (d : Nat) (tt : TT) (cl : Cl) (f : FuncId) (xs : List R) (h : Heap) (K : R → Heap → Prop) : ∀ l : List (FuncId × Fn), clGoX d tt cl f xs h K l = clGo d tt cl f xs h K l
  | [] => rfl
  | (g, fn) :: l => by
    show (match Nat.beq f g with
    | true => evFX d cl tt fn xs h K
    | false => clGoX d tt cl f xs h K l) = _
    rw [clGoX_eq d tt cl f xs h K l, evFX_eq]; rfl
noncomputable def clConGoX (cl : Cl) (f : FuncId) (av : List Nat) (xs : List R) (h : Heap) (K : R → Heap → Prop) (l : List (FuncId × Cx)) : Prop :=
  List.rec (motive := fun _ => Prop) (cl f av xs h K) (fun p _ ih => match Nat.beq f p.1 with
    | true => p.2 xs h K
    | false => ih) l
theorem clConGoX_eq (cl : Cl) (f : FuncId) (av : List Nat) (xs : List R) (h : Heap) (K : R → Heap → Prop) : ∀ l : List (FuncId × Cx), clConGoX cl f av xs h K l = clConGo cl f av xs h K l
  | [] => rfl
  | (g, o) :: l => by
    show (match Nat.beq f g with
    | true => o xs h K
    | false => clConGoX cl f av xs h K l) = _
    rw [clConGoX_eq cl f av xs h K l]; rfl
noncomputable def clRunX (d : Nat) (tt : TT) (outs : List (FuncId × Cx)) (tab : List (FuncId × Fn)) (n : Nat) : Cl :=
  Nat.rec (motive := fun _ => Cl) (fun _ _ _ _ _ => False) (fun _ ih f av xs h K => clConGoX (fun f _ xs h K => clGoX d tt ih f xs h K tab) f av xs h K outs) n
theorem clRunX_eq (d : Nat) (tt : TT) (outs : List (FuncId × Cx)) (tab : List (FuncId × Fn)) : ∀ n : Nat, clRunX d tt outs tab n = clRunC d tt outs tab n
  | 0 => rfl
  | n + 1 => by
    funext f av xs h K
    show clConGoX (fun f _ xs h K => clGoX d tt (clRunX d tt outs tab n) f xs h K tab) f av xs h K outs = _
    rw [clConGoX_eq, clRunX_eq d tt outs tab n]
    simp only [clGoX_eq]
    rfl
theorem clRunX_ok {P : Program} {tt : TT} (hT : TTok P tt) {outs : List (FuncId × Cx)} (ho : OutsOk P outs) {tab : List (FuncId × Fn)} (ht : ∀ cl, ClOk P cl → ∀ g fn, (g, fn) ∈ tab → FnOk P cl tt d g fn) (n : Nat) : ClOk P (clRunX d tt outs tab n) := by
  rw [clRunX_eq]; exact clRunC_ok hT ho ht n
theorem AskC.useV {α : Type} {X : α → List R} {H : α → Heap} {pre : α → Prop} {F : α → R} {xs : List R} {h : Heap} {K : R → Heap → Prop} (p : α) (l : List Nat) (v : R) (hp : pre p)
    (hs : ((H p).all roB && (sepB l (H p) && plR (F p))) = true) (hH : leH (sig h l) h l (H p)) (hX : leXs (H p).length (sig h l) xs (X p)) (hv : F p = v) (hk : K v h) : AskC (RoCon X H pre F) xs h K :=
  .use p l hp hs hH hX (by rw [hv]; exact hk)
/-! ### Tests, as the walk leaves them -/
theorem qS {x y : R} {p : Prop} (h1 : x = y) (h2 : okR x = true) (h3 : p) : Cnd.match_1 (fun _ => Prop) (sameR x y) (fun _ => p) (fun _ => False) := cS h1 h2 h3
theorem qB {α : Type} [BEq α] [LawfulBEq α] {x : α} {a b : Prop} (h : a) : Cnd.match_1 (fun _ => Prop) (x == x) (fun _ => a) (fun _ => b) := cT (beq_self_eq_true x) h
theorem qI {n : Int} {a b : Prop} (h : -9223372036854775808 ≤ n ∧ n ≤ 9223372036854775807) (h1 : a) : Cnd.match_1 (fun _ => Prop) (inR .i64 n) (fun _ => a) (fun _ => b) := bI h h1
theorem qU8 {n : Int} {a b : Prop} (h : 0 ≤ n ∧ n ≤ 255) (h1 : a) : Cnd.match_1 (fun _ => Prop) (inR .u8 n) (fun _ => a) (fun _ => b) := bU8 h h1
theorem qU16 {n : Int} {a b : Prop} (h : 0 ≤ n ∧ n ≤ 65535) (h1 : a) : Cnd.match_1 (fun _ => Prop) (inR .u16 n) (fun _ => a) (fun _ => b) := bU16 h h1
theorem qU32 {n : Int} {a b : Prop} (h : 0 ≤ n ∧ n ≤ 4294967295) (h1 : a) : Cnd.match_1 (fun _ => Prop) (inR .u32 n) (fun _ => a) (fun _ => b) := bU32 h h1
theorem qU64 {n : Int} {a b : Prop} (h : 0 ≤ n ∧ n ≤ 18446744073709551615) (h1 : a) : Cnd.match_1 (fun _ => Prop) (inR .u64 n) (fun _ => a) (fun _ => b) := bU64 h h1
theorem qDT {p : Prop} {_ : Decidable p} {a b : Prop} (h : p) (h1 : a) : Cnd.match_1 (fun _ => Prop) (decide p) (fun _ => a) (fun _ => b) := cDT h h1
theorem qDF {p : Prop} {_ : Decidable p} {a b : Prop} (h : ¬ p) (h1 : b) : Cnd.match_1 (fun _ => Prop) (decide p) (fun _ => a) (fun _ => b) := cDF h h1
theorem qNT {p : Prop} {_ : Decidable p} {a b : Prop} (h : ¬ p) (h1 : a) : Cnd.match_1 (fun _ => Prop) (!decide p) (fun _ => a) (fun _ => b) := cNT h h1
theorem qNF {p : Prop} {_ : Decidable p} {a b : Prop} (h : p) (h1 : b) : Cnd.match_1 (fun _ => Prop) (!decide p) (fun _ => a) (fun _ => b) := cNF h h1
end Go.Eng
