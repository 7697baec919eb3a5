/- Contracts: small functions over numbers. -/
import Derived.Test.YtdeaigaafdnehaaDoorTbA
import Derived.Test.YtdeaigaafdnehaaDoorPuA
import Derived.Test.YtdeaigaafdnehaaDoorEnJ
namespace Go.Proofs.YtdeaigaafdnehaaDoor.Co
open Go Go.Eng Go.Proofs Go.Proofs.YtdeaigaafdnehaaDoor.Tb Go.Pu
set_option maxRecDepth 100000
set_option maxHeartbeats 8000000
abbrev iC (n : Int) : C := .v (.int .i64 n)
abbrev uC (n : Int) : C := .v (.int .u32 n)
abbrev bC (b : Bool) : C := .v (.bool b)
abbrev u0 : Nat → Nat := fun _ => 0
abbrev u9 : Nat → Nat := fun _ => 1000
/-- The end of a run that only read, in an empty heap. -/
theorem trim0 {x F : R} {g : Heap} (hp : plR x = true) (e : x = F) : Trim 0 x g (fun x h => x = F ∧ h = []) :=
  .ro (h' := []) ⟨⟨[], rfl, trivial, by show leR _ x x; unfold leR; cases x <;> first | trivial | exact (plR_ren hp).symm⟩⟩ ⟨e, rfl⟩
/-! ### within -/
abbrev within : Con (Int × Int × Int) := RoCon (fun p => [iv .i64 p.1, iv .i64 p.2.1, iv .i64 p.2.2]) (fun _ => []) (fun _ => True) fun p => bv (decide (p.2.1 ≤ p.1 ∧ p.1 ≤ p.2.2))
theorem within_use {n lo hi : Int} {h : Heap} {K : R → Heap → Prop} (hk : K (bv (decide (lo ≤ n ∧ n ≤ hi))) h) : AskC within [iv .i64 n, iv .i64 lo, iv .i64 hi] h K :=
  .use (n, lo, hi) [] trivial rfl trivial ⟨.inl rfl, .inl rfl, .inl rfl, trivial⟩ hk
theorem within_run (n lo hi : Int) : clRunX 4 tt [] [(F.matrix_within, fn.matrix_within u0)] 2 F.matrix_within [] [iv .i64 n, iv .i64 lo, iv .i64 hi] [] (fun x h => Trim 0 x h fun x h => x = bv (decide (lo ≤ n ∧ n ≤ hi)) ∧ h = []) := by
  conv => whnf
  refine cD (fun h1 => ?_) (fun h1 => ?_)
  · conv => whnf
    exact trim0 rfl (congrArg bv (decide_eq_decide.2 (by omega)))
  · conv => whnf
    exact trim0 rfl (congrArg bv (decide_eq_false (by omega)).symm)
theorem within_ok : ConOk Tryd.prog F.matrix_within within :=
  con_of_run (clRunX_ok (d := 4) ttOk .nil (TabOk.cons (ok.matrix_within u0) .nil) 2) (fn_enters (ok.matrix_within (D := 4) u0 _ (clRunX_ok (d := 4) ttOk .nil TabOk.nil 2))) fun p _ => within_run p.1 p.2.1 p.2.2
/-! ### Comes -/
abbrev comesC : Con (Int × Int × Int) := RoCon (fun p => [iv .i64 p.1, iv .i64 p.2.1, iv .i64 p.2.2]) (fun _ => []) (fun p => I64 p.2.2) fun p => bv (comes p.1 p.2.1 p.2.2)
theorem comes_use {c r n : Int} {h : Heap} {K : R → Heap → Prop} (hn : I64 n) (hk : K (bv (comes c r n)) h) : AskC comesC [iv .i64 c, iv .i64 r, iv .i64 n] h K :=
  .use (c, r, n) [] hn rfl trivial ⟨.inl rfl, .inl rfl, .inl rfl, trivial⟩ hk
/-! ### power -/
abbrev powerC : Con Int := RoCon (fun p => [iv .i64 p]) (fun _ => []) (fun _ => True) fun p => bv (decide (power p))
theorem power_use {n : Int} {h : Heap} {K : R → Heap → Prop} (hk : K (bv (decide (power n))) h) : AskC powerC [iv .i64 n] h K :=
  .use n [] trivial rfl trivial ⟨.inl rfl, trivial⟩ hk
theorem power_run (n : Int) : clRunX 5 tt [] [(F.matrix_power, fn.matrix_power u0), (F.slices_Contains_int, fn.slices_Contains_int u0), (F.slices_Index_int, fn.slices_Index_int u9)] 4 F.matrix_power [] [iv .i64 n] [] (fun x h => Trim 0 x h fun x h => x = bv (decide (power n)) ∧ h = []) := by
  conv => whnf
  refine cD (fun h1 => ?_) (fun h1 => ?_)
  · conv => whnf
    exact trim0 rfl (congrArg bv (decide_eq_decide.2 (by unfold power; omega)))
  conv => whnf
  refine cD (fun h2 => ?_) (fun h2 => ?_)
  · conv => whnf
    exact trim0 rfl (congrArg bv (decide_eq_decide.2 (by unfold power; omega)))
  conv => whnf
  refine cD (fun h3 => ?_) (fun h3 => ?_)
  · conv => whnf
    exact trim0 rfl (congrArg bv (decide_eq_decide.2 (by unfold power; omega)))
  conv => whnf
  refine cD (fun h4 => ?_) (fun h4 => ?_)
  · conv => whnf
    exact trim0 rfl (congrArg bv (decide_eq_decide.2 (by unfold power; omega)))
  conv => whnf
  exact trim0 rfl (congrArg bv (decide_eq_decide.2 (by unfold power; omega)))
theorem power_ok : ConOk Tryd.prog F.matrix_power powerC :=
  con_of_run (clRunX_ok (d := 5) ttOk .nil (TabOk.cons (ok.matrix_power u0) (.cons (ok.slices_Contains_int u0) (.cons (ok.slices_Index_int u9) .nil))) 4) (fn_enters (ok.matrix_power (D := 5) u0 _ (clRunX_ok (d := 5) ttOk .nil TabOk.nil 2))) fun p _ => power_run p
/-! ### Matrices as the program has them -/
structure Caps where
  c1 : Nat
  c2 : Nat
  c3 : Nat
  z1 : Bool
  z2 : Bool
  z3 : Bool
def msgL (x : Msg) : List C := [uC x.id, iC x.ow, bC x.ev]
def winL (x : Win) : List C := [iC x.kind, iC x.st, iC x.en, iC x.cyc, iC x.rep, iC x.msg]
def winT (x : Win) : R := .t (.agg [.c (iC x.kind), .c (iC x.st), .c (iC x.en), .c (iC x.cyc), .c (iC x.rep), .c (iC x.msg)])
def matT (m : Mat) (c : Caps) (a1 a2 a3 : Nat) : R := .t (.agg [.c (iC m.level), .c (iC m.nodes), .c (iC m.cycles), .c (iC m.length), .c (iC m.enable), .c (iC m.unit), .c (iC m.init), .c (uC m.ref),
  .c (.slc a1 0 1 0 m.nM c.c1 c.z1), .c (.slc a2 0 3 0 m.nG c.c2 c.z2), .c (.slc a3 0 6 0 m.nW c.c3 c.z3)])
def matH (m : Mat) (rest : Heap) : Heap := .ob (.ro 1 m.nM fun i => [iC (m.M i)]) :: .ob (.ro 3 m.nG fun i => msgL (m.G i)) :: .ob (.ro 6 m.nW fun i => winL (m.W i)) :: rest
theorem trimM {m : Mat} {x F : R} {g : Heap} (hp : plR x = true) (e : x = F) : Trim 3 x (matH m g) (fun x h => x = F ∧ h = matH m []) :=
  .ro (h' := matH m []) ⟨⟨[0, 1, 2], rfl, ⟨⟨.inl rfl, Nat.le_refl _, fun _ _ => rfl⟩, ⟨.inl rfl, Nat.le_refl _, fun _ _ => rfl⟩, ⟨.inl rfl, Nat.le_refl _, fun _ _ => rfl⟩, trivial⟩, by show leR _ x x; unfold leR; cases x <;> first | trivial | exact (plR_ren hp).symm⟩⟩ ⟨e, rfl⟩
/-- A contract on a matrix: its use where the matrix lies in the heap's first three places. -/
theorem mat_le (m : Mat) (rest : Heap) : leH (sig (matH m rest) [0, 1, 2]) (matH m rest) [0, 1, 2] (matH m []) := ⟨⟨.inl rfl, Nat.le_refl _, fun _ _ => rfl⟩, ⟨.inl rfl, Nat.le_refl _, fun _ _ => rfl⟩, ⟨.inl rfl, Nat.le_refl _, fun _ _ => rfl⟩, trivial⟩
theorem mat_lx (m : Mat) (c : Caps) (rest : Heap) : leX 3 (sig (matH m rest) [0, 1, 2]) (matT m c 0 1 2) (matT m c 0 1 2) :=
  ⟨.inl rfl, .inl rfl, .inl rfl, .inl rfl, .inl rfl, .inl rfl, .inl rfl, .inl rfl, .inl rfl, .inl rfl, .inl rfl, trivial⟩
/-! ### head -/
abbrev headC : Con (Mat × Caps) := RoCon (fun p => [matT p.1 p.2 0 1 2]) (fun p => matH p.1 []) (fun _ => True) fun p => bv (decide (headP p.1))
theorem head_use {m : Mat} {c : Caps} {rest : Heap} {K : R → Heap → Prop} (hk : K (bv (decide (headP m))) (matH m rest)) : AskC headC [matT m c 0 1 2] (matH m rest) K :=
  .use (m, c) [0, 1, 2] trivial rfl (mat_le m rest) ⟨mat_lx m c rest, trivial⟩ hk
abbrev outs1 : List (FuncId × Cx) := [(F.matrix_within, AskC within), (F.matrix_power, AskC powerC)]
theorem outs1_ok : OutsOk Tryd.prog outs1 := .cons (ask_ok within_ok) (.cons (ask_ok power_ok) .nil)
theorem head_run (m : Mat) (c : Caps) : clRunX 6 tt outs1 [(F.matrix_head, fn.matrix_head u0)] 2 F.matrix_head [] [matT m c 0 1 2] (matH m []) (fun x h => Trim 3 x h fun x h => x = bv (decide (headP m)) ∧ h = matH m []) := by
  iterate 7
    conv => whnf
    first | refine within_use ?_ | refine power_use ?_
    conv => whnf
    refine cD (fun h1 => ?_) (fun h1 => ?_)
    rotate_left
    · conv => whnf
      exact trimM rfl (congrArg bv (decide_eq_false (by unfold headP; first | omega | (unfold power at *; omega))).symm)
  conv => whnf
  refine cD (fun h1 => ?_) (fun h1 => ?_)
  rotate_left
  · conv => whnf
    exact trimM rfl (congrArg bv (decide_eq_false (by unfold headP; omega)).symm)
  repeat((conv=>whnf);first|((with_reducible refine qS ?_ ?_ ?_);exact rfl;exact rfl)|with_reducible refine qB ?_|((with_reducible refine qI ?_ ?_);omega)|((with_reducible refine qDT ?_ ?_);omega)|((with_reducible refine qDF ?_ ?_);omega)|((with_reducible refine qNT ?_ ?_);omega)|((with_reducible refine qNF ?_ ?_);omega)|((with_reducible refine qU8 ?_ ?_);omega)|((with_reducible refine qU32 ?_ ?_);omega)|((with_reducible refine qU64 ?_ ?_);omega)|((with_reducible refine qU16 ?_ ?_);omega))
  conv => whnf
  exact trimM rfl (congrArg bv (decide_eq_decide.2 (by unfold headP; simp only [power] at *; omega)))
theorem head_ok : ConOk Tryd.prog F.matrix_head headC :=
  con_of_run (clRunX_ok (d := 6) ttOk outs1_ok (TabOk.cons (ok.matrix_head u0) .nil) 2) (fn_enters (ok.matrix_head (D := 6) u0 _ (clRunX_ok (d := 6) ttOk .nil TabOk.nil 2))) fun p _ => head_run p.1 p.2
end Go.Proofs.YtdeaigaafdnehaaDoor.Co
