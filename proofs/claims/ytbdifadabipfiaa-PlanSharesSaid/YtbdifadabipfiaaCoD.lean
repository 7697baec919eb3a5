/- Contracts: units, Steps; the references' small functions. -/
import Derived.Test.YtbdifadabipfiaaCoC
namespace Go.Proofs.Ytbdifadabipfiaa.Co
open Go Go.Eng Go.Proofs Go.Proofs.Ytbdifadabipfiaa.Tb Go.Pu
set_option maxRecDepth 100000
set_option maxHeartbeats 8000000
abbrev outs0 : List (FuncId × Cx) := []
theorem outs0_ok : OutsOk Try.prog outs0 := .nil
/-! ### Units -/
theorem units_q (unit bits : Int) : 0 ≤ (min (max bits 0) 1000 * 4).tdiv (max unit 1) ∧ (min (max bits 0) 1000 * 4).tdiv (max unit 1) ≤ 4000 := by
  rw [Int.tdiv_eq_ediv_of_nonneg (by omega)]
  have h1 : 0 ≤ (min (max bits 0) 1000 * 4) / (max unit 1) := Int.ediv_nonneg (by omega) (by omega)
  have h2 : (min (max bits 0) 1000 * 4) / (max unit 1) ≤ min (max bits 0) 1000 * 4 := Int.ediv_le_self _ (by omega)
  omega
abbrev unitsC : Con (Mat × Caps × Int) := RoCon (fun p => [matT p.1 p.2.1 0 1 2, iv .i64 p.2.2]) (fun p => matH p.1 []) (fun _ => True) fun p => iv .i64 (units p.1.unit p.2.2)
theorem units_use {m : Mat} {c : Caps} {b : Int} {rest : Heap} {K : R → Heap → Prop} (hk : K (iv .i64 (units m.unit b)) (matH m rest)) : AskC unitsC [matT m c 0 1 2, iv .i64 b] (matH m rest) K :=
  .use (m, c, b) [0, 1, 2] trivial rfl (mat_le m rest) ⟨mat_lx m c rest, .inl rfl, trivial⟩ hk
noncomputable abbrev tabUn : List (FuncId × Eng.Fn) := [(F.check_Units, fn.check_Units u0)]
theorem tabUn_ok {d : Nat} : TabOk d tabUn tt := .cons (ok.check_Units u0) (TabOk.nil)
theorem units_run (m : Mat) (c : Caps) (b : Int) : clRunX 5 tt outs0 tabUn 2 F.check_Units [] [matT m c 0 1 2, iv .i64 b] (matH m []) (fun x h => Trim 3 x h fun x h => x = iv .i64 (units m.unit b) ∧ h = matH m []) := by
  have hq := units_q m.unit b
  repeat((conv=>whnf);first|((with_reducible refine qS ?_ ?_ ?_);exact rfl;exact rfl)|with_reducible refine qB ?_|((with_reducible refine qI ?_ ?_);omega)|((with_reducible refine qDT ?_ ?_);omega)|((with_reducible refine qDF ?_ ?_);omega)|((with_reducible refine qNT ?_ ?_);omega)|((with_reducible refine qNF ?_ ?_);omega)|((with_reducible refine qU8 ?_ ?_);omega)|((with_reducible refine qU32 ?_ ?_);omega)|((with_reducible refine qU64 ?_ ?_);omega)|((with_reducible refine qU16 ?_ ?_);omega))
  conv => whnf
  refine cN (fun h1 => ?_) (fun h1 => ?_)
  · repeat((conv=>whnf);first|((with_reducible refine qS ?_ ?_ ?_);exact rfl;exact rfl)|with_reducible refine qB ?_|((with_reducible refine qI ?_ ?_);omega)|((with_reducible refine qDT ?_ ?_);omega)|((with_reducible refine qDF ?_ ?_);omega)|((with_reducible refine qNT ?_ ?_);omega)|((with_reducible refine qNF ?_ ?_);omega)|((with_reducible refine qU8 ?_ ?_);omega)|((with_reducible refine qU32 ?_ ?_);omega)|((with_reducible refine qU64 ?_ ?_);omega)|((with_reducible refine qU16 ?_ ?_);omega))
    conv => whnf
    exact trimM rfl (congrArg (iv .i64) (by unfold units; rw [if_neg h1]))
  · repeat((conv=>whnf);first|((with_reducible refine qS ?_ ?_ ?_);exact rfl;exact rfl)|with_reducible refine qB ?_|((with_reducible refine qI ?_ ?_);omega)|((with_reducible refine qDT ?_ ?_);omega)|((with_reducible refine qDF ?_ ?_);omega)|((with_reducible refine qNT ?_ ?_);omega)|((with_reducible refine qNF ?_ ?_);omega)|((with_reducible refine qU8 ?_ ?_);omega)|((with_reducible refine qU32 ?_ ?_);omega)|((with_reducible refine qU64 ?_ ?_);omega)|((with_reducible refine qU16 ?_ ?_);omega))
    conv => whnf
    exact trimM rfl (congrArg (iv .i64) (by unfold units; rw [if_pos h1, Int.add_zero]))
theorem units_ok : ConOk Try.prog F.check_Units unitsC := con_of_run (clRunX_ok (d := 5) ttOk outs0_ok tabUn_ok 2) (fn_enters (ok.check_Units (D := 5) u0 _ (clRunX_ok (d := 5) ttOk .nil TabOk.nil 1))) fun p _ => units_run p.1 p.2.1 p.2.2
noncomputable abbrev tabUr : List (FuncId × Eng.Fn) := [(F.ref12_Units, fn.ref12_Units u0)]
theorem tabUr_ok {d : Nat} : TabOk d tabUr tt := .cons (ok.ref12_Units u0) (TabOk.nil)
theorem unitsR_run (m : Mat) (c : Caps) (b : Int) : clRunX 5 tt outs0 tabUr 2 F.ref12_Units [] [matT m c 0 1 2, iv .i64 b] (matH m []) (fun x h => Trim 3 x h fun x h => x = iv .i64 (units m.unit b) ∧ h = matH m []) := by
  have e1 : 4 * max 0 (min b 1000) = min (max b 0) 1000 * 4 := by omega
  have e2 : max 1 m.unit = max m.unit 1 := by omega
  have hq := units_q m.unit b
  rw [← e1, ← e2] at hq
  have e3 : (4 * max 0 (min b 1000)).tdiv (max 1 m.unit) = (min (max b 0) 1000 * 4).tdiv (max m.unit 1) := by rw [e1, e2]
  have e4 : (4 * max 0 (min b 1000)).tmod (max 1 m.unit) = (min (max b 0) 1000 * 4).tmod (max m.unit 1) := by rw [e1, e2]
  repeat((conv=>whnf);first|((with_reducible refine qS ?_ ?_ ?_);exact rfl;exact rfl)|with_reducible refine qB ?_|((with_reducible refine qI ?_ ?_);omega)|((with_reducible refine qDT ?_ ?_);omega)|((with_reducible refine qDF ?_ ?_);omega)|((with_reducible refine qNT ?_ ?_);omega)|((with_reducible refine qNF ?_ ?_);omega)|((with_reducible refine qU8 ?_ ?_);omega)|((with_reducible refine qU32 ?_ ?_);omega)|((with_reducible refine qU64 ?_ ?_);omega)|((with_reducible refine qU16 ?_ ?_);omega))
  conv => whnf
  refine cN (fun h1 => ?_) (fun h1 => ?_)
  · repeat((conv=>whnf);first|((with_reducible refine qS ?_ ?_ ?_);exact rfl;exact rfl)|with_reducible refine qB ?_|((with_reducible refine qI ?_ ?_);omega)|((with_reducible refine qDT ?_ ?_);omega)|((with_reducible refine qDF ?_ ?_);omega)|((with_reducible refine qNT ?_ ?_);omega)|((with_reducible refine qNF ?_ ?_);omega)|((with_reducible refine qU8 ?_ ?_);omega)|((with_reducible refine qU32 ?_ ?_);omega)|((with_reducible refine qU64 ?_ ?_);omega)|((with_reducible refine qU16 ?_ ?_);omega))
    conv => whnf
    exact trimM rfl (congrArg (iv .i64) (by unfold units; rw [e4] at h1; rw [if_neg h1, e3]))
  · repeat((conv=>whnf);first|((with_reducible refine qS ?_ ?_ ?_);exact rfl;exact rfl)|with_reducible refine qB ?_|((with_reducible refine qI ?_ ?_);omega)|((with_reducible refine qDT ?_ ?_);omega)|((with_reducible refine qDF ?_ ?_);omega)|((with_reducible refine qNT ?_ ?_);omega)|((with_reducible refine qNF ?_ ?_);omega)|((with_reducible refine qU8 ?_ ?_);omega)|((with_reducible refine qU32 ?_ ?_);omega)|((with_reducible refine qU64 ?_ ?_);omega)|((with_reducible refine qU16 ?_ ?_);omega))
    conv => whnf
    exact trimM rfl (congrArg (iv .i64) (by unfold units; rw [e4] at h1; rw [if_pos h1, Int.add_zero, e3]))
theorem unitsR_ok : ConOk Try.prog F.ref12_Units unitsC := con_of_run (clRunX_ok (d := 5) ttOk outs0_ok tabUr_ok 2) (fn_enters (ok.ref12_Units (D := 5) u0 _ (clRunX_ok (d := 5) ttOk .nil TabOk.nil 1))) fun p _ => unitsR_run p.1 p.2.1 p.2.2
/-! ### Step -/
abbrev outs3 : List (FuncId × Cx) := (F.matrix_Is, AskC isC) :: (F.check_Units, AskC unitsC) :: outs1
theorem outs3_ok : OutsOk Try.prog outs3 := .cons (ask_ok is_ok) (.cons (ask_ok units_ok) outs1_ok)
abbrev stepC : Con (Mat × Caps) := RoCon (fun p => [matT p.1 p.2 0 1 2]) (fun p => matH p.1 []) (fun p => p.1.Ok) fun p => iv .i64 (Pu.step p.1)
theorem step_use {m : Mat} {c : Caps} {rest : Heap} {K : R → Heap → Prop} (hm : m.Ok) (hk : K (iv .i64 (Pu.step m)) (matH m rest)) : AskC stepC [matT m c 0 1 2] (matH m rest) K :=
  .use (m, c) [0, 1, 2] hm rfl (mat_le m rest) ⟨mat_lx m c rest, trivial⟩ hk
noncomputable abbrev tabSt : List (FuncId × Eng.Fn) := [(F.check_Step, fn.check_Step u0)]
theorem tabSt_ok {d : Nat} : TabOk d tabSt tt := .cons (ok.check_Step u0) (TabOk.nil)
theorem step_run (m : Mat) (c : Caps) (hm : m.Ok) : clRunX 4 tt outs3 tabSt 2 F.check_Step [] [matT m c 0 1 2] (matH m []) (fun x h => Trim 3 x h fun x h => x = iv .i64 (Pu.step m) ∧ h = matH m []) := by
  conv => whnf
  refine is_use (m := m) (c := c) hm ?_
  conv => whnf
  cases hi : isM m with
  | false =>
    conv => whnf
    exact trimM rfl (congrArg (iv .i64) (by unfold Pu.step; rw [hi]; rfl))
  | true =>
    have hI := isM_iff.1 hi
    obtain ⟨_, _, _, _, _, _, _, g1, g2, g3, g4, _⟩ := hI.head
    have hu := units_bd g3 g4
    conv => whnf
    refine units_use (m := m) (c := c) ?_
    repeat((conv=>whnf);first|((with_reducible refine qS ?_ ?_ ?_);exact rfl;exact rfl)|with_reducible refine qB ?_|((with_reducible refine qI ?_ ?_);omega)|((with_reducible refine qDT ?_ ?_);omega)|((with_reducible refine qDF ?_ ?_);omega)|((with_reducible refine qNT ?_ ?_);omega)|((with_reducible refine qNF ?_ ?_);omega)|((with_reducible refine qU8 ?_ ?_);omega)|((with_reducible refine qU32 ?_ ?_);omega)|((with_reducible refine qU64 ?_ ?_);omega)|((with_reducible refine qU16 ?_ ?_);omega))
    conv => whnf
    exact trimM rfl (congrArg (iv .i64) (step_of hI).symm)
theorem step_ok : ConOk Try.prog F.check_Step stepC := con_of_run (clRunX_ok (d := 4) ttOk outs3_ok tabSt_ok 2) (fn_enters (ok.check_Step (D := 4) u0 _ (clRunX_ok (d := 4) ttOk .nil TabOk.nil 1))) fun p hp => step_run p.1 p.2 hp
end Go.Proofs.Ytbdifadabipfiaa.Co
