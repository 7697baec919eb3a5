/- Contracts: bits, the watch, again; windows, sends, busy units of all cycles. -/
import Derived.Test.YtbdifadabipfiaaCoQ
import Derived.Test.YtbdifadabipfiaaPuD
namespace Go.Proofs.Ytbdifadabipfiaa.Co
open Go Go.Eng Go.Proofs Go.Proofs.Ytbdifadabipfiaa.Tb Go.Pu
set_option maxRecDepth 100000
set_option maxHeartbeats 8000000
/-! ### Bits -/
abbrev bitsC : Con (Mat × Caps × Int) := RoCon (fun p => [matT p.1 p.2.1 0 1 2, iv .i64 p.2.2]) (fun p => matH p.1 []) (fun p => p.1.Ok ∧ capsOk p.1 p.2.1 ∧ I64 p.2.2) fun p => iv .i64 (bits1 p.1 p.2.2)
theorem bits_use {m : Mat} {c : Caps} {u : Int} {rest : Heap} {K : R → Heap → Prop} (hm : m.Ok) (hc : capsOk m c) (hu : I64 u) (hk : K (iv .i64 (bits1 m u)) (matH m rest)) : AskC bitsC [matT m c 0 1 2, iv .i64 u] (matH m rest) K :=
  .use (m, c, u) [0, 1, 2] ⟨hm, hc, hu⟩ rfl (mat_le m rest) ⟨mat_lx m c rest, .inl rfl, trivial⟩ hk
abbrev outsBr : List (FuncId × Cx) := [(F.bound_right, AskC rightC)]
theorem outsBr_ok : OutsOk Try.prog outsBr := .cons (ask_ok rightB_ok) .nil
noncomputable abbrev tabRB : List (FuncId × Eng.Fn) := [(F.bound_Bits, fn.bound_Bits u0)]
theorem tabRB_ok {d : Nat} : TabOk d tabRB tt := .cons (ok.bound_Bits u0) (TabOk.nil)
theorem bits_run (m : Mat) (c : Caps) (u : Int) (hm : m.Ok) (hc : capsOk m c) (hu : I64 u) : clRunX 5 tt outsBr tabRB 2 F.bound_Bits [] [matT m c 0 1 2, iv .i64 u] (matH m []) (fun x h => Trim 3 x h fun x h => x = iv .i64 (bits1 m u) ∧ h = matH m []) := by
  repeat((conv=>whnf);first|((with_reducible refine qS ?_ ?_ ?_);exact rfl;exact rfl)|with_reducible refine qB ?_|((with_reducible refine qI ?_ ?_);omega)|((with_reducible refine qDT ?_ ?_);omega)|((with_reducible refine qDF ?_ ?_);omega)|((with_reducible refine qNT ?_ ?_);omega)|((with_reducible refine qNF ?_ ?_);omega)|((with_reducible refine qU8 ?_ ?_);omega)|((with_reducible refine qU32 ?_ ?_);omega)|((with_reducible refine qU64 ?_ ?_);omega)|((with_reducible refine qU16 ?_ ?_);omega))
  conv => whnf
  refine right_use (m := m) (c := c) hm hc ?_
  by_cases h : (chk m).2 = 0
  · rw [decide_eq_true h]
    have hb := numU_bd (pass_of h).is.head u
    have hd := bitsM_bd (pass_of h).is.head u
    unfold numU at hb
    repeat((conv=>whnf);first|((with_reducible refine qS ?_ ?_ ?_);exact rfl;exact rfl)|with_reducible refine qB ?_|((with_reducible refine qI ?_ ?_);omega)|((with_reducible refine qDT ?_ ?_);omega)|((with_reducible refine qDF ?_ ?_);omega)|((with_reducible refine qNT ?_ ?_);omega)|((with_reducible refine qNF ?_ ?_);omega)|((with_reducible refine qU8 ?_ ?_);omega)|((with_reducible refine qU32 ?_ ?_);omega)|((with_reducible refine qU64 ?_ ?_);omega)|((with_reducible refine qU16 ?_ ?_);omega))
    conv => whnf
    rw [show (min (max u 0) 100000 * m.unit + 4 - 1).tdiv 4 = bitsM m u by unfold bitsM numU; congr 1; omega]
    repeat((conv=>whnf);first|((with_reducible refine qS ?_ ?_ ?_);exact rfl;exact rfl)|with_reducible refine qB ?_|((with_reducible refine qI ?_ ?_);omega)|((with_reducible refine qDT ?_ ?_);omega)|((with_reducible refine qDF ?_ ?_);omega)|((with_reducible refine qNT ?_ ?_);omega)|((with_reducible refine qNF ?_ ?_);omega)|((with_reducible refine qU8 ?_ ?_);omega)|((with_reducible refine qU32 ?_ ?_);omega)|((with_reducible refine qU64 ?_ ?_);omega)|((with_reducible refine qU16 ?_ ?_);omega))
    conv => whnf
    exact trimM rfl (congrArg (iv .i64) (if_pos h).symm)
  · rw [decide_eq_false h]
    repeat((conv=>whnf);first|((with_reducible refine qS ?_ ?_ ?_);exact rfl;exact rfl)|with_reducible refine qB ?_|((with_reducible refine qI ?_ ?_);omega)|((with_reducible refine qDT ?_ ?_);omega)|((with_reducible refine qDF ?_ ?_);omega)|((with_reducible refine qNT ?_ ?_);omega)|((with_reducible refine qNF ?_ ?_);omega)|((with_reducible refine qU8 ?_ ?_);omega)|((with_reducible refine qU32 ?_ ?_);omega)|((with_reducible refine qU64 ?_ ?_);omega)|((with_reducible refine qU16 ?_ ?_);omega))
    conv => whnf
    exact trimM rfl (congrArg (iv .i64) (if_neg h).symm)
theorem bits_ok : ConOk Try.prog F.bound_Bits bitsC := con_of_run (clRunX_ok (d := 5) ttOk outsBr_ok tabRB_ok 2) (fn_enters (ok.bound_Bits (D := 5) u0 _ (clRunX_ok (d := 5) ttOk .nil TabOk.nil 1))) fun p hp => bits_run p.1 p.2.1 p.2.2 hp.1 hp.2.1 hp.2.2
/-! ### A cycle -/
abbrev cycleC : Con (Mat × Caps) := RoCon (fun p => [matT p.1 p.2 0 1 2]) (fun p => matH p.1 []) (fun p => p.1.Ok ∧ capsOk p.1 p.2) fun p => iv .i64 (bits1 p.1 p.1.length)
theorem cycle_use {m : Mat} {c : Caps} {rest : Heap} {K : R → Heap → Prop} (hm : m.Ok) (hc : capsOk m c) (hk : K (iv .i64 (bits1 m m.length)) (matH m rest)) : AskC cycleC [matT m c 0 1 2] (matH m rest) K :=
  .use (m, c) [0, 1, 2] ⟨hm, hc⟩ rfl (mat_le m rest) ⟨mat_lx m c rest, trivial⟩ hk
abbrev outsBc : List (FuncId × Cx) := [(F.bound_Bits, AskC bitsC)]
theorem outsBc_ok : OutsOk Try.prog outsBc := .cons (ask_ok bits_ok) .nil
noncomputable abbrev tabRC : List (FuncId × Eng.Fn) := [(F.bound_Cycle, fn.bound_Cycle u0)]
theorem tabRC_ok {d : Nat} : TabOk d tabRC tt := .cons (ok.bound_Cycle u0) (TabOk.nil)
theorem cycle_run (m : Mat) (c : Caps) (hm : m.Ok) (hc : capsOk m c) : clRunX 4 tt outsBc tabRC 2 F.bound_Cycle [] [matT m c 0 1 2] (matH m []) (fun x h => Trim 3 x h fun x h => x = iv .i64 (bits1 m m.length) ∧ h = matH m []) := by
  repeat((conv=>whnf);first|((with_reducible refine qS ?_ ?_ ?_);exact rfl;exact rfl)|with_reducible refine qB ?_|((with_reducible refine qI ?_ ?_);omega)|((with_reducible refine qDT ?_ ?_);omega)|((with_reducible refine qDF ?_ ?_);omega)|((with_reducible refine qNT ?_ ?_);omega)|((with_reducible refine qNF ?_ ?_);omega)|((with_reducible refine qU8 ?_ ?_);omega)|((with_reducible refine qU32 ?_ ?_);omega)|((with_reducible refine qU64 ?_ ?_);omega)|((with_reducible refine qU16 ?_ ?_);omega))
  conv => whnf
  refine bits_use (m := m) (c := c) hm hc hm.length ?_
  repeat((conv=>whnf);first|((with_reducible refine qS ?_ ?_ ?_);exact rfl;exact rfl)|with_reducible refine qB ?_|((with_reducible refine qI ?_ ?_);omega)|((with_reducible refine qDT ?_ ?_);omega)|((with_reducible refine qDF ?_ ?_);omega)|((with_reducible refine qNT ?_ ?_);omega)|((with_reducible refine qNF ?_ ?_);omega)|((with_reducible refine qU8 ?_ ?_);omega)|((with_reducible refine qU32 ?_ ?_);omega)|((with_reducible refine qU64 ?_ ?_);omega)|((with_reducible refine qU16 ?_ ?_);omega))
  conv => whnf
  exact trimM rfl rfl
theorem cycle_ok : ConOk Try.prog F.bound_Cycle cycleC := con_of_run (clRunX_ok (d := 4) ttOk outsBc_ok tabRC_ok 2) (fn_enters (ok.bound_Cycle (D := 4) u0 _ (clRunX_ok (d := 4) ttOk .nil TabOk.nil 1))) fun p hp => cycle_run p.1 p.2 hp.1 hp.2
/-! ### The watch -/
abbrev watchC : Con (Mat × Caps) := RoCon (fun p => [matT p.1 p.2 0 1 2]) (fun p => matH p.1 []) (fun p => p.1.Ok) fun p => iv .i64 (watch1 p.1)
theorem watch_use {m : Mat} {c : Caps} {rest : Heap} {K : R → Heap → Prop} (hm : m.Ok) (hk : K (iv .i64 (watch1 m)) (matH m rest)) : AskC watchC [matT m c 0 1 2] (matH m rest) K :=
  .use (m, c) [0, 1, 2] hm rfl (mat_le m rest) ⟨mat_lx m c rest, trivial⟩ hk
abbrev outsPw : List (FuncId × Cx) := [(F.matrix_Is, AskC isC), (F.check_Step, AskC stepC)]
theorem outsPw_ok : OutsOk Try.prog outsPw := .cons (ask_ok is_ok) (.cons (ask_ok step_ok) .nil)
noncomputable abbrev tabRW : List (FuncId × Eng.Fn) := [(F.plan_Watch, fn.plan_Watch u0)]
theorem tabRW_ok {d : Nat} : TabOk d tabRW tt := .cons (ok.plan_Watch u0) (TabOk.nil)
theorem watch_run (m : Mat) (c : Caps) (hm : m.Ok) : clRunX 4 tt outsPw tabRW 2 F.plan_Watch [] [matT m c 0 1 2] (matH m []) (fun x h => Trim 3 x h fun x h => x = iv .i64 (watch1 m) ∧ h = matH m []) := by
  repeat((conv=>whnf);first|((with_reducible refine qS ?_ ?_ ?_);exact rfl;exact rfl)|with_reducible refine qB ?_|((with_reducible refine qI ?_ ?_);omega)|((with_reducible refine qDT ?_ ?_);omega)|((with_reducible refine qDF ?_ ?_);omega)|((with_reducible refine qNT ?_ ?_);omega)|((with_reducible refine qNF ?_ ?_);omega)|((with_reducible refine qU8 ?_ ?_);omega)|((with_reducible refine qU32 ?_ ?_);omega)|((with_reducible refine qU64 ?_ ?_);omega)|((with_reducible refine qU16 ?_ ?_);omega))
  conv => whnf
  refine is_use (m := m) (c := c) hm ?_
  cases h : isM m
  · repeat((conv=>whnf);first|((with_reducible refine qS ?_ ?_ ?_);exact rfl;exact rfl)|with_reducible refine qB ?_|((with_reducible refine qI ?_ ?_);omega)|((with_reducible refine qDT ?_ ?_);omega)|((with_reducible refine qDF ?_ ?_);omega)|((with_reducible refine qNT ?_ ?_);omega)|((with_reducible refine qNF ?_ ?_);omega)|((with_reducible refine qU8 ?_ ?_);omega)|((with_reducible refine qU32 ?_ ?_);omega)|((with_reducible refine qU64 ?_ ?_);omega)|((with_reducible refine qU16 ?_ ?_);omega))
    conv => whnf
    exact trimM rfl (congrArg (iv .i64) (by unfold watch1; rw [h]; rfl))
  · have hi := isM_iff.1 h
    have hw := watch_bd hi
    have hl := hi.head
    have hn := hi.size
    unfold headP at hl
    unfold sizeP at hn
    repeat((conv=>whnf);first|((with_reducible refine qS ?_ ?_ ?_);exact rfl;exact rfl)|with_reducible refine qB ?_|((with_reducible refine qI ?_ ?_);omega)|((with_reducible refine qDT ?_ ?_);omega)|((with_reducible refine qDF ?_ ?_);omega)|((with_reducible refine qNT ?_ ?_);omega)|((with_reducible refine qNF ?_ ?_);omega)|((with_reducible refine qU8 ?_ ?_);omega)|((with_reducible refine qU32 ?_ ?_);omega)|((with_reducible refine qU64 ?_ ?_);omega)|((with_reducible refine qU16 ?_ ?_);omega))
    conv => whnf
    refine step_use (m := m) (c := c) hm ?_
    repeat((conv=>whnf);first|((with_reducible refine qS ?_ ?_ ?_);exact rfl;exact rfl)|with_reducible refine qB ?_|((with_reducible refine qI ?_ ?_);omega)|((with_reducible refine qDT ?_ ?_);omega)|((with_reducible refine qDF ?_ ?_);omega)|((with_reducible refine qNT ?_ ?_);omega)|((with_reducible refine qNF ?_ ?_);omega)|((with_reducible refine qU8 ?_ ?_);omega)|((with_reducible refine qU32 ?_ ?_);omega)|((with_reducible refine qU64 ?_ ?_);omega)|((with_reducible refine qU16 ?_ ?_);omega))
    conv => whnf
    exact trimM rfl (congrArg (iv .i64) (by unfold watch1; rw [h]; rfl))
theorem watch_ok : ConOk Try.prog F.plan_Watch watchC := con_of_run (clRunX_ok (d := 4) ttOk outsPw_ok tabRW_ok 2) (fn_enters (ok.plan_Watch (D := 4) u0 _ (clRunX_ok (d := 4) ttOk .nil TabOk.nil 1))) fun p hp => watch_run p.1 p.2 hp
abbrev outsPr : List (FuncId × Cx) := [(F.ref12_Is, AskC isC), (F.ref12_Step, AskC stepC)]
theorem outsPr_ok : OutsOk Try.prog outsPr := .cons (ask_ok isR_ok) (.cons (ask_ok stepR_ok) .nil)
noncomputable abbrev tabRX : List (FuncId × Eng.Fn) := [(F.ref12_Watch, fn.ref12_Watch u0)]
theorem tabRX_ok {d : Nat} : TabOk d tabRX tt := .cons (ok.ref12_Watch u0) (TabOk.nil)
theorem watchR_run (m : Mat) (c : Caps) (hm : m.Ok) : clRunX 4 tt outsPr tabRX 2 F.ref12_Watch [] [matT m c 0 1 2] (matH m []) (fun x h => Trim 3 x h fun x h => x = iv .i64 (watch1 m) ∧ h = matH m []) := by
  repeat((conv=>whnf);first|((with_reducible refine qS ?_ ?_ ?_);exact rfl;exact rfl)|with_reducible refine qB ?_|((with_reducible refine qI ?_ ?_);omega)|((with_reducible refine qDT ?_ ?_);omega)|((with_reducible refine qDF ?_ ?_);omega)|((with_reducible refine qNT ?_ ?_);omega)|((with_reducible refine qNF ?_ ?_);omega)|((with_reducible refine qU8 ?_ ?_);omega)|((with_reducible refine qU32 ?_ ?_);omega)|((with_reducible refine qU64 ?_ ?_);omega)|((with_reducible refine qU16 ?_ ?_);omega))
  conv => whnf
  refine is_use (m := m) (c := c) hm ?_
  cases h : isM m
  · repeat((conv=>whnf);first|((with_reducible refine qS ?_ ?_ ?_);exact rfl;exact rfl)|with_reducible refine qB ?_|((with_reducible refine qI ?_ ?_);omega)|((with_reducible refine qDT ?_ ?_);omega)|((with_reducible refine qDF ?_ ?_);omega)|((with_reducible refine qNT ?_ ?_);omega)|((with_reducible refine qNF ?_ ?_);omega)|((with_reducible refine qU8 ?_ ?_);omega)|((with_reducible refine qU32 ?_ ?_);omega)|((with_reducible refine qU64 ?_ ?_);omega)|((with_reducible refine qU16 ?_ ?_);omega))
    conv => whnf
    exact trimM rfl (congrArg (iv .i64) (by unfold watch1; rw [h]; rfl))
  · have hi := isM_iff.1 h
    have hw := watch_bd hi
    have hl := hi.head
    have hn := hi.size
    unfold headP at hl
    unfold sizeP at hn
    repeat((conv=>whnf);first|((with_reducible refine qS ?_ ?_ ?_);exact rfl;exact rfl)|with_reducible refine qB ?_|((with_reducible refine qI ?_ ?_);omega)|((with_reducible refine qDT ?_ ?_);omega)|((with_reducible refine qDF ?_ ?_);omega)|((with_reducible refine qNT ?_ ?_);omega)|((with_reducible refine qNF ?_ ?_);omega)|((with_reducible refine qU8 ?_ ?_);omega)|((with_reducible refine qU32 ?_ ?_);omega)|((with_reducible refine qU64 ?_ ?_);omega)|((with_reducible refine qU16 ?_ ?_);omega))
    conv => whnf
    refine step_use (m := m) (c := c) hm ?_
    repeat((conv=>whnf);first|((with_reducible refine qS ?_ ?_ ?_);exact rfl;exact rfl)|with_reducible refine qB ?_|((with_reducible refine qI ?_ ?_);omega)|((with_reducible refine qDT ?_ ?_);omega)|((with_reducible refine qDF ?_ ?_);omega)|((with_reducible refine qNT ?_ ?_);omega)|((with_reducible refine qNF ?_ ?_);omega)|((with_reducible refine qU8 ?_ ?_);omega)|((with_reducible refine qU32 ?_ ?_);omega)|((with_reducible refine qU64 ?_ ?_);omega)|((with_reducible refine qU16 ?_ ?_);omega))
    conv => whnf
    exact trimM rfl (congrArg (iv .i64) (by unfold watch1; rw [h]; rfl))
theorem watchR_ok : ConOk Try.prog F.ref12_Watch watchC := con_of_run (clRunX_ok (d := 4) ttOk outsPr_ok tabRX_ok 2) (fn_enters (ok.ref12_Watch (D := 4) u0 _ (clRunX_ok (d := 4) ttOk .nil TabOk.nil 1))) fun p hp => watchR_run p.1 p.2 hp
/-! ### Again -/
abbrev againC : Con (Mat × Caps) := RoCon (fun p => [matT p.1 p.2 0 1 2]) (fun p => matH p.1 []) (fun p => p.1.Ok ∧ capsOk p.1 p.2) fun p => iv .i64 (again1 p.1)
theorem again_use {m : Mat} {c : Caps} {rest : Heap} {K : R → Heap → Prop} (hm : m.Ok) (hc : capsOk m c) (hk : K (iv .i64 (again1 m)) (matH m rest)) : AskC againC [matT m c 0 1 2] (matH m rest) K :=
  .use (m, c) [0, 1, 2] ⟨hm, hc⟩ rfl (mat_le m rest) ⟨mat_lx m c rest, trivial⟩ hk
abbrev outsBa : List (FuncId × Cx) := [(F.bound_right, AskC rightC), (F.bound_Bits, AskC bitsC), (F.plan_Watch, AskC watchC), (F.check_Step, AskC stepC)]
theorem outsBa_ok : OutsOk Try.prog outsBa := .cons (ask_ok rightB_ok) (.cons (ask_ok bits_ok) (.cons (ask_ok watch_ok) (.cons (ask_ok step_ok) .nil)))
noncomputable abbrev tabRA : List (FuncId × Eng.Fn) := [(F.bound_Again, fn.bound_Again u0)]
theorem tabRA_ok {d : Nat} : TabOk d tabRA tt := .cons (ok.bound_Again u0) (TabOk.nil)
theorem again_run (m : Mat) (c : Caps) (hm : m.Ok) (hc : capsOk m c) : clRunX 5 tt outsBa tabRA 2 F.bound_Again [] [matT m c 0 1 2] (matH m []) (fun x h => Trim 3 x h fun x h => x = iv .i64 (again1 m) ∧ h = matH m []) := by
  repeat((conv=>whnf);first|((with_reducible refine qS ?_ ?_ ?_);exact rfl;exact rfl)|with_reducible refine qB ?_|((with_reducible refine qI ?_ ?_);omega)|((with_reducible refine qDT ?_ ?_);omega)|((with_reducible refine qDF ?_ ?_);omega)|((with_reducible refine qNT ?_ ?_);omega)|((with_reducible refine qNF ?_ ?_);omega)|((with_reducible refine qU8 ?_ ?_);omega)|((with_reducible refine qU32 ?_ ?_);omega)|((with_reducible refine qU64 ?_ ?_);omega)|((with_reducible refine qU16 ?_ ?_);omega))
  conv => whnf
  refine right_use (m := m) (c := c) hm hc ?_
  by_cases h : (chk m).2 = 0
  · rw [decide_eq_true h]
    have hi := (pass_of h).is
    have hw := watch_bd hi
    have hl := hi.head
    have hn := hi.size
    have hd := bitsM_bd hi.head (later m)
    have ew : watch1 m = watch0 m := if_pos (isM_iff.2 hi)
    have eb : bits1 m (later m) = bitsM m (later m) := if_pos h
    unfold headP at hl
    unfold sizeP at hn
    have hq : 0 ≤ watch0 m ∧ watch0 m ≤ 34000 := by unfold watch0; omega
    repeat((conv=>whnf);first|((with_reducible refine qS ?_ ?_ ?_);exact rfl;exact rfl)|with_reducible refine qB ?_|((with_reducible refine qI ?_ ?_);omega)|((with_reducible refine qDT ?_ ?_);omega)|((with_reducible refine qDF ?_ ?_);omega)|((with_reducible refine qNT ?_ ?_);omega)|((with_reducible refine qNF ?_ ?_);omega)|((with_reducible refine qU8 ?_ ?_);omega)|((with_reducible refine qU32 ?_ ?_);omega)|((with_reducible refine qU64 ?_ ?_);omega)|((with_reducible refine qU16 ?_ ?_);omega))
    conv => whnf
    refine watch_use (m := m) (c := c) hm ?_
    rw [ew]
    repeat((conv=>whnf);first|((with_reducible refine qS ?_ ?_ ?_);exact rfl;exact rfl)|with_reducible refine qB ?_|((with_reducible refine qI ?_ ?_);omega)|((with_reducible refine qDT ?_ ?_);omega)|((with_reducible refine qDF ?_ ?_);omega)|((with_reducible refine qNT ?_ ?_);omega)|((with_reducible refine qNF ?_ ?_);omega)|((with_reducible refine qU8 ?_ ?_);omega)|((with_reducible refine qU32 ?_ ?_);omega)|((with_reducible refine qU64 ?_ ?_);omega)|((with_reducible refine qU16 ?_ ?_);omega))
    conv => whnf
    refine step_use (m := m) (c := c) hm ?_
    repeat((conv=>whnf);first|((with_reducible refine qS ?_ ?_ ?_);exact rfl;exact rfl)|with_reducible refine qB ?_|((with_reducible refine qI ?_ ?_);omega)|((with_reducible refine qDT ?_ ?_);omega)|((with_reducible refine qDF ?_ ?_);omega)|((with_reducible refine qNT ?_ ?_);omega)|((with_reducible refine qNF ?_ ?_);omega)|((with_reducible refine qU8 ?_ ?_);omega)|((with_reducible refine qU32 ?_ ?_);omega)|((with_reducible refine qU64 ?_ ?_);omega)|((with_reducible refine qU16 ?_ ?_);omega))
    conv => whnf
    refine bits_use (m := m) (c := c) (u := later m) hm hc (by unfold later I64; omega) ?_
    rw [eb]
    repeat((conv=>whnf);first|((with_reducible refine qS ?_ ?_ ?_);exact rfl;exact rfl)|with_reducible refine qB ?_|((with_reducible refine qI ?_ ?_);omega)|((with_reducible refine qDT ?_ ?_);omega)|((with_reducible refine qDF ?_ ?_);omega)|((with_reducible refine qNT ?_ ?_);omega)|((with_reducible refine qNF ?_ ?_);omega)|((with_reducible refine qU8 ?_ ?_);omega)|((with_reducible refine qU32 ?_ ?_);omega)|((with_reducible refine qU64 ?_ ?_);omega)|((with_reducible refine qU16 ?_ ?_);omega))
    conv => whnf
    exact trimM rfl (congrArg (iv .i64) (if_pos h).symm)
  · rw [decide_eq_false h]
    repeat((conv=>whnf);first|((with_reducible refine qS ?_ ?_ ?_);exact rfl;exact rfl)|with_reducible refine qB ?_|((with_reducible refine qI ?_ ?_);omega)|((with_reducible refine qDT ?_ ?_);omega)|((with_reducible refine qDF ?_ ?_);omega)|((with_reducible refine qNT ?_ ?_);omega)|((with_reducible refine qNF ?_ ?_);omega)|((with_reducible refine qU8 ?_ ?_);omega)|((with_reducible refine qU32 ?_ ?_);omega)|((with_reducible refine qU64 ?_ ?_);omega)|((with_reducible refine qU16 ?_ ?_);omega))
    conv => whnf
    exact trimM rfl (congrArg (iv .i64) (if_neg h).symm)
theorem again_ok : ConOk Try.prog F.bound_Again againC := con_of_run (clRunX_ok (d := 5) ttOk outsBa_ok tabRA_ok 2) (fn_enters (ok.bound_Again (D := 5) u0 _ (clRunX_ok (d := 5) ttOk .nil TabOk.nil 1))) fun p hp => again_run p.1 p.2 hp.1 hp.2
end Go.Proofs.Ytbdifadabipfiaa.Co
