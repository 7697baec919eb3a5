/- Contracts: rank, beat, a window's trigger. -/
import Derived.Test.YtbdifadabipfiaaCoT
import Derived.Test.YtbdifadabipfiaaPuG
namespace Go.Proofs.Ytbdifadabipfiaa.Co
open Go Go.Eng Go.Proofs Go.Proofs.Ytbdifadabipfiaa.Tb Go.Pu
set_option maxRecDepth 100000
set_option maxHeartbeats 8000000
noncomputable abbrev tabV1 : List (FuncId × Eng.Fn) := [(F.matrix_Rank, fn.matrix_Rank u0), (F.slices_Index_int, fn.slices_Index_int u0)]
theorem tabV1_ok {d : Nat} : TabOk d tabV1 tt := .cons (ok.matrix_Rank u0) (.cons (ok.slices_Index_int u0) (TabOk.nil))
theorem rankM_run (m : Mat) (c : Caps) (v : Int) (hm : m.Ok) : clRunX 5 tt outsNo tabV1 3 F.matrix_Rank [] [matT m c 0 1 2, iv .i64 v] (matH m []) (fun x h => Trim 3 x h fun x h => x = iv .i64 (rank m v) ∧ h = matH m []) := by
  have hnM := hm.nM
  repeat((conv=>whnf);first|((with_reducible refine qS ?_ ?_ ?_);exact rfl;exact rfl)|with_reducible refine qB ?_|((with_reducible refine qI ?_ ?_);omega)|((with_reducible refine qDT ?_ ?_);omega)|((with_reducible refine qDF ?_ ?_);omega)|((with_reducible refine qNT ?_ ?_);omega)|((with_reducible refine qNF ?_ ?_);omega)|((with_reducible refine qU8 ?_ ?_);omega)|((with_reducible refine qU32 ?_ ?_);omega)|((with_reducible refine qU64 ?_ ?_);omega)|((with_reducible refine qU16 ?_ ?_);omega))
  conv => whnf
  refine .rd (fun i : Nat => i ≤ m.nM ∧ ∀ j, j < i → ¬ m.M j = v) (fun i => [(8, iv .i64 i)]) (fun i => m.nM - i) 0 ⟨Nat.zero_le _, all_0⟩ ?_ (fun i ⟨hi, hp⟩ => ?_)
  · conv => whnf
    refine Le.id rfl ?_ ?_
    all_goals(repeat'(first|exact leT_empty|exact trivial|exact rfl|exact .inl rfl|exact .inr rfl|exact .inr ⟨rfl,rfl⟩|exact Nat.le_refl _|exact Nat.zero_le _|exact fun _ _=>rfl|assumption|refine And.intro ?_ ?_|exact ul0|exact ul1 rfl|exact ul2 rfl rfl|exact ul3 rfl rfl rfl))
  conv => whnf
  refine cD (fun h5 => ?_) (fun h5 => ?_)
  rotate_left
  · obtain rfl : i = m.nM := by omega
    repeat((conv=>whnf);first|((with_reducible refine qS ?_ ?_ ?_);exact rfl;exact rfl)|with_reducible refine qB ?_|((with_reducible refine qI ?_ ?_);omega)|((with_reducible refine qDT ?_ ?_);omega)|((with_reducible refine qDF ?_ ?_);omega)|((with_reducible refine qNT ?_ ?_);omega)|((with_reducible refine qNF ?_ ?_);omega)|((with_reducible refine qU8 ?_ ?_);omega)|((with_reducible refine qU32 ?_ ?_);omega)|((with_reducible refine qU64 ?_ ?_);omega)|((with_reducible refine qU16 ?_ ?_);omega))
    conv => whnf
    exact trimM rfl (congrArg (iv .i64) (first_none fun j hj => decide_eq_false (hp j hj)).symm)
  repeat((conv=>whnf);first|((with_reducible refine qS ?_ ?_ ?_);exact rfl;exact rfl)|with_reducible refine qB ?_|((with_reducible refine qI ?_ ?_);omega)|((with_reducible refine qDT ?_ ?_);omega)|((with_reducible refine qDF ?_ ?_);omega)|((with_reducible refine qNT ?_ ?_);omega)|((with_reducible refine qNF ?_ ?_);omega)|((with_reducible refine qU8 ?_ ?_);omega)|((with_reducible refine qU32 ?_ ?_);omega)|((with_reducible refine qU64 ?_ ?_);omega)|((with_reducible refine qU16 ?_ ?_);omega))
  conv => whnf
  try rw [zi i]
  repeat((conv=>whnf);first|((with_reducible refine qS ?_ ?_ ?_);exact rfl;exact rfl)|with_reducible refine qB ?_|((with_reducible refine qI ?_ ?_);omega)|((with_reducible refine qDT ?_ ?_);omega)|((with_reducible refine qDF ?_ ?_);omega)|((with_reducible refine qNT ?_ ?_);omega)|((with_reducible refine qNF ?_ ?_);omega)|((with_reducible refine qU8 ?_ ?_);omega)|((with_reducible refine qU32 ?_ ?_);omega)|((with_reducible refine qU64 ?_ ?_);omega)|((with_reducible refine qU16 ?_ ?_);omega))
  conv => whnf
  refine cD (fun h6 => ?_) (fun h6 => ?_)
  · repeat((conv=>whnf);first|((with_reducible refine qS ?_ ?_ ?_);exact rfl;exact rfl)|with_reducible refine qB ?_|((with_reducible refine qI ?_ ?_);omega)|((with_reducible refine qDT ?_ ?_);omega)|((with_reducible refine qDF ?_ ?_);omega)|((with_reducible refine qNT ?_ ?_);omega)|((with_reducible refine qNF ?_ ?_);omega)|((with_reducible refine qU8 ?_ ?_);omega)|((with_reducible refine qU32 ?_ ?_);omega)|((with_reducible refine qU64 ?_ ?_);omega)|((with_reducible refine qU16 ?_ ?_);omega))
    conv => whnf
    exact trimM rfl (congrArg (iv .i64) (first_some (by omega) (fun j hj => decide_eq_false (hp j hj)) (decide_eq_true h6.symm)).symm)
  repeat((conv=>whnf);first|((with_reducible refine qS ?_ ?_ ?_);exact rfl;exact rfl)|with_reducible refine qB ?_|((with_reducible refine qI ?_ ?_);omega)|((with_reducible refine qDT ?_ ?_);omega)|((with_reducible refine qDF ?_ ?_);omega)|((with_reducible refine qNT ?_ ?_);omega)|((with_reducible refine qNF ?_ ?_);omega)|((with_reducible refine qU8 ?_ ?_);omega)|((with_reducible refine qU32 ?_ ?_);omega)|((with_reducible refine qU64 ?_ ?_);omega)|((with_reducible refine qU16 ?_ ?_);omega))
  conv => whnf
  refine ⟨i + 1, ⟨⟨by omega, all_up hp (fun h => h6 h.symm)⟩, by omega⟩, ?_⟩
  conv => whnf
  refine Le.id rfl ?_ ?_
  all_goals(repeat'(first|exact leT_empty|exact trivial|exact rfl|exact .inl rfl|exact .inr rfl|exact .inr ⟨rfl,rfl⟩|exact Nat.le_refl _|exact Nat.zero_le _|exact fun _ _=>rfl|assumption|refine And.intro ?_ ?_|exact ul0|exact ul1 rfl|exact ul2 rfl rfl|exact ul3 rfl rfl rfl))
theorem rankM_ok : ConOk Try.prog F.matrix_Rank rankC := con_of_run (clRunX_ok (d := 5) ttOk outsNo_ok tabV1_ok 3) (fn_enters (ok.matrix_Rank (D := 5) u0 _ (clRunX_ok (d := 5) ttOk .nil TabOk.nil 1))) fun p hp => rankM_run p.1 p.2.1 p.2.2 hp
/-! ### Beat -/
abbrev beatC : Con (Mat × Caps × Int) := RoCon (fun p => [matT p.1 p.2.1 0 1 2, iv .i64 p.2.2]) (fun p => matH p.1 []) (fun p => p.1.Ok) fun p => iv .i64 (beat1 p.1 p.2.2)
theorem beat_use {m : Mat} {c : Caps} {v : Int} {rest : Heap} {K : R → Heap → Prop} (hm : m.Ok) (hk : K (iv .i64 (beat1 m v)) (matH m rest)) : AskC beatC [matT m c 0 1 2, iv .i64 v] (matH m rest) K :=
  .use (m, c, v) [0, 1, 2] hm rfl (mat_le m rest) ⟨mat_lx m c rest, .inl rfl, trivial⟩ hk
theorem beat_bd {m : Mat} (h : m.Is) {v : Int} (hv : 0 ≤ v ∧ v ≤ 99) : 0 ≤ (v + 1) * Pu.step m ∧ (v + 1) * Pu.step m ≤ 100 * 5000 := times_bd (by omega) (by omega) (step_bd (m := m)).1 (by have := (step_bd (m := m)).2; omega) (by omega)
noncomputable abbrev tabV2 : List (FuncId × Eng.Fn) := [(F.plan_Beat, fn.plan_Beat u0)]
theorem tabV2_ok {d : Nat} : TabOk d tabV2 tt := .cons (ok.plan_Beat u0) (TabOk.nil)
theorem beat_run (m : Mat) (c : Caps) (v : Int) (hm : m.Ok) : clRunX 5 tt outsPw tabV2 2 F.plan_Beat [] [matT m c 0 1 2, iv .i64 v] (matH m []) (fun x h => Trim 3 x h fun x h => x = iv .i64 (beat1 m v) ∧ h = matH m []) := by
  repeat((conv=>whnf);first|((with_reducible refine qS ?_ ?_ ?_);exact rfl;exact rfl)|with_reducible refine qB ?_|((with_reducible refine qI ?_ ?_);omega)|((with_reducible refine qDT ?_ ?_);omega)|((with_reducible refine qDF ?_ ?_);omega)|((with_reducible refine qNT ?_ ?_);omega)|((with_reducible refine qNF ?_ ?_);omega)|((with_reducible refine qU8 ?_ ?_);omega)|((with_reducible refine qU32 ?_ ?_);omega)|((with_reducible refine qU64 ?_ ?_);omega)|((with_reducible refine qU16 ?_ ?_);omega))
  conv => whnf
  refine is_use (m := m) (c := c) hm ?_
  cases h : isM m
  · repeat((conv=>whnf);first|((with_reducible refine qS ?_ ?_ ?_);exact rfl;exact rfl)|with_reducible refine qB ?_|((with_reducible refine qI ?_ ?_);omega)|((with_reducible refine qDT ?_ ?_);omega)|((with_reducible refine qDF ?_ ?_);omega)|((with_reducible refine qNT ?_ ?_);omega)|((with_reducible refine qNF ?_ ?_);omega)|((with_reducible refine qU8 ?_ ?_);omega)|((with_reducible refine qU32 ?_ ?_);omega)|((with_reducible refine qU64 ?_ ?_);omega)|((with_reducible refine qU16 ?_ ?_);omega))
    conv => whnf
    exact trimM rfl (congrArg (iv .i64) (by unfold beat1; rw [h]; rfl))
  have hi := isM_iff.1 h
  have hl := hi.head
  unfold headP at hl
  have hs := step_bd (m := m)
  have e0 : beat1 m v = if v < 0 ∨ 99 < v then m.length else m.length + (v + 1) * Pu.step m := by unfold beat1; rw [if_pos h]
  repeat((conv=>whnf);first|((with_reducible refine qS ?_ ?_ ?_);exact rfl;exact rfl)|with_reducible refine qB ?_|((with_reducible refine qI ?_ ?_);omega)|((with_reducible refine qDT ?_ ?_);omega)|((with_reducible refine qDF ?_ ?_);omega)|((with_reducible refine qNT ?_ ?_);omega)|((with_reducible refine qNF ?_ ?_);omega)|((with_reducible refine qU8 ?_ ?_);omega)|((with_reducible refine qU32 ?_ ?_);omega)|((with_reducible refine qU64 ?_ ?_);omega)|((with_reducible refine qU16 ?_ ?_);omega))
  conv => whnf
  refine cD (fun h5 => ?_) (fun h5 => ?_)
  · repeat((conv=>whnf);first|((with_reducible refine qS ?_ ?_ ?_);exact rfl;exact rfl)|with_reducible refine qB ?_|((with_reducible refine qI ?_ ?_);omega)|((with_reducible refine qDT ?_ ?_);omega)|((with_reducible refine qDF ?_ ?_);omega)|((with_reducible refine qNT ?_ ?_);omega)|((with_reducible refine qNF ?_ ?_);omega)|((with_reducible refine qU8 ?_ ?_);omega)|((with_reducible refine qU32 ?_ ?_);omega)|((with_reducible refine qU64 ?_ ?_);omega)|((with_reducible refine qU16 ?_ ?_);omega))
    conv => whnf
    exact trimM rfl (congrArg (iv .i64) (by rw [e0, if_pos (.inl h5)]))
  repeat((conv=>whnf);first|((with_reducible refine qS ?_ ?_ ?_);exact rfl;exact rfl)|with_reducible refine qB ?_|((with_reducible refine qI ?_ ?_);omega)|((with_reducible refine qDT ?_ ?_);omega)|((with_reducible refine qDF ?_ ?_);omega)|((with_reducible refine qNT ?_ ?_);omega)|((with_reducible refine qNF ?_ ?_);omega)|((with_reducible refine qU8 ?_ ?_);omega)|((with_reducible refine qU32 ?_ ?_);omega)|((with_reducible refine qU64 ?_ ?_);omega)|((with_reducible refine qU16 ?_ ?_);omega))
  conv => whnf
  refine cD (fun h6 => ?_) (fun h6 => ?_)
  · repeat((conv=>whnf);first|((with_reducible refine qS ?_ ?_ ?_);exact rfl;exact rfl)|with_reducible refine qB ?_|((with_reducible refine qI ?_ ?_);omega)|((with_reducible refine qDT ?_ ?_);omega)|((with_reducible refine qDF ?_ ?_);omega)|((with_reducible refine qNT ?_ ?_);omega)|((with_reducible refine qNF ?_ ?_);omega)|((with_reducible refine qU8 ?_ ?_);omega)|((with_reducible refine qU32 ?_ ?_);omega)|((with_reducible refine qU64 ?_ ?_);omega)|((with_reducible refine qU16 ?_ ?_);omega))
    conv => whnf
    exact trimM rfl (congrArg (iv .i64) (by rw [e0, if_pos (.inr h6)]))
  have hb := beat_bd hi (v := v) (by omega)
  repeat((conv=>whnf);first|((with_reducible refine qS ?_ ?_ ?_);exact rfl;exact rfl)|with_reducible refine qB ?_|((with_reducible refine qI ?_ ?_);omega)|((with_reducible refine qDT ?_ ?_);omega)|((with_reducible refine qDF ?_ ?_);omega)|((with_reducible refine qNT ?_ ?_);omega)|((with_reducible refine qNF ?_ ?_);omega)|((with_reducible refine qU8 ?_ ?_);omega)|((with_reducible refine qU32 ?_ ?_);omega)|((with_reducible refine qU64 ?_ ?_);omega)|((with_reducible refine qU16 ?_ ?_);omega))
  conv => whnf
  refine step_use (m := m) (c := c) hm ?_
  repeat((conv=>whnf);first|((with_reducible refine qS ?_ ?_ ?_);exact rfl;exact rfl)|with_reducible refine qB ?_|((with_reducible refine qI ?_ ?_);omega)|((with_reducible refine qDT ?_ ?_);omega)|((with_reducible refine qDF ?_ ?_);omega)|((with_reducible refine qNT ?_ ?_);omega)|((with_reducible refine qNF ?_ ?_);omega)|((with_reducible refine qU8 ?_ ?_);omega)|((with_reducible refine qU32 ?_ ?_);omega)|((with_reducible refine qU64 ?_ ?_);omega)|((with_reducible refine qU16 ?_ ?_);omega))
  conv => whnf
  exact trimM rfl (congrArg (iv .i64) (by rw [e0, if_neg (by omega)]))
theorem beat_ok : ConOk Try.prog F.plan_Beat beatC := con_of_run (clRunX_ok (d := 5) ttOk outsPw_ok tabV2_ok 2) (fn_enters (ok.plan_Beat (D := 5) u0 _ (clRunX_ok (d := 5) ttOk .nil TabOk.nil 1))) fun p hp => beat_run p.1 p.2.1 p.2.2 hp
noncomputable abbrev tabV3 : List (FuncId × Eng.Fn) := [(F.ref12_Beat, fn.ref12_Beat u0)]
theorem tabV3_ok {d : Nat} : TabOk d tabV3 tt := .cons (ok.ref12_Beat u0) (TabOk.nil)
theorem beatR_run (m : Mat) (c : Caps) (v : Int) (hm : m.Ok) : clRunX 5 tt outsPr tabV3 2 F.ref12_Beat [] [matT m c 0 1 2, iv .i64 v] (matH m []) (fun x h => Trim 3 x h fun x h => x = iv .i64 (beat1 m v) ∧ h = matH m []) := by
  repeat((conv=>whnf);first|((with_reducible refine qS ?_ ?_ ?_);exact rfl;exact rfl)|with_reducible refine qB ?_|((with_reducible refine qI ?_ ?_);omega)|((with_reducible refine qDT ?_ ?_);omega)|((with_reducible refine qDF ?_ ?_);omega)|((with_reducible refine qNT ?_ ?_);omega)|((with_reducible refine qNF ?_ ?_);omega)|((with_reducible refine qU8 ?_ ?_);omega)|((with_reducible refine qU32 ?_ ?_);omega)|((with_reducible refine qU64 ?_ ?_);omega)|((with_reducible refine qU16 ?_ ?_);omega))
  conv => whnf
  refine is_use (m := m) (c := c) hm ?_
  cases h : isM m
  · repeat((conv=>whnf);first|((with_reducible refine qS ?_ ?_ ?_);exact rfl;exact rfl)|with_reducible refine qB ?_|((with_reducible refine qI ?_ ?_);omega)|((with_reducible refine qDT ?_ ?_);omega)|((with_reducible refine qDF ?_ ?_);omega)|((with_reducible refine qNT ?_ ?_);omega)|((with_reducible refine qNF ?_ ?_);omega)|((with_reducible refine qU8 ?_ ?_);omega)|((with_reducible refine qU32 ?_ ?_);omega)|((with_reducible refine qU64 ?_ ?_);omega)|((with_reducible refine qU16 ?_ ?_);omega))
    conv => whnf
    exact trimM rfl (congrArg (iv .i64) (by unfold beat1; rw [h]; rfl))
  have hi := isM_iff.1 h
  have hl := hi.head
  unfold headP at hl
  have hs := step_bd (m := m)
  have e0 : beat1 m v = if v < 0 ∨ 99 < v then m.length else m.length + (v + 1) * Pu.step m := by unfold beat1; rw [if_pos h]
  repeat((conv=>whnf);first|((with_reducible refine qS ?_ ?_ ?_);exact rfl;exact rfl)|with_reducible refine qB ?_|((with_reducible refine qI ?_ ?_);omega)|((with_reducible refine qDT ?_ ?_);omega)|((with_reducible refine qDF ?_ ?_);omega)|((with_reducible refine qNT ?_ ?_);omega)|((with_reducible refine qNF ?_ ?_);omega)|((with_reducible refine qU8 ?_ ?_);omega)|((with_reducible refine qU32 ?_ ?_);omega)|((with_reducible refine qU64 ?_ ?_);omega)|((with_reducible refine qU16 ?_ ?_);omega))
  conv => whnf
  refine cD (fun h5 => ?_) (fun h5 => ?_)
  · repeat((conv=>whnf);first|((with_reducible refine qS ?_ ?_ ?_);exact rfl;exact rfl)|with_reducible refine qB ?_|((with_reducible refine qI ?_ ?_);omega)|((with_reducible refine qDT ?_ ?_);omega)|((with_reducible refine qDF ?_ ?_);omega)|((with_reducible refine qNT ?_ ?_);omega)|((with_reducible refine qNF ?_ ?_);omega)|((with_reducible refine qU8 ?_ ?_);omega)|((with_reducible refine qU32 ?_ ?_);omega)|((with_reducible refine qU64 ?_ ?_);omega)|((with_reducible refine qU16 ?_ ?_);omega))
    conv => whnf
    exact trimM rfl (congrArg (iv .i64) (by rw [e0, if_pos (.inl h5)]))
  repeat((conv=>whnf);first|((with_reducible refine qS ?_ ?_ ?_);exact rfl;exact rfl)|with_reducible refine qB ?_|((with_reducible refine qI ?_ ?_);omega)|((with_reducible refine qDT ?_ ?_);omega)|((with_reducible refine qDF ?_ ?_);omega)|((with_reducible refine qNT ?_ ?_);omega)|((with_reducible refine qNF ?_ ?_);omega)|((with_reducible refine qU8 ?_ ?_);omega)|((with_reducible refine qU32 ?_ ?_);omega)|((with_reducible refine qU64 ?_ ?_);omega)|((with_reducible refine qU16 ?_ ?_);omega))
  conv => whnf
  refine cD (fun h6 => ?_) (fun h6 => ?_)
  · repeat((conv=>whnf);first|((with_reducible refine qS ?_ ?_ ?_);exact rfl;exact rfl)|with_reducible refine qB ?_|((with_reducible refine qI ?_ ?_);omega)|((with_reducible refine qDT ?_ ?_);omega)|((with_reducible refine qDF ?_ ?_);omega)|((with_reducible refine qNT ?_ ?_);omega)|((with_reducible refine qNF ?_ ?_);omega)|((with_reducible refine qU8 ?_ ?_);omega)|((with_reducible refine qU32 ?_ ?_);omega)|((with_reducible refine qU64 ?_ ?_);omega)|((with_reducible refine qU16 ?_ ?_);omega))
    conv => whnf
    exact trimM rfl (congrArg (iv .i64) (by rw [e0, if_pos (.inr h6)]))
  have hb := beat_bd hi (v := v) (by omega)
  repeat((conv=>whnf);first|((with_reducible refine qS ?_ ?_ ?_);exact rfl;exact rfl)|with_reducible refine qB ?_|((with_reducible refine qI ?_ ?_);omega)|((with_reducible refine qDT ?_ ?_);omega)|((with_reducible refine qDF ?_ ?_);omega)|((with_reducible refine qNT ?_ ?_);omega)|((with_reducible refine qNF ?_ ?_);omega)|((with_reducible refine qU8 ?_ ?_);omega)|((with_reducible refine qU32 ?_ ?_);omega)|((with_reducible refine qU64 ?_ ?_);omega)|((with_reducible refine qU16 ?_ ?_);omega))
  conv => whnf
  refine step_use (m := m) (c := c) hm ?_
  repeat((conv=>whnf);first|((with_reducible refine qS ?_ ?_ ?_);exact rfl;exact rfl)|with_reducible refine qB ?_|((with_reducible refine qI ?_ ?_);omega)|((with_reducible refine qDT ?_ ?_);omega)|((with_reducible refine qDF ?_ ?_);omega)|((with_reducible refine qNT ?_ ?_);omega)|((with_reducible refine qNF ?_ ?_);omega)|((with_reducible refine qU8 ?_ ?_);omega)|((with_reducible refine qU32 ?_ ?_);omega)|((with_reducible refine qU64 ?_ ?_);omega)|((with_reducible refine qU16 ?_ ?_);omega))
  conv => whnf
  exact trimM rfl (congrArg (iv .i64) (by rw [e0, if_neg (by omega)]))
theorem beatR_ok : ConOk Try.prog F.ref12_Beat beatC := con_of_run (clRunX_ok (d := 5) ttOk outsPr_ok tabV3_ok 2) (fn_enters (ok.ref12_Beat (D := 5) u0 _ (clRunX_ok (d := 5) ttOk .nil TabOk.nil 1))) fun p hp => beatR_run p.1 p.2.1 p.2.2 hp
/-! ### A window's -/
def trgT (t : Trg) : R := .t (.agg [.c (iC t.kind), .c (iC t.at_), .c (iC t.cyc), .c (iC t.rep), .c (iC t.msg), .c (iC t.til)])
abbrev trgC : Con (Mat × Caps × Int × Win) := RoCon (fun p => [matT p.1 p.2.1 0 1 2, iv .i64 p.2.2.1, winT p.2.2.2]) (fun p => matH p.1 []) (fun p => p.1.Ok ∧ p.1.Is ∧ winP p.1 p.2.2.2 ∧ (p.2.2.2.kind = 1 → p.2.2.2.msg < p.1.nG) ∧ p.2.2.2.kind ≠ 3) fun p => trgT (trgW p.1 p.2.2.1 p.2.2.2)
theorem trg_use {m : Mat} {c : Caps} {v : Int} {w : Win} {rest : Heap} {K : R → Heap → Prop} (hm : m.Ok) (hi : m.Is) (hw : winP m w) (hg : w.kind = 1 → w.msg < m.nG) (h3 : w.kind ≠ 3) (hk : K (trgT (trgW m v w)) (matH m rest)) : AskC trgC [matT m c 0 1 2, iv .i64 v, winT w] (matH m rest) K :=
  .use (m, c, v, w) [0, 1, 2] ⟨hm, hi, hw, hg, h3⟩ rfl (mat_le m rest) ⟨mat_lx m c rest, .inl rfl, ⟨.inl rfl, .inl rfl, .inl rfl, .inl rfl, .inl rfl, .inl rfl, trivial⟩, trivial⟩ hk
noncomputable abbrev tabV4 : List (FuncId × Eng.Fn) := [(F.plan_window, fn.plan_window u0)]
theorem tabV4_ok {d : Nat} : TabOk d tabV4 tt := .cons (ok.plan_window u0) (TabOk.nil)
theorem trg_run (m : Mat) (c : Caps) (v : Int) (w : Win) (hm : m.Ok) (hi : m.Is) (hw : winP m w) (hg : w.kind = 1 → w.msg < m.nG) (h3 : w.kind ≠ 3) : clRunX 6 tt outsPw tabV4 2 F.plan_window [] [matT m c 0 1 2, iv .i64 v, winT w] (matH m []) (fun x h => Trim 3 x h fun x h => x = trgT (trgW m v w) ∧ h = matH m []) := by
  have hl := hi.head
  unfold headP at hl
  have hs := step_bd (m := m)
  have hw' := hw
  unfold winP at hw'
  have hnG := hm.nG
  repeat((conv=>whnf);first|((with_reducible refine qS ?_ ?_ ?_);exact rfl;exact rfl)|with_reducible refine qB ?_|((with_reducible refine qI ?_ ?_);omega)|((with_reducible refine qDT ?_ ?_);omega)|((with_reducible refine qDF ?_ ?_);omega)|((with_reducible refine qNT ?_ ?_);omega)|((with_reducible refine qNF ?_ ?_);omega)|((with_reducible refine qU8 ?_ ?_);omega)|((with_reducible refine qU32 ?_ ?_);omega)|((with_reducible refine qU64 ?_ ?_);omega)|((with_reducible refine qU16 ?_ ?_);omega))
  conv => whnf
  refine ⟨?_, ?_⟩
  all_goals
    repeat((conv=>whnf);first|((with_reducible refine qS ?_ ?_ ?_);exact rfl;exact rfl)|with_reducible refine qB ?_|((with_reducible refine qI ?_ ?_);omega)|((with_reducible refine qDT ?_ ?_);omega)|((with_reducible refine qDF ?_ ?_);omega)|((with_reducible refine qNT ?_ ?_);omega)|((with_reducible refine qNF ?_ ?_);omega)|((with_reducible refine qU8 ?_ ?_);omega)|((with_reducible refine qU32 ?_ ?_);omega)|((with_reducible refine qU64 ?_ ?_);omega)|((with_reducible refine qU16 ?_ ?_);omega))
    conv => whnf
    refine step_use (m := m) (c := c) hm ?_
    repeat((conv=>whnf);first|((with_reducible refine qS ?_ ?_ ?_);exact rfl;exact rfl)|with_reducible refine qB ?_|((with_reducible refine qI ?_ ?_);omega)|((with_reducible refine qDT ?_ ?_);omega)|((with_reducible refine qDF ?_ ?_);omega)|((with_reducible refine qNT ?_ ?_);omega)|((with_reducible refine qNF ?_ ?_);omega)|((with_reducible refine qU8 ?_ ?_);omega)|((with_reducible refine qU32 ?_ ?_);omega)|((with_reducible refine qU64 ?_ ?_);omega)|((with_reducible refine qU16 ?_ ?_);omega))
    conv => whnf
    refine cD (fun h5 => ?_) (fun h5 => ?_)
    · repeat((conv=>whnf);first|((with_reducible refine qS ?_ ?_ ?_);exact rfl;exact rfl)|with_reducible refine qB ?_|((with_reducible refine qI ?_ ?_);omega)|((with_reducible refine qDT ?_ ?_);omega)|((with_reducible refine qDF ?_ ?_);omega)|((with_reducible refine qNT ?_ ?_);omega)|((with_reducible refine qNF ?_ ?_);omega)|((with_reducible refine qU8 ?_ ?_);omega)|((with_reducible refine qU32 ?_ ?_);omega)|((with_reducible refine qU64 ?_ ?_);omega)|((with_reducible refine qU16 ?_ ?_);omega))
      conv => whnf
      exact trimM rfl (congrArg trgT (show (⟨2, w.st, w.cyc, w.rep, w.msg, w.en - Pu.step m⟩ : Trg) = trgW m v w by unfold trgW; rw [if_pos h5]))
    have hg := hg (by omega)
    have e0 : trgW m v w = if (m.G w.msg.toNat).ow = v then ⟨1, w.st, w.cyc, w.rep, w.msg, w.st + m.enable⟩ else ⟨3, w.en - 1, w.cyc, w.rep, w.msg, 0⟩ := by unfold trgW; rw [if_neg h5]
    repeat((conv=>whnf);first|((with_reducible refine qS ?_ ?_ ?_);exact rfl;exact rfl)|with_reducible refine qB ?_|((with_reducible refine qI ?_ ?_);omega)|((with_reducible refine qDT ?_ ?_);omega)|((with_reducible refine qDF ?_ ?_);omega)|((with_reducible refine qNT ?_ ?_);omega)|((with_reducible refine qNF ?_ ?_);omega)|((with_reducible refine qU8 ?_ ?_);omega)|((with_reducible refine qU32 ?_ ?_);omega)|((with_reducible refine qU64 ?_ ?_);omega)|((with_reducible refine qU16 ?_ ?_);omega))
    conv => whnf
    rw [za]
    repeat((conv=>whnf);first|((with_reducible refine qS ?_ ?_ ?_);exact rfl;exact rfl)|with_reducible refine qB ?_|((with_reducible refine qI ?_ ?_);omega)|((with_reducible refine qDT ?_ ?_);omega)|((with_reducible refine qDF ?_ ?_);omega)|((with_reducible refine qNT ?_ ?_);omega)|((with_reducible refine qNF ?_ ?_);omega)|((with_reducible refine qU8 ?_ ?_);omega)|((with_reducible refine qU32 ?_ ?_);omega)|((with_reducible refine qU64 ?_ ?_);omega)|((with_reducible refine qU16 ?_ ?_);omega))
    conv => whnf
    refine cD (fun h6 => ?_) (fun h6 => ?_)
    · repeat((conv=>whnf);first|((with_reducible refine qS ?_ ?_ ?_);exact rfl;exact rfl)|with_reducible refine qB ?_|((with_reducible refine qI ?_ ?_);omega)|((with_reducible refine qDT ?_ ?_);omega)|((with_reducible refine qDF ?_ ?_);omega)|((with_reducible refine qNT ?_ ?_);omega)|((with_reducible refine qNF ?_ ?_);omega)|((with_reducible refine qU8 ?_ ?_);omega)|((with_reducible refine qU32 ?_ ?_);omega)|((with_reducible refine qU64 ?_ ?_);omega)|((with_reducible refine qU16 ?_ ?_);omega))
      conv => whnf
      exact trimM rfl (congrArg trgT (show (⟨1, w.st, w.cyc, w.rep, w.msg, w.st + m.enable⟩ : Trg) = trgW m v w by rw [e0, if_pos h6]))
    · repeat((conv=>whnf);first|((with_reducible refine qS ?_ ?_ ?_);exact rfl;exact rfl)|with_reducible refine qB ?_|((with_reducible refine qI ?_ ?_);omega)|((with_reducible refine qDT ?_ ?_);omega)|((with_reducible refine qDF ?_ ?_);omega)|((with_reducible refine qNT ?_ ?_);omega)|((with_reducible refine qNF ?_ ?_);omega)|((with_reducible refine qU8 ?_ ?_);omega)|((with_reducible refine qU32 ?_ ?_);omega)|((with_reducible refine qU64 ?_ ?_);omega)|((with_reducible refine qU16 ?_ ?_);omega))
      conv => whnf
      exact trimM rfl (congrArg trgT (show (⟨3, w.en - 1, w.cyc, w.rep, w.msg, 0⟩ : Trg) = trgW m v w by rw [e0, if_neg h6]))
theorem trg_ok : ConOk Try.prog F.plan_window trgC := con_of_run (clRunX_ok (d := 6) ttOk outsPw_ok tabV4_ok 2) (fn_enters (ok.plan_window (D := 6) u0 _ (clRunX_ok (d := 6) ttOk .nil TabOk.nil 1))) fun p hp => trg_run p.1 p.2.1 p.2.2.1 p.2.2.2 hp.1 hp.2.1 hp.2.2.1 hp.2.2.2.1 hp.2.2.2.2
end Go.Proofs.Ytbdifadabipfiaa.Co
