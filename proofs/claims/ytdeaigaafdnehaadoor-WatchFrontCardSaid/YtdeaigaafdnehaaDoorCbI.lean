/- Contracts: the beat of a frame. -/
import Derived.Test.YtdeaigaafdnehaaDoorCbH
namespace Go.Proofs.YtdeaigaafdnehaaDoor.Co
open Go Go.Eng Go.Proofs Go.Proofs.YtdeaigaafdnehaaDoor.Tb Go.Pu
set_option maxRecDepth 100000
set_option maxHeartbeats 16000000
abbrev btT (b : Bt) : T := .agg [.c (.v (.int .i64 b.rank)), .c (.v (.int .i64 (b.cyc : Int))), .c (.v (.int .u16 (b.glob : Int))), .c (.v (.bool b.disc))]
abbrev btP (m : Mat) (f : Frm) : R := .tup [btT (btR m f), .one (.v (.bool (btOk m f)))]
abbrev btC : Con (Mat × Caps × Frm) := RoCon (fun p => [matT p.1 p.2.1 0 1 2, frmR p.2.2]) (fun p => matH p.1 []) (fun p => p.1.Ok ∧ p.1.nM ≤ 1000 ∧ FIn p.2.2) fun p => btP p.1 p.2.2
theorem bt_use {m : Mat} {c : Caps} {f : Frm} {rest : Heap} {K : R → Heap → Prop} (hm : m.Ok) (hn : m.nM ≤ 1000) (hf : FIn f) (hk : K (btP m f) (matH m rest)) : AskC btC [matT m c 0 1 2, frmR f] (matH m rest) K :=
  .use (m, c, f) [0, 1, 2] ⟨hm, hn, hf⟩ rfl (mat_le m rest) ⟨mat_lx m c rest, ⟨.inl rfl, .inl rfl, .inl rfl, .inl rfl, trivial⟩, trivial⟩ hk
abbrev outsBt : List (FuncId × Cx) := [(F.refmsg_Build, AskC bldC)]
theorem outsBt_ok : OutsOk Tryd.prog outsBt := .cons (ask_ok bld_ok) .nil
noncomputable abbrev tabBt : List (FuncId × Eng.Fn) := [(F.refmsg_Parse, fn.refmsg_Parse u0)]
theorem tabBt_ok {d : Nat} : TabOk d tabBt tt := .cons (ok.refmsg_Parse u0) (TabOk.nil)
theorem bt_run (m : Mat) (c : Caps) (f : Frm) (v : Int) (hv : v = (f.id : Int)) (hm : m.Ok) (hn : m.nM ≤ 1000) (hf : FIn f) : clRunX 7 tt outsBt tabBt 2 F.refmsg_Parse [] [matT m c 0 1 2, frmV f.ext v f.rtr f.data] (matH m []) (fun x h => Trim 3 x h fun x h => x = btP m f ∧ h = matH m []) := by
  have hr0 := hm.ref
  unfold U32 at hr0
  obtain ⟨hf1, hf2⟩ := hf
  have eO : btOk m f = (!(decide (f.data.size = 0 ∨ (f.id : Int) < m.ref ∨ (m.nM : Int) ≤ f.id - m.ref)) && (bldOk m (btOf m f).rank (btOf m f).cyc && frmEq (bldF m (btOf m f).rank (btOf m f).cyc (btOf m f).glob (btOf m f).disc) f)) := rfl
  have eR : btR m f = if btOk m f then btOf m f else bt00 := rfl
  have no : ∀ x, btOk m f = false → x = R.tup [btT bt00, .one (.v (.bool false))] → x = btP m f := fun x h e => by
    rw [e]
    show _ = R.tup [btT (btR m f), .one (.v (.bool (btOk m f)))]
    rw [eR, h]; rfl
  have b0 := byN_lt f.data 0
  have b2 := byN_lt f.data 2
  have b3 := byN_lt f.data 3
  have q0 : bt f.data (Int.toNat 0) = (byN f.data 0 : Int) := rfl
  have q1 : bt f.data (Int.toNat 1) = (byN f.data 1 : Int) := rfl
  have q2 : bt f.data (Int.toNat 2) = (byN f.data 2 : Int) := rfl
  have q3 : bt f.data (Int.toNat 3) = (byN f.data 3 : Int) := rfl
  by_cases g1 : f.data.size = 0
  · repeat((conv=>whnf);first|((with_reducible refine qS ?_ ?_ ?_);exact rfl;exact rfl)|with_reducible refine qB ?_|((with_reducible refine qI ?_ ?_);omega)|((with_reducible refine qDT ?_ ?_);omega)|((with_reducible refine qDF ?_ ?_);omega)|((with_reducible refine qNT ?_ ?_);omega)|((with_reducible refine qNF ?_ ?_);omega)|((with_reducible refine qU8 ?_ ?_);omega)|((with_reducible refine qU32 ?_ ?_);omega)|((with_reducible refine qU64 ?_ ?_);omega)|((with_reducible refine qU16 ?_ ?_);omega))
    conv => whnf
    exact trimM rfl (no _ (by rw [eO, decide_eq_true (.inl g1)]; rfl) rfl)
  by_cases g2 : v < m.ref
  · repeat((conv=>whnf);first|((with_reducible refine qS ?_ ?_ ?_);exact rfl;exact rfl)|with_reducible refine qB ?_|((with_reducible refine qI ?_ ?_);omega)|((with_reducible refine qDT ?_ ?_);omega)|((with_reducible refine qDF ?_ ?_);omega)|((with_reducible refine qNT ?_ ?_);omega)|((with_reducible refine qNF ?_ ?_);omega)|((with_reducible refine qU8 ?_ ?_);omega)|((with_reducible refine qU32 ?_ ?_);omega)|((with_reducible refine qU64 ?_ ?_);omega)|((with_reducible refine qU16 ?_ ?_);omega))
    conv => whnf
    exact trimM rfl (no _ (by rw [eO, decide_eq_true (.inr (.inl (by omega)))]; rfl) rfl)
  by_cases g3 : (m.nM : Int) ≤ v - m.ref
  · repeat((conv=>whnf);first|((with_reducible refine qS ?_ ?_ ?_);exact rfl;exact rfl)|with_reducible refine qB ?_|((with_reducible refine qI ?_ ?_);omega)|((with_reducible refine qDT ?_ ?_);omega)|((with_reducible refine qDF ?_ ?_);omega)|((with_reducible refine qNT ?_ ?_);omega)|((with_reducible refine qNF ?_ ?_);omega)|((with_reducible refine qU8 ?_ ?_);omega)|((with_reducible refine qU32 ?_ ?_);omega)|((with_reducible refine qU64 ?_ ?_);omega)|((with_reducible refine qU16 ?_ ?_);omega))
    conv => whnf
    exact trimM rfl (no _ (by rw [eO, decide_eq_true (.inr (.inr (by omega)))]; rfl) rfl)
  rw [decide_eq_false (by omega)] at eO
  by_cases g4 : m.level = 2 ∧ f.data.size = 4
  · have eD : decide (byN f.data 1 = 1) = decide ((byN f.data 1 : Int) = 1) := decide_eq_decide.2 (by omega)
    have eB : btOf m f = ⟨v - m.ref, byN f.data 0, byN f.data 2 * 256 + byN f.data 3, decide ((byN f.data 1 : Int) = 1)⟩ := by
      rw [hv, ← eD]
      exact if_pos g4
    rw [eB] at eO
    dsimp only [Bool.not_false, Bool.true_and] at eO
    obtain ⟨g5, g6⟩ := g4
    repeat((conv=>whnf);first|((with_reducible refine qS ?_ ?_ ?_);exact rfl;exact rfl)|with_reducible refine qB ?_|((with_reducible refine qI ?_ ?_);omega)|((with_reducible refine qDT ?_ ?_);omega)|((with_reducible refine qDF ?_ ?_);omega)|((with_reducible refine qNT ?_ ?_);omega)|((with_reducible refine qNF ?_ ?_);omega)|((with_reducible refine qU8 ?_ ?_);omega)|((with_reducible refine qU32 ?_ ?_);omega)|((with_reducible refine qU64 ?_ ?_);omega)|((with_reducible refine qU16 ?_ ?_);omega))
    conv => whnf
    rw [q0]
    repeat((conv=>whnf);first|((with_reducible refine qS ?_ ?_ ?_);exact rfl;exact rfl)|with_reducible refine qB ?_|((with_reducible refine qI ?_ ?_);omega)|((with_reducible refine qDT ?_ ?_);omega)|((with_reducible refine qDF ?_ ?_);omega)|((with_reducible refine qNT ?_ ?_);omega)|((with_reducible refine qNF ?_ ?_);omega)|((with_reducible refine qU8 ?_ ?_);omega)|((with_reducible refine qU32 ?_ ?_);omega)|((with_reducible refine qU64 ?_ ?_);omega)|((with_reducible refine qU16 ?_ ?_);omega))
    conv => whnf
    rw [q2, shl168]
    repeat((conv=>whnf);first|((with_reducible refine qS ?_ ?_ ?_);exact rfl;exact rfl)|with_reducible refine qB ?_|((with_reducible refine qI ?_ ?_);omega)|((with_reducible refine qDT ?_ ?_);omega)|((with_reducible refine qDF ?_ ?_);omega)|((with_reducible refine qNT ?_ ?_);omega)|((with_reducible refine qNF ?_ ?_);omega)|((with_reducible refine qU8 ?_ ?_);omega)|((with_reducible refine qU32 ?_ ?_);omega)|((with_reducible refine qU64 ?_ ?_);omega)|((with_reducible refine qU16 ?_ ?_);omega))
    conv => whnf
    rw [q3, or8 b2 b3]
    repeat((conv=>whnf);first|((with_reducible refine qS ?_ ?_ ?_);exact rfl;exact rfl)|with_reducible refine qB ?_|((with_reducible refine qI ?_ ?_);omega)|((with_reducible refine qDT ?_ ?_);omega)|((with_reducible refine qDF ?_ ?_);omega)|((with_reducible refine qNT ?_ ?_);omega)|((with_reducible refine qNF ?_ ?_);omega)|((with_reducible refine qU8 ?_ ?_);omega)|((with_reducible refine qU32 ?_ ?_);omega)|((with_reducible refine qU64 ?_ ?_);omega)|((with_reducible refine qU16 ?_ ?_);omega))
    conv => whnf
    rw [q1]
    repeat((conv=>whnf);first|((with_reducible refine qS ?_ ?_ ?_);exact rfl;exact rfl)|with_reducible refine qB ?_|((with_reducible refine qI ?_ ?_);omega)|((with_reducible refine qDT ?_ ?_);omega)|((with_reducible refine qDF ?_ ?_);omega)|((with_reducible refine qNT ?_ ?_);omega)|((with_reducible refine qNF ?_ ?_);omega)|((with_reducible refine qU8 ?_ ?_);omega)|((with_reducible refine qU32 ?_ ?_);omega)|((with_reducible refine qU64 ?_ ?_);omega)|((with_reducible refine qU16 ?_ ?_);omega))
    conv => whnf
    refine bld_use (m := m) (c := c) (rank := v - m.ref) (cyc := (byN f.data 0 : Int)) (a := byN f.data 2 * 256 + byN f.data 3) (disc := decide ((byN f.data 1 : Int) = 1)) hm (by omega) ?_
    repeat((conv=>whnf);first|((with_reducible refine qS ?_ ?_ ?_);exact rfl;exact rfl)|with_reducible refine qB ?_|((with_reducible refine qI ?_ ?_);omega)|((with_reducible refine qDT ?_ ?_);omega)|((with_reducible refine qDF ?_ ?_);omega)|((with_reducible refine qNT ?_ ?_);omega)|((with_reducible refine qNF ?_ ?_);omega)|((with_reducible refine qU8 ?_ ?_);omega)|((with_reducible refine qU32 ?_ ?_);omega)|((with_reducible refine qU64 ?_ ?_);omega)|((with_reducible refine qU16 ?_ ?_);omega))
    conv => whnf
    cases hk : bldOk m (v - m.ref) (byN f.data 0 : Int)
    · repeat((conv=>whnf);first|((with_reducible refine qS ?_ ?_ ?_);exact rfl;exact rfl)|with_reducible refine qB ?_|((with_reducible refine qI ?_ ?_);omega)|((with_reducible refine qDT ?_ ?_);omega)|((with_reducible refine qDF ?_ ?_);omega)|((with_reducible refine qNT ?_ ?_);omega)|((with_reducible refine qNF ?_ ?_);omega)|((with_reducible refine qU8 ?_ ?_);omega)|((with_reducible refine qU32 ?_ ?_);omega)|((with_reducible refine qU64 ?_ ?_);omega)|((with_reducible refine qU16 ?_ ?_);omega))
      conv => whnf
      exact trimM rfl (no _ (by rw [eO, hk]; rfl) rfl)
    rw [hk, Bool.true_and] at eO
    cases hq : frmEq (bldF m (v - m.ref) (byN f.data 0 : Int) (byN f.data 2 * 256 + byN f.data 3) (decide ((byN f.data 1 : Int) = 1))) f
    · have eQ := hq
      unfold frmEq at hq
      rw [← hv] at hq
      repeat((conv=>whnf);first|((with_reducible refine qS ?_ ?_ ?_);exact rfl;exact rfl)|with_reducible refine qB ?_|((with_reducible refine qI ?_ ?_);omega)|((with_reducible refine qDT ?_ ?_);omega)|((with_reducible refine qDF ?_ ?_);omega)|((with_reducible refine qNT ?_ ?_);omega)|((with_reducible refine qNF ?_ ?_);omega)|((with_reducible refine qU8 ?_ ?_);omega)|((with_reducible refine qU32 ?_ ?_);omega)|((with_reducible refine qU64 ?_ ?_);omega)|((with_reducible refine qU16 ?_ ?_);omega))
      conv => whnf
      rw [hq]
      repeat((conv=>whnf);first|((with_reducible refine qS ?_ ?_ ?_);exact rfl;exact rfl)|with_reducible refine qB ?_|((with_reducible refine qI ?_ ?_);omega)|((with_reducible refine qDT ?_ ?_);omega)|((with_reducible refine qDF ?_ ?_);omega)|((with_reducible refine qNT ?_ ?_);omega)|((with_reducible refine qNF ?_ ?_);omega)|((with_reducible refine qU8 ?_ ?_);omega)|((with_reducible refine qU32 ?_ ?_);omega)|((with_reducible refine qU64 ?_ ?_);omega)|((with_reducible refine qU16 ?_ ?_);omega))
      conv => whnf
      exact trimM rfl (no _ (by rw [eO, eQ]; rfl) rfl)
    · rw [hq] at eO
      unfold frmEq at hq
      rw [← hv] at hq
      repeat((conv=>whnf);first|((with_reducible refine qS ?_ ?_ ?_);exact rfl;exact rfl)|with_reducible refine qB ?_|((with_reducible refine qI ?_ ?_);omega)|((with_reducible refine qDT ?_ ?_);omega)|((with_reducible refine qDF ?_ ?_);omega)|((with_reducible refine qNT ?_ ?_);omega)|((with_reducible refine qNF ?_ ?_);omega)|((with_reducible refine qU8 ?_ ?_);omega)|((with_reducible refine qU32 ?_ ?_);omega)|((with_reducible refine qU64 ?_ ?_);omega)|((with_reducible refine qU16 ?_ ?_);omega))
      conv => whnf
      rw [hq]
      repeat((conv=>whnf);first|((with_reducible refine qS ?_ ?_ ?_);exact rfl;exact rfl)|with_reducible refine qB ?_|((with_reducible refine qI ?_ ?_);omega)|((with_reducible refine qDT ?_ ?_);omega)|((with_reducible refine qDF ?_ ?_);omega)|((with_reducible refine qNT ?_ ?_);omega)|((with_reducible refine qNF ?_ ?_);omega)|((with_reducible refine qU8 ?_ ?_);omega)|((with_reducible refine qU32 ?_ ?_);omega)|((with_reducible refine qU64 ?_ ?_);omega)|((with_reducible refine qU16 ?_ ?_);omega))
      conv => whnf
      refine trimM rfl ?_
      show _ = R.tup [btT (btR m f), .one (.v (.bool (btOk m f)))]
      rw [eR, eO]
      show _ = R.tup [btT (btOf m f), .one (.v (.bool true))]
      rw [eB]
  · have eB : btOf m f = ⟨v - m.ref, byN f.data 0, 0, false⟩ := by
      rw [hv]
      exact if_neg g4
    rw [eB] at eO
    dsimp only [Bool.not_false, Bool.true_and] at eO
    repeat((conv=>whnf);first|((with_reducible refine qS ?_ ?_ ?_);exact rfl;exact rfl)|with_reducible refine qB ?_|((with_reducible refine qI ?_ ?_);omega)|((with_reducible refine qDT ?_ ?_);omega)|((with_reducible refine qDF ?_ ?_);omega)|((with_reducible refine qNT ?_ ?_);omega)|((with_reducible refine qNF ?_ ?_);omega)|((with_reducible refine qU8 ?_ ?_);omega)|((with_reducible refine qU32 ?_ ?_);omega)|((with_reducible refine qU64 ?_ ?_);omega)|((with_reducible refine qU16 ?_ ?_);omega))
    conv => whnf
    rw [q0]
    by_cases g5 : m.level = 2
    · have g6 : f.data.size ≠ 4 := fun h => g4 ⟨g5, h⟩
      repeat((conv=>whnf);first|((with_reducible refine qS ?_ ?_ ?_);exact rfl;exact rfl)|with_reducible refine qB ?_|((with_reducible refine qI ?_ ?_);omega)|((with_reducible refine qDT ?_ ?_);omega)|((with_reducible refine qDF ?_ ?_);omega)|((with_reducible refine qNT ?_ ?_);omega)|((with_reducible refine qNF ?_ ?_);omega)|((with_reducible refine qU8 ?_ ?_);omega)|((with_reducible refine qU32 ?_ ?_);omega)|((with_reducible refine qU64 ?_ ?_);omega)|((with_reducible refine qU16 ?_ ?_);omega))
      conv => whnf
      refine bld_use (m := m) (c := c) (rank := v - m.ref) (cyc := (byN f.data 0 : Int)) (a := 0) (disc := false) hm (by omega) ?_
      repeat((conv=>whnf);first|((with_reducible refine qS ?_ ?_ ?_);exact rfl;exact rfl)|with_reducible refine qB ?_|((with_reducible refine qI ?_ ?_);omega)|((with_reducible refine qDT ?_ ?_);omega)|((with_reducible refine qDF ?_ ?_);omega)|((with_reducible refine qNT ?_ ?_);omega)|((with_reducible refine qNF ?_ ?_);omega)|((with_reducible refine qU8 ?_ ?_);omega)|((with_reducible refine qU32 ?_ ?_);omega)|((with_reducible refine qU64 ?_ ?_);omega)|((with_reducible refine qU16 ?_ ?_);omega))
      conv => whnf
      cases hk : bldOk m (v - m.ref) (byN f.data 0 : Int)
      · repeat((conv=>whnf);first|((with_reducible refine qS ?_ ?_ ?_);exact rfl;exact rfl)|with_reducible refine qB ?_|((with_reducible refine qI ?_ ?_);omega)|((with_reducible refine qDT ?_ ?_);omega)|((with_reducible refine qDF ?_ ?_);omega)|((with_reducible refine qNT ?_ ?_);omega)|((with_reducible refine qNF ?_ ?_);omega)|((with_reducible refine qU8 ?_ ?_);omega)|((with_reducible refine qU32 ?_ ?_);omega)|((with_reducible refine qU64 ?_ ?_);omega)|((with_reducible refine qU16 ?_ ?_);omega))
        conv => whnf
        exact trimM rfl (no _ (by rw [eO, hk]; rfl) rfl)
      rw [hk, Bool.true_and] at eO
      cases hq : frmEq (bldF m (v - m.ref) (byN f.data 0 : Int) (0) (false)) f
      · have eQ := hq
        unfold frmEq at hq
        rw [← hv] at hq
        repeat((conv=>whnf);first|((with_reducible refine qS ?_ ?_ ?_);exact rfl;exact rfl)|with_reducible refine qB ?_|((with_reducible refine qI ?_ ?_);omega)|((with_reducible refine qDT ?_ ?_);omega)|((with_reducible refine qDF ?_ ?_);omega)|((with_reducible refine qNT ?_ ?_);omega)|((with_reducible refine qNF ?_ ?_);omega)|((with_reducible refine qU8 ?_ ?_);omega)|((with_reducible refine qU32 ?_ ?_);omega)|((with_reducible refine qU64 ?_ ?_);omega)|((with_reducible refine qU16 ?_ ?_);omega))
        conv => whnf
        rw [hq]
        repeat((conv=>whnf);first|((with_reducible refine qS ?_ ?_ ?_);exact rfl;exact rfl)|with_reducible refine qB ?_|((with_reducible refine qI ?_ ?_);omega)|((with_reducible refine qDT ?_ ?_);omega)|((with_reducible refine qDF ?_ ?_);omega)|((with_reducible refine qNT ?_ ?_);omega)|((with_reducible refine qNF ?_ ?_);omega)|((with_reducible refine qU8 ?_ ?_);omega)|((with_reducible refine qU32 ?_ ?_);omega)|((with_reducible refine qU64 ?_ ?_);omega)|((with_reducible refine qU16 ?_ ?_);omega))
        conv => whnf
        exact trimM rfl (no _ (by rw [eO, eQ]; rfl) rfl)
      · rw [hq] at eO
        unfold frmEq at hq
        rw [← hv] at hq
        repeat((conv=>whnf);first|((with_reducible refine qS ?_ ?_ ?_);exact rfl;exact rfl)|with_reducible refine qB ?_|((with_reducible refine qI ?_ ?_);omega)|((with_reducible refine qDT ?_ ?_);omega)|((with_reducible refine qDF ?_ ?_);omega)|((with_reducible refine qNT ?_ ?_);omega)|((with_reducible refine qNF ?_ ?_);omega)|((with_reducible refine qU8 ?_ ?_);omega)|((with_reducible refine qU32 ?_ ?_);omega)|((with_reducible refine qU64 ?_ ?_);omega)|((with_reducible refine qU16 ?_ ?_);omega))
        conv => whnf
        rw [hq]
        repeat((conv=>whnf);first|((with_reducible refine qS ?_ ?_ ?_);exact rfl;exact rfl)|with_reducible refine qB ?_|((with_reducible refine qI ?_ ?_);omega)|((with_reducible refine qDT ?_ ?_);omega)|((with_reducible refine qDF ?_ ?_);omega)|((with_reducible refine qNT ?_ ?_);omega)|((with_reducible refine qNF ?_ ?_);omega)|((with_reducible refine qU8 ?_ ?_);omega)|((with_reducible refine qU32 ?_ ?_);omega)|((with_reducible refine qU64 ?_ ?_);omega)|((with_reducible refine qU16 ?_ ?_);omega))
        conv => whnf
        refine trimM rfl ?_
        show _ = R.tup [btT (btR m f), .one (.v (.bool (btOk m f)))]
        rw [eR, eO]
        show _ = R.tup [btT (btOf m f), .one (.v (.bool true))]
        rw [eB]
        rfl
    · repeat((conv=>whnf);first|((with_reducible refine qS ?_ ?_ ?_);exact rfl;exact rfl)|with_reducible refine qB ?_|((with_reducible refine qI ?_ ?_);omega)|((with_reducible refine qDT ?_ ?_);omega)|((with_reducible refine qDF ?_ ?_);omega)|((with_reducible refine qNT ?_ ?_);omega)|((with_reducible refine qNF ?_ ?_);omega)|((with_reducible refine qU8 ?_ ?_);omega)|((with_reducible refine qU32 ?_ ?_);omega)|((with_reducible refine qU64 ?_ ?_);omega)|((with_reducible refine qU16 ?_ ?_);omega))
      conv => whnf
      refine bld_use (m := m) (c := c) (rank := v - m.ref) (cyc := (byN f.data 0 : Int)) (a := 0) (disc := false) hm (by omega) ?_
      repeat((conv=>whnf);first|((with_reducible refine qS ?_ ?_ ?_);exact rfl;exact rfl)|with_reducible refine qB ?_|((with_reducible refine qI ?_ ?_);omega)|((with_reducible refine qDT ?_ ?_);omega)|((with_reducible refine qDF ?_ ?_);omega)|((with_reducible refine qNT ?_ ?_);omega)|((with_reducible refine qNF ?_ ?_);omega)|((with_reducible refine qU8 ?_ ?_);omega)|((with_reducible refine qU32 ?_ ?_);omega)|((with_reducible refine qU64 ?_ ?_);omega)|((with_reducible refine qU16 ?_ ?_);omega))
      conv => whnf
      cases hk : bldOk m (v - m.ref) (byN f.data 0 : Int)
      · repeat((conv=>whnf);first|((with_reducible refine qS ?_ ?_ ?_);exact rfl;exact rfl)|with_reducible refine qB ?_|((with_reducible refine qI ?_ ?_);omega)|((with_reducible refine qDT ?_ ?_);omega)|((with_reducible refine qDF ?_ ?_);omega)|((with_reducible refine qNT ?_ ?_);omega)|((with_reducible refine qNF ?_ ?_);omega)|((with_reducible refine qU8 ?_ ?_);omega)|((with_reducible refine qU32 ?_ ?_);omega)|((with_reducible refine qU64 ?_ ?_);omega)|((with_reducible refine qU16 ?_ ?_);omega))
        conv => whnf
        exact trimM rfl (no _ (by rw [eO, hk]; rfl) rfl)
      rw [hk, Bool.true_and] at eO
      cases hq : frmEq (bldF m (v - m.ref) (byN f.data 0 : Int) (0) (false)) f
      · have eQ := hq
        unfold frmEq at hq
        rw [← hv] at hq
        repeat((conv=>whnf);first|((with_reducible refine qS ?_ ?_ ?_);exact rfl;exact rfl)|with_reducible refine qB ?_|((with_reducible refine qI ?_ ?_);omega)|((with_reducible refine qDT ?_ ?_);omega)|((with_reducible refine qDF ?_ ?_);omega)|((with_reducible refine qNT ?_ ?_);omega)|((with_reducible refine qNF ?_ ?_);omega)|((with_reducible refine qU8 ?_ ?_);omega)|((with_reducible refine qU32 ?_ ?_);omega)|((with_reducible refine qU64 ?_ ?_);omega)|((with_reducible refine qU16 ?_ ?_);omega))
        conv => whnf
        rw [hq]
        repeat((conv=>whnf);first|((with_reducible refine qS ?_ ?_ ?_);exact rfl;exact rfl)|with_reducible refine qB ?_|((with_reducible refine qI ?_ ?_);omega)|((with_reducible refine qDT ?_ ?_);omega)|((with_reducible refine qDF ?_ ?_);omega)|((with_reducible refine qNT ?_ ?_);omega)|((with_reducible refine qNF ?_ ?_);omega)|((with_reducible refine qU8 ?_ ?_);omega)|((with_reducible refine qU32 ?_ ?_);omega)|((with_reducible refine qU64 ?_ ?_);omega)|((with_reducible refine qU16 ?_ ?_);omega))
        conv => whnf
        exact trimM rfl (no _ (by rw [eO, eQ]; rfl) rfl)
      · rw [hq] at eO
        unfold frmEq at hq
        rw [← hv] at hq
        repeat((conv=>whnf);first|((with_reducible refine qS ?_ ?_ ?_);exact rfl;exact rfl)|with_reducible refine qB ?_|((with_reducible refine qI ?_ ?_);omega)|((with_reducible refine qDT ?_ ?_);omega)|((with_reducible refine qDF ?_ ?_);omega)|((with_reducible refine qNT ?_ ?_);omega)|((with_reducible refine qNF ?_ ?_);omega)|((with_reducible refine qU8 ?_ ?_);omega)|((with_reducible refine qU32 ?_ ?_);omega)|((with_reducible refine qU64 ?_ ?_);omega)|((with_reducible refine qU16 ?_ ?_);omega))
        conv => whnf
        rw [hq]
        repeat((conv=>whnf);first|((with_reducible refine qS ?_ ?_ ?_);exact rfl;exact rfl)|with_reducible refine qB ?_|((with_reducible refine qI ?_ ?_);omega)|((with_reducible refine qDT ?_ ?_);omega)|((with_reducible refine qDF ?_ ?_);omega)|((with_reducible refine qNT ?_ ?_);omega)|((with_reducible refine qNF ?_ ?_);omega)|((with_reducible refine qU8 ?_ ?_);omega)|((with_reducible refine qU32 ?_ ?_);omega)|((with_reducible refine qU64 ?_ ?_);omega)|((with_reducible refine qU16 ?_ ?_);omega))
        conv => whnf
        refine trimM rfl ?_
        show _ = R.tup [btT (btR m f), .one (.v (.bool (btOk m f)))]
        rw [eR, eO]
        show _ = R.tup [btT (btOf m f), .one (.v (.bool true))]
        rw [eB]
        rfl
theorem bt_ok : ConOk Tryd.prog F.refmsg_Parse btC := con_of_run (clRunX_ok (d := 7) ttOk outsBt_ok tabBt_ok 2) (fn_enters (ok.refmsg_Parse (D := 7) u0 _ (clRunX_ok (d := 7) ttOk .nil TabOk.nil 1))) fun p hp => by
  obtain ⟨m, c, ⟨ext, id, rtr, data⟩⟩ := p
  exact bt_run m c ⟨ext, id, rtr, data⟩ (id : Int) rfl hp.1 hp.2.1 hp.2.2
end Go.Proofs.YtdeaigaafdnehaaDoor.Co
