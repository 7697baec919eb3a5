/- Contracts: the beat as a frame. -/
import Derived.Test.YtdeaigaafdnehaaDoorCbG
import Derived.Test.YtdeaigaafdnehaaDoorCoC
import Derived.Test.YtdeaigaafdnehaaDoorPuS
namespace Go.Proofs.YtdeaigaafdnehaaDoor.Co
open Go Go.Eng Go.Proofs Go.Proofs.YtdeaigaafdnehaaDoor.Tb Go.Pu
set_option maxRecDepth 100000
set_option maxHeartbeats 16000000
abbrev bldR (m : Mat) (rank cyc : Int) (a : Nat) (disc : Bool) : R := .tup [frmT (bldF m rank cyc a disc), .one (.v (.bool (bldOk m rank cyc)))]
abbrev bldC : Con (Mat × Caps × Int × Int × Nat × Bool) := RoCon (fun p => [matT p.1 p.2.1 0 1 2, iv .i64 p.2.2.1, iv .i64 p.2.2.2.1, iv .u16 p.2.2.2.2.1, bv p.2.2.2.2.2]) (fun p => matH p.1 []) (fun p => p.1.Ok ∧ p.2.2.2.2.1 < 65536) fun p => bldR p.1 p.2.2.1 p.2.2.2.1 p.2.2.2.2.1 p.2.2.2.2.2
theorem bld_use {m : Mat} {c : Caps} {rank cyc : Int} {a : Nat} {disc : Bool} {rest : Heap} {K : R → Heap → Prop} (hm : m.Ok) (ha : a < 65536) (hk : K (bldR m rank cyc a disc) (matH m rest)) : AskC bldC [matT m c 0 1 2, iv .i64 rank, iv .i64 cyc, iv .u16 a, bv disc] (matH m rest) K :=
  .use (m, c, rank, cyc, a, disc) [0, 1, 2] ⟨hm, ha⟩ rfl (mat_le m rest) ⟨mat_lx m c rest, .inl rfl, .inl rfl, .inl rfl, .inl rfl, trivial⟩ hk
abbrev outsBld : List (FuncId × Cx) := [(F.matrix_Is, AskC isC)]
theorem outsBld_ok : OutsOk Tryd.prog outsBld := .cons (ask_ok is_ok) .nil
noncomputable abbrev tabBld : List (FuncId × Eng.Fn) := [(F.refmsg_Build, fn.refmsg_Build u0)]
theorem tabBld_ok {d : Nat} : TabOk d tabBld tt := .cons (ok.refmsg_Build u0) (TabOk.nil)
theorem bld_run (m : Mat) (c : Caps) (rank cyc : Int) (a : Nat) (disc : Bool) (hm : m.Ok) (ha : a < 65536) : clRunX 6 tt outsBld tabBld 2 F.refmsg_Build [] [matT m c 0 1 2, iv .i64 rank, iv .i64 cyc, iv .u16 a, bv disc] (matH m []) (fun x h => Trim 3 x h fun x h => x = bldR m rank cyc a disc ∧ h = matH m []) := by
  have hnM := hm.nM
  have eF : bldF m rank cyc a disc = if bldOk m rank cyc then ⟨false, (m.ref + rank).toNat, false, bldD m cyc a disc⟩ else frm0 := rfl
  have eO : bldOk m rank cyc = (isM m && decide (0 ≤ rank ∧ rank < m.nM ∧ 0 ≤ cyc ∧ cyc < m.cycles)) := rfl
  have no : ∀ x, bldOk m rank cyc = false → x = R.tup [frmT frm0, .one (.v (.bool false))] → x = bldR m rank cyc a disc := fun x h e => by
    rw [e]
    show _ = R.tup [frmT (bldF m rank cyc a disc), .one (.v (.bool (bldOk m rank cyc)))]
    rw [eF, h]; rfl
  repeat((conv=>whnf);first|((with_reducible refine qS ?_ ?_ ?_);exact rfl;exact rfl)|with_reducible refine qB ?_|((with_reducible refine qI ?_ ?_);omega)|((with_reducible refine qDT ?_ ?_);omega)|((with_reducible refine qDF ?_ ?_);omega)|((with_reducible refine qNT ?_ ?_);omega)|((with_reducible refine qNF ?_ ?_);omega)|((with_reducible refine qU8 ?_ ?_);omega)|((with_reducible refine qU32 ?_ ?_);omega)|((with_reducible refine qU64 ?_ ?_);omega)|((with_reducible refine qU16 ?_ ?_);omega))
  conv => whnf
  refine is_use (m := m) (c := c) hm ?_
  cases hi : isM m
  · repeat((conv=>whnf);first|((with_reducible refine qS ?_ ?_ ?_);exact rfl;exact rfl)|with_reducible refine qB ?_|((with_reducible refine qI ?_ ?_);omega)|((with_reducible refine qDT ?_ ?_);omega)|((with_reducible refine qDF ?_ ?_);omega)|((with_reducible refine qNT ?_ ?_);omega)|((with_reducible refine qNF ?_ ?_);omega)|((with_reducible refine qU8 ?_ ?_);omega)|((with_reducible refine qU32 ?_ ?_);omega)|((with_reducible refine qU64 ?_ ?_);omega)|((with_reducible refine qU16 ?_ ?_);omega))
    conv => whnf
    exact trimM rfl (no _ (by rw [eO, hi]; rfl) rfl)
  by_cases h1 : rank < 0
  · repeat((conv=>whnf);first|((with_reducible refine qS ?_ ?_ ?_);exact rfl;exact rfl)|with_reducible refine qB ?_|((with_reducible refine qI ?_ ?_);omega)|((with_reducible refine qDT ?_ ?_);omega)|((with_reducible refine qDF ?_ ?_);omega)|((with_reducible refine qNT ?_ ?_);omega)|((with_reducible refine qNF ?_ ?_);omega)|((with_reducible refine qU8 ?_ ?_);omega)|((with_reducible refine qU32 ?_ ?_);omega)|((with_reducible refine qU64 ?_ ?_);omega)|((with_reducible refine qU16 ?_ ?_);omega))
    conv => whnf
    exact trimM rfl (no _ (by rw [eO, decide_eq_false (by omega)]; simp) rfl)
  by_cases h2 : (m.nM : Int) ≤ rank
  · repeat((conv=>whnf);first|((with_reducible refine qS ?_ ?_ ?_);exact rfl;exact rfl)|with_reducible refine qB ?_|((with_reducible refine qI ?_ ?_);omega)|((with_reducible refine qDT ?_ ?_);omega)|((with_reducible refine qDF ?_ ?_);omega)|((with_reducible refine qNT ?_ ?_);omega)|((with_reducible refine qNF ?_ ?_);omega)|((with_reducible refine qU8 ?_ ?_);omega)|((with_reducible refine qU32 ?_ ?_);omega)|((with_reducible refine qU64 ?_ ?_);omega)|((with_reducible refine qU16 ?_ ?_);omega))
    conv => whnf
    exact trimM rfl (no _ (by rw [eO, decide_eq_false (by omega)]; simp) rfl)
  by_cases h3 : cyc < 0
  · repeat((conv=>whnf);first|((with_reducible refine qS ?_ ?_ ?_);exact rfl;exact rfl)|with_reducible refine qB ?_|((with_reducible refine qI ?_ ?_);omega)|((with_reducible refine qDT ?_ ?_);omega)|((with_reducible refine qDF ?_ ?_);omega)|((with_reducible refine qNT ?_ ?_);omega)|((with_reducible refine qNF ?_ ?_);omega)|((with_reducible refine qU8 ?_ ?_);omega)|((with_reducible refine qU32 ?_ ?_);omega)|((with_reducible refine qU64 ?_ ?_);omega)|((with_reducible refine qU16 ?_ ?_);omega))
    conv => whnf
    exact trimM rfl (no _ (by rw [eO, decide_eq_false (by omega)]; simp) rfl)
  by_cases h4 : m.cycles ≤ cyc
  · repeat((conv=>whnf);first|((with_reducible refine qS ?_ ?_ ?_);exact rfl;exact rfl)|with_reducible refine qB ?_|((with_reducible refine qI ?_ ?_);omega)|((with_reducible refine qDT ?_ ?_);omega)|((with_reducible refine qDF ?_ ?_);omega)|((with_reducible refine qNT ?_ ?_);omega)|((with_reducible refine qNF ?_ ?_);omega)|((with_reducible refine qU8 ?_ ?_);omega)|((with_reducible refine qU32 ?_ ?_);omega)|((with_reducible refine qU64 ?_ ?_);omega)|((with_reducible refine qU16 ?_ ?_);omega))
    conv => whnf
    exact trimM rfl (no _ (by rw [eO, decide_eq_false (by omega)]; simp) rfl)
  have hk : bldOk m rank cyc = true := by rw [eO, hi, decide_eq_true (by omega)]; rfl
  have his := isM_iff.1 hi
  have hl := his.head
  have hn := his.size
  unfold headP power at hl
  unfold sizeP at hn
  have hr0 := hm.ref
  unfold U32 at hr0
  have hid : m.ref + rank = (((m.ref + rank).toNat : Nat) : Int) := by omega
  by_cases h5 : m.level = 2
  · have eD : bldD m cyc a disc = ⟨#[UInt8.ofNat cyc.toNat, UInt8.ofNat (if disc then 1 else 0), UInt8.ofNat (a / 256), UInt8.ofNat (a % 256)]⟩ := if_pos h5
    cases disc
    · by_cases h6 : a ≤ 255
      · have e6 : a % 256 = a := by omega
        rw [e6] at eD
        repeat((conv=>whnf);first|((with_reducible refine qS ?_ ?_ ?_);exact rfl;exact rfl)|with_reducible refine qB ?_|((with_reducible refine qI ?_ ?_);omega)|((with_reducible refine qDT ?_ ?_);omega)|((with_reducible refine qDF ?_ ?_);omega)|((with_reducible refine qNT ?_ ?_);omega)|((with_reducible refine qNF ?_ ?_);omega)|((with_reducible refine qU8 ?_ ?_);omega)|((with_reducible refine qU32 ?_ ?_);omega)|((with_reducible refine qU64 ?_ ?_);omega)|((with_reducible refine qU16 ?_ ?_);omega))
        conv => whnf
        rw [shr8]
        repeat((conv=>whnf);first|((with_reducible refine qS ?_ ?_ ?_);exact rfl;exact rfl)|with_reducible refine qB ?_|((with_reducible refine qI ?_ ?_);omega)|((with_reducible refine qDT ?_ ?_);omega)|((with_reducible refine qDF ?_ ?_);omega)|((with_reducible refine qNT ?_ ?_);omega)|((with_reducible refine qNF ?_ ?_);omega)|((with_reducible refine qU8 ?_ ?_);omega)|((with_reducible refine qU32 ?_ ?_);omega)|((with_reducible refine qU64 ?_ ?_);omega)|((with_reducible refine qU16 ?_ ?_);omega))
        conv => whnf
        intro cap hcap
        repeat((conv=>whnf);first|((with_reducible refine qS ?_ ?_ ?_);exact rfl;exact rfl)|with_reducible refine qB ?_|((with_reducible refine qI ?_ ?_);omega)|((with_reducible refine qDT ?_ ?_);omega)|((with_reducible refine qDF ?_ ?_);omega)|((with_reducible refine qNT ?_ ?_);omega)|((with_reducible refine qNF ?_ ?_);omega)|((with_reducible refine qU8 ?_ ?_);omega)|((with_reducible refine qU32 ?_ ?_);omega)|((with_reducible refine qU64 ?_ ?_);omega)|((with_reducible refine qU16 ?_ ?_);omega))
        conv => whnf
        refine trimM rfl ?_
        show _ = R.tup [frmT (bldF m rank cyc a false), .one (.v (.bool (bldOk m rank cyc)))]
        rw [eF, hk, if_pos rfl, eD]
        show _ = R.tup [.agg [.c (.v (.bool false)), .c (.v (.int .u32 (((m.ref + rank).toNat : Nat) : Int))), .c (.v (.bool false)), .c (.v (.string _))], .one (.v (.bool true))]
        rw [← hid]
        rfl
      · repeat((conv=>whnf);first|((with_reducible refine qS ?_ ?_ ?_);exact rfl;exact rfl)|with_reducible refine qB ?_|((with_reducible refine qI ?_ ?_);omega)|((with_reducible refine qDT ?_ ?_);omega)|((with_reducible refine qDF ?_ ?_);omega)|((with_reducible refine qNT ?_ ?_);omega)|((with_reducible refine qNF ?_ ?_);omega)|((with_reducible refine qU8 ?_ ?_);omega)|((with_reducible refine qU32 ?_ ?_);omega)|((with_reducible refine qU64 ?_ ?_);omega)|((with_reducible refine qU16 ?_ ?_);omega))
        conv => whnf
        rw [shr8]
        repeat((conv=>whnf);first|((with_reducible refine qS ?_ ?_ ?_);exact rfl;exact rfl)|with_reducible refine qB ?_|((with_reducible refine qI ?_ ?_);omega)|((with_reducible refine qDT ?_ ?_);omega)|((with_reducible refine qDF ?_ ?_);omega)|((with_reducible refine qNT ?_ ?_);omega)|((with_reducible refine qNF ?_ ?_);omega)|((with_reducible refine qU8 ?_ ?_);omega)|((with_reducible refine qU32 ?_ ?_);omega)|((with_reducible refine qU64 ?_ ?_);omega)|((with_reducible refine qU16 ?_ ?_);omega))
        conv => whnf
        refine qU8F (by omega) ?_
        rw [wrap8]
        repeat((conv=>whnf);first|((with_reducible refine qS ?_ ?_ ?_);exact rfl;exact rfl)|with_reducible refine qB ?_|((with_reducible refine qI ?_ ?_);omega)|((with_reducible refine qDT ?_ ?_);omega)|((with_reducible refine qDF ?_ ?_);omega)|((with_reducible refine qNT ?_ ?_);omega)|((with_reducible refine qNF ?_ ?_);omega)|((with_reducible refine qU8 ?_ ?_);omega)|((with_reducible refine qU32 ?_ ?_);omega)|((with_reducible refine qU64 ?_ ?_);omega)|((with_reducible refine qU16 ?_ ?_);omega))
        conv => whnf
        intro cap hcap
        repeat((conv=>whnf);first|((with_reducible refine qS ?_ ?_ ?_);exact rfl;exact rfl)|with_reducible refine qB ?_|((with_reducible refine qI ?_ ?_);omega)|((with_reducible refine qDT ?_ ?_);omega)|((with_reducible refine qDF ?_ ?_);omega)|((with_reducible refine qNT ?_ ?_);omega)|((with_reducible refine qNF ?_ ?_);omega)|((with_reducible refine qU8 ?_ ?_);omega)|((with_reducible refine qU32 ?_ ?_);omega)|((with_reducible refine qU64 ?_ ?_);omega)|((with_reducible refine qU16 ?_ ?_);omega))
        conv => whnf
        refine trimM rfl ?_
        show _ = R.tup [frmT (bldF m rank cyc a false), .one (.v (.bool (bldOk m rank cyc)))]
        rw [eF, hk, if_pos rfl, eD]
        show _ = R.tup [.agg [.c (.v (.bool false)), .c (.v (.int .u32 (((m.ref + rank).toNat : Nat) : Int))), .c (.v (.bool false)), .c (.v (.string _))], .one (.v (.bool true))]
        rw [← hid]
        rfl
    · by_cases h6 : a ≤ 255
      · have e6 : a % 256 = a := by omega
        rw [e6] at eD
        repeat((conv=>whnf);first|((with_reducible refine qS ?_ ?_ ?_);exact rfl;exact rfl)|with_reducible refine qB ?_|((with_reducible refine qI ?_ ?_);omega)|((with_reducible refine qDT ?_ ?_);omega)|((with_reducible refine qDF ?_ ?_);omega)|((with_reducible refine qNT ?_ ?_);omega)|((with_reducible refine qNF ?_ ?_);omega)|((with_reducible refine qU8 ?_ ?_);omega)|((with_reducible refine qU32 ?_ ?_);omega)|((with_reducible refine qU64 ?_ ?_);omega)|((with_reducible refine qU16 ?_ ?_);omega))
        conv => whnf
        rw [shr8]
        repeat((conv=>whnf);first|((with_reducible refine qS ?_ ?_ ?_);exact rfl;exact rfl)|with_reducible refine qB ?_|((with_reducible refine qI ?_ ?_);omega)|((with_reducible refine qDT ?_ ?_);omega)|((with_reducible refine qDF ?_ ?_);omega)|((with_reducible refine qNT ?_ ?_);omega)|((with_reducible refine qNF ?_ ?_);omega)|((with_reducible refine qU8 ?_ ?_);omega)|((with_reducible refine qU32 ?_ ?_);omega)|((with_reducible refine qU64 ?_ ?_);omega)|((with_reducible refine qU16 ?_ ?_);omega))
        conv => whnf
        intro cap hcap
        repeat((conv=>whnf);first|((with_reducible refine qS ?_ ?_ ?_);exact rfl;exact rfl)|with_reducible refine qB ?_|((with_reducible refine qI ?_ ?_);omega)|((with_reducible refine qDT ?_ ?_);omega)|((with_reducible refine qDF ?_ ?_);omega)|((with_reducible refine qNT ?_ ?_);omega)|((with_reducible refine qNF ?_ ?_);omega)|((with_reducible refine qU8 ?_ ?_);omega)|((with_reducible refine qU32 ?_ ?_);omega)|((with_reducible refine qU64 ?_ ?_);omega)|((with_reducible refine qU16 ?_ ?_);omega))
        conv => whnf
        refine trimM rfl ?_
        show _ = R.tup [frmT (bldF m rank cyc a true), .one (.v (.bool (bldOk m rank cyc)))]
        rw [eF, hk, if_pos rfl, eD]
        show _ = R.tup [.agg [.c (.v (.bool false)), .c (.v (.int .u32 (((m.ref + rank).toNat : Nat) : Int))), .c (.v (.bool false)), .c (.v (.string _))], .one (.v (.bool true))]
        rw [← hid]
        rfl
      · repeat((conv=>whnf);first|((with_reducible refine qS ?_ ?_ ?_);exact rfl;exact rfl)|with_reducible refine qB ?_|((with_reducible refine qI ?_ ?_);omega)|((with_reducible refine qDT ?_ ?_);omega)|((with_reducible refine qDF ?_ ?_);omega)|((with_reducible refine qNT ?_ ?_);omega)|((with_reducible refine qNF ?_ ?_);omega)|((with_reducible refine qU8 ?_ ?_);omega)|((with_reducible refine qU32 ?_ ?_);omega)|((with_reducible refine qU64 ?_ ?_);omega)|((with_reducible refine qU16 ?_ ?_);omega))
        conv => whnf
        rw [shr8]
        repeat((conv=>whnf);first|((with_reducible refine qS ?_ ?_ ?_);exact rfl;exact rfl)|with_reducible refine qB ?_|((with_reducible refine qI ?_ ?_);omega)|((with_reducible refine qDT ?_ ?_);omega)|((with_reducible refine qDF ?_ ?_);omega)|((with_reducible refine qNT ?_ ?_);omega)|((with_reducible refine qNF ?_ ?_);omega)|((with_reducible refine qU8 ?_ ?_);omega)|((with_reducible refine qU32 ?_ ?_);omega)|((with_reducible refine qU64 ?_ ?_);omega)|((with_reducible refine qU16 ?_ ?_);omega))
        conv => whnf
        refine qU8F (by omega) ?_
        rw [wrap8]
        repeat((conv=>whnf);first|((with_reducible refine qS ?_ ?_ ?_);exact rfl;exact rfl)|with_reducible refine qB ?_|((with_reducible refine qI ?_ ?_);omega)|((with_reducible refine qDT ?_ ?_);omega)|((with_reducible refine qDF ?_ ?_);omega)|((with_reducible refine qNT ?_ ?_);omega)|((with_reducible refine qNF ?_ ?_);omega)|((with_reducible refine qU8 ?_ ?_);omega)|((with_reducible refine qU32 ?_ ?_);omega)|((with_reducible refine qU64 ?_ ?_);omega)|((with_reducible refine qU16 ?_ ?_);omega))
        conv => whnf
        intro cap hcap
        repeat((conv=>whnf);first|((with_reducible refine qS ?_ ?_ ?_);exact rfl;exact rfl)|with_reducible refine qB ?_|((with_reducible refine qI ?_ ?_);omega)|((with_reducible refine qDT ?_ ?_);omega)|((with_reducible refine qDF ?_ ?_);omega)|((with_reducible refine qNT ?_ ?_);omega)|((with_reducible refine qNF ?_ ?_);omega)|((with_reducible refine qU8 ?_ ?_);omega)|((with_reducible refine qU32 ?_ ?_);omega)|((with_reducible refine qU64 ?_ ?_);omega)|((with_reducible refine qU16 ?_ ?_);omega))
        conv => whnf
        refine trimM rfl ?_
        show _ = R.tup [frmT (bldF m rank cyc a true), .one (.v (.bool (bldOk m rank cyc)))]
        rw [eF, hk, if_pos rfl, eD]
        show _ = R.tup [.agg [.c (.v (.bool false)), .c (.v (.int .u32 (((m.ref + rank).toNat : Nat) : Int))), .c (.v (.bool false)), .c (.v (.string _))], .one (.v (.bool true))]
        rw [← hid]
        rfl
  · have eD : bldD m cyc a disc = ⟨#[UInt8.ofNat cyc.toNat]⟩ := if_neg h5
    repeat((conv=>whnf);first|((with_reducible refine qS ?_ ?_ ?_);exact rfl;exact rfl)|with_reducible refine qB ?_|((with_reducible refine qI ?_ ?_);omega)|((with_reducible refine qDT ?_ ?_);omega)|((with_reducible refine qDF ?_ ?_);omega)|((with_reducible refine qNT ?_ ?_);omega)|((with_reducible refine qNF ?_ ?_);omega)|((with_reducible refine qU8 ?_ ?_);omega)|((with_reducible refine qU32 ?_ ?_);omega)|((with_reducible refine qU64 ?_ ?_);omega)|((with_reducible refine qU16 ?_ ?_);omega))
    conv => whnf
    refine trimM rfl ?_
    show _ = R.tup [frmT (bldF m rank cyc a disc), .one (.v (.bool (bldOk m rank cyc)))]
    rw [eF, hk, if_pos rfl, eD]
    show _ = R.tup [.agg [.c (.v (.bool false)), .c (.v (.int .u32 (((m.ref + rank).toNat : Nat) : Int))), .c (.v (.bool false)), .c (.v (.string _))], .one (.v (.bool true))]
    rw [← hid]
    rfl
theorem bld_ok : ConOk Tryd.prog F.refmsg_Build bldC := con_of_run (clRunX_ok (d := 6) ttOk outsBld_ok tabBld_ok 2) (fn_enters (ok.refmsg_Build (D := 6) u0 _ (clRunX_ok (d := 6) ttOk .nil TabOk.nil 1))) fun p hp => bld_run p.1 p.2.1 p.2.2.1 p.2.2.2.1 p.2.2.2.2.1 p.2.2.2.2.2 hp.1 hp.2
end Go.Proofs.YtdeaigaafdnehaaDoor.Co
