/- Contracts: the check: what is there twice. -/
import Derived.Test.YtbdifadabipfiaaCoG
namespace Go.Proofs.Ytbdifadabipfiaa.Co
open Go Go.Eng Go.Proofs Go.Proofs.Ytbdifadabipfiaa.Tb Go.Pu
set_option maxRecDepth 100000
set_option maxHeartbeats 8000000
def capsOk (m : Mat) (c : Caps) : Prop := m.nM ≤ c.c1 ∧ m.nG ≤ c.c2 ∧ m.nW ≤ c.c3
abbrev twiceC : Con (Mat × Caps) := RoCon (fun p => [matT p.1 p.2 0 1 2]) (fun p => matH p.1 []) (fun p => p.1.Ok ∧ capsOk p.1 p.2) fun p => pairR (chkT p.1)
theorem twice_use {m : Mat} {c : Caps} {rest : Heap} {K : R → Heap → Prop} (hm : m.Ok) (hc : capsOk m c) (hk : K (pairR (chkT m)) (matH m rest)) : AskC twiceC [matT m c 0 1 2] (matH m rest) K :=
  .use (m, c) [0, 1, 2] ⟨hm, hc⟩ rfl (mat_le m rest) ⟨mat_lx m c rest, trivial⟩ hk
abbrev outsCn : List (FuncId × Cx) := [(F.slices_Contains_int, AskC containsC)]
theorem outsCn_ok : OutsOk Try.prog outsCn := .cons (ask_ok contains_ok) .nil
noncomputable abbrev tabTw : List (FuncId × Eng.Fn) := [(F.check_twice, fn.check_twice u0), (F.check_twice_1, fn.check_twice_1 u0), (F.slices_ContainsFunc_Message, fn.slices_ContainsFunc_Message u0), (F.slices_IndexFunc_Message, fn.slices_IndexFunc_Message u0)]
theorem tabTw_ok {d : Nat} : TabOk d tabTw tt := .cons (ok.check_twice u0) (.cons (ok.check_twice_1 u0) (.cons (ok.slices_ContainsFunc_Message u0) (.cons (ok.slices_IndexFunc_Message u0) (TabOk.nil))))
theorem twice_run (m : Mat) (c : Caps) (hm : m.Ok) (hc : capsOk m c) : clRunX 6 tt outsCn tabTw 5 F.check_twice [] [matT m c 0 1 2] (matH m []) (fun x h => Trim 3 x h fun x h => x = pairR (chkT m) ∧ h = matH m []) := by
  have hnM := hm.nM
  have hnG := hm.nG
  have hG := hm.G
  obtain ⟨r0, r1⟩ := hm.ref
  obtain ⟨c1, c2, c3⟩ := hc
  conv => whnf
  refine .rd (fun i : Nat => i ≤ m.nM ∧ ∀ j, j < i → badM m j = false) (fun i => [(11, iv .i64 i)]) (fun i => m.nM - i) 0 ⟨Nat.zero_le _, all_0⟩ ?_ (fun i ⟨hi, hp⟩ => ?_)
  · conv=>whnf
    refine Le.id rfl ?_ ?_<;>repeat'(first|exact leT_empty|exact trivial|exact rfl|exact fun _ _=>rfl|exact .inl rfl|exact Nat.le_refl _|refine And.intro ?_ ?_)
  conv => whnf
  refine cD (fun h5 => ?_) (fun h5 => ?_)
  · repeat((conv=>whnf);first|((with_reducible refine qS ?_ ?_ ?_);exact rfl;exact rfl)|with_reducible refine qB ?_|((with_reducible refine qI ?_ ?_);omega)|((with_reducible refine qDT ?_ ?_);omega)|((with_reducible refine qDF ?_ ?_);omega)|((with_reducible refine qNT ?_ ?_);omega)|((with_reducible refine qNF ?_ ?_);omega)|((with_reducible refine qU8 ?_ ?_);omega)|((with_reducible refine qU32 ?_ ?_);omega)|((with_reducible refine qU64 ?_ ?_);omega)|((with_reducible refine qU16 ?_ ?_);omega))
    conv => whnf
    try rw [zi i]
    refine contains_use (N := m.nM) (n := i) (cap := c.c1) (nl := c.z1) (f := m.M) (v := m.M i) (a := 0) ⟨hi, hnM⟩ ⟨⟨.inl rfl, Nat.le_refl _, fun _ _ => rfl⟩, trivial⟩ ?_
    cases hb : badM m i with
    | true =>
      have hb' := hb
      unfold badM at hb'
      rw [hb']
      repeat((conv=>whnf);first|((with_reducible refine qS ?_ ?_ ?_);exact rfl;exact rfl)|with_reducible refine qB ?_|((with_reducible refine qI ?_ ?_);omega)|((with_reducible refine qDT ?_ ?_);omega)|((with_reducible refine qDF ?_ ?_);omega)|((with_reducible refine qNT ?_ ?_);omega)|((with_reducible refine qNF ?_ ?_);omega)|((with_reducible refine qU8 ?_ ?_);omega)|((with_reducible refine qU32 ?_ ?_);omega)|((with_reducible refine qU64 ?_ ?_);omega)|((with_reducible refine qU16 ?_ ?_);omega))
      conv => whnf
      have e : first m.nM (badM m) = (i : Int) := first_some (by omega) hp hb
      exact trimM rfl (congrArg pairR (by rw [chkT, e, pick_pos (by omega)]) : pairR ((i : Int), 142) = _)
    | false =>
      have hb' := hb
      unfold badM at hb'
      rw [hb']
      repeat((conv=>whnf);first|((with_reducible refine qS ?_ ?_ ?_);exact rfl;exact rfl)|with_reducible refine qB ?_|((with_reducible refine qI ?_ ?_);omega)|((with_reducible refine qDT ?_ ?_);omega)|((with_reducible refine qDF ?_ ?_);omega)|((with_reducible refine qNT ?_ ?_);omega)|((with_reducible refine qNF ?_ ?_);omega)|((with_reducible refine qU8 ?_ ?_);omega)|((with_reducible refine qU32 ?_ ?_);omega)|((with_reducible refine qU64 ?_ ?_);omega)|((with_reducible refine qU16 ?_ ?_);omega))
      conv => whnf
      refine ⟨i + 1, ⟨⟨by omega, all_up hp hb⟩, by omega⟩, ?_⟩
      conv=>whnf
      refine Le.id rfl ?_ ?_<;>repeat'(first|exact leT_empty|exact trivial|exact rfl|exact fun _ _=>rfl|exact .inl rfl|exact Nat.le_refl _|refine And.intro ?_ ?_)
  obtain rfl : i = m.nM := by omega
  have e1 : first m.nM (badM m) = -1 := first_none hp
  conv => whnf
  refine .rd (fun i : Nat => i ≤ m.nG ∧ ∀ j, j < i → badG m j = false) (fun i => [(27, iv .i64 i)]) (fun i => m.nG - i) 0 ⟨Nat.zero_le _, all_0⟩ ?_ (fun i ⟨hi, hq⟩ => ?_)
  · conv=>whnf
    refine Le.id rfl ?_ ?_<;>repeat'(first|exact leT_empty|exact trivial|exact rfl|exact fun _ _=>rfl|exact .inl rfl|exact Nat.le_refl _|refine And.intro ?_ ?_)
  conv => whnf
  refine cD (fun h5 => ?_) (fun h5 => ?_)
  · have hGi := hG i (by omega)
    unfold U32 at hGi
    have yes : badG m i = true → pairR ((i : Int), 142) = pairR (chkT m) := fun hb => by
      have e : first m.nG (badG m) = (i : Int) := first_some (by omega) hq hb
      rw [chkT, e1, e, pick_neg (by omega), pick_pos (by omega)]
    repeat((conv=>whnf);first|((with_reducible refine qS ?_ ?_ ?_);exact rfl;exact rfl)|with_reducible refine qB ?_|((with_reducible refine qI ?_ ?_);omega)|((with_reducible refine qDT ?_ ?_);omega)|((with_reducible refine qDF ?_ ?_);omega)|((with_reducible refine qNT ?_ ?_);omega)|((with_reducible refine qNF ?_ ?_);omega)|((with_reducible refine qU8 ?_ ?_);omega)|((with_reducible refine qU32 ?_ ?_);omega)|((with_reducible refine qU64 ?_ ?_);omega)|((with_reducible refine qU16 ?_ ?_);omega))
    conv => whnf
    try rw [zi i]
    refine cD (fun h6 => ?_) (fun h6 => ?_)
    repeat((conv=>whnf);first|((with_reducible refine qS ?_ ?_ ?_);exact rfl;exact rfl)|with_reducible refine qB ?_|((with_reducible refine qI ?_ ?_);omega)|((with_reducible refine qDT ?_ ?_);omega)|((with_reducible refine qDF ?_ ?_);omega)|((with_reducible refine qNT ?_ ?_);omega)|((with_reducible refine qNF ?_ ?_);omega)|((with_reducible refine qU8 ?_ ?_);omega)|((with_reducible refine qU32 ?_ ?_);omega)|((with_reducible refine qU64 ?_ ?_);omega)|((with_reducible refine qU16 ?_ ?_);omega))
    conv => whnf
    refine cD (fun h7 => ?_) (fun h7 => ?_)
    · conv => whnf
      exact trimM rfl (yes (by unfold badG; rw [decide_eq_true ⟨h6, h7⟩]; rfl))
    all_goals
      have hr : ¬ (m.ref ≤ (m.G i).id ∧ (m.G i).id - m.ref < 8) := by omega
      repeat((conv=>whnf);first|((with_reducible refine qS ?_ ?_ ?_);exact rfl;exact rfl)|with_reducible refine qB ?_|((with_reducible refine qI ?_ ?_);omega)|((with_reducible refine qDT ?_ ?_);omega)|((with_reducible refine qDF ?_ ?_);omega)|((with_reducible refine qNT ?_ ?_);omega)|((with_reducible refine qNF ?_ ?_);omega)|((with_reducible refine qU8 ?_ ?_);omega)|((with_reducible refine qU32 ?_ ?_);omega)|((with_reducible refine qU64 ?_ ?_);omega)|((with_reducible refine qU16 ?_ ?_);omega))
      conv => whnf
      refine .rd (fun k : Nat => k ≤ i ∧ ∀ j, j < k → ¬ (m.G j).id = (m.G i).id) (fun k => [(8, iv .i64 k)]) (fun k => i - k) 0 ⟨Nat.zero_le _, all_0⟩ ?_ (fun k ⟨hk, hr2⟩ => ?_)
      · conv=>whnf
        refine Le.id rfl ?_ ?_<;>repeat'(first|exact leT_empty|exact trivial|exact rfl|exact fun _ _=>rfl|exact .inl rfl|exact Nat.le_refl _|refine And.intro ?_ ?_)
      conv => whnf
      refine cD (fun h8 => ?_) (fun h8 => ?_)
      · repeat((conv=>whnf);first|((with_reducible refine qS ?_ ?_ ?_);exact rfl;exact rfl)|with_reducible refine qB ?_|((with_reducible refine qI ?_ ?_);omega)|((with_reducible refine qDT ?_ ?_);omega)|((with_reducible refine qDF ?_ ?_);omega)|((with_reducible refine qNT ?_ ?_);omega)|((with_reducible refine qNF ?_ ?_);omega)|((with_reducible refine qU8 ?_ ?_);omega)|((with_reducible refine qU32 ?_ ?_);omega)|((with_reducible refine qU64 ?_ ?_);omega)|((with_reducible refine qU16 ?_ ?_);omega))
        conv => whnf
        try rw [zi k]
        refine cD (fun h9 => ?_) (fun h9 => ?_)
        · repeat((conv=>whnf);first|((with_reducible refine qS ?_ ?_ ?_);exact rfl;exact rfl)|with_reducible refine qB ?_|((with_reducible refine qI ?_ ?_);omega)|((with_reducible refine qDT ?_ ?_);omega)|((with_reducible refine qDF ?_ ?_);omega)|((with_reducible refine qNT ?_ ?_);omega)|((with_reducible refine qNF ?_ ?_);omega)|((with_reducible refine qU8 ?_ ?_);omega)|((with_reducible refine qU32 ?_ ?_);omega)|((with_reducible refine qU64 ?_ ?_);omega)|((with_reducible refine qU16 ?_ ?_);omega))
          conv => whnf
          exact trimM rfl (yes (by unfold badG; rw [anyB_iff.2 ⟨k, by omega, decide_eq_true h9⟩, Bool.or_true]))
        · repeat((conv=>whnf);first|((with_reducible refine qS ?_ ?_ ?_);exact rfl;exact rfl)|with_reducible refine qB ?_|((with_reducible refine qI ?_ ?_);omega)|((with_reducible refine qDT ?_ ?_);omega)|((with_reducible refine qDF ?_ ?_);omega)|((with_reducible refine qNT ?_ ?_);omega)|((with_reducible refine qNF ?_ ?_);omega)|((with_reducible refine qU8 ?_ ?_);omega)|((with_reducible refine qU32 ?_ ?_);omega)|((with_reducible refine qU64 ?_ ?_);omega)|((with_reducible refine qU16 ?_ ?_);omega))
          conv => whnf
          refine ⟨k + 1, ⟨⟨by omega, all_up hr2 h9⟩, by omega⟩, ?_⟩
          conv=>whnf
          refine Le.id rfl ?_ ?_<;>repeat'(first|exact leT_empty|exact trivial|exact rfl|exact fun _ _=>rfl|exact .inl rfl|exact Nat.le_refl _|refine And.intro ?_ ?_)
      obtain rfl : k = i := by omega
      repeat((conv=>whnf);first|((with_reducible refine qS ?_ ?_ ?_);exact rfl;exact rfl)|with_reducible refine qB ?_|((with_reducible refine qI ?_ ?_);omega)|((with_reducible refine qDT ?_ ?_);omega)|((with_reducible refine qDF ?_ ?_);omega)|((with_reducible refine qNT ?_ ?_);omega)|((with_reducible refine qNF ?_ ?_);omega)|((with_reducible refine qU8 ?_ ?_);omega)|((with_reducible refine qU32 ?_ ?_);omega)|((with_reducible refine qU64 ?_ ?_);omega)|((with_reducible refine qU16 ?_ ?_);omega))
      conv => whnf
      refine ⟨k + 1, ⟨⟨by omega, all_up hq (by unfold badG; rw [decide_eq_false hr, anyB_false.2 fun j hj => decide_eq_false (hr2 j hj)]; rfl)⟩, by omega⟩, ?_⟩
      conv=>whnf
      refine Le.id rfl ?_ ?_<;>repeat'(first|exact leT_empty|exact trivial|exact rfl|exact fun _ _=>rfl|exact .inl rfl|exact Nat.le_refl _|refine And.intro ?_ ?_)
  obtain rfl : i = m.nG := by omega
  have e2 : first m.nG (badG m) = -1 := first_none hq
  repeat((conv=>whnf);first|((with_reducible refine qS ?_ ?_ ?_);exact rfl;exact rfl)|with_reducible refine qB ?_|((with_reducible refine qI ?_ ?_);omega)|((with_reducible refine qDT ?_ ?_);omega)|((with_reducible refine qDF ?_ ?_);omega)|((with_reducible refine qNT ?_ ?_);omega)|((with_reducible refine qNF ?_ ?_);omega)|((with_reducible refine qU8 ?_ ?_);omega)|((with_reducible refine qU32 ?_ ?_);omega)|((with_reducible refine qU64 ?_ ?_);omega)|((with_reducible refine qU16 ?_ ?_);omega))
  conv => whnf
  exact trimM rfl (congrArg pairR (by rw [chkT, e1, e2, pick_neg (by omega), pick_neg (by omega)]) : pairR (0, 0) = _)
theorem twice_ok : ConOk Try.prog F.check_twice twiceC := con_of_run (clRunX_ok (d := 6) ttOk outsCn_ok tabTw_ok 5) (fn_enters (ok.check_twice (D := 6) u0 _ (clRunX_ok (d := 6) ttOk .nil TabOk.nil 1))) fun p hp => twice_run p.1 p.2 hp.1 hp.2
end Go.Proofs.Ytbdifadabipfiaa.Co
