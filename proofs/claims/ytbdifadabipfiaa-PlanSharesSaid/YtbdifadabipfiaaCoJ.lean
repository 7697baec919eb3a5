/- Contracts: the check itself. -/
import Derived.Test.YtbdifadabipfiaaCoI
namespace Go.Proofs.Ytbdifadabipfiaa.Co
open Go Go.Eng Go.Proofs Go.Proofs.Ytbdifadabipfiaa.Tb Go.Pu
set_option maxRecDepth 100000
set_option maxHeartbeats 8000000
abbrev checkC : Con (Mat × Caps) := RoCon (fun p => [matT p.1 p.2 0 1 2]) (fun p => matH p.1 []) (fun p => p.1.Ok ∧ capsOk p.1 p.2) fun p => pairR (chk p.1)
theorem check_use {m : Mat} {c : Caps} {rest : Heap} {K : R → Heap → Prop} (hm : m.Ok) (hc : capsOk m c) (hk : K (pairR (chk m)) (matH m rest)) : AskC checkC [matT m c 0 1 2] (matH m rest) K :=
  .use (m, c) [0, 1, 2] ⟨hm, hc⟩ rfl (mat_le m rest) ⟨mat_lx m c rest, trivial⟩ hk
abbrev outs6 : List (FuncId × Cx) := (F.check_who, AskC whoC) :: (F.check_twice, AskC twiceC) :: (F.check_windows, AskC windowsC) :: outs5
theorem outs6_ok : OutsOk Try.prog outs6 := .cons (ask_ok who_ok) (.cons (ask_ok twice_ok) (.cons (ask_ok windows_ok) outs5_ok))
noncomputable abbrev tabCk : List (FuncId × Eng.Fn) := [(F.check_Check, fn.check_Check u9)]
theorem tabCk_ok {d : Nat} : TabOk d tabCk tt := .cons (ok.check_Check u9) (TabOk.nil)
theorem check_run (m : Mat) (c : Caps) (hm : m.Ok) (hc : capsOk m c) : clRunX 6 tt outs6 tabCk 2 F.check_Check [] [matT m c 0 1 2] (matH m []) (fun x h => Trim 3 x h fun x h => x = pairR (chk m) ∧ h = matH m []) := by
  conv => whnf
  refine is_use (m := m) (c := c) hm ?_
  rcases Bool.eq_false_or_eq_true (isM m) with hI | hI <;> rw [hI]
  rotate_left
  · conv => whnf
    exact trimM rfl (congrArg pairR (by rw [chk, if_pos hI]) : pairR (0, 120) = _)
  have e0 : chk m = if m.length < Pu.step m then (0, 140) else if (chkO m).2 ≠ 0 then chkO m else if (chkT m).2 ≠ 0 then chkT m else if (chkW m).2 ≠ 0 then chkW m else (0, 0) := by
    rw [chk, if_neg (by rw [hI]; simp)]
  conv => whnf
  refine step_use (m := m) (c := c) hm ?_
  repeat((conv=>whnf);first|((with_reducible refine qS ?_ ?_ ?_);exact rfl;exact rfl)|with_reducible refine qB ?_|((with_reducible refine qI ?_ ?_);omega)|((with_reducible refine qDT ?_ ?_);omega)|((with_reducible refine qDF ?_ ?_);omega)|((with_reducible refine qNT ?_ ?_);omega)|((with_reducible refine qNF ?_ ?_);omega)|((with_reducible refine qU8 ?_ ?_);omega)|((with_reducible refine qU32 ?_ ?_);omega)|((with_reducible refine qU64 ?_ ?_);omega)|((with_reducible refine qU16 ?_ ?_);omega))
  conv => whnf
  refine cD (fun h1 => ?_) (fun h1 => ?_)
  · conv => whnf
    exact trimM rfl (congrArg pairR (by rw [e0, if_pos h1]) : pairR (0, 140) = _)
  conv => whnf
  refine who_use (m := m) (c := c) hm ?_
  conv => whnf
  refine cN (fun h2 => ?_) (fun h2 => ?_)
  · conv => whnf
    exact trimM rfl (congrArg pairR (by rw [e0, if_neg h1, if_pos h2]) : pairR ((chkO m).1, (chkO m).2) = _)
  conv => whnf
  refine twice_use (m := m) (c := c) hm hc ?_
  conv => whnf
  refine cN (fun h3 => ?_) (fun h3 => ?_)
  · conv => whnf
    exact trimM rfl (congrArg pairR (by rw [e0, if_neg h1, if_neg (by simpa using h2), if_pos h3]) : pairR ((chkT m).1, (chkT m).2) = _)
  conv => whnf
  refine windows_use (m := m) (c := c) hm hI ?_
  conv => whnf
  refine cN (fun h4 => ?_) (fun h4 => ?_)
  · conv => whnf
    exact trimM rfl (congrArg pairR (by rw [e0, if_neg h1, if_neg (by simpa using h2), if_neg (by simpa using h3), if_pos h4]) : pairR ((chkW m).1, (chkW m).2) = _)
  · conv => whnf
    exact trimM rfl (congrArg pairR (by rw [e0, if_neg h1, if_neg (by simpa using h2), if_neg (by simpa using h3), if_neg (by simpa using h4)]) : pairR (0, 0) = _)
theorem check_ok : ConOk Try.prog F.check_Check checkC := con_of_run (clRunX_ok (d := 6) ttOk outs6_ok tabCk_ok 2) (fn_enters (ok.check_Check (D := 6) u0 _ (clRunX_ok (d := 6) ttOk .nil TabOk.nil 1))) fun p hp => check_run p.1 p.2 hp.1 hp.2
end Go.Proofs.Ytbdifadabipfiaa.Co
