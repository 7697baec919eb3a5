/- Contracts: a matrix that may be. -/
import Derived.Test.YtdeaigaafdnehaaDoorCoA
namespace Go.Proofs.YtdeaigaafdnehaaDoor.Co
open Go Go.Eng Go.Proofs Go.Proofs.YtdeaigaafdnehaaDoor.Tb Go.Pu
set_option maxRecDepth 100000
set_option maxHeartbeats 8000000
theorem win_lx (x : Win) (n : Nat) (g : Nat → Nat) : leX n g (winT x) (winT x) := ⟨.inl rfl, .inl rfl, .inl rfl, .inl rfl, .inl rfl, .inl rfl, trivial⟩
abbrev windowC : Con (Mat × Caps × Win) := RoCon (fun p => [matT p.1 p.2.1 0 1 2, winT p.2.2]) (fun p => matH p.1 []) (fun _ => True) fun p => bv (decide (winP p.1 p.2.2))
theorem window_use {m : Mat} {c : Caps} {w : Win} {rest : Heap} {K : R → Heap → Prop} (hk : K (bv (decide (winP m w))) (matH m rest)) : AskC windowC [matT m c 0 1 2, winT w] (matH m rest) K :=
  .use (m, c, w) [0, 1, 2] trivial rfl (mat_le m rest) ⟨mat_lx m c rest, win_lx w _ _, trivial⟩ hk
theorem window_run (m : Mat) (c : Caps) (w : Win) : clRunX 7 tt outs1 [(F.matrix_window, fn.matrix_window u0)] 2 F.matrix_window [] [matT m c 0 1 2, winT w] (matH m []) (fun x h => Trim 3 x h fun x h => x = bv (decide (winP m w)) ∧ h = matH m []) := by
  iterate 3
    conv => whnf
    refine within_use ?_
    conv => whnf
    refine cN (fun h1 => ?_) (fun h1 => ?_)
    · conv => whnf
      exact trimM rfl (congrArg bv (decide_eq_false (by unfold winP; omega)).symm)
  conv => whnf
  refine cD (fun h1 => ?_) (fun h4 => ?_)
  · conv => whnf
    exact trimM rfl (congrArg bv (decide_eq_false (by unfold winP; omega)).symm)
  conv => whnf
  refine power_use ?_
  conv => whnf
  refine cN (fun h1 => ?_) (fun h5 => ?_)
  · conv => whnf
    exact trimM rfl (congrArg bv (decide_eq_false (by unfold winP; exact fun h => h1 h.2.2.2.2.2.2.2.1)).symm)
  conv => whnf
  refine cD (fun h1 => ?_) (fun h6 => ?_)
  · conv => whnf
    exact trimM rfl (congrArg bv (decide_eq_false (by unfold winP; omega)).symm)
  have h7 : 1 ≤ w.rep ∧ w.rep ≤ 8 := by unfold power at h5; omega
  repeat((conv=>whnf);first|((with_reducible refine qS ?_ ?_ ?_);exact rfl;exact rfl)|with_reducible refine qB ?_|((with_reducible refine qI ?_ ?_);omega)|((with_reducible refine qDT ?_ ?_);omega)|((with_reducible refine qDF ?_ ?_);omega)|((with_reducible refine qNT ?_ ?_);omega)|((with_reducible refine qNF ?_ ?_);omega)|((with_reducible refine qU8 ?_ ?_);omega)|((with_reducible refine qU32 ?_ ?_);omega)|((with_reducible refine qU64 ?_ ?_);omega)|((with_reducible refine qU16 ?_ ?_);omega))
  conv => whnf
  refine within_use ?_
  conv => whnf
  refine cN (fun h1 => ?_) (fun h8 => ?_)
  · conv => whnf
    exact trimM rfl (congrArg bv (decide_eq_false (by unfold winP; omega)).symm)
  conv => whnf
  refine within_use ?_
  conv => whnf
  refine cD (fun h9 => ?_) (fun h1 => ?_)
  rotate_left
  · conv => whnf
    exact trimM rfl (congrArg bv (decide_eq_false (by unfold winP; omega)).symm)
  conv => whnf
  refine cD (fun h10 => ?_) (fun h10 => ?_)
  · conv => whnf
    exact trimM rfl (congrArg bv (decide_eq_true (by unfold winP; exact ⟨by omega, by omega, by omega, by omega, by omega, by omega, by omega, h5, by omega, by omega, by omega, by omega, by omega, by omega⟩)).symm)
  · conv => whnf
    exact trimM rfl (congrArg bv (decide_eq_decide.2 (by unfold winP; exact ⟨fun h => ⟨by omega, by omega, by omega, by omega, by omega, by omega, by omega, h5, by omega, by omega, by omega, by omega, by omega, by omega⟩, fun h => by omega⟩)))
theorem window_ok : ConOk Tryd.prog F.matrix_window windowC :=
  con_of_run (clRunX_ok (d := 7) ttOk outs1_ok (TabOk.cons (ok.matrix_window u0) .nil) 2) (fn_enters (ok.matrix_window (D := 6) u0 _ (clRunX_ok (d := 6) ttOk .nil TabOk.nil 2))) fun p _ => window_run p.1 p.2.1 p.2.2
abbrev outs2 : List (FuncId × Cx) := (F.matrix_head, AskC headC) :: (F.matrix_window, AskC windowC) :: outs1
theorem outs2_ok : OutsOk Tryd.prog outs2 := .cons (ask_ok head_ok) (.cons (ask_ok window_ok) outs1_ok)
end Go.Proofs.YtdeaigaafdnehaaDoor.Co
