/- Layer 19: what the laws know. -/
import Derived.Test.YtbdifadabipfiaaLaA
import Derived.Test.YtbdifadabipfiaaCoM
namespace Go.Proofs.Ytbdifadabipfiaa.La
open Go Go.Eng Go.Proofs Go.Proofs.Ytbdifadabipfiaa.Tb Go.Proofs.Ytbdifadabipfiaa.Co Go.Pu
set_option maxRecDepth 100000
set_option maxHeartbeats 8000000
noncomputable abbrev tab19 : List (FuncId × Eng.Fn) := [(F.law19_known, fn.law19_known u0), (F.status_New, fn.status_New u0), (F.status_Table_Bad, fn.status_Table_Bad u0), (F.status_Table_Good, fn.status_Table_Good u0), (F.status_Table_change, fn.status_Table_change u0), (F.status_Table_All, fn.status_Table_All u0), (F.status_Table_Get, fn.status_Table_Get u0), (F.status_Table_Spread, fn.status_Table_Spread u0)]
theorem tab19_ok {d : Nat} : TabOk d tab19 tt := .cons (ok.law19_known u0) (.cons (ok.status_New u0) (.cons (ok.status_Table_Bad u0) (.cons (ok.status_Table_Good u0) (.cons (ok.status_Table_change u0) (.cons (ok.status_Table_All u0) (.cons (ok.status_Table_Get u0) (.cons (ok.status_Table_Spread u0) (TabOk.nil))))))))
theorem known19_run : clRunX 6 tt outsMx tab19 5 F.law19_known [] [] [] (fun x _ => x = bv true) := by
  repeat((conv=>whnf);first|((with_reducible refine qS ?_ ?_ ?_);exact rfl;exact rfl)|with_reducible refine qB ?_|((with_reducible refine qI ?_ ?_);omega)|((with_reducible refine qDT ?_ ?_);omega)|((with_reducible refine qDF ?_ ?_);omega)|((with_reducible refine qNT ?_ ?_);omega)|((with_reducible refine qNF ?_ ?_);omega)|((with_reducible refine qU8 ?_ ?_);omega)|((with_reducible refine qU32 ?_ ?_);omega)|((with_reducible refine qU64 ?_ ?_);omega)|((with_reducible refine qU16 ?_ ?_);omega))
  conv => whnf
  refine max_use (N := 2) (f := fun i => if i = 0 then 1 else 0) ⟨by decide, by decide, by decide⟩ ?_ ?_
  · repeat'(first|exact leT_empty|exact trivial|exact rfl|exact .inl rfl|exact .inr rfl|exact .inr ⟨rfl,rfl⟩|exact Nat.le_refl _|exact Nat.zero_le _|exact fun _ _=>rfl|assumption|refine And.intro ?_ ?_|exact ul0|exact ul1 rfl|exact ul2 rfl rfl|exact ul3 rfl rfl rfl)
  rw [show maxN (fun i => if i = 0 then 1 else 0) ((min (max (2 : Int) 0) 12).toNat - 1) = 1 by decide]
  repeat((conv=>whnf);first|((with_reducible refine qS ?_ ?_ ?_);exact rfl;exact rfl)|with_reducible refine qB ?_|((with_reducible refine qI ?_ ?_);omega)|((with_reducible refine qDT ?_ ?_);omega)|((with_reducible refine qDF ?_ ?_);omega)|((with_reducible refine qNT ?_ ?_);omega)|((with_reducible refine qNF ?_ ?_);omega)|((with_reducible refine qU8 ?_ ?_);omega)|((with_reducible refine qU32 ?_ ?_);omega)|((with_reducible refine qU64 ?_ ?_);omega)|((with_reducible refine qU16 ?_ ?_);omega))
  conv => whnf
  refine min_use (N := 2) (f := fun i => if i = 0 then 1 else 0) ⟨by decide, by decide, by decide⟩ ?_ ?_
  · repeat'(first|exact leT_empty|exact trivial|exact rfl|exact .inl rfl|exact .inr rfl|exact .inr ⟨rfl,rfl⟩|exact Nat.le_refl _|exact Nat.zero_le _|exact fun _ _=>rfl|assumption|refine And.intro ?_ ?_|exact ul0|exact ul1 rfl|exact ul2 rfl rfl|exact ul3 rfl rfl rfl)
  rw [show minN (fun i => if i = 0 then 1 else 0) ((min (max (2 : Int) 0) 12).toNat - 1) = 0 by decide]
  repeat((conv=>whnf);first|((with_reducible refine qS ?_ ?_ ?_);exact rfl;exact rfl)|with_reducible refine qB ?_|((with_reducible refine qI ?_ ?_);omega)|((with_reducible refine qDT ?_ ?_);omega)|((with_reducible refine qDF ?_ ?_);omega)|((with_reducible refine qNT ?_ ?_);omega)|((with_reducible refine qNF ?_ ?_);omega)|((with_reducible refine qU8 ?_ ?_);omega)|((with_reducible refine qU32 ?_ ?_);omega)|((with_reducible refine qU64 ?_ ?_);omega)|((with_reducible refine qU16 ?_ ?_);omega))
  conv => whnf
  exact congrArg bv (by decide)
theorem known19_ok : ConOk Try.prog F.law19_known trueC := con_closed (clRunX_ok (d := 6) ttOk outsMx_ok tab19_ok 5) (fn_enters (ok.law19_known (D := 6) u0 _ (clRunX_ok (d := 6) ttOk .nil TabOk.nil 1))) known19_run
abbrev outs19 : List (FuncId × Cx) := (F.law19_known, AskC trueC) :: outsMx
theorem outs19_ok : OutsOk Try.prog outs19 := .cons (ask_ok known19_ok) outsMx_ok
end Go.Proofs.Ytbdifadabipfiaa.La
