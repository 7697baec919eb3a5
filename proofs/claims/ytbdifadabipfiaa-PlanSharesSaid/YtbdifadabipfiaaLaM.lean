/- Layer 20: what the laws know. -/
import Derived.Test.YtbdifadabipfiaaLaK
namespace Go.Proofs.Ytbdifadabipfiaa.La
open Go Go.Eng Go.Proofs Go.Proofs.Ytbdifadabipfiaa.Tb Go.Proofs.Ytbdifadabipfiaa.Co Go.Pu
set_option maxRecDepth 100000
set_option maxHeartbeats 8000000
abbrev outs20 : List (FuncId × Cx) := (F.slices_Contains_int, AskC containsC) :: outsMx
theorem outs20_ok : OutsOk Try.prog outs20 := .cons (ask_ok contains_ok) outsMx_ok
noncomputable abbrev tab20 : List (FuncId × Eng.Fn) := [(F.law20_known, fn.law20_known u0), (F.level_Of, fn.level_Of u0), (F.level_May, fn.level_May u0), (F.level_Beats, fn.level_Beats u0), (F.level_of, fn.level_of u0), (F.level_levels, fn.level_levels u0), (F.status_New, fn.status_New u0), (F.status_Table_All, fn.status_Table_All u0), (F.status_Table_Spread, fn.status_Table_Spread u0)]
theorem tab20_ok {d : Nat} : TabOk d tab20 tt := .cons (ok.law20_known u0) (.cons (ok.level_Of u0) (.cons (ok.level_May u0) (.cons (ok.level_Beats u0) (.cons (ok.level_of u0) (.cons (ok.level_levels u0) (.cons (ok.status_New u0) (.cons (ok.status_Table_All u0) (.cons (ok.status_Table_Spread u0) (TabOk.nil)))))))))
theorem known20_run : clRunX 6 tt outs20 tab20 5 F.law20_known [] [] [] (fun x _ => x = bv true) := by
  repeat((conv=>whnf);first|((with_reducible refine qS ?_ ?_ ?_);exact rfl;exact rfl)|with_reducible refine qB ?_|((with_reducible refine qI ?_ ?_);omega)|((with_reducible refine qDT ?_ ?_);omega)|((with_reducible refine qDF ?_ ?_);omega)|((with_reducible refine qNT ?_ ?_);omega)|((with_reducible refine qNF ?_ ?_);omega)|((with_reducible refine qU8 ?_ ?_);omega)|((with_reducible refine qU32 ?_ ?_);omega)|((with_reducible refine qU64 ?_ ?_);omega)|((with_reducible refine qU16 ?_ ?_);omega))
  conv => whnf
  refine contains_use (N := 2) (f := fun _ => 0) ⟨by decide, by decide⟩ ?_ ?_
  · repeat'(first|exact leT_empty|exact trivial|exact rfl|exact .inl rfl|exact .inr rfl|exact .inr ⟨rfl,rfl⟩|exact Nat.le_refl _|exact Nat.zero_le _|exact fun _ _=>rfl|assumption|refine And.intro ?_ ?_|exact ul0|exact ul1 rfl|exact ul2 rfl rfl|exact ul3 rfl rfl rfl)
  rw [show anyB (Int.toNat ((min (max (2 : Int) 0) 12).toNat : Int)) (fun _ => decide ((7 : Int) = 0)) = false by decide]
  repeat((conv=>whnf);first|((with_reducible refine qS ?_ ?_ ?_);exact rfl;exact rfl)|with_reducible refine qB ?_|((with_reducible refine qI ?_ ?_);omega)|((with_reducible refine qDT ?_ ?_);omega)|((with_reducible refine qDF ?_ ?_);omega)|((with_reducible refine qNT ?_ ?_);omega)|((with_reducible refine qNF ?_ ?_);omega)|((with_reducible refine qU8 ?_ ?_);omega)|((with_reducible refine qU32 ?_ ?_);omega)|((with_reducible refine qU64 ?_ ?_);omega)|((with_reducible refine qU16 ?_ ?_);omega))
  conv => whnf
  refine max_use (N := 2) (f := fun _ => 0) ⟨by decide, by decide, by decide⟩ ?_ ?_
  · repeat'(first|exact leT_empty|exact trivial|exact rfl|exact .inl rfl|exact .inr rfl|exact .inr ⟨rfl,rfl⟩|exact Nat.le_refl _|exact Nat.zero_le _|exact fun _ _=>rfl|assumption|refine And.intro ?_ ?_|exact ul0|exact ul1 rfl|exact ul2 rfl rfl|exact ul3 rfl rfl rfl)
  rw [show maxN (fun _ => 0) ((min (max (2 : Int) 0) 12).toNat - 1) = 0 by decide]
  repeat((conv=>whnf);first|((with_reducible refine qS ?_ ?_ ?_);exact rfl;exact rfl)|with_reducible refine qB ?_|((with_reducible refine qI ?_ ?_);omega)|((with_reducible refine qDT ?_ ?_);omega)|((with_reducible refine qDF ?_ ?_);omega)|((with_reducible refine qNT ?_ ?_);omega)|((with_reducible refine qNF ?_ ?_);omega)|((with_reducible refine qU8 ?_ ?_);omega)|((with_reducible refine qU32 ?_ ?_);omega)|((with_reducible refine qU64 ?_ ?_);omega)|((with_reducible refine qU16 ?_ ?_);omega))
  conv => whnf
  refine min_use (N := 2) (f := fun _ => 0) ⟨by decide, by decide, by decide⟩ ?_ ?_
  · repeat'(first|exact leT_empty|exact trivial|exact rfl|exact .inl rfl|exact .inr rfl|exact .inr ⟨rfl,rfl⟩|exact Nat.le_refl _|exact Nat.zero_le _|exact fun _ _=>rfl|assumption|refine And.intro ?_ ?_|exact ul0|exact ul1 rfl|exact ul2 rfl rfl|exact ul3 rfl rfl rfl)
  rw [show minN (fun _ => 0) ((min (max (2 : Int) 0) 12).toNat - 1) = 0 by decide]
  repeat((conv=>whnf);first|((with_reducible refine qS ?_ ?_ ?_);exact rfl;exact rfl)|with_reducible refine qB ?_|((with_reducible refine qI ?_ ?_);omega)|((with_reducible refine qDT ?_ ?_);omega)|((with_reducible refine qDF ?_ ?_);omega)|((with_reducible refine qNT ?_ ?_);omega)|((with_reducible refine qNF ?_ ?_);omega)|((with_reducible refine qU8 ?_ ?_);omega)|((with_reducible refine qU32 ?_ ?_);omega)|((with_reducible refine qU64 ?_ ?_);omega)|((with_reducible refine qU16 ?_ ?_);omega))
  conv => whnf
  exact rfl
theorem known20_ok : ConOk Try.prog F.law20_known trueC := con_closed (clRunX_ok (d := 6) ttOk outs20_ok tab20_ok 5) (fn_enters (ok.law20_known (D := 6) u0 _ (clRunX_ok (d := 6) ttOk .nil TabOk.nil 1))) known20_run
abbrev outsL20 : List (FuncId × Cx) := (F.law20_known, AskC trueC) :: outs20
theorem outsL20_ok : OutsOk Try.prog outsL20 := .cons (ask_ok known20_ok) outs20_ok
end Go.Proofs.Ytbdifadabipfiaa.La
