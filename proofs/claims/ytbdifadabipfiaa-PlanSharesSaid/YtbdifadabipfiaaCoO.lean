/- Contracts: counters, on. -/
import Derived.Test.YtbdifadabipfiaaCoN
namespace Go.Proofs.Ytbdifadabipfiaa.Co
open Go Go.Eng Go.Proofs Go.Proofs.Ytbdifadabipfiaa.Tb Go.Pu
set_option maxRecDepth 100000
set_option maxHeartbeats 8000000
abbrev allC : Con Tb := DetCon (fun p => [.t (.one (.ptr 1 0))]) (fun p => tabH p) (fun p => p.Ok) (fun p => .t (.one (.slc 2 0 1 0 p.n p.n false))) fun p => tabH p ++ [rowN p]
noncomputable abbrev tabSAl : List (FuncId × Eng.Fn) := [(F.status_Table_All, fn.status_Table_All u0)]
theorem tabSAl_ok {d : Nat} : TabOk d tabSAl tt := .cons (ok.status_Table_All u0) (TabOk.nil)
theorem row_copy {f : Nat → Int} {n : Nat} : ∀ q, q < n → (if 0 ≤ q ∧ q < 0 + min n n then (fun i => (fun q => [iC (f q)]) (0 + i)) (q - 0) else [iC 0]) = [iC (f q)] := fun q hq => by
  rw [if_pos ⟨Nat.zero_le _, by omega⟩]
  show [iC (f (0 + (q - 0)))] = _
  rw [Nat.sub_zero, Nat.zero_add]
theorem all_run (t : Tb) (ht : t.Ok) : clRunX 5 tt outs0 tabSAl 2 F.status_Table_All [] [.t (.one (.ptr 1 0))] (tabH t) (fun x h => Trim 2 x h fun x h => x = .t (.one (.slc 2 0 1 0 t.n t.n false)) ∧ h = tabH t ++ [rowN t]) := by
  have hn := ht.1
  conv => whnf
  refine cDT ?_ ?_
  · refine ⟨by omega, by omega, ?_, by omega⟩
    dsimp only
    omega
  try rw [tn]
  repeat((conv=>whnf);first|((with_reducible refine qS ?_ ?_ ?_);exact rfl;exact rfl)|with_reducible refine qB ?_|((with_reducible refine qI ?_ ?_);omega)|((with_reducible refine qDT ?_ ?_);omega)|((with_reducible refine qDF ?_ ?_);omega)|((with_reducible refine qNT ?_ ?_);omega)|((with_reducible refine qNF ?_ ?_);omega)|((with_reducible refine qU8 ?_ ?_);omega)|((with_reducible refine qU32 ?_ ?_);omega)|((with_reducible refine qU64 ?_ ?_);omega)|((with_reducible refine qU16 ?_ ?_);omega))
  conv => whnf
  refine Trim.det ?_
  refine Le.id rfl ?_ ?_
  · exact ⟨⟨rfl, rfl, rfl, fun q hq => rfl⟩, ⟨rfl, trivial⟩, ⟨rfl, rfl, rfl, fun q hq => row_copy q hq⟩, trivial⟩
  · exact rfl
theorem all_ok : ConOk Try.prog F.status_Table_All allC := con_of_run (clRunX_ok (d := 5) ttOk outs0_ok tabSAl_ok 2) (fn_enters (ok.status_Table_All (D := 5) u0 _ (clRunX_ok (d := 5) ttOk .nil TabOk.nil 1))) fun p hp => all_run p hp
abbrev outsOf : List (FuncId × Cx) := [(F.status_Table_Spread, AskC spreadC), (F.slices_Contains_int, AskC containsC), (F.status_Table_All, AskC allC)]
theorem outsOf_ok : OutsOk Try.prog outsOf := .cons (ask_ok spread_ok) (.cons (ask_ok contains_ok) (.cons (ask_ok all_ok) .nil))
noncomputable abbrev tabSOf : List (FuncId × Eng.Fn) := [(F.level_Of, fn.level_Of u0)]
theorem tabSOf_ok {d : Nat} : TabOk d tabSOf tt := .cons (ok.level_Of u0) (TabOk.nil)
theorem of_run (t : Tb) (a b : Bool) (ht : t.Ok) : clRunX 5 tt outsOf tabSOf 2 F.level_Of [] [.t (.one (.ptr 1 0)), bv a, bv b] (tabH t) (fun x h => Trim 2 x h fun x h => x = iv .i64 (levelN t a b) ∧ h = tabH t) := by
  have hn := ht.1
  cases a
  rotate_left
  · repeat((conv=>whnf);first|((with_reducible refine qS ?_ ?_ ?_);exact rfl;exact rfl)|with_reducible refine qB ?_|((with_reducible refine qI ?_ ?_);omega)|((with_reducible refine qDT ?_ ?_);omega)|((with_reducible refine qDF ?_ ?_);omega)|((with_reducible refine qNT ?_ ?_);omega)|((with_reducible refine qNF ?_ ?_);omega)|((with_reducible refine qU8 ?_ ?_);omega)|((with_reducible refine qU32 ?_ ?_);omega)|((with_reducible refine qU64 ?_ ?_);omega)|((with_reducible refine qU16 ?_ ?_);omega))
    conv => whnf
    refine Trim.det ?_
    conv => whnf
    refine Le.id rfl ?_ ?_
    all_goals(repeat'(first|exact leT_empty|exact trivial|exact rfl|exact .inl rfl|exact .inr rfl|exact .inr ⟨rfl,rfl⟩|exact Nat.le_refl _|exact Nat.zero_le _|exact fun _ _=>rfl|assumption|refine And.intro ?_ ?_|exact ul0|exact ul1 rfl|exact ul2 rfl rfl|exact ul3 rfl rfl rfl))
  cases b
  rotate_left
  · repeat((conv=>whnf);first|((with_reducible refine qS ?_ ?_ ?_);exact rfl;exact rfl)|with_reducible refine qB ?_|((with_reducible refine qI ?_ ?_);omega)|((with_reducible refine qDT ?_ ?_);omega)|((with_reducible refine qDF ?_ ?_);omega)|((with_reducible refine qNT ?_ ?_);omega)|((with_reducible refine qNF ?_ ?_);omega)|((with_reducible refine qU8 ?_ ?_);omega)|((with_reducible refine qU32 ?_ ?_);omega)|((with_reducible refine qU64 ?_ ?_);omega)|((with_reducible refine qU16 ?_ ?_);omega))
    conv => whnf
    refine Trim.det ?_
    conv => whnf
    refine Le.id rfl ?_ ?_
    all_goals(repeat'(first|exact leT_empty|exact trivial|exact rfl|exact .inl rfl|exact .inr rfl|exact .inr ⟨rfl,rfl⟩|exact Nat.le_refl _|exact Nat.zero_le _|exact fun _ _=>rfl|assumption|refine And.intro ?_ ?_|exact ul0|exact ul1 rfl|exact ul2 rfl rfl|exact ul3 rfl rfl rfl))
  have e : levelN t false false = if topN t = 7 then 2 else if 2 < spreadN t then 1 else 0 := rfl
  rw [e]
  repeat((conv=>whnf);first|((with_reducible refine qS ?_ ?_ ?_);exact rfl;exact rfl)|with_reducible refine qB ?_|((with_reducible refine qI ?_ ?_);omega)|((with_reducible refine qDT ?_ ?_);omega)|((with_reducible refine qDF ?_ ?_);omega)|((with_reducible refine qNT ?_ ?_);omega)|((with_reducible refine qNF ?_ ?_);omega)|((with_reducible refine qU8 ?_ ?_);omega)|((with_reducible refine qU32 ?_ ?_);omega)|((with_reducible refine qU64 ?_ ?_);omega)|((with_reducible refine qU16 ?_ ?_);omega))
  conv => whnf
  refine .det t [0, 1] (.t (.one (.slc 2 0 1 0 t.n t.n false))) (tabH t ++ [rowN t]) ht rfl ?_ ?_ rfl rfl ?_
  · repeat'(first|exact leT_empty|exact trivial|exact rfl|exact .inl rfl|exact .inr rfl|exact .inr ⟨rfl,rfl⟩|exact Nat.le_refl _|exact Nat.zero_le _|exact fun _ _=>rfl|assumption|refine And.intro ?_ ?_|exact ul0|exact ul1 rfl|exact ul2 rfl rfl|exact ul3 rfl rfl rfl)
  · repeat'(first|exact leT_empty|exact trivial|exact rfl|exact .inl rfl|exact .inr rfl|exact .inr ⟨rfl,rfl⟩|exact Nat.le_refl _|exact Nat.zero_le _|exact fun _ _=>rfl|assumption|refine And.intro ?_ ?_|exact ul0|exact ul1 rfl|exact ul2 rfl rfl|exact ul3 rfl rfl rfl)
  repeat((conv=>whnf);first|((with_reducible refine qS ?_ ?_ ?_);exact rfl;exact rfl)|with_reducible refine qB ?_|((with_reducible refine qI ?_ ?_);omega)|((with_reducible refine qDT ?_ ?_);omega)|((with_reducible refine qDF ?_ ?_);omega)|((with_reducible refine qNT ?_ ?_);omega)|((with_reducible refine qNF ?_ ?_);omega)|((with_reducible refine qU8 ?_ ?_);omega)|((with_reducible refine qU32 ?_ ?_);omega)|((with_reducible refine qU64 ?_ ?_);omega)|((with_reducible refine qU16 ?_ ?_);omega))
  conv => whnf
  refine contains_use (N := t.n) (n := t.n) (f := t.f) ⟨Nat.le_refl _, by omega⟩ ?_ ?_
  · repeat'(first|exact leT_empty|exact trivial|exact rfl|exact .inl rfl|exact .inr rfl|exact .inr ⟨rfl,rfl⟩|exact Nat.le_refl _|exact Nat.zero_le _|exact fun _ _=>rfl|assumption|refine And.intro ?_ ?_|exact ul0|exact ul1 rfl|exact ul2 rfl rfl|exact ul3 rfl rfl rfl)
  rw [any7 ht]
  repeat((conv=>whnf);first|((with_reducible refine qS ?_ ?_ ?_);exact rfl;exact rfl)|with_reducible refine qB ?_|((with_reducible refine qI ?_ ?_);omega)|((with_reducible refine qDT ?_ ?_);omega)|((with_reducible refine qDF ?_ ?_);omega)|((with_reducible refine qNT ?_ ?_);omega)|((with_reducible refine qNF ?_ ?_);omega)|((with_reducible refine qU8 ?_ ?_);omega)|((with_reducible refine qU32 ?_ ?_);omega)|((with_reducible refine qU64 ?_ ?_);omega)|((with_reducible refine qU16 ?_ ?_);omega))
  conv => whnf
  refine cD (fun h1 => ?_) (fun h1 => ?_)
  · repeat((conv=>whnf);first|((with_reducible refine qS ?_ ?_ ?_);exact rfl;exact rfl)|with_reducible refine qB ?_|((with_reducible refine qI ?_ ?_);omega)|((with_reducible refine qDT ?_ ?_);omega)|((with_reducible refine qDF ?_ ?_);omega)|((with_reducible refine qNT ?_ ?_);omega)|((with_reducible refine qNF ?_ ?_);omega)|((with_reducible refine qU8 ?_ ?_);omega)|((with_reducible refine qU32 ?_ ?_);omega)|((with_reducible refine qU64 ?_ ?_);omega)|((with_reducible refine qU16 ?_ ?_);omega))
    conv => whnf
    rw [if_pos h1]
    refine Trim.det ?_
    conv => whnf
    refine Le.id rfl ?_ ?_
    all_goals(repeat'(first|exact leT_empty|exact trivial|exact rfl|exact .inl rfl|exact .inr rfl|exact .inr ⟨rfl,rfl⟩|exact Nat.le_refl _|exact Nat.zero_le _|exact fun _ _=>rfl|assumption|refine And.intro ?_ ?_|exact ul0|exact ul1 rfl|exact ul2 rfl rfl|exact ul3 rfl rfl rfl))
  rw [if_neg h1]
  repeat((conv=>whnf);first|((with_reducible refine qS ?_ ?_ ?_);exact rfl;exact rfl)|with_reducible refine qB ?_|((with_reducible refine qI ?_ ?_);omega)|((with_reducible refine qDT ?_ ?_);omega)|((with_reducible refine qDF ?_ ?_);omega)|((with_reducible refine qNT ?_ ?_);omega)|((with_reducible refine qNF ?_ ?_);omega)|((with_reducible refine qU8 ?_ ?_);omega)|((with_reducible refine qU32 ?_ ?_);omega)|((with_reducible refine qU64 ?_ ?_);omega)|((with_reducible refine qU16 ?_ ?_);omega))
  conv => whnf
  refine .det t [0, 1] (iv .i64 (spreadN t)) (tabH t ++ [rowN t]) ht rfl ?_ ?_ rfl rfl ?_
  · repeat'(first|exact leT_empty|exact trivial|exact rfl|exact .inl rfl|exact .inr rfl|exact .inr ⟨rfl,rfl⟩|exact Nat.le_refl _|exact Nat.zero_le _|exact fun _ _=>rfl|assumption|refine And.intro ?_ ?_|exact ul0|exact ul1 rfl|exact ul2 rfl rfl|exact ul3 rfl rfl rfl)
  · repeat'(first|exact leT_empty|exact trivial|exact rfl|exact .inl rfl|exact .inr rfl|exact .inr ⟨rfl,rfl⟩|exact Nat.le_refl _|exact Nat.zero_le _|exact fun _ _=>rfl|assumption|refine And.intro ?_ ?_|exact ul0|exact ul1 rfl|exact ul2 rfl rfl|exact ul3 rfl rfl rfl)
  repeat((conv=>whnf);first|((with_reducible refine qS ?_ ?_ ?_);exact rfl;exact rfl)|with_reducible refine qB ?_|((with_reducible refine qI ?_ ?_);omega)|((with_reducible refine qDT ?_ ?_);omega)|((with_reducible refine qDF ?_ ?_);omega)|((with_reducible refine qNT ?_ ?_);omega)|((with_reducible refine qNF ?_ ?_);omega)|((with_reducible refine qU8 ?_ ?_);omega)|((with_reducible refine qU32 ?_ ?_);omega)|((with_reducible refine qU64 ?_ ?_);omega)|((with_reducible refine qU16 ?_ ?_);omega))
  conv => whnf
  refine cD (fun h2 => ?_) (fun h2 => ?_)
  · repeat((conv=>whnf);first|((with_reducible refine qS ?_ ?_ ?_);exact rfl;exact rfl)|with_reducible refine qB ?_|((with_reducible refine qI ?_ ?_);omega)|((with_reducible refine qDT ?_ ?_);omega)|((with_reducible refine qDF ?_ ?_);omega)|((with_reducible refine qNT ?_ ?_);omega)|((with_reducible refine qNF ?_ ?_);omega)|((with_reducible refine qU8 ?_ ?_);omega)|((with_reducible refine qU32 ?_ ?_);omega)|((with_reducible refine qU64 ?_ ?_);omega)|((with_reducible refine qU16 ?_ ?_);omega))
    conv => whnf
    rw [if_pos h2]
    refine Trim.det ?_
    conv => whnf
    refine Le.id rfl ?_ ?_
    all_goals(repeat'(first|exact leT_empty|exact trivial|exact rfl|exact .inl rfl|exact .inr rfl|exact .inr ⟨rfl,rfl⟩|exact Nat.le_refl _|exact Nat.zero_le _|exact fun _ _=>rfl|assumption|refine And.intro ?_ ?_|exact ul0|exact ul1 rfl|exact ul2 rfl rfl|exact ul3 rfl rfl rfl))
  · repeat((conv=>whnf);first|((with_reducible refine qS ?_ ?_ ?_);exact rfl;exact rfl)|with_reducible refine qB ?_|((with_reducible refine qI ?_ ?_);omega)|((with_reducible refine qDT ?_ ?_);omega)|((with_reducible refine qDF ?_ ?_);omega)|((with_reducible refine qNT ?_ ?_);omega)|((with_reducible refine qNF ?_ ?_);omega)|((with_reducible refine qU8 ?_ ?_);omega)|((with_reducible refine qU32 ?_ ?_);omega)|((with_reducible refine qU64 ?_ ?_);omega)|((with_reducible refine qU16 ?_ ?_);omega))
    conv => whnf
    rw [if_neg h2]
    refine Trim.det ?_
    conv => whnf
    refine Le.id rfl ?_ ?_
    all_goals(repeat'(first|exact leT_empty|exact trivial|exact rfl|exact .inl rfl|exact .inr rfl|exact .inr ⟨rfl,rfl⟩|exact Nat.le_refl _|exact Nat.zero_le _|exact fun _ _=>rfl|assumption|refine And.intro ?_ ?_|exact ul0|exact ul1 rfl|exact ul2 rfl rfl|exact ul3 rfl rfl rfl))
theorem of_ok : ConOk Try.prog F.level_Of levelC := con_of_run (clRunX_ok (d := 5) ttOk outsOf_ok tabSOf_ok 2) (fn_enters (ok.level_Of (D := 5) u0 _ (clRunX_ok (d := 5) ttOk .nil TabOk.nil 1))) fun p hp => of_run p.1 p.2.1 p.2.2 hp
/-! ### Copy, New, Clear -/
abbrev copyC : Con Tb := DetCon (fun p => [.t (.one (.ptr 1 0))]) (fun p => tabH p) (fun p => p.Ok) (fun p => .t (.one (.ptr 3 0))) fun p => tabH p ++ [rowN p, ownN 2 p.n]
abbrev outsAl : List (FuncId × Cx) := [(F.status_Table_All, AskC allC)]
theorem outsAl_ok : OutsOk Try.prog outsAl := .cons (ask_ok all_ok) .nil
noncomputable abbrev tabSCy : List (FuncId × Eng.Fn) := [(F.status_Table_Copy, fn.status_Table_Copy u0)]
theorem tabSCy_ok {d : Nat} : TabOk d tabSCy tt := .cons (ok.status_Table_Copy u0) (TabOk.nil)
theorem copy_run (t : Tb) (ht : t.Ok) : clRunX 4 tt outsAl tabSCy 2 F.status_Table_Copy [] [.t (.one (.ptr 1 0))] (tabH t) (fun x h => Trim 2 x h fun x h => x = .t (.one (.ptr 3 0)) ∧ h = tabH t ++ [rowN t, ownN 2 t.n]) := by
  have hn := ht.1
  repeat((conv=>whnf);first|((with_reducible refine qS ?_ ?_ ?_);exact rfl;exact rfl)|with_reducible refine qB ?_|((with_reducible refine qI ?_ ?_);omega)|((with_reducible refine qDT ?_ ?_);omega)|((with_reducible refine qDF ?_ ?_);omega)|((with_reducible refine qNT ?_ ?_);omega)|((with_reducible refine qNF ?_ ?_);omega)|((with_reducible refine qU8 ?_ ?_);omega)|((with_reducible refine qU32 ?_ ?_);omega)|((with_reducible refine qU64 ?_ ?_);omega)|((with_reducible refine qU16 ?_ ?_);omega))
  conv => whnf
  refine .det t [0, 1] (.t (.one (.slc 2 0 1 0 t.n t.n false))) (tabH t ++ [rowN t]) ht rfl ?_ ?_ rfl rfl ?_
  · repeat'(first|exact leT_empty|exact trivial|exact rfl|exact .inl rfl|exact .inr rfl|exact .inr ⟨rfl,rfl⟩|exact Nat.le_refl _|exact Nat.zero_le _|exact fun _ _=>rfl|assumption|refine And.intro ?_ ?_|exact ul0|exact ul1 rfl|exact ul2 rfl rfl|exact ul3 rfl rfl rfl)
  · repeat'(first|exact leT_empty|exact trivial|exact rfl|exact .inl rfl|exact .inr rfl|exact .inr ⟨rfl,rfl⟩|exact Nat.le_refl _|exact Nat.zero_le _|exact fun _ _=>rfl|assumption|refine And.intro ?_ ?_|exact ul0|exact ul1 rfl|exact ul2 rfl rfl|exact ul3 rfl rfl rfl)
  repeat((conv=>whnf);first|((with_reducible refine qS ?_ ?_ ?_);exact rfl;exact rfl)|with_reducible refine qB ?_|((with_reducible refine qI ?_ ?_);omega)|((with_reducible refine qDT ?_ ?_);omega)|((with_reducible refine qDF ?_ ?_);omega)|((with_reducible refine qNT ?_ ?_);omega)|((with_reducible refine qNF ?_ ?_);omega)|((with_reducible refine qU8 ?_ ?_);omega)|((with_reducible refine qU32 ?_ ?_);omega)|((with_reducible refine qU64 ?_ ?_);omega)|((with_reducible refine qU16 ?_ ?_);omega))
  conv => whnf
  refine Trim.det ?_
  conv => whnf
  refine Le.id rfl ?_ ?_
  all_goals(repeat'(first|exact leT_empty|exact trivial|exact rfl|exact .inl rfl|exact .inr rfl|exact .inr ⟨rfl,rfl⟩|exact Nat.le_refl _|exact Nat.zero_le _|exact fun _ _=>rfl|assumption|refine And.intro ?_ ?_|exact ul0|exact ul1 rfl|exact ul2 rfl rfl|exact ul3 rfl rfl rfl))
theorem copy_ok : ConOk Try.prog F.status_Table_Copy copyC := con_of_run (clRunX_ok (d := 4) ttOk outsAl_ok tabSCy_ok 2) (fn_enters (ok.status_Table_Copy (D := 4) u0 _ (clRunX_ok (d := 4) ttOk .nil TabOk.nil 1))) fun p hp => copy_run p hp
def newT (n : Int) : Tb := ⟨(min (max n 0) 12).toNat, fun _ => 0⟩
theorem newT_ok (n : Int) : (newT n).Ok := ⟨by show (min (max n 0) 12).toNat ≤ 12; omega, fun q _ => ⟨Int.le_refl 0, (by decide : (0 : Int) ≤ 7)⟩⟩
abbrev newC : Con Int := DetCon (fun p => [iv .i64 p]) (fun _ => []) (fun _ => True) (fun p => .t (.one (.ptr 1 0))) fun p => tabH (newT p)
noncomputable abbrev tabSNw : List (FuncId × Eng.Fn) := [(F.status_New, fn.status_New u0)]
theorem tabSNw_ok {d : Nat} : TabOk d tabSNw tt := .cons (ok.status_New u0) (TabOk.nil)
theorem new_run (n : Int) : clRunX 4 tt outs0 tabSNw 2 F.status_New [] [iv .i64 n] [] (fun x h => Trim 0 x h fun x h => x = .t (.one (.ptr 1 0)) ∧ h = tabH (newT n)) := by
  repeat((conv=>whnf);first|((with_reducible refine qS ?_ ?_ ?_);exact rfl;exact rfl)|with_reducible refine qB ?_|((with_reducible refine qI ?_ ?_);omega)|((with_reducible refine qDT ?_ ?_);omega)|((with_reducible refine qDF ?_ ?_);omega)|((with_reducible refine qNT ?_ ?_);omega)|((with_reducible refine qNF ?_ ?_);omega)|((with_reducible refine qU8 ?_ ?_);omega)|((with_reducible refine qU32 ?_ ?_);omega)|((with_reducible refine qU64 ?_ ?_);omega)|((with_reducible refine qU16 ?_ ?_);omega))
  conv => whnf
  refine cDT ?_ ?_
  · refine ⟨by omega, by omega, ?_, by omega⟩
    dsimp only
    omega
  repeat((conv=>whnf);first|((with_reducible refine qS ?_ ?_ ?_);exact rfl;exact rfl)|with_reducible refine qB ?_|((with_reducible refine qI ?_ ?_);omega)|((with_reducible refine qDT ?_ ?_);omega)|((with_reducible refine qDF ?_ ?_);omega)|((with_reducible refine qNT ?_ ?_);omega)|((with_reducible refine qNF ?_ ?_);omega)|((with_reducible refine qU8 ?_ ?_);omega)|((with_reducible refine qU32 ?_ ?_);omega)|((with_reducible refine qU64 ?_ ?_);omega)|((with_reducible refine qU16 ?_ ?_);omega))
  conv => whnf
  refine Trim.det ?_
  conv => whnf
  refine Le.id rfl ?_ ?_
  all_goals(repeat'(first|exact leT_empty|exact trivial|exact rfl|exact .inl rfl|exact .inr rfl|exact .inr ⟨rfl,rfl⟩|exact Nat.le_refl _|exact Nat.zero_le _|exact fun _ _=>rfl|assumption|refine And.intro ?_ ?_|exact ul0|exact ul1 rfl|exact ul2 rfl rfl|exact ul3 rfl rfl rfl))
theorem new_ok : ConOk Try.prog F.status_New newC := con_of_run (clRunX_ok (d := 4) ttOk outs0_ok tabSNw_ok 2) (fn_enters (ok.status_New (D := 4) u0 _ (clRunX_ok (d := 4) ttOk .nil TabOk.nil 1))) fun p hp => new_run p
noncomputable abbrev tabSNr : List (FuncId × Eng.Fn) := [(F.ref18_NewTable, fn.ref18_NewTable u0)]
theorem tabSNr_ok {d : Nat} : TabOk d tabSNr tt := .cons (ok.ref18_NewTable u0) (TabOk.nil)
theorem newR_run (n : Int) : clRunX 4 tt outs0 tabSNr 2 F.ref18_NewTable [] [iv .i64 n] [] (fun x h => Trim 0 x h fun x h => x = .t (.one (.ptr 1 0)) ∧ h = tabH (newT n)) := by
  repeat((conv=>whnf);first|((with_reducible refine qS ?_ ?_ ?_);exact rfl;exact rfl)|with_reducible refine qB ?_|((with_reducible refine qI ?_ ?_);omega)|((with_reducible refine qDT ?_ ?_);omega)|((with_reducible refine qDF ?_ ?_);omega)|((with_reducible refine qNT ?_ ?_);omega)|((with_reducible refine qNF ?_ ?_);omega)|((with_reducible refine qU8 ?_ ?_);omega)|((with_reducible refine qU32 ?_ ?_);omega)|((with_reducible refine qU64 ?_ ?_);omega)|((with_reducible refine qU16 ?_ ?_);omega))
  conv => whnf
  rw [show max (0 : Int) (min n 12) = min (max n 0) 12 by omega]
  repeat((conv=>whnf);first|((with_reducible refine qS ?_ ?_ ?_);exact rfl;exact rfl)|with_reducible refine qB ?_|((with_reducible refine qI ?_ ?_);omega)|((with_reducible refine qDT ?_ ?_);omega)|((with_reducible refine qDF ?_ ?_);omega)|((with_reducible refine qNT ?_ ?_);omega)|((with_reducible refine qNF ?_ ?_);omega)|((with_reducible refine qU8 ?_ ?_);omega)|((with_reducible refine qU32 ?_ ?_);omega)|((with_reducible refine qU64 ?_ ?_);omega)|((with_reducible refine qU16 ?_ ?_);omega))
  conv => whnf
  refine cDT ?_ ?_
  · refine ⟨by omega, by omega, ?_, by omega⟩
    dsimp only
    omega
  repeat((conv=>whnf);first|((with_reducible refine qS ?_ ?_ ?_);exact rfl;exact rfl)|with_reducible refine qB ?_|((with_reducible refine qI ?_ ?_);omega)|((with_reducible refine qDT ?_ ?_);omega)|((with_reducible refine qDF ?_ ?_);omega)|((with_reducible refine qNT ?_ ?_);omega)|((with_reducible refine qNF ?_ ?_);omega)|((with_reducible refine qU8 ?_ ?_);omega)|((with_reducible refine qU32 ?_ ?_);omega)|((with_reducible refine qU64 ?_ ?_);omega)|((with_reducible refine qU16 ?_ ?_);omega))
  conv => whnf
  refine Trim.det ?_
  conv => whnf
  refine Le.id rfl ?_ ?_
  all_goals(repeat'(first|exact leT_empty|exact trivial|exact rfl|exact .inl rfl|exact .inr rfl|exact .inr ⟨rfl,rfl⟩|exact Nat.le_refl _|exact Nat.zero_le _|exact fun _ _=>rfl|assumption|refine And.intro ?_ ?_|exact ul0|exact ul1 rfl|exact ul2 rfl rfl|exact ul3 rfl rfl rfl))
theorem newR_ok : ConOk Try.prog F.ref18_NewTable newC := con_of_run (clRunX_ok (d := 4) ttOk outs0_ok tabSNr_ok 2) (fn_enters (ok.ref18_NewTable (D := 4) u0 _ (clRunX_ok (d := 4) ttOk .nil TabOk.nil 1))) fun p hp => newR_run p
def zeroT (t : Tb) : Tb := ⟨t.n, fun _ => 0⟩
theorem zeroT_ok {t : Tb} (h : t.Ok) : (zeroT t).Ok := ⟨h.1, fun q _ => ⟨Int.le_refl 0, (by decide : (0 : Int) ≤ 7)⟩⟩
abbrev clearC : Con Tb := DetCon (fun p => [.t (.one (.ptr 1 0))]) (fun p => tabH p) (fun p => p.Ok) (fun p => unitR) fun p => tabH (zeroT p)
noncomputable abbrev tabSCl : List (FuncId × Eng.Fn) := [(F.status_Table_Clear, fn.status_Table_Clear u0)]
theorem tabSCl_ok {d : Nat} : TabOk d tabSCl tt := .cons (ok.status_Table_Clear u0) (TabOk.nil)
theorem clear_run (t : Tb) (ht : t.Ok) : clRunX 4 tt outs0 tabSCl 2 F.status_Table_Clear [] [.t (.one (.ptr 1 0))] (tabH t) (fun x h => Trim 2 x h fun x h => x = unitR ∧ h = tabH (zeroT t)) := by
  have hn := ht.1
  repeat((conv=>whnf);first|((with_reducible refine qS ?_ ?_ ?_);exact rfl;exact rfl)|with_reducible refine qB ?_|((with_reducible refine qI ?_ ?_);omega)|((with_reducible refine qDT ?_ ?_);omega)|((with_reducible refine qDF ?_ ?_);omega)|((with_reducible refine qNT ?_ ?_);omega)|((with_reducible refine qNF ?_ ?_);omega)|((with_reducible refine qU8 ?_ ?_);omega)|((with_reducible refine qU32 ?_ ?_);omega)|((with_reducible refine qU64 ?_ ?_);omega)|((with_reducible refine qU16 ?_ ?_);omega))
  conv => whnf
  refine Trim.det ?_
  refine Le.id rfl ?_ ?_
  · refine ⟨⟨rfl, rfl, rfl, fun q hq => ?_⟩, ⟨rfl, trivial⟩, trivial⟩
    show (if 0 ≤ q ∧ q < 0 + t.n then _ else _) = _
    rw [if_pos ⟨Nat.zero_le _, by have hq : q < t.n := hq; omega⟩]
    rfl
  · exact rfl
theorem clear_ok : ConOk Try.prog F.status_Table_Clear clearC := con_of_run (clRunX_ok (d := 4) ttOk outs0_ok tabSCl_ok 2) (fn_enters (ok.status_Table_Clear (D := 4) u0 _ (clRunX_ok (d := 4) ttOk .nil TabOk.nil 1))) fun p hp => clear_run p hp
/-! ### Good, Bad -/
abbrev outsCh : List (FuncId × Cx) := [(F.status_Table_change, AskC changeC)]
theorem outsCh_ok : OutsOk Try.prog outsCh := .cons (ask_ok change_ok) .nil
abbrev badC : Con (Tb × Int) := DetCon (fun p => [.t (.one (.ptr 1 0)), iv .i64 p.2]) (fun p => tabH p.1) (fun p => p.1.Ok) (fun _ => unitR) fun p => tabH (chg p.1 p.2 1)
abbrev goodC : Con (Tb × Int) := DetCon (fun p => [.t (.one (.ptr 1 0)), iv .i64 p.2]) (fun p => tabH p.1) (fun p => p.1.Ok) (fun _ => unitR) fun p => tabH (chg p.1 p.2 (-1))
noncomputable abbrev tabSBd : List (FuncId × Eng.Fn) := [(F.status_Table_Bad, fn.status_Table_Bad u0)]
theorem tabSBd_ok {d : Nat} : TabOk d tabSBd tt := .cons (ok.status_Table_Bad u0) (TabOk.nil)
noncomputable abbrev tabSGd : List (FuncId × Eng.Fn) := [(F.status_Table_Good, fn.status_Table_Good u0)]
theorem tabSGd_ok {d : Nat} : TabOk d tabSGd tt := .cons (ok.status_Table_Good u0) (TabOk.nil)
theorem bad_run (t : Tb) (msg : Int) (ht : t.Ok) : clRunX 4 tt outsCh tabSBd 2 F.status_Table_Bad [] [.t (.one (.ptr 1 0)), iv .i64 msg] (tabH t) (fun x h => Trim 2 x h fun x h => x = unitR ∧ h = tabH (chg t msg 1)) := by
  repeat((conv=>whnf);first|((with_reducible refine qS ?_ ?_ ?_);exact rfl;exact rfl)|with_reducible refine qB ?_|((with_reducible refine qI ?_ ?_);omega)|((with_reducible refine qDT ?_ ?_);omega)|((with_reducible refine qDF ?_ ?_);omega)|((with_reducible refine qNT ?_ ?_);omega)|((with_reducible refine qNF ?_ ?_);omega)|((with_reducible refine qU8 ?_ ?_);omega)|((with_reducible refine qU32 ?_ ?_);omega)|((with_reducible refine qU64 ?_ ?_);omega)|((with_reducible refine qU16 ?_ ?_);omega))
  conv => whnf
  refine .det (t, msg, 1) [0, 1] unitR (tabH (chg t msg 1)) ⟨ht, by dsimp only; omega, by dsimp only; omega⟩ rfl ?_ ?_ rfl rfl ?_
  · repeat'(first|exact leT_empty|exact trivial|exact rfl|exact .inl rfl|exact .inr rfl|exact .inr ⟨rfl,rfl⟩|exact Nat.le_refl _|exact Nat.zero_le _|exact fun _ _=>rfl|assumption|refine And.intro ?_ ?_|exact ul0|exact ul1 rfl|exact ul2 rfl rfl|exact ul3 rfl rfl rfl)
  · repeat'(first|exact leT_empty|exact trivial|exact rfl|exact .inl rfl|exact .inr rfl|exact .inr ⟨rfl,rfl⟩|exact Nat.le_refl _|exact Nat.zero_le _|exact fun _ _=>rfl|assumption|refine And.intro ?_ ?_|exact ul0|exact ul1 rfl|exact ul2 rfl rfl|exact ul3 rfl rfl rfl)
  repeat((conv=>whnf);first|((with_reducible refine qS ?_ ?_ ?_);exact rfl;exact rfl)|with_reducible refine qB ?_|((with_reducible refine qI ?_ ?_);omega)|((with_reducible refine qDT ?_ ?_);omega)|((with_reducible refine qDF ?_ ?_);omega)|((with_reducible refine qNT ?_ ?_);omega)|((with_reducible refine qNF ?_ ?_);omega)|((with_reducible refine qU8 ?_ ?_);omega)|((with_reducible refine qU32 ?_ ?_);omega)|((with_reducible refine qU64 ?_ ?_);omega)|((with_reducible refine qU16 ?_ ?_);omega))
  conv => whnf
  refine Trim.det ?_
  conv => whnf
  refine Le.id rfl ?_ ?_
  all_goals(repeat'(first|exact leT_empty|exact trivial|exact rfl|exact .inl rfl|exact .inr rfl|exact .inr ⟨rfl,rfl⟩|exact Nat.le_refl _|exact Nat.zero_le _|exact fun _ _=>rfl|assumption|refine And.intro ?_ ?_|exact ul0|exact ul1 rfl|exact ul2 rfl rfl|exact ul3 rfl rfl rfl))
theorem good_run (t : Tb) (msg : Int) (ht : t.Ok) : clRunX 4 tt outsCh tabSGd 2 F.status_Table_Good [] [.t (.one (.ptr 1 0)), iv .i64 msg] (tabH t) (fun x h => Trim 2 x h fun x h => x = unitR ∧ h = tabH (chg t msg (-1))) := by
  repeat((conv=>whnf);first|((with_reducible refine qS ?_ ?_ ?_);exact rfl;exact rfl)|with_reducible refine qB ?_|((with_reducible refine qI ?_ ?_);omega)|((with_reducible refine qDT ?_ ?_);omega)|((with_reducible refine qDF ?_ ?_);omega)|((with_reducible refine qNT ?_ ?_);omega)|((with_reducible refine qNF ?_ ?_);omega)|((with_reducible refine qU8 ?_ ?_);omega)|((with_reducible refine qU32 ?_ ?_);omega)|((with_reducible refine qU64 ?_ ?_);omega)|((with_reducible refine qU16 ?_ ?_);omega))
  conv => whnf
  refine .det (t, msg, -1) [0, 1] unitR (tabH (chg t msg (-1))) ⟨ht, by dsimp only; omega, by dsimp only; omega⟩ rfl ?_ ?_ rfl rfl ?_
  · repeat'(first|exact leT_empty|exact trivial|exact rfl|exact .inl rfl|exact .inr rfl|exact .inr ⟨rfl,rfl⟩|exact Nat.le_refl _|exact Nat.zero_le _|exact fun _ _=>rfl|assumption|refine And.intro ?_ ?_|exact ul0|exact ul1 rfl|exact ul2 rfl rfl|exact ul3 rfl rfl rfl)
  · repeat'(first|exact leT_empty|exact trivial|exact rfl|exact .inl rfl|exact .inr rfl|exact .inr ⟨rfl,rfl⟩|exact Nat.le_refl _|exact Nat.zero_le _|exact fun _ _=>rfl|assumption|refine And.intro ?_ ?_|exact ul0|exact ul1 rfl|exact ul2 rfl rfl|exact ul3 rfl rfl rfl)
  repeat((conv=>whnf);first|((with_reducible refine qS ?_ ?_ ?_);exact rfl;exact rfl)|with_reducible refine qB ?_|((with_reducible refine qI ?_ ?_);omega)|((with_reducible refine qDT ?_ ?_);omega)|((with_reducible refine qDF ?_ ?_);omega)|((with_reducible refine qNT ?_ ?_);omega)|((with_reducible refine qNF ?_ ?_);omega)|((with_reducible refine qU8 ?_ ?_);omega)|((with_reducible refine qU32 ?_ ?_);omega)|((with_reducible refine qU64 ?_ ?_);omega)|((with_reducible refine qU16 ?_ ?_);omega))
  conv => whnf
  refine Trim.det ?_
  conv => whnf
  refine Le.id rfl ?_ ?_
  all_goals(repeat'(first|exact leT_empty|exact trivial|exact rfl|exact .inl rfl|exact .inr rfl|exact .inr ⟨rfl,rfl⟩|exact Nat.le_refl _|exact Nat.zero_le _|exact fun _ _=>rfl|assumption|refine And.intro ?_ ?_|exact ul0|exact ul1 rfl|exact ul2 rfl rfl|exact ul3 rfl rfl rfl))
theorem bad_ok : ConOk Try.prog F.status_Table_Bad badC := con_of_run (clRunX_ok (d := 4) ttOk outsCh_ok tabSBd_ok 2) (fn_enters (ok.status_Table_Bad (D := 4) u0 _ (clRunX_ok (d := 4) ttOk .nil TabOk.nil 1))) fun p hp => bad_run p.1 p.2 hp
theorem good_ok : ConOk Try.prog F.status_Table_Good goodC := con_of_run (clRunX_ok (d := 4) ttOk outsCh_ok tabSGd_ok 2) (fn_enters (ok.status_Table_Good (D := 4) u0 _ (clRunX_ok (d := 4) ttOk .nil TabOk.nil 1))) fun p hp => good_run p.1 p.2 hp
/-! ### May, Beats -/
abbrev numB (f : Int → Bool) : Con Int := RoCon (fun p => [iv .i64 p]) (fun _ => []) (fun _ => True) fun p => bv (f p)
theorem numB_use {f : Int → Bool} {n : Int} {h : Heap} {K : R → Heap → Prop} (hk : K (bv (f n)) h) : AskC (numB f) [iv .i64 n] h K :=
  .use n [] trivial rfl trivial ⟨.inl rfl, trivial⟩ hk
noncomputable abbrev tabSMy : List (FuncId × Eng.Fn) := [(F.level_May, fn.level_May u0), (F.level_of, fn.level_of u0), (F.level_levels, fn.level_levels u0)]
theorem tabSMy_ok {d : Nat} : TabOk d tabSMy tt := .cons (ok.level_May u0) (.cons (ok.level_of u0) (.cons (ok.level_levels u0) (TabOk.nil)))
noncomputable abbrev tabSBt : List (FuncId × Eng.Fn) := [(F.level_Beats, fn.level_Beats u0), (F.level_of, fn.level_of u0), (F.level_levels, fn.level_levels u0)]
theorem tabSBt_ok {d : Nat} : TabOk d tabSBt tt := .cons (ok.level_Beats u0) (.cons (ok.level_of u0) (.cons (ok.level_levels u0) (TabOk.nil)))
theorem may_run (n : Int) : clRunX 5 tt outs0 tabSMy 4 F.level_May [] [iv .i64 n] [] (fun x h => Trim 0 x h fun x h => x = bv (decide (0 ≤ n ∧ n < 2)) ∧ h = []) := by
  rcases (show n < 0 ∨ n = 0 ∨ n = 1 ∨ n = 2 ∨ n = 3 ∨ 3 < n by omega) with h | rfl | rfl | rfl | rfl | h
  · repeat((conv=>whnf);first|((with_reducible refine qS ?_ ?_ ?_);exact rfl;exact rfl)|with_reducible refine qB ?_|((with_reducible refine qI ?_ ?_);omega)|((with_reducible refine qDT ?_ ?_);omega)|((with_reducible refine qDF ?_ ?_);omega)|((with_reducible refine qNT ?_ ?_);omega)|((with_reducible refine qNF ?_ ?_);omega)|((with_reducible refine qU8 ?_ ?_);omega)|((with_reducible refine qU32 ?_ ?_);omega)|((with_reducible refine qU64 ?_ ?_);omega)|((with_reducible refine qU16 ?_ ?_);omega))
    conv => whnf
    exact trim0 rfl (congrArg bv (decide_eq_false (by omega)).symm)
  · repeat((conv=>whnf);first|((with_reducible refine qS ?_ ?_ ?_);exact rfl;exact rfl)|with_reducible refine qB ?_|((with_reducible refine qI ?_ ?_);omega)|((with_reducible refine qDT ?_ ?_);omega)|((with_reducible refine qDF ?_ ?_);omega)|((with_reducible refine qNT ?_ ?_);omega)|((with_reducible refine qNF ?_ ?_);omega)|((with_reducible refine qU8 ?_ ?_);omega)|((with_reducible refine qU32 ?_ ?_);omega)|((with_reducible refine qU64 ?_ ?_);omega)|((with_reducible refine qU16 ?_ ?_);omega))
    conv => whnf
    exact trim0 rfl rfl
  · repeat((conv=>whnf);first|((with_reducible refine qS ?_ ?_ ?_);exact rfl;exact rfl)|with_reducible refine qB ?_|((with_reducible refine qI ?_ ?_);omega)|((with_reducible refine qDT ?_ ?_);omega)|((with_reducible refine qDF ?_ ?_);omega)|((with_reducible refine qNT ?_ ?_);omega)|((with_reducible refine qNF ?_ ?_);omega)|((with_reducible refine qU8 ?_ ?_);omega)|((with_reducible refine qU32 ?_ ?_);omega)|((with_reducible refine qU64 ?_ ?_);omega)|((with_reducible refine qU16 ?_ ?_);omega))
    conv => whnf
    exact trim0 rfl rfl
  · repeat((conv=>whnf);first|((with_reducible refine qS ?_ ?_ ?_);exact rfl;exact rfl)|with_reducible refine qB ?_|((with_reducible refine qI ?_ ?_);omega)|((with_reducible refine qDT ?_ ?_);omega)|((with_reducible refine qDF ?_ ?_);omega)|((with_reducible refine qNT ?_ ?_);omega)|((with_reducible refine qNF ?_ ?_);omega)|((with_reducible refine qU8 ?_ ?_);omega)|((with_reducible refine qU32 ?_ ?_);omega)|((with_reducible refine qU64 ?_ ?_);omega)|((with_reducible refine qU16 ?_ ?_);omega))
    conv => whnf
    exact trim0 rfl rfl
  · repeat((conv=>whnf);first|((with_reducible refine qS ?_ ?_ ?_);exact rfl;exact rfl)|with_reducible refine qB ?_|((with_reducible refine qI ?_ ?_);omega)|((with_reducible refine qDT ?_ ?_);omega)|((with_reducible refine qDF ?_ ?_);omega)|((with_reducible refine qNT ?_ ?_);omega)|((with_reducible refine qNF ?_ ?_);omega)|((with_reducible refine qU8 ?_ ?_);omega)|((with_reducible refine qU32 ?_ ?_);omega)|((with_reducible refine qU64 ?_ ?_);omega)|((with_reducible refine qU16 ?_ ?_);omega))
    conv => whnf
    exact trim0 rfl rfl
  · repeat((conv=>whnf);first|((with_reducible refine qS ?_ ?_ ?_);exact rfl;exact rfl)|with_reducible refine qB ?_|((with_reducible refine qI ?_ ?_);omega)|((with_reducible refine qDT ?_ ?_);omega)|((with_reducible refine qDF ?_ ?_);omega)|((with_reducible refine qNT ?_ ?_);omega)|((with_reducible refine qNF ?_ ?_);omega)|((with_reducible refine qU8 ?_ ?_);omega)|((with_reducible refine qU32 ?_ ?_);omega)|((with_reducible refine qU64 ?_ ?_);omega)|((with_reducible refine qU16 ?_ ?_);omega))
    conv => whnf
    exact trim0 rfl (congrArg bv (decide_eq_false (by omega)).symm)
theorem beats_run (n : Int) : clRunX 5 tt outs0 tabSBt 4 F.level_Beats [] [iv .i64 n] [] (fun x h => Trim 0 x h fun x h => x = bv (decide (0 ≤ n ∧ n < 3)) ∧ h = []) := by
  rcases (show n < 0 ∨ n = 0 ∨ n = 1 ∨ n = 2 ∨ n = 3 ∨ 3 < n by omega) with h | rfl | rfl | rfl | rfl | h
  · repeat((conv=>whnf);first|((with_reducible refine qS ?_ ?_ ?_);exact rfl;exact rfl)|with_reducible refine qB ?_|((with_reducible refine qI ?_ ?_);omega)|((with_reducible refine qDT ?_ ?_);omega)|((with_reducible refine qDF ?_ ?_);omega)|((with_reducible refine qNT ?_ ?_);omega)|((with_reducible refine qNF ?_ ?_);omega)|((with_reducible refine qU8 ?_ ?_);omega)|((with_reducible refine qU32 ?_ ?_);omega)|((with_reducible refine qU64 ?_ ?_);omega)|((with_reducible refine qU16 ?_ ?_);omega))
    conv => whnf
    exact trim0 rfl (congrArg bv (decide_eq_false (by omega)).symm)
  · repeat((conv=>whnf);first|((with_reducible refine qS ?_ ?_ ?_);exact rfl;exact rfl)|with_reducible refine qB ?_|((with_reducible refine qI ?_ ?_);omega)|((with_reducible refine qDT ?_ ?_);omega)|((with_reducible refine qDF ?_ ?_);omega)|((with_reducible refine qNT ?_ ?_);omega)|((with_reducible refine qNF ?_ ?_);omega)|((with_reducible refine qU8 ?_ ?_);omega)|((with_reducible refine qU32 ?_ ?_);omega)|((with_reducible refine qU64 ?_ ?_);omega)|((with_reducible refine qU16 ?_ ?_);omega))
    conv => whnf
    exact trim0 rfl rfl
  · repeat((conv=>whnf);first|((with_reducible refine qS ?_ ?_ ?_);exact rfl;exact rfl)|with_reducible refine qB ?_|((with_reducible refine qI ?_ ?_);omega)|((with_reducible refine qDT ?_ ?_);omega)|((with_reducible refine qDF ?_ ?_);omega)|((with_reducible refine qNT ?_ ?_);omega)|((with_reducible refine qNF ?_ ?_);omega)|((with_reducible refine qU8 ?_ ?_);omega)|((with_reducible refine qU32 ?_ ?_);omega)|((with_reducible refine qU64 ?_ ?_);omega)|((with_reducible refine qU16 ?_ ?_);omega))
    conv => whnf
    exact trim0 rfl rfl
  · repeat((conv=>whnf);first|((with_reducible refine qS ?_ ?_ ?_);exact rfl;exact rfl)|with_reducible refine qB ?_|((with_reducible refine qI ?_ ?_);omega)|((with_reducible refine qDT ?_ ?_);omega)|((with_reducible refine qDF ?_ ?_);omega)|((with_reducible refine qNT ?_ ?_);omega)|((with_reducible refine qNF ?_ ?_);omega)|((with_reducible refine qU8 ?_ ?_);omega)|((with_reducible refine qU32 ?_ ?_);omega)|((with_reducible refine qU64 ?_ ?_);omega)|((with_reducible refine qU16 ?_ ?_);omega))
    conv => whnf
    exact trim0 rfl rfl
  · repeat((conv=>whnf);first|((with_reducible refine qS ?_ ?_ ?_);exact rfl;exact rfl)|with_reducible refine qB ?_|((with_reducible refine qI ?_ ?_);omega)|((with_reducible refine qDT ?_ ?_);omega)|((with_reducible refine qDF ?_ ?_);omega)|((with_reducible refine qNT ?_ ?_);omega)|((with_reducible refine qNF ?_ ?_);omega)|((with_reducible refine qU8 ?_ ?_);omega)|((with_reducible refine qU32 ?_ ?_);omega)|((with_reducible refine qU64 ?_ ?_);omega)|((with_reducible refine qU16 ?_ ?_);omega))
    conv => whnf
    exact trim0 rfl rfl
  · repeat((conv=>whnf);first|((with_reducible refine qS ?_ ?_ ?_);exact rfl;exact rfl)|with_reducible refine qB ?_|((with_reducible refine qI ?_ ?_);omega)|((with_reducible refine qDT ?_ ?_);omega)|((with_reducible refine qDF ?_ ?_);omega)|((with_reducible refine qNT ?_ ?_);omega)|((with_reducible refine qNF ?_ ?_);omega)|((with_reducible refine qU8 ?_ ?_);omega)|((with_reducible refine qU32 ?_ ?_);omega)|((with_reducible refine qU64 ?_ ?_);omega)|((with_reducible refine qU16 ?_ ?_);omega))
    conv => whnf
    exact trim0 rfl (congrArg bv (decide_eq_false (by omega)).symm)
theorem may_ok : ConOk Try.prog F.level_May (numB fun n => decide (0 ≤ n ∧ n < 2)) := con_of_run (clRunX_ok (d := 5) ttOk outs0_ok tabSMy_ok 4) (fn_enters (ok.level_May (D := 5) u0 _ (clRunX_ok (d := 5) ttOk .nil TabOk.nil 1))) fun p hp => may_run p
theorem beats_ok : ConOk Try.prog F.level_Beats (numB fun n => decide (0 ≤ n ∧ n < 3)) := con_of_run (clRunX_ok (d := 5) ttOk outs0_ok tabSBt_ok 4) (fn_enters (ok.level_Beats (D := 5) u0 _ (clRunX_ok (d := 5) ttOk .nil TabOk.nil 1))) fun p hp => beats_run p
/-! ### All of them -/
abbrev outsTb : List (FuncId × Cx) := [(F.status_Table_Bad, AskC badC), (F.status_Table_Good, AskC goodC), (F.level_May, AskC (numB fun n => decide (0 ≤ n ∧ n < 2))), (F.level_Beats, AskC (numB fun n => decide (0 ≤ n ∧ n < 3))), (F.status_Table_change, AskC changeC), (F.status_Table_Get, AskC getC), (F.status_Table_Spread, AskC spreadC), (F.status_Table_All, AskC allC), (F.status_Table_Copy, AskC copyC), (F.status_Table_Clear, AskC clearC), (F.status_New, AskC newC), (F.level_Of, AskC levelC),
  (F.ref18_Table_Add, AskC changeC), (F.ref18_Table_Get, AskC getC), (F.ref18_Table_Spread, AskC spreadRC), (F.ref18_NewTable, AskC newC), (F.ref18_Level, AskC levelC)]
theorem outsTb_ok : OutsOk Try.prog outsTb := .cons (ask_ok bad_ok) (.cons (ask_ok good_ok) (.cons (ask_ok may_ok) (.cons (ask_ok beats_ok) (.cons (ask_ok change_ok) (.cons (ask_ok get_ok) (.cons (ask_ok spread_ok) (.cons (ask_ok all_ok) (.cons (ask_ok copy_ok) (.cons (ask_ok clear_ok) (.cons (ask_ok new_ok) (.cons (ask_ok of_ok)
  (.cons (ask_ok add_ok) (.cons (ask_ok getR_ok) (.cons (ask_ok spreadR_ok) (.cons (ask_ok newR_ok) (.cons (ask_ok levelR_ok) .nil))))))))))))))))
end Go.Proofs.Ytbdifadabipfiaa.Co
