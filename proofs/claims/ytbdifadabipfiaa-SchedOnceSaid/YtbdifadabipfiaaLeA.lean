/- Layer 23: what is shared. -/
import Derived.Test.YtbdifadabipfiaaLaZ
import Derived.Test.YtbdifadabipfiaaCoY
import Derived.Test.YtbdifadabipfiaaCqA
namespace Go.Proofs.Ytbdifadabipfiaa.La
open Go Go.Eng Go.Proofs Go.Proofs.Ytbdifadabipfiaa.Tb Go.Proofs.Ytbdifadabipfiaa.Co Go.Pu
set_option maxRecDepth 100000
set_option maxHeartbeats 8000000
abbrev outs23 : List (FuncId × Cx) := [(F.plan_Plan, AskC planC), (F.sched_Sched_Now, AskC nowC), (F.ref12_Check, AskC checkRC), (F.ref12_Watch, AskC watchC), (F.ref12_Due, AskC dueRC)]
theorem outs23_ok : OutsOk Try.prog outs23 := .cons (ask_ok plan_ok) (.cons (ask_ok now_ok) (.cons (ask_ok checkR_ok) (.cons (ask_ok watchR_ok) (.cons (ask_ok dueR_ok) .nil))))
noncomputable abbrev tab23 : List (FuncId × Eng.Fn) := [(F.law23_known, fn.law23_known u0), (F.law23_least, fn.law23_least u0), (F.sched_New, fn.sched_New u0), (F.sched_Sched_Begin, fn.sched_Sched_Begin u0), (F.sched_Sched_Open, fn.sched_Sched_Open u0), (F.sched_Sched_Over, fn.sched_Sched_Over u0), (F.sched_Sched_Close, fn.sched_Sched_Close u0)]
theorem tab23_ok {d : Nat} : TabOk d tab23 tt := .cons (ok.law23_known u0) (.cons (ok.law23_least u0) (.cons (ok.sched_New u0) (.cons (ok.sched_Sched_Begin u0) (.cons (ok.sched_Sched_Open u0) (.cons (ok.sched_Sched_Over u0) (.cons (ok.sched_Sched_Close u0) (TabOk.nil)))))))
def m23 : Mat := ⟨1, 2, 2, 400, 2, 16, 0, 8, 1, fun _ => 0, 1, fun _ => ⟨99, 0, false⟩, 1, fun _ => ⟨1, 40, 80, 0, 1, 0⟩⟩
theorem m23_ok : m23.Ok := by constructor <;> simp [m23, I64, U32]
theorem c23 : (chk m23).2 = 0 := by decide +kernel
theorem n23 : (rowL0 m23 0).length = 4 := by decide +kernel
def t23 : Trg := ⟨1, 40, 0, 1, 0, 42⟩
theorem du23a : dueL (planF m23 0) 0 0 39 4 = [] := by decide +kernel
theorem du23b : dueL (planF m23 0) 0 39 41 4 = [t23] := by decide +kernel
theorem du23c : dueL (planF m23 0) 0 41 41 4 = [] := by decide +kernel
theorem du23d : (dueL (planF m23 0) 0 41 5000 4).length = 3 := by decide +kernel
abbrev boxN (m : Mat) (c : Caps) (a b d : Nat) : HE := .ob (.own [.c (iC m.level), .c (iC m.nodes), .c (iC m.cycles), .c (iC m.length), .c (iC m.enable), .c (iC m.unit), .c (iC m.init), .c (uC m.ref), .c (.slc a 0 1 0 m.nM c.c1 c.z1), .c (.slc b 0 3 0 m.nG c.c2 c.z2), .c (.slc d 0 6 0 m.nW c.c3 c.z3)])
abbrev k23 : Caps := ⟨1, 1, 1, false, false, false⟩
abbrev h23 (r : Heap) : Heap := boxN m23 k23 1 2 3 :: .ob (.row 1 1 (fun i => nthD [] [[iC 0]] i) 1) :: .ob (.row 3 1 (fun i => nthD [] [[uC 99, iC 0, .v (.bool false)]] i) 1) :: .ob (.row 6 1 (fun i => nthD [] [[iC 1, iC 40, iC 80, iC 0, iC 1, iC 0]] i) 1) :: boxN m23 k23 1 2 3 :: r
abbrev boxG (t : Trg) : HE := .ob (.own [.c (iC t.kind), .c (iC t.at_), .c (iC t.cyc), .c (iC t.rep), .c (iC t.msg), .c (iC t.til)])
theorem known23_run : clRunX 7 tt outs23 tab23 4 F.law23_known [] [] [] (fun x _ => x = bv true) := by
  have hc : capsOk m23 ⟨1, 1, 1, false, false, false⟩ := ⟨by decide, by decide, by decide⟩
  have b0 : I64 0 := ⟨by decide, by decide⟩
  obtain ⟨P, hP⟩ : ∃ P, planF m23 0 = P := ⟨_, rfl⟩
  have d1 := du23a
  have d2 := du23b
  have d3 := du23c
  have d4 := du23d
  rw [hP] at d1 d2 d3 d4
  repeat((conv=>whnf);first|((with_reducible refine qS ?_ ?_ ?_);exact rfl;exact rfl)|with_reducible refine qB ?_|((with_reducible refine qI ?_ ?_);omega)|((with_reducible refine qDT ?_ ?_);omega)|((with_reducible refine qDF ?_ ?_);omega)|((with_reducible refine qNT ?_ ?_);omega)|((with_reducible refine qNF ?_ ?_);omega)|((with_reducible refine qU8 ?_ ?_);omega)|((with_reducible refine qU32 ?_ ?_);omega)|((with_reducible refine qU64 ?_ ?_);omega)|((with_reducible refine qU16 ?_ ?_);omega))
  conv => whnf
  refine plan_at2 (m := m23) (c := k23) (who := 0) [1, 2, 3] 4 P (fun cap => slT 5 4 cap false) (fun cap => h23 [rowT P 4 cap]) m23_ok hc b0 c23 n23 hP rfl ?_ ?_ (fun _ => rfl) (fun _ => rfl) (fun cap hcap => ?_)
  · repeat'(first|exact leT_empty|exact trivial|exact rfl|exact .inl rfl|exact .inr rfl|exact .inr ⟨rfl,rfl⟩|exact Nat.le_refl _|exact Nat.zero_le _|exact fun _ _=>rfl|assumption|refine And.intro ?_ ?_|exact ul0|exact ul1 rfl|exact ul2 rfl rfl|exact ul3 rfl rfl rfl)
  · repeat'(first|exact leT_empty|exact trivial|exact rfl|exact .inl rfl|exact .inr rfl|exact .inr ⟨rfl,rfl⟩|exact Nat.le_refl _|exact Nat.zero_le _|exact fun _ _=>rfl|assumption|refine And.intro ?_ ?_|exact ul0|exact ul1 rfl|exact ul2 rfl rfl|exact ul3 rfl rfl rfl)
  repeat((conv=>whnf);first|((with_reducible refine qS ?_ ?_ ?_);exact rfl;exact rfl)|with_reducible refine qB ?_|((with_reducible refine qI ?_ ?_);omega)|((with_reducible refine qDT ?_ ?_);omega)|((with_reducible refine qDF ?_ ?_);omega)|((with_reducible refine qNT ?_ ?_);omega)|((with_reducible refine qNF ?_ ?_);omega)|((with_reducible refine qU8 ?_ ?_);omega)|((with_reducible refine qU32 ?_ ?_);omega)|((with_reducible refine qU64 ?_ ?_);omega)|((with_reducible refine qU16 ?_ ?_);omega))
  conv => whnf
  refine now_ask (T := P) (n := 4) (cap := cap) (cy := 0) (a := 0) (b := 39) (o := trg0) (is := false) [6, 5] [] 0 trg0 false (slT 7 0 4 false) (h23 [rowT P 4 cap, schO (plC 5 4 cap) 0 39 trg0 false, rowT (at0L []) 4 4]) (by decide) (by decide) b0 d1 rfl rfl rfl rfl ?_ ?_ rfl rfl ?_
  · repeat'(first|exact leT_empty|exact trivial|exact rfl|exact .inl rfl|exact .inr rfl|exact .inr ⟨rfl,rfl⟩|exact Nat.le_refl _|exact Nat.zero_le _|exact fun _ _=>rfl|assumption|refine And.intro ?_ ?_|exact ul0|exact ul1 rfl|exact ul2 rfl rfl|exact ul3 rfl rfl rfl)
  · repeat'(first|exact leT_empty|exact trivial|exact rfl|exact .inl rfl|exact .inr rfl|exact .inr ⟨rfl,rfl⟩|exact Nat.le_refl _|exact Nat.zero_le _|exact fun _ _=>rfl|assumption|refine And.intro ?_ ?_|exact ul0|exact ul1 rfl|exact ul2 rfl rfl|exact ul3 rfl rfl rfl)
  repeat((conv=>whnf);first|((with_reducible refine qS ?_ ?_ ?_);exact rfl;exact rfl)|with_reducible refine qB ?_|((with_reducible refine qI ?_ ?_);omega)|((with_reducible refine qDT ?_ ?_);omega)|((with_reducible refine qDF ?_ ?_);omega)|((with_reducible refine qNT ?_ ?_);omega)|((with_reducible refine qNF ?_ ?_);omega)|((with_reducible refine qU8 ?_ ?_);omega)|((with_reducible refine qU32 ?_ ?_);omega)|((with_reducible refine qU64 ?_ ?_);omega)|((with_reducible refine qU16 ?_ ?_);omega))
  conv => whnf
  refine now_ask (T := P) (n := 4) (cap := cap) (cy := 0) (a := 39) (b := 41) (o := trg0) (is := false) [6, 5] [t23] 1 t23 true (slT 8 1 4 false) (h23 [rowT P 4 cap, schO (plC 5 4 cap) 0 41 t23 true, rowT (at0L []) 4 4, rowT (at0L [t23]) 4 4]) (by decide) (by decide) b0 d2 rfl rfl rfl rfl ?_ ?_ rfl rfl ?_
  · repeat'(first|exact leT_empty|exact trivial|exact rfl|exact .inl rfl|exact .inr rfl|exact .inr ⟨rfl,rfl⟩|exact Nat.le_refl _|exact Nat.zero_le _|exact fun _ _=>rfl|assumption|refine And.intro ?_ ?_|exact ul0|exact ul1 rfl|exact ul2 rfl rfl|exact ul3 rfl rfl rfl)
  · repeat'(first|exact leT_empty|exact trivial|exact rfl|exact .inl rfl|exact .inr rfl|exact .inr ⟨rfl,rfl⟩|exact Nat.le_refl _|exact Nat.zero_le _|exact fun _ _=>rfl|assumption|refine And.intro ?_ ?_|exact ul0|exact ul1 rfl|exact ul2 rfl rfl|exact ul3 rfl rfl rfl)
  repeat((conv=>whnf);first|((with_reducible refine qS ?_ ?_ ?_);exact rfl;exact rfl)|with_reducible refine qB ?_|((with_reducible refine qI ?_ ?_);omega)|((with_reducible refine qDT ?_ ?_);omega)|((with_reducible refine qDF ?_ ?_);omega)|((with_reducible refine qNT ?_ ?_);omega)|((with_reducible refine qNF ?_ ?_);omega)|((with_reducible refine qU8 ?_ ?_);omega)|((with_reducible refine qU32 ?_ ?_);omega)|((with_reducible refine qU64 ?_ ?_);omega)|((with_reducible refine qU16 ?_ ?_);omega))
  conv => whnf
  refine now_ask (T := P) (n := 4) (cap := cap) (cy := 0) (a := 41) (b := 41) (o := trg0) (is := false) [6, 5] [] 0 trg0 false (slT 13 0 4 false) (h23 [rowT P 4 cap, schO (plC 5 4 cap) 0 41 trg0 false, rowT (at0L []) 4 4, rowT (at0L [t23]) 4 4, boxG t23, boxG t23, boxG trg0, boxG trg0, rowT (at0L []) 4 4]) (by decide) (by decide) b0 d3 rfl rfl rfl rfl ?_ ?_ rfl rfl ?_
  · repeat'(first|exact leT_empty|exact trivial|exact rfl|exact .inl rfl|exact .inr rfl|exact .inr ⟨rfl,rfl⟩|exact Nat.le_refl _|exact Nat.zero_le _|exact fun _ _=>rfl|assumption|refine And.intro ?_ ?_|exact ul0|exact ul1 rfl|exact ul2 rfl rfl|exact ul3 rfl rfl rfl)
  · repeat'(first|exact leT_empty|exact trivial|exact rfl|exact .inl rfl|exact .inr rfl|exact .inr ⟨rfl,rfl⟩|exact Nat.le_refl _|exact Nat.zero_le _|exact fun _ _=>rfl|assumption|refine And.intro ?_ ?_|exact ul0|exact ul1 rfl|exact ul2 rfl rfl|exact ul3 rfl rfl rfl)
  obtain ⟨D, hD⟩ : ∃ D, dueL P 0 41 5000 4 = D := ⟨_, rfl⟩
  rw [hD] at d4
  obtain ⟨o', ho⟩ : ∃ o', opnT (at0L D) trg0 3 = o' := ⟨_, rfl⟩
  obtain ⟨i', hi⟩ : ∃ i', opnB (at0L D) false 3 = i' := ⟨_, rfl⟩
  repeat((conv=>whnf);first|((with_reducible refine qS ?_ ?_ ?_);exact rfl;exact rfl)|with_reducible refine qB ?_|((with_reducible refine qI ?_ ?_);omega)|((with_reducible refine qDT ?_ ?_);omega)|((with_reducible refine qDF ?_ ?_);omega)|((with_reducible refine qNT ?_ ?_);omega)|((with_reducible refine qNF ?_ ?_);omega)|((with_reducible refine qU8 ?_ ?_);omega)|((with_reducible refine qU32 ?_ ?_);omega)|((with_reducible refine qU64 ?_ ?_);omega)|((with_reducible refine qU16 ?_ ?_);omega))
  conv => whnf
  refine now_ask (T := P) (n := 4) (cap := cap) (cy := 0) (a := 41) (b := 5000) (o := trg0) (is := false) [6, 5] D 3 o' i' (slT 14 3 4 false) (h23 [rowT P 4 cap, schO (plC 5 4 cap) 0 5000 o' i', rowT (at0L []) 4 4, rowT (at0L [t23]) 4 4, boxG t23, boxG t23, boxG trg0, boxG trg0, rowT (at0L []) 4 4, rowT (at0L D) 4 4]) (by decide) (by decide) b0 hD d4 ho hi rfl ?_ ?_ rfl rfl ?_
  · repeat'(first|exact leT_empty|exact trivial|exact rfl|exact .inl rfl|exact .inr rfl|exact .inr ⟨rfl,rfl⟩|exact Nat.le_refl _|exact Nat.zero_le _|exact fun _ _=>rfl|assumption|refine And.intro ?_ ?_|exact ul0|exact ul1 rfl|exact ul2 rfl rfl|exact ul3 rfl rfl rfl)
  · repeat'(first|exact leT_empty|exact trivial|exact rfl|exact .inl rfl|exact .inr rfl|exact .inr ⟨rfl,rfl⟩|exact Nat.le_refl _|exact Nat.zero_le _|exact fun _ _=>rfl|assumption|refine And.intro ?_ ?_|exact ul0|exact ul1 rfl|exact ul2 rfl rfl|exact ul3 rfl rfl rfl)
  repeat((conv=>whnf);first|((with_reducible refine qS ?_ ?_ ?_);exact rfl;exact rfl)|with_reducible refine qB ?_|((with_reducible refine qI ?_ ?_);omega)|((with_reducible refine qDT ?_ ?_);omega)|((with_reducible refine qDF ?_ ?_);omega)|((with_reducible refine qNT ?_ ?_);omega)|((with_reducible refine qNF ?_ ?_);omega)|((with_reducible refine qU8 ?_ ?_);omega)|((with_reducible refine qU32 ?_ ?_);omega)|((with_reducible refine qU64 ?_ ?_);omega)|((with_reducible refine qU16 ?_ ?_);omega))
  conv => whnf
  exact rfl
theorem known23_ok : ConOk Try.prog F.law23_known trueC := con_closed (clRunX_ok (d := 7) ttOk outs23_ok tab23_ok 4) (fn_enters (ok.law23_known (D := 7) u0 _ (clRunX_ok (d := 7) ttOk .nil TabOk.nil 1))) known23_run
abbrev outsL23 : List (FuncId × Cx) := (F.law23_known, AskC trueC) :: outs23
theorem outsL23_ok : OutsOk Try.prog outsL23 := .cons (ask_ok known23_ok) outs23_ok
end Go.Proofs.Ytbdifadabipfiaa.La
