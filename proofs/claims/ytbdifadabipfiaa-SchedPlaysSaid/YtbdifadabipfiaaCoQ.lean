/- Contracts: what is at a time. -/
import Derived.Test.YtbdifadabipfiaaCoL
import Derived.Test.YtbdifadabipfiaaPuB
namespace Go.Proofs.Ytbdifadabipfiaa.Co
open Go Go.Eng Go.Proofs Go.Proofs.Ytbdifadabipfiaa.Tb Go.Pu
set_option maxRecDepth 100000
set_option maxHeartbeats 8000000
/-! ### right -/
abbrev rightC : Con (Mat × Caps) := RoCon (fun p => [matT p.1 p.2 0 1 2]) (fun p => matH p.1 []) (fun p => p.1.Ok ∧ capsOk p.1 p.2) fun p => bv (decide ((chk p.1).2 = 0))
theorem right_use {m : Mat} {c : Caps} {rest : Heap} {K : R → Heap → Prop} (hm : m.Ok) (hc : capsOk m c) (hk : K (bv (decide ((chk m).2 = 0))) (matH m rest)) : AskC rightC [matT m c 0 1 2] (matH m rest) K :=
  .use (m, c) [0, 1, 2] ⟨hm, hc⟩ rfl (mat_le m rest) ⟨mat_lx m c rest, trivial⟩ hk
abbrev outsCk : List (FuncId × Cx) := [(F.check_Check, AskC checkC)]
theorem outsCk_ok : OutsOk Try.prog outsCk := .cons (ask_ok check_ok) .nil
noncomputable abbrev tabQWr : List (FuncId × Eng.Fn) := [(F.window_right, fn.window_right u0)]
theorem tabQWr_ok {d : Nat} : TabOk d tabQWr tt := .cons (ok.window_right u0) (TabOk.nil)
noncomputable abbrev tabQBr : List (FuncId × Eng.Fn) := [(F.bound_right, fn.bound_right u0)]
theorem tabQBr_ok {d : Nat} : TabOk d tabQBr tt := .cons (ok.bound_right u0) (TabOk.nil)
theorem rightW_run (m : Mat) (c : Caps) (hm : m.Ok) (hc : capsOk m c) : clRunX 4 tt outsCk tabQWr 2 F.window_right [] [matT m c 0 1 2] (matH m []) (fun x h => Trim 3 x h fun x h => x = bv (decide ((chk m).2 = 0)) ∧ h = matH m []) := by
  repeat((conv=>whnf);first|((with_reducible refine qS ?_ ?_ ?_);exact rfl;exact rfl)|with_reducible refine qB ?_|((with_reducible refine qI ?_ ?_);omega)|((with_reducible refine qDT ?_ ?_);omega)|((with_reducible refine qDF ?_ ?_);omega)|((with_reducible refine qNT ?_ ?_);omega)|((with_reducible refine qNF ?_ ?_);omega)|((with_reducible refine qU8 ?_ ?_);omega)|((with_reducible refine qU32 ?_ ?_);omega)|((with_reducible refine qU64 ?_ ?_);omega)|((with_reducible refine qU16 ?_ ?_);omega))
  conv => whnf
  refine check_use (m := m) (c := c) hm hc ?_
  repeat((conv=>whnf);first|((with_reducible refine qS ?_ ?_ ?_);exact rfl;exact rfl)|with_reducible refine qB ?_|((with_reducible refine qI ?_ ?_);omega)|((with_reducible refine qDT ?_ ?_);omega)|((with_reducible refine qDF ?_ ?_);omega)|((with_reducible refine qNT ?_ ?_);omega)|((with_reducible refine qNF ?_ ?_);omega)|((with_reducible refine qU8 ?_ ?_);omega)|((with_reducible refine qU32 ?_ ?_);omega)|((with_reducible refine qU64 ?_ ?_);omega)|((with_reducible refine qU16 ?_ ?_);omega))
  conv => whnf
  exact trimM rfl rfl
theorem rightB_run (m : Mat) (c : Caps) (hm : m.Ok) (hc : capsOk m c) : clRunX 4 tt outsCk tabQBr 2 F.bound_right [] [matT m c 0 1 2] (matH m []) (fun x h => Trim 3 x h fun x h => x = bv (decide ((chk m).2 = 0)) ∧ h = matH m []) := by
  repeat((conv=>whnf);first|((with_reducible refine qS ?_ ?_ ?_);exact rfl;exact rfl)|with_reducible refine qB ?_|((with_reducible refine qI ?_ ?_);omega)|((with_reducible refine qDT ?_ ?_);omega)|((with_reducible refine qDF ?_ ?_);omega)|((with_reducible refine qNT ?_ ?_);omega)|((with_reducible refine qNF ?_ ?_);omega)|((with_reducible refine qU8 ?_ ?_);omega)|((with_reducible refine qU32 ?_ ?_);omega)|((with_reducible refine qU64 ?_ ?_);omega)|((with_reducible refine qU16 ?_ ?_);omega))
  conv => whnf
  refine check_use (m := m) (c := c) hm hc ?_
  repeat((conv=>whnf);first|((with_reducible refine qS ?_ ?_ ?_);exact rfl;exact rfl)|with_reducible refine qB ?_|((with_reducible refine qI ?_ ?_);omega)|((with_reducible refine qDT ?_ ?_);omega)|((with_reducible refine qDF ?_ ?_);omega)|((with_reducible refine qNT ?_ ?_);omega)|((with_reducible refine qNF ?_ ?_);omega)|((with_reducible refine qU8 ?_ ?_);omega)|((with_reducible refine qU32 ?_ ?_);omega)|((with_reducible refine qU64 ?_ ?_);omega)|((with_reducible refine qU16 ?_ ?_);omega))
  conv => whnf
  exact trimM rfl rfl
theorem rightW_ok : ConOk Try.prog F.window_right rightC := con_of_run (clRunX_ok (d := 4) ttOk outsCk_ok tabQWr_ok 2) (fn_enters (ok.window_right (D := 4) u0 _ (clRunX_ok (d := 4) ttOk .nil TabOk.nil 1))) fun p hp => rightW_run p.1 p.2 hp.1 hp.2
theorem rightB_ok : ConOk Try.prog F.bound_right rightC := con_of_run (clRunX_ok (d := 4) ttOk outsCk_ok tabQBr_ok 2) (fn_enters (ok.bound_right (D := 4) u0 _ (clRunX_ok (d := 4) ttOk .nil TabOk.nil 1))) fun p hp => rightB_run p.1 p.2 hp.1 hp.2
/-! ### at -/
abbrev at0C : Con (Mat × Caps × Int × Int) := RoCon (fun p => [matT p.1 p.2.1 0 1 2, iv .i64 p.2.2.1, iv .i64 p.2.2.2]) (fun p => matH p.1 []) (fun p => p.1.Ok ∧ I64 p.2.2.1) fun p => iv .i64 (at0 p.1 p.2.2.1 p.2.2.2)
theorem at0_use {m : Mat} {c : Caps} {a b : Int} {rest : Heap} {K : R → Heap → Prop} (hm : m.Ok) (ha : I64 a) (hk : K (iv .i64 (at0 m a b)) (matH m rest)) : AskC at0C [matT m c 0 1 2, iv .i64 a, iv .i64 b] (matH m rest) K :=
  .use (m, c, a, b) [0, 1, 2] ⟨hm, ha⟩ rfl (mat_le m rest) ⟨mat_lx m c rest, .inl rfl, .inl rfl, trivial⟩ hk
abbrev outsCm : List (FuncId × Cx) := [(F.matrix_Comes, AskC comesC)]
theorem outsCm_ok : OutsOk Try.prog outsCm := .cons (ask_ok comes_ok) .nil
noncomputable abbrev tabQWa : List (FuncId × Eng.Fn) := [(F.window_at, fn.window_at u0)]
theorem tabQWa_ok {d : Nat} : TabOk d tabQWa tt := .cons (ok.window_at u0) (TabOk.nil)
theorem at0_run (m : Mat) (c : Caps) (a b : Int) (hm : m.Ok) (ha : I64 a) : clRunX 6 tt outsCm tabQWa 2 F.window_at [] [matT m c 0 1 2, iv .i64 a, iv .i64 b] (matH m []) (fun x h => Trim 3 x h fun x h => x = iv .i64 (at0 m a b) ∧ h = matH m []) := by
  have hnW := hm.nW
  repeat((conv=>whnf);first|((with_reducible refine qS ?_ ?_ ?_);exact rfl;exact rfl)|with_reducible refine qB ?_|((with_reducible refine qI ?_ ?_);omega)|((with_reducible refine qDT ?_ ?_);omega)|((with_reducible refine qDF ?_ ?_);omega)|((with_reducible refine qNT ?_ ?_);omega)|((with_reducible refine qNF ?_ ?_);omega)|((with_reducible refine qU8 ?_ ?_);omega)|((with_reducible refine qU32 ?_ ?_);omega)|((with_reducible refine qU64 ?_ ?_);omega)|((with_reducible refine qU16 ?_ ?_);omega))
  conv => whnf
  refine .rd (fun i : Nat => i ≤ m.nW ∧ ∀ j, j < i → atB m a b j = false) (fun i => [(7, iv .i64 (-1)), (13, iv .i64 i)]) (fun i => m.nW - i) 0 ⟨Nat.zero_le _, all_0⟩ ?_ (fun i ⟨hi, hp⟩ => ?_)
  · conv=>whnf
    refine Le.id rfl ?_ ?_<;>repeat'(first|exact leT_empty|exact trivial|exact rfl|exact fun _ _=>rfl|exact .inl rfl|exact Nat.le_refl _|refine And.intro ?_ ?_)
  conv => whnf
  refine cD (fun h5 => ?_) (fun h5 => ?_)
  rotate_left
  · obtain rfl : i = m.nW := by omega
    repeat((conv=>whnf);first|((with_reducible refine qS ?_ ?_ ?_);exact rfl;exact rfl)|with_reducible refine qB ?_|((with_reducible refine qI ?_ ?_);omega)|((with_reducible refine qDT ?_ ?_);omega)|((with_reducible refine qDF ?_ ?_);omega)|((with_reducible refine qNT ?_ ?_);omega)|((with_reducible refine qNF ?_ ?_);omega)|((with_reducible refine qU8 ?_ ?_);omega)|((with_reducible refine qU32 ?_ ?_);omega)|((with_reducible refine qU64 ?_ ?_);omega)|((with_reducible refine qU16 ?_ ?_);omega))
    conv => whnf
    exact trimM rfl (congrArg (iv .i64) (first_none hp).symm)
  repeat((conv=>whnf);first|((with_reducible refine qS ?_ ?_ ?_);exact rfl;exact rfl)|with_reducible refine qB ?_|((with_reducible refine qI ?_ ?_);omega)|((with_reducible refine qDT ?_ ?_);omega)|((with_reducible refine qDF ?_ ?_);omega)|((with_reducible refine qNT ?_ ?_);omega)|((with_reducible refine qNF ?_ ?_);omega)|((with_reducible refine qU8 ?_ ?_);omega)|((with_reducible refine qU32 ?_ ?_);omega)|((with_reducible refine qU64 ?_ ?_);omega)|((with_reducible refine qU16 ?_ ?_);omega))
  conv => whnf
  try rw [zi i]
  repeat((conv=>whnf);first|((with_reducible refine qS ?_ ?_ ?_);exact rfl;exact rfl)|with_reducible refine qB ?_|((with_reducible refine qI ?_ ?_);omega)|((with_reducible refine qDT ?_ ?_);omega)|((with_reducible refine qDF ?_ ?_);omega)|((with_reducible refine qNT ?_ ?_);omega)|((with_reducible refine qNF ?_ ?_);omega)|((with_reducible refine qU8 ?_ ?_);omega)|((with_reducible refine qU32 ?_ ?_);omega)|((with_reducible refine qU64 ?_ ?_);omega)|((with_reducible refine qU16 ?_ ?_);omega))
  conv => whnf
  refine comes_use ha ?_
  rcases Bool.eq_false_or_eq_true (comes (m.W i).cyc (m.W i).rep a) with hc | hc <;> rw [hc]
  rotate_left
  · repeat((conv=>whnf);first|((with_reducible refine qS ?_ ?_ ?_);exact rfl;exact rfl)|with_reducible refine qB ?_|((with_reducible refine qI ?_ ?_);omega)|((with_reducible refine qDT ?_ ?_);omega)|((with_reducible refine qDF ?_ ?_);omega)|((with_reducible refine qNT ?_ ?_);omega)|((with_reducible refine qNF ?_ ?_);omega)|((with_reducible refine qU8 ?_ ?_);omega)|((with_reducible refine qU32 ?_ ?_);omega)|((with_reducible refine qU64 ?_ ?_);omega)|((with_reducible refine qU16 ?_ ?_);omega))
    conv => whnf
    refine ⟨i + 1, ⟨⟨by omega, all_up hp (by unfold atB; rw [hc]; rfl)⟩, by omega⟩, ?_⟩
    conv=>whnf
    refine Le.id rfl ?_ ?_<;>repeat'(first|exact leT_empty|exact trivial|exact rfl|exact fun _ _=>rfl|exact .inl rfl|exact Nat.le_refl _|refine And.intro ?_ ?_)
  conv => whnf
  refine cD (fun h6 => ?_) (fun h6 => ?_)
  rotate_left
  · repeat((conv=>whnf);first|((with_reducible refine qS ?_ ?_ ?_);exact rfl;exact rfl)|with_reducible refine qB ?_|((with_reducible refine qI ?_ ?_);omega)|((with_reducible refine qDT ?_ ?_);omega)|((with_reducible refine qDF ?_ ?_);omega)|((with_reducible refine qNT ?_ ?_);omega)|((with_reducible refine qNF ?_ ?_);omega)|((with_reducible refine qU8 ?_ ?_);omega)|((with_reducible refine qU32 ?_ ?_);omega)|((with_reducible refine qU64 ?_ ?_);omega)|((with_reducible refine qU16 ?_ ?_);omega))
    conv => whnf
    refine ⟨i + 1, ⟨⟨by omega, all_up hp (by unfold atB; rw [decide_eq_false (by omega), Bool.and_false])⟩, by omega⟩, ?_⟩
    conv=>whnf
    refine Le.id rfl ?_ ?_<;>repeat'(first|exact leT_empty|exact trivial|exact rfl|exact fun _ _=>rfl|exact .inl rfl|exact Nat.le_refl _|refine And.intro ?_ ?_)
  conv => whnf
  refine cD (fun h7 => ?_) (fun h7 => ?_)
  rotate_left
  · repeat((conv=>whnf);first|((with_reducible refine qS ?_ ?_ ?_);exact rfl;exact rfl)|with_reducible refine qB ?_|((with_reducible refine qI ?_ ?_);omega)|((with_reducible refine qDT ?_ ?_);omega)|((with_reducible refine qDF ?_ ?_);omega)|((with_reducible refine qNT ?_ ?_);omega)|((with_reducible refine qNF ?_ ?_);omega)|((with_reducible refine qU8 ?_ ?_);omega)|((with_reducible refine qU32 ?_ ?_);omega)|((with_reducible refine qU64 ?_ ?_);omega)|((with_reducible refine qU16 ?_ ?_);omega))
    conv => whnf
    refine ⟨i + 1, ⟨⟨by omega, all_up hp (by unfold atB; rw [decide_eq_false (by omega), Bool.and_false])⟩, by omega⟩, ?_⟩
    conv=>whnf
    refine Le.id rfl ?_ ?_<;>repeat'(first|exact leT_empty|exact trivial|exact rfl|exact fun _ _=>rfl|exact .inl rfl|exact Nat.le_refl _|refine And.intro ?_ ?_)
  repeat((conv=>whnf);first|((with_reducible refine qS ?_ ?_ ?_);exact rfl;exact rfl)|with_reducible refine qB ?_|((with_reducible refine qI ?_ ?_);omega)|((with_reducible refine qDT ?_ ?_);omega)|((with_reducible refine qDF ?_ ?_);omega)|((with_reducible refine qNT ?_ ?_);omega)|((with_reducible refine qNF ?_ ?_);omega)|((with_reducible refine qU8 ?_ ?_);omega)|((with_reducible refine qU32 ?_ ?_);omega)|((with_reducible refine qU64 ?_ ?_);omega)|((with_reducible refine qU16 ?_ ?_);omega))
  conv => whnf
  exact trimM rfl (congrArg (iv .i64) (first_some (by omega) hp (by unfold atB; rw [hc, decide_eq_true (by omega)]; rfl)).symm)
theorem at0_ok : ConOk Try.prog F.window_at at0C := con_of_run (clRunX_ok (d := 6) ttOk outsCm_ok tabQWa_ok 2) (fn_enters (ok.window_at (D := 6) u0 _ (clRunX_ok (d := 6) ttOk .nil TabOk.nil 1))) fun p hp => at0_run p.1 p.2.1 p.2.2.1 p.2.2.2 hp.1 hp.2
/-! ### At -/
abbrev at1C : Con (Mat × Caps × Int × Int) := RoCon (fun p => [matT p.1 p.2.1 0 1 2, iv .i64 p.2.2.1, iv .i64 p.2.2.2]) (fun p => matH p.1 []) (fun p => p.1.Ok ∧ capsOk p.1 p.2.1 ∧ I64 p.2.2.1) fun p => iv .i64 (at1 p.1 p.2.2.1 p.2.2.2)
theorem at1_use {m : Mat} {c : Caps} {a b : Int} {rest : Heap} {K : R → Heap → Prop} (hm : m.Ok) (hc : capsOk m c) (ha : I64 a) (hk : K (iv .i64 (at1 m a b)) (matH m rest)) : AskC at1C [matT m c 0 1 2, iv .i64 a, iv .i64 b] (matH m rest) K :=
  .use (m, c, a, b) [0, 1, 2] ⟨hm, hc, ha⟩ rfl (mat_le m rest) ⟨mat_lx m c rest, .inl rfl, .inl rfl, trivial⟩ hk
abbrev outsWA : List (FuncId × Cx) := [(F.window_right, AskC rightC), (F.window_at, AskC at0C)]
theorem outsWA_ok : OutsOk Try.prog outsWA := .cons (ask_ok rightW_ok) (.cons (ask_ok at0_ok) .nil)
noncomputable abbrev tabQAt : List (FuncId × Eng.Fn) := [(F.window_At, fn.window_At u0)]
theorem tabQAt_ok {d : Nat} : TabOk d tabQAt tt := .cons (ok.window_At u0) (TabOk.nil)
theorem at1_run (m : Mat) (c : Caps) (a b : Int) (hm : m.Ok) (hc : capsOk m c) (ha : I64 a) : clRunX 4 tt outsWA tabQAt 2 F.window_At [] [matT m c 0 1 2, iv .i64 a, iv .i64 b] (matH m []) (fun x h => Trim 3 x h fun x h => x = iv .i64 (at1 m a b) ∧ h = matH m []) := by
  repeat((conv=>whnf);first|((with_reducible refine qS ?_ ?_ ?_);exact rfl;exact rfl)|with_reducible refine qB ?_|((with_reducible refine qI ?_ ?_);omega)|((with_reducible refine qDT ?_ ?_);omega)|((with_reducible refine qDF ?_ ?_);omega)|((with_reducible refine qNT ?_ ?_);omega)|((with_reducible refine qNF ?_ ?_);omega)|((with_reducible refine qU8 ?_ ?_);omega)|((with_reducible refine qU32 ?_ ?_);omega)|((with_reducible refine qU64 ?_ ?_);omega)|((with_reducible refine qU16 ?_ ?_);omega))
  conv => whnf
  refine right_use (m := m) (c := c) hm hc ?_
  by_cases h : (chk m).2 = 0
  · rw [decide_eq_true h]
    repeat((conv=>whnf);first|((with_reducible refine qS ?_ ?_ ?_);exact rfl;exact rfl)|with_reducible refine qB ?_|((with_reducible refine qI ?_ ?_);omega)|((with_reducible refine qDT ?_ ?_);omega)|((with_reducible refine qDF ?_ ?_);omega)|((with_reducible refine qNT ?_ ?_);omega)|((with_reducible refine qNF ?_ ?_);omega)|((with_reducible refine qU8 ?_ ?_);omega)|((with_reducible refine qU32 ?_ ?_);omega)|((with_reducible refine qU64 ?_ ?_);omega)|((with_reducible refine qU16 ?_ ?_);omega))
    conv => whnf
    refine at0_use (m := m) (c := c) hm ha ?_
    repeat((conv=>whnf);first|((with_reducible refine qS ?_ ?_ ?_);exact rfl;exact rfl)|with_reducible refine qB ?_|((with_reducible refine qI ?_ ?_);omega)|((with_reducible refine qDT ?_ ?_);omega)|((with_reducible refine qDF ?_ ?_);omega)|((with_reducible refine qNT ?_ ?_);omega)|((with_reducible refine qNF ?_ ?_);omega)|((with_reducible refine qU8 ?_ ?_);omega)|((with_reducible refine qU32 ?_ ?_);omega)|((with_reducible refine qU64 ?_ ?_);omega)|((with_reducible refine qU16 ?_ ?_);omega))
    conv => whnf
    exact trimM rfl (congrArg (iv .i64) (if_pos h).symm)
  · rw [decide_eq_false h]
    repeat((conv=>whnf);first|((with_reducible refine qS ?_ ?_ ?_);exact rfl;exact rfl)|with_reducible refine qB ?_|((with_reducible refine qI ?_ ?_);omega)|((with_reducible refine qDT ?_ ?_);omega)|((with_reducible refine qDF ?_ ?_);omega)|((with_reducible refine qNT ?_ ?_);omega)|((with_reducible refine qNF ?_ ?_);omega)|((with_reducible refine qU8 ?_ ?_);omega)|((with_reducible refine qU32 ?_ ?_);omega)|((with_reducible refine qU64 ?_ ?_);omega)|((with_reducible refine qU16 ?_ ?_);omega))
    conv => whnf
    exact trimM rfl (congrArg (iv .i64) (if_neg h).symm)
theorem at1_ok : ConOk Try.prog F.window_At at1C := con_of_run (clRunX_ok (d := 4) ttOk outsWA_ok tabQAt_ok 2) (fn_enters (ok.window_At (D := 4) u0 _ (clRunX_ok (d := 4) ttOk .nil TabOk.nil 1))) fun p hp => at1_run p.1 p.2.1 p.2.2.1 p.2.2.2 hp.1 hp.2.1 hp.2.2
abbrev outsRA : List (FuncId × Cx) := [(F.ref12_Check, AskC checkRC), (F.ref12_Comes, AskC comesC)]
theorem outsRA_ok : OutsOk Try.prog outsRA := .cons (ask_ok checkR_ok) (.cons (ask_ok comesR_ok) .nil)
noncomputable abbrev tabQRa : List (FuncId × Eng.Fn) := [(F.ref12_At, fn.ref12_At u0)]
theorem tabQRa_ok {d : Nat} : TabOk d tabQRa tt := .cons (ok.ref12_At u0) (TabOk.nil)
theorem at1R_run (m : Mat) (c : Caps) (a b : Int) (hm : m.Ok) (ha : I64 a) : clRunX 6 tt outsRA tabQRa 2 F.ref12_At [] [matT m c 0 1 2, iv .i64 a, iv .i64 b] (matH m []) (fun x h => Trim 3 x h fun x h => x = iv .i64 (at1 m a b) ∧ h = matH m []) := by
  have hnW := hm.nW
  repeat((conv=>whnf);first|((with_reducible refine qS ?_ ?_ ?_);exact rfl;exact rfl)|with_reducible refine qB ?_|((with_reducible refine qI ?_ ?_);omega)|((with_reducible refine qDT ?_ ?_);omega)|((with_reducible refine qDF ?_ ?_);omega)|((with_reducible refine qNT ?_ ?_);omega)|((with_reducible refine qNF ?_ ?_);omega)|((with_reducible refine qU8 ?_ ?_);omega)|((with_reducible refine qU32 ?_ ?_);omega)|((with_reducible refine qU64 ?_ ?_);omega)|((with_reducible refine qU16 ?_ ?_);omega))
  conv => whnf
  refine checkR_use (m := m) (c := c) hm ?_
  by_cases h : (chk m).2 = 0
  rotate_left
  · repeat((conv=>whnf);first|((with_reducible refine qS ?_ ?_ ?_);exact rfl;exact rfl)|with_reducible refine qB ?_|((with_reducible refine qI ?_ ?_);omega)|((with_reducible refine qDT ?_ ?_);omega)|((with_reducible refine qDF ?_ ?_);omega)|((with_reducible refine qNT ?_ ?_);omega)|((with_reducible refine qNF ?_ ?_);omega)|((with_reducible refine qU8 ?_ ?_);omega)|((with_reducible refine qU32 ?_ ?_);omega)|((with_reducible refine qU64 ?_ ?_);omega)|((with_reducible refine qU16 ?_ ?_);omega))
    conv => whnf
    exact trimM rfl (congrArg (iv .i64) (if_neg h).symm)
  have e0 : at1 m a b = at0 m a b := if_pos h
  rw [e0]
  repeat((conv=>whnf);first|((with_reducible refine qS ?_ ?_ ?_);exact rfl;exact rfl)|with_reducible refine qB ?_|((with_reducible refine qI ?_ ?_);omega)|((with_reducible refine qDT ?_ ?_);omega)|((with_reducible refine qDF ?_ ?_);omega)|((with_reducible refine qNT ?_ ?_);omega)|((with_reducible refine qNF ?_ ?_);omega)|((with_reducible refine qU8 ?_ ?_);omega)|((with_reducible refine qU32 ?_ ?_);omega)|((with_reducible refine qU64 ?_ ?_);omega)|((with_reducible refine qU16 ?_ ?_);omega))
  conv => whnf
  refine .rd (fun i : Nat => i ≤ m.nW ∧ ∀ j, j < i → atB m a b j = false) (fun i => [(9, iv .i64 i)]) (fun i => m.nW - i) 0 ⟨Nat.zero_le _, all_0⟩ ?_ (fun i ⟨hi, hp⟩ => ?_)
  · conv=>whnf
    refine Le.id rfl ?_ ?_<;>repeat'(first|exact leT_empty|exact trivial|exact rfl|exact fun _ _=>rfl|exact .inl rfl|exact Nat.le_refl _|refine And.intro ?_ ?_)
  conv => whnf
  refine cD (fun h5 => ?_) (fun h5 => ?_)
  rotate_left
  · obtain rfl : i = m.nW := by omega
    repeat((conv=>whnf);first|((with_reducible refine qS ?_ ?_ ?_);exact rfl;exact rfl)|with_reducible refine qB ?_|((with_reducible refine qI ?_ ?_);omega)|((with_reducible refine qDT ?_ ?_);omega)|((with_reducible refine qDF ?_ ?_);omega)|((with_reducible refine qNT ?_ ?_);omega)|((with_reducible refine qNF ?_ ?_);omega)|((with_reducible refine qU8 ?_ ?_);omega)|((with_reducible refine qU32 ?_ ?_);omega)|((with_reducible refine qU64 ?_ ?_);omega)|((with_reducible refine qU16 ?_ ?_);omega))
    conv => whnf
    exact trimM rfl (congrArg (iv .i64) (first_none hp).symm)
  repeat((conv=>whnf);first|((with_reducible refine qS ?_ ?_ ?_);exact rfl;exact rfl)|with_reducible refine qB ?_|((with_reducible refine qI ?_ ?_);omega)|((with_reducible refine qDT ?_ ?_);omega)|((with_reducible refine qDF ?_ ?_);omega)|((with_reducible refine qNT ?_ ?_);omega)|((with_reducible refine qNF ?_ ?_);omega)|((with_reducible refine qU8 ?_ ?_);omega)|((with_reducible refine qU32 ?_ ?_);omega)|((with_reducible refine qU64 ?_ ?_);omega)|((with_reducible refine qU16 ?_ ?_);omega))
  conv => whnf
  try rw [zi i]
  repeat((conv=>whnf);first|((with_reducible refine qS ?_ ?_ ?_);exact rfl;exact rfl)|with_reducible refine qB ?_|((with_reducible refine qI ?_ ?_);omega)|((with_reducible refine qDT ?_ ?_);omega)|((with_reducible refine qDF ?_ ?_);omega)|((with_reducible refine qNT ?_ ?_);omega)|((with_reducible refine qNF ?_ ?_);omega)|((with_reducible refine qU8 ?_ ?_);omega)|((with_reducible refine qU32 ?_ ?_);omega)|((with_reducible refine qU64 ?_ ?_);omega)|((with_reducible refine qU16 ?_ ?_);omega))
  conv => whnf
  refine comes_use ha ?_
  rcases Bool.eq_false_or_eq_true (comes (m.W i).cyc (m.W i).rep a) with hc | hc <;> rw [hc]
  rotate_left
  · repeat((conv=>whnf);first|((with_reducible refine qS ?_ ?_ ?_);exact rfl;exact rfl)|with_reducible refine qB ?_|((with_reducible refine qI ?_ ?_);omega)|((with_reducible refine qDT ?_ ?_);omega)|((with_reducible refine qDF ?_ ?_);omega)|((with_reducible refine qNT ?_ ?_);omega)|((with_reducible refine qNF ?_ ?_);omega)|((with_reducible refine qU8 ?_ ?_);omega)|((with_reducible refine qU32 ?_ ?_);omega)|((with_reducible refine qU64 ?_ ?_);omega)|((with_reducible refine qU16 ?_ ?_);omega))
    conv => whnf
    refine ⟨i + 1, ⟨⟨by omega, all_up hp (by unfold atB; rw [hc]; rfl)⟩, by omega⟩, ?_⟩
    conv=>whnf
    refine Le.id rfl ?_ ?_<;>repeat'(first|exact leT_empty|exact trivial|exact rfl|exact fun _ _=>rfl|exact .inl rfl|exact Nat.le_refl _|refine And.intro ?_ ?_)
  conv => whnf
  refine cD (fun h6 => ?_) (fun h6 => ?_)
  rotate_left
  · repeat((conv=>whnf);first|((with_reducible refine qS ?_ ?_ ?_);exact rfl;exact rfl)|with_reducible refine qB ?_|((with_reducible refine qI ?_ ?_);omega)|((with_reducible refine qDT ?_ ?_);omega)|((with_reducible refine qDF ?_ ?_);omega)|((with_reducible refine qNT ?_ ?_);omega)|((with_reducible refine qNF ?_ ?_);omega)|((with_reducible refine qU8 ?_ ?_);omega)|((with_reducible refine qU32 ?_ ?_);omega)|((with_reducible refine qU64 ?_ ?_);omega)|((with_reducible refine qU16 ?_ ?_);omega))
    conv => whnf
    refine ⟨i + 1, ⟨⟨by omega, all_up hp (by unfold atB; rw [decide_eq_false (by omega), Bool.and_false])⟩, by omega⟩, ?_⟩
    conv=>whnf
    refine Le.id rfl ?_ ?_<;>repeat'(first|exact leT_empty|exact trivial|exact rfl|exact fun _ _=>rfl|exact .inl rfl|exact Nat.le_refl _|refine And.intro ?_ ?_)
  conv => whnf
  refine cD (fun h7 => ?_) (fun h7 => ?_)
  rotate_left
  · repeat((conv=>whnf);first|((with_reducible refine qS ?_ ?_ ?_);exact rfl;exact rfl)|with_reducible refine qB ?_|((with_reducible refine qI ?_ ?_);omega)|((with_reducible refine qDT ?_ ?_);omega)|((with_reducible refine qDF ?_ ?_);omega)|((with_reducible refine qNT ?_ ?_);omega)|((with_reducible refine qNF ?_ ?_);omega)|((with_reducible refine qU8 ?_ ?_);omega)|((with_reducible refine qU32 ?_ ?_);omega)|((with_reducible refine qU64 ?_ ?_);omega)|((with_reducible refine qU16 ?_ ?_);omega))
    conv => whnf
    refine ⟨i + 1, ⟨⟨by omega, all_up hp (by unfold atB; rw [decide_eq_false (by omega), Bool.and_false])⟩, by omega⟩, ?_⟩
    conv=>whnf
    refine Le.id rfl ?_ ?_<;>repeat'(first|exact leT_empty|exact trivial|exact rfl|exact fun _ _=>rfl|exact .inl rfl|exact Nat.le_refl _|refine And.intro ?_ ?_)
  repeat((conv=>whnf);first|((with_reducible refine qS ?_ ?_ ?_);exact rfl;exact rfl)|with_reducible refine qB ?_|((with_reducible refine qI ?_ ?_);omega)|((with_reducible refine qDT ?_ ?_);omega)|((with_reducible refine qDF ?_ ?_);omega)|((with_reducible refine qNT ?_ ?_);omega)|((with_reducible refine qNF ?_ ?_);omega)|((with_reducible refine qU8 ?_ ?_);omega)|((with_reducible refine qU32 ?_ ?_);omega)|((with_reducible refine qU64 ?_ ?_);omega)|((with_reducible refine qU16 ?_ ?_);omega))
  conv => whnf
  exact trimM rfl (congrArg (iv .i64) (first_some (by omega) hp (by unfold atB; rw [hc, decide_eq_true (by omega)]; rfl)).symm)
theorem at1R_ok : ConOk Try.prog F.ref12_At at1C := con_of_run (clRunX_ok (d := 6) ttOk outsRA_ok tabQRa_ok 2) (fn_enters (ok.ref12_At (D := 6) u0 _ (clRunX_ok (d := 6) ttOk .nil TabOk.nil 1))) fun p hp => at1R_run p.1 p.2.1 p.2.2.1 p.2.2.2 hp.1 hp.2.2
/-! ### Owner -/
abbrev ownerC : Con (Mat × Caps × Int × Int) := RoCon (fun p => [matT p.1 p.2.1 0 1 2, iv .i64 p.2.2.1, iv .i64 p.2.2.2]) (fun p => matH p.1 []) (fun p => p.1.Ok ∧ capsOk p.1 p.2.1 ∧ I64 p.2.2.1) fun p => iv .i64 (owner1 p.1 p.2.2.1 p.2.2.2)
theorem owner_use {m : Mat} {c : Caps} {a b : Int} {rest : Heap} {K : R → Heap → Prop} (hm : m.Ok) (hc : capsOk m c) (ha : I64 a) (hk : K (iv .i64 (owner1 m a b)) (matH m rest)) : AskC ownerC [matT m c 0 1 2, iv .i64 a, iv .i64 b] (matH m rest) K :=
  .use (m, c, a, b) [0, 1, 2] ⟨hm, hc, ha⟩ rfl (mat_le m rest) ⟨mat_lx m c rest, .inl rfl, .inl rfl, trivial⟩ hk
theorem at1_in {m : Mat} {a b : Int} (h : 0 ≤ at1 m a b) : (chk m).2 = 0 ∧ at1 m a b = at0 m a b ∧ at1 m a b < m.nW := by
  unfold at1 at h ⊢
  by_cases e : (chk m).2 = 0
  · rw [if_pos e]; exact ⟨e, rfl, (at0_bd m a b).2⟩
  · rw [if_neg e] at h; omega
abbrev outsOw : List (FuncId × Cx) := [(F.window_At, AskC at1C)]
theorem outsOw_ok : OutsOk Try.prog outsOw := .cons (ask_ok at1_ok) .nil
noncomputable abbrev tabQOw : List (FuncId × Eng.Fn) := [(F.window_Owner, fn.window_Owner u0)]
theorem tabQOw_ok {d : Nat} : TabOk d tabQOw tt := .cons (ok.window_Owner u0) (TabOk.nil)
theorem owner_run (m : Mat) (c : Caps) (a b : Int) (hm : m.Ok) (hc : capsOk m c) (ha : I64 a) : clRunX 6 tt outsOw tabQOw 2 F.window_Owner [] [matT m c 0 1 2, iv .i64 a, iv .i64 b] (matH m []) (fun x h => Trim 3 x h fun x h => x = iv .i64 (owner1 m a b) ∧ h = matH m []) := by
  have hnW := hm.nW
  have hnG := hm.nG
  repeat((conv=>whnf);first|((with_reducible refine qS ?_ ?_ ?_);exact rfl;exact rfl)|with_reducible refine qB ?_|((with_reducible refine qI ?_ ?_);omega)|((with_reducible refine qDT ?_ ?_);omega)|((with_reducible refine qDF ?_ ?_);omega)|((with_reducible refine qNT ?_ ?_);omega)|((with_reducible refine qNF ?_ ?_);omega)|((with_reducible refine qU8 ?_ ?_);omega)|((with_reducible refine qU32 ?_ ?_);omega)|((with_reducible refine qU64 ?_ ?_);omega)|((with_reducible refine qU16 ?_ ?_);omega))
  conv => whnf
  refine at1_use (m := m) (c := c) hm hc ha ?_
  have e0 : owner1 m a b = if at1 m a b < 0 ∨ (m.W (at1 m a b).toNat).kind ≠ 1 then -1 else (m.G (m.W (at1 m a b).toNat).msg.toNat).ow := rfl
  conv => whnf
  refine cD (fun h1 => ?_) (fun h1 => ?_)
  · repeat((conv=>whnf);first|((with_reducible refine qS ?_ ?_ ?_);exact rfl;exact rfl)|with_reducible refine qB ?_|((with_reducible refine qI ?_ ?_);omega)|((with_reducible refine qDT ?_ ?_);omega)|((with_reducible refine qDF ?_ ?_);omega)|((with_reducible refine qNT ?_ ?_);omega)|((with_reducible refine qNF ?_ ?_);omega)|((with_reducible refine qU8 ?_ ?_);omega)|((with_reducible refine qU32 ?_ ?_);omega)|((with_reducible refine qU64 ?_ ?_);omega)|((with_reducible refine qU16 ?_ ?_);omega))
    conv => whnf
    exact trimM rfl (congrArg (iv .i64) (by rw [e0, if_pos (.inl h1)]))
  obtain ⟨k1, _, k3⟩ := at1_in (by omega : 0 ≤ at1 m a b)
  obtain ⟨i, hi⟩ : ∃ i : Nat, at1 m a b = i := ⟨(at1 m a b).toNat, by omega⟩
  rw [hi] at e0 k3 ⊢
  obtain ⟨w1, w2, _⟩ := (pass_of k1).w (i := i) (by omega)
  rw [Int.toNat_natCast] at e0
  unfold winP at w1
  repeat((conv=>whnf);first|((with_reducible refine qS ?_ ?_ ?_);exact rfl;exact rfl)|with_reducible refine qB ?_|((with_reducible refine qI ?_ ?_);omega)|((with_reducible refine qDT ?_ ?_);omega)|((with_reducible refine qDF ?_ ?_);omega)|((with_reducible refine qNT ?_ ?_);omega)|((with_reducible refine qNF ?_ ?_);omega)|((with_reducible refine qU8 ?_ ?_);omega)|((with_reducible refine qU32 ?_ ?_);omega)|((with_reducible refine qU64 ?_ ?_);omega)|((with_reducible refine qU16 ?_ ?_);omega))
  conv => whnf
  try rw [zi i]
  refine cN (fun h2 => ?_) (fun h2 => ?_)
  · repeat((conv=>whnf);first|((with_reducible refine qS ?_ ?_ ?_);exact rfl;exact rfl)|with_reducible refine qB ?_|((with_reducible refine qI ?_ ?_);omega)|((with_reducible refine qDT ?_ ?_);omega)|((with_reducible refine qDF ?_ ?_);omega)|((with_reducible refine qNT ?_ ?_);omega)|((with_reducible refine qNF ?_ ?_);omega)|((with_reducible refine qU8 ?_ ?_);omega)|((with_reducible refine qU32 ?_ ?_);omega)|((with_reducible refine qU64 ?_ ?_);omega)|((with_reducible refine qU16 ?_ ?_);omega))
    conv => whnf
    exact trimM rfl (congrArg (iv .i64) (by rw [e0, if_pos (.inr h2)]))
  obtain ⟨w3, _⟩ := w2 h2
  repeat((conv=>whnf);first|((with_reducible refine qS ?_ ?_ ?_);exact rfl;exact rfl)|with_reducible refine qB ?_|((with_reducible refine qI ?_ ?_);omega)|((with_reducible refine qDT ?_ ?_);omega)|((with_reducible refine qDF ?_ ?_);omega)|((with_reducible refine qNT ?_ ?_);omega)|((with_reducible refine qNF ?_ ?_);omega)|((with_reducible refine qU8 ?_ ?_);omega)|((with_reducible refine qU32 ?_ ?_);omega)|((with_reducible refine qU64 ?_ ?_);omega)|((with_reducible refine qU16 ?_ ?_);omega))
  conv => whnf
  try rw [zi i]
  repeat((conv=>whnf);first|((with_reducible refine qS ?_ ?_ ?_);exact rfl;exact rfl)|with_reducible refine qB ?_|((with_reducible refine qI ?_ ?_);omega)|((with_reducible refine qDT ?_ ?_);omega)|((with_reducible refine qDF ?_ ?_);omega)|((with_reducible refine qNT ?_ ?_);omega)|((with_reducible refine qNF ?_ ?_);omega)|((with_reducible refine qU8 ?_ ?_);omega)|((with_reducible refine qU32 ?_ ?_);omega)|((with_reducible refine qU64 ?_ ?_);omega)|((with_reducible refine qU16 ?_ ?_);omega))
  conv => whnf
  try rw [zi i]
  repeat((conv=>whnf);first|((with_reducible refine qS ?_ ?_ ?_);exact rfl;exact rfl)|with_reducible refine qB ?_|((with_reducible refine qI ?_ ?_);omega)|((with_reducible refine qDT ?_ ?_);omega)|((with_reducible refine qDF ?_ ?_);omega)|((with_reducible refine qNT ?_ ?_);omega)|((with_reducible refine qNF ?_ ?_);omega)|((with_reducible refine qU8 ?_ ?_);omega)|((with_reducible refine qU32 ?_ ?_);omega)|((with_reducible refine qU64 ?_ ?_);omega)|((with_reducible refine qU16 ?_ ?_);omega))
  conv => whnf
  try rw [za]
  exact trimM rfl (congrArg (iv .i64) (by rw [e0, if_neg (by omega)]))
theorem owner_ok : ConOk Try.prog F.window_Owner ownerC := con_of_run (clRunX_ok (d := 6) ttOk outsOw_ok tabQOw_ok 2) (fn_enters (ok.window_Owner (D := 6) u0 _ (clRunX_ok (d := 6) ttOk .nil TabOk.nil 1))) fun p hp => owner_run p.1 p.2.1 p.2.2.1 p.2.2.2 hp.1 hp.2.1 hp.2.2
/-! ### Texts out of bytes -/
abbrev bC8 (n : Int) : C := .v (.int .u8 n)
abbrev strF (L : Nat) (F : Nat → Int) : ByteArray := mkStr L fun u => [bC8 (F u)]
theorem strF_size (L : Nat) (F : Nat → Int) : (strF L F).size = L := by
  show ((List.range L).map _).toArray.size = L
  simp
theorem strF_bt {L : Nat} {F : Nat → Int} (hF : ∀ i, i < L → 0 ≤ F i ∧ F i ≤ 255) {i : Nat} (hi : i < L) : bt (strF L F) i = F i := by
  have h := hF i hi
  have e : ((strF L F).data.toList.getD i 0) = UInt8.ofNat (F i).toNat := by
    show (((List.range L).map fun i => UInt8.ofNat (F i).toNat).toArray).toList.getD i 0 = _
    simp [hi]
  unfold bt
  rw [e]
  simp only [UInt8.toNat_ofNat']
  omega
theorem mkStr_congr {L : Nat} {f g : Nat → List C} (h : ∀ i, i < L → f i = g i) : mkStr L f = mkStr L g := by
  unfold mkStr
  congr 2
  apply List.map_congr_left
  intro i hi
  rw [h i (by simpa using hi)]
theorem bytes_ok {L : Nat} {f : Nat → List C} (h : ∀ i, i < L → ∃ n, f i = [bC8 n]) : bytesB L f = true := bytesB_mk h
/-! ### Kinds -/
def kindsS (m : Mat) (a : Int) : ByteArray := if (chk m).2 = 0 then strF m.length.toNat (fun u => sgn (kindAt m a u)) else .empty
abbrev strR (s : ByteArray) : R := .t (.one (.v (.string s)))
abbrev kindsC : Con (Mat × Caps × Int) := RoCon (fun p => [matT p.1 p.2.1 0 1 2, iv .i64 p.2.2]) (fun p => matH p.1 []) (fun p => p.1.Ok ∧ capsOk p.1 p.2.1 ∧ I64 p.2.2) fun p => strR (kindsS p.1 p.2.2)
theorem kinds_use {m : Mat} {c : Caps} {a : Int} {rest : Heap} {K : R → Heap → Prop} (hm : m.Ok) (hc : capsOk m c) (ha : I64 a) (hk : K (strR (kindsS m a)) (matH m rest)) : AskC kindsC [matT m c 0 1 2, iv .i64 a] (matH m rest) K :=
  .use (m, c, a) [0, 1, 2] ⟨hm, hc, ha⟩ rfl (mat_le m rest) ⟨mat_lx m c rest, .inl rfl, trivial⟩ hk
def part (F : Nat → Int) (n q : Nat) : Int := if q < n then F q else 0
theorem part_0 (F : Nat → Int) : (fun _ : Nat => [bC8 0]) = fun q => [bC8 (part F 0 q)] := rfl
theorem part_up (F : Nat → Int) (n : Nat) : (fun q => if q = n then [bC8 (F n)] else [bC8 (part F n q)]) = fun q => [bC8 (part F (n + 1) q)] := by
  funext q
  unfold part
  by_cases e : q = n
  · subst e; rw [if_pos rfl, if_pos (Nat.lt_succ_self q)]
  · rw [if_neg e]
    by_cases e2 : q < n
    · rw [if_pos e2, if_pos (by omega)]
    · rw [if_neg e2, if_neg (by omega)]
theorem bt_sgn {k : Int} (h0 : 0 ≤ k) (h3 : k ≤ 3) : bt ⟨#[45, 69, 65, 70]⟩ k.toNat = sgn k := by
  rcases (show k = 0 ∨ k = 1 ∨ k = 2 ∨ k = 3 by omega) with rfl | rfl | rfl | rfl <;> rfl
abbrev boxM (m : Mat) (c : Caps) : HE := .ob (.own [.c (iC m.level), .c (iC m.nodes), .c (iC m.cycles), .c (iC m.length), .c (iC m.enable), .c (iC m.unit), .c (iC m.init), .c (uC m.ref),
  .c (.slc 0 0 1 0 m.nM c.c1 c.z1), .c (.slc 1 0 3 0 m.nG c.c2 c.z2), .c (.slc 2 0 6 0 m.nW c.c3 c.z3)])
noncomputable abbrev tabQKn : List (FuncId × Eng.Fn) := [(F.window_Kinds, fn.window_Kinds u0)]
theorem tabQKn_ok {d : Nat} : TabOk d tabQKn tt := .cons (ok.window_Kinds u0) (TabOk.nil)
theorem kinds_run (m : Mat) (c : Caps) (a : Int) (hm : m.Ok) (hc : capsOk m c) (ha : I64 a) : clRunX 6 tt outsWA tabQKn 2 F.window_Kinds [] [matT m c 0 1 2, iv .i64 a] (matH m []) (fun x h => Trim 3 x h fun x h => x = strR (kindsS m a) ∧ h = matH m []) := by
  have hnW := hm.nW
  repeat((conv=>whnf);first|((with_reducible refine qS ?_ ?_ ?_);exact rfl;exact rfl)|with_reducible refine qB ?_|((with_reducible refine qI ?_ ?_);omega)|((with_reducible refine qDT ?_ ?_);omega)|((with_reducible refine qDF ?_ ?_);omega)|((with_reducible refine qNT ?_ ?_);omega)|((with_reducible refine qNF ?_ ?_);omega)|((with_reducible refine qU8 ?_ ?_);omega)|((with_reducible refine qU32 ?_ ?_);omega)|((with_reducible refine qU64 ?_ ?_);omega)|((with_reducible refine qU16 ?_ ?_);omega))
  conv => whnf
  refine right_use (m := m) (c := c) hm hc ?_
  by_cases h : (chk m).2 = 0
  rotate_left
  · rw [decide_eq_false h]
    repeat((conv=>whnf);first|((with_reducible refine qS ?_ ?_ ?_);exact rfl;exact rfl)|with_reducible refine qB ?_|((with_reducible refine qI ?_ ?_);omega)|((with_reducible refine qDT ?_ ?_);omega)|((with_reducible refine qDF ?_ ?_);omega)|((with_reducible refine qNT ?_ ?_);omega)|((with_reducible refine qNF ?_ ?_);omega)|((with_reducible refine qU8 ?_ ?_);omega)|((with_reducible refine qU32 ?_ ?_);omega)|((with_reducible refine qU64 ?_ ?_);omega)|((with_reducible refine qU16 ?_ ?_);omega))
    conv => whnf
    exact trimM rfl (congrArg strR (if_neg h).symm)
  rw [decide_eq_true h]
  have hP := pass_of h
  have hL := hP.is.head
  unfold headP at hL
  obtain ⟨L, hLn⟩ : ∃ L : Nat, m.length = L := ⟨m.length.toNat, by omega⟩
  have hk : kindsS m a = strF L (fun u => sgn (kindAt m a u)) := by unfold kindsS; rw [if_pos h, hLn]; rfl
  rw [hk]
  repeat((conv=>whnf);first|((with_reducible refine qS ?_ ?_ ?_);exact rfl;exact rfl)|with_reducible refine qB ?_|((with_reducible refine qI ?_ ?_);omega)|((with_reducible refine qDT ?_ ?_);omega)|((with_reducible refine qDF ?_ ?_);omega)|((with_reducible refine qNT ?_ ?_);omega)|((with_reducible refine qNF ?_ ?_);omega)|((with_reducible refine qU8 ?_ ?_);omega)|((with_reducible refine qU32 ?_ ?_);omega)|((with_reducible refine qU64 ?_ ?_);omega)|((with_reducible refine qU16 ?_ ?_);omega))
  conv => whnf
  refine cDT ?_ ?_
  · refine ⟨by omega, by omega, ?_, by omega⟩
    dsimp only
    omega
  rw [show m.length.toNat = L by omega]
  repeat((conv=>whnf);first|((with_reducible refine qS ?_ ?_ ?_);exact rfl;exact rfl)|with_reducible refine qB ?_|((with_reducible refine qI ?_ ?_);omega)|((with_reducible refine qDT ?_ ?_);omega)|((with_reducible refine qDF ?_ ?_);omega)|((with_reducible refine qNT ?_ ?_);omega)|((with_reducible refine qNF ?_ ?_);omega)|((with_reducible refine qU8 ?_ ?_);omega)|((with_reducible refine qU32 ?_ ?_);omega)|((with_reducible refine qU64 ?_ ?_);omega)|((with_reducible refine qU16 ?_ ?_);omega))
  conv => whnf
  refine .inv (fun i : Nat => i ≤ L) (fun i => [(17, iv .i64 i)]) (fun i => matH m [boxM m c, .ob (.row 1 L (fun q => [bC8 (part (fun u => sgn (kindAt m a u)) i q)]) L)]) (fun i => L - i) 0 (Nat.zero_le _) ?_ (fun i hi => ?_)
  · conv => whnf
    refine Le.id rfl ?_ ?_
    all_goals(repeat'(first|exact leT_empty|exact trivial|exact rfl|exact .inl rfl|exact .inr rfl|exact .inr ⟨rfl,rfl⟩|exact Nat.le_refl _|exact Nat.zero_le _|exact fun _ _=>rfl|assumption|refine And.intro ?_ ?_|exact ul0|exact ul1 rfl|exact ul2 rfl rfl|exact ul3 rfl rfl rfl))
  conv => whnf
  refine cD (fun h5 => ?_) (fun h5 => ?_)
  · repeat((conv=>whnf);first|((with_reducible refine qS ?_ ?_ ?_);exact rfl;exact rfl)|with_reducible refine qB ?_|((with_reducible refine qI ?_ ?_);omega)|((with_reducible refine qDT ?_ ?_);omega)|((with_reducible refine qDF ?_ ?_);omega)|((with_reducible refine qNT ?_ ?_);omega)|((with_reducible refine qNF ?_ ?_);omega)|((with_reducible refine qU8 ?_ ?_);omega)|((with_reducible refine qU32 ?_ ?_);omega)|((with_reducible refine qU64 ?_ ?_);omega)|((with_reducible refine qU16 ?_ ?_);omega))
    conv => whnf
    refine at0_use (m := m) (c := c) hm ha ?_
    have hb := at0_bd m a i
    conv => whnf
    refine cD (fun h6 => ?_) (fun h6 => ?_)
    · obtain ⟨j, hj⟩ : ∃ j : Nat, at0 m a i = j := ⟨(at0 m a i).toNat, by omega⟩
      have hw := hP.is.W j (by omega)
      unfold winP at hw
      rw [hj]
      repeat((conv=>whnf);first|((with_reducible refine qS ?_ ?_ ?_);exact rfl;exact rfl)|with_reducible refine qB ?_|((with_reducible refine qI ?_ ?_);omega)|((with_reducible refine qDT ?_ ?_);omega)|((with_reducible refine qDF ?_ ?_);omega)|((with_reducible refine qNT ?_ ?_);omega)|((with_reducible refine qNF ?_ ?_);omega)|((with_reducible refine qU8 ?_ ?_);omega)|((with_reducible refine qU32 ?_ ?_);omega)|((with_reducible refine qU64 ?_ ?_);omega)|((with_reducible refine qU16 ?_ ?_);omega))
      conv => whnf
      try rw [zi j]
      conv => whnf
      refine cDT ⟨by omega, by show (m.W j).kind < 4; omega⟩ ?_
      rw [show bt ⟨#[45, 69, 65, 70]⟩ (m.W j).kind.toNat = sgn (kindAt m a i) from by
        unfold kindAt
        rw [if_pos h6, hj, Int.toNat_natCast]
        exact bt_sgn (by omega) (by omega)]
      repeat((conv=>whnf);first|((with_reducible refine qS ?_ ?_ ?_);exact rfl;exact rfl)|with_reducible refine qB ?_|((with_reducible refine qI ?_ ?_);omega)|((with_reducible refine qDT ?_ ?_);omega)|((with_reducible refine qDF ?_ ?_);omega)|((with_reducible refine qNT ?_ ?_);omega)|((with_reducible refine qNF ?_ ?_);omega)|((with_reducible refine qU8 ?_ ?_);omega)|((with_reducible refine qU32 ?_ ?_);omega)|((with_reducible refine qU64 ?_ ?_);omega)|((with_reducible refine qU16 ?_ ?_);omega))
      conv => whnf
      refine ⟨i + 1, ⟨by omega, by omega⟩, ?_⟩
      conv => whnf
      refine Le.id rfl ?_ ?_
      all_goals(repeat'(first|exact leT_empty|exact trivial|exact rfl|exact .inl rfl|exact .inr rfl|exact .inr ⟨rfl,rfl⟩|exact Nat.le_refl _|exact Nat.zero_le _|exact fun _ _=>rfl|assumption|refine And.intro ?_ ?_|exact ul0|exact ul1 rfl|exact ul2 rfl rfl|exact ul3 rfl rfl rfl))
      intro q hq
      show (if q = 0 + (i : Int).toNat then [bC8 (sgn (kindAt m a i))] else _) = _
      rw [zi i]
      exact congrFun (part_up (fun u => sgn (kindAt m a u)) i) q
    · have e45 : bt ⟨#[45, 69, 65, 70]⟩ (Int.toNat 0) = sgn (kindAt m a i) := by
        unfold kindAt
        rw [if_neg h6]
        exact bt_sgn (by omega) (by omega)
      repeat((conv=>whnf);first|((with_reducible refine qS ?_ ?_ ?_);exact rfl;exact rfl)|with_reducible refine qB ?_|((with_reducible refine qI ?_ ?_);omega)|((with_reducible refine qDT ?_ ?_);omega)|((with_reducible refine qDF ?_ ?_);omega)|((with_reducible refine qNT ?_ ?_);omega)|((with_reducible refine qNF ?_ ?_);omega)|((with_reducible refine qU8 ?_ ?_);omega)|((with_reducible refine qU32 ?_ ?_);omega)|((with_reducible refine qU64 ?_ ?_);omega)|((with_reducible refine qU16 ?_ ?_);omega))
      conv => whnf
      refine ⟨i + 1, ⟨by omega, by omega⟩, ?_⟩
      conv => whnf
      refine Le.id rfl ?_ ?_
      all_goals(repeat'(first|exact leT_empty|exact trivial|exact rfl|exact .inl rfl|exact .inr rfl|exact .inr ⟨rfl,rfl⟩|exact Nat.le_refl _|exact Nat.zero_le _|exact fun _ _=>rfl|assumption|refine And.intro ?_ ?_|exact ul0|exact ul1 rfl|exact ul2 rfl rfl|exact ul3 rfl rfl rfl))
      intro q hq
      show (if q = 0 + (i : Int).toNat then [bC8 (bt ⟨#[45, 69, 65, 70]⟩ (Int.toNat 0))] else _) = _
      rw [zi i, e45]
      exact congrFun (part_up (fun u => sgn (kindAt m a u)) i) q
  · obtain rfl : i = L := by omega
    repeat((conv=>whnf);first|((with_reducible refine qS ?_ ?_ ?_);exact rfl;exact rfl)|with_reducible refine qB ?_|((with_reducible refine qI ?_ ?_);omega)|((with_reducible refine qDT ?_ ?_);omega)|((with_reducible refine qDF ?_ ?_);omega)|((with_reducible refine qNT ?_ ?_);omega)|((with_reducible refine qNF ?_ ?_);omega)|((with_reducible refine qU8 ?_ ?_);omega)|((with_reducible refine qU32 ?_ ?_);omega)|((with_reducible refine qU64 ?_ ?_);omega)|((with_reducible refine qU16 ?_ ?_);omega))
    conv => whnf
    refine cT (bytesB_mk fun q hq => ⟨_, rfl⟩) ?_
    repeat((conv=>whnf);first|((with_reducible refine qS ?_ ?_ ?_);exact rfl;exact rfl)|with_reducible refine qB ?_|((with_reducible refine qI ?_ ?_);omega)|((with_reducible refine qDT ?_ ?_);omega)|((with_reducible refine qDF ?_ ?_);omega)|((with_reducible refine qNT ?_ ?_);omega)|((with_reducible refine qNF ?_ ?_);omega)|((with_reducible refine qU8 ?_ ?_);omega)|((with_reducible refine qU32 ?_ ?_);omega)|((with_reducible refine qU64 ?_ ?_);omega)|((with_reducible refine qU16 ?_ ?_);omega))
    conv => whnf
    refine trimM rfl (congrArg strR (mkStr_congr fun q hq => ?_))
    show [bC8 (part _ i (0 + q))] = _
    unfold part
    rw [Nat.zero_add, if_pos hq]
theorem kinds_ok : ConOk Try.prog F.window_Kinds kindsC := con_of_run (clRunX_ok (d := 6) ttOk outsWA_ok tabQKn_ok 2) (fn_enters (ok.window_Kinds (D := 6) u0 _ (clRunX_ok (d := 6) ttOk .nil TabOk.nil 1))) fun p hp => kinds_run p.1 p.2.1 p.2.2 hp.1 hp.2.1 hp.2.2
/-! ### Free -/
def free1 (m : Mat) (a : Int) : Int := if (chk m).2 = 0 then (freeN (fun u => sgn (kindAt m a u)) m.length.toNat : Nat) else 0
abbrev freeC : Con (Mat × Caps × Int) := RoCon (fun p => [matT p.1 p.2.1 0 1 2, iv .i64 p.2.2]) (fun p => matH p.1 []) (fun p => p.1.Ok ∧ capsOk p.1 p.2.1 ∧ I64 p.2.2) fun p => iv .i64 (free1 p.1 p.2.2)
theorem free_use {m : Mat} {c : Caps} {a : Int} {rest : Heap} {K : R → Heap → Prop} (hm : m.Ok) (hc : capsOk m c) (ha : I64 a) (hk : K (iv .i64 (free1 m a)) (matH m rest)) : AskC freeC [matT m c 0 1 2, iv .i64 a] (matH m rest) K :=
  .use (m, c, a) [0, 1, 2] ⟨hm, hc, ha⟩ rfl (mat_le m rest) ⟨mat_lx m c rest, .inl rfl, trivial⟩ hk
abbrev outsKn : List (FuncId × Cx) := [(F.window_Kinds, AskC kindsC)]
theorem outsKn_ok : OutsOk Try.prog outsKn := .cons (ask_ok kinds_ok) .nil
noncomputable abbrev tabQFr : List (FuncId × Eng.Fn) := [(F.window_Free, fn.window_Free u0)]
theorem tabQFr_ok {d : Nat} : TabOk d tabQFr tt := .cons (ok.window_Free u0) (TabOk.nil)
theorem free_run (m : Mat) (c : Caps) (a : Int) (hm : m.Ok) (hc : capsOk m c) (ha : I64 a) : clRunX 5 tt outsKn tabQFr 2 F.window_Free [] [matT m c 0 1 2, iv .i64 a] (matH m []) (fun x h => Trim 3 x h fun x h => x = iv .i64 (free1 m a) ∧ h = matH m []) := by
  repeat((conv=>whnf);first|((with_reducible refine qS ?_ ?_ ?_);exact rfl;exact rfl)|with_reducible refine qB ?_|((with_reducible refine qI ?_ ?_);omega)|((with_reducible refine qDT ?_ ?_);omega)|((with_reducible refine qDF ?_ ?_);omega)|((with_reducible refine qNT ?_ ?_);omega)|((with_reducible refine qNF ?_ ?_);omega)|((with_reducible refine qU8 ?_ ?_);omega)|((with_reducible refine qU32 ?_ ?_);omega)|((with_reducible refine qU64 ?_ ?_);omega)|((with_reducible refine qU16 ?_ ?_);omega))
  conv => whnf
  refine kinds_use (m := m) (c := c) hm hc ha ?_
  by_cases h : (chk m).2 = 0
  rotate_left
  · rw [show kindsS m a = .empty from if_neg h, show free1 m a = 0 from if_neg h]
    repeat((conv=>whnf);first|((with_reducible refine qS ?_ ?_ ?_);exact rfl;exact rfl)|with_reducible refine qB ?_|((with_reducible refine qI ?_ ?_);omega)|((with_reducible refine qDT ?_ ?_);omega)|((with_reducible refine qDF ?_ ?_);omega)|((with_reducible refine qNT ?_ ?_);omega)|((with_reducible refine qNF ?_ ?_);omega)|((with_reducible refine qU8 ?_ ?_);omega)|((with_reducible refine qU32 ?_ ?_);omega)|((with_reducible refine qU64 ?_ ?_);omega)|((with_reducible refine qU16 ?_ ?_);omega))
    conv => whnf
    refine .rd (fun _ : Unit => True) (fun _ => [(5, iv .i64 0)]) (fun _ => 0) () trivial ?_ (fun _ _ => ?_)
    · conv => whnf
      refine Le.id rfl ?_ ?_
      all_goals(repeat'(first|exact leT_empty|exact trivial|exact rfl|exact .inl rfl|exact .inr rfl|exact .inr ⟨rfl,rfl⟩|exact Nat.le_refl _|exact Nat.zero_le _|exact fun _ _=>rfl|assumption|refine And.intro ?_ ?_|exact ul0|exact ul1 rfl|exact ul2 rfl rfl|exact ul3 rfl rfl rfl))
    repeat((conv=>whnf);first|((with_reducible refine qS ?_ ?_ ?_);exact rfl;exact rfl)|with_reducible refine qB ?_|((with_reducible refine qI ?_ ?_);omega)|((with_reducible refine qDT ?_ ?_);omega)|((with_reducible refine qDF ?_ ?_);omega)|((with_reducible refine qNT ?_ ?_);omega)|((with_reducible refine qNF ?_ ?_);omega)|((with_reducible refine qU8 ?_ ?_);omega)|((with_reducible refine qU32 ?_ ?_);omega)|((with_reducible refine qU64 ?_ ?_);omega)|((with_reducible refine qU16 ?_ ?_);omega))
    conv => whnf
    exact trimM rfl rfl
  have hP := pass_of h
  have hL := hP.is.head
  unfold headP at hL
  obtain ⟨L, hLn⟩ : ∃ L : Nat, m.length = L := ⟨m.length.toNat, by omega⟩
  rw [show kindsS m a = strF L (fun u => sgn (kindAt m a u)) from by unfold kindsS; rw [if_pos h, hLn]; rfl, show free1 m a = (freeN (fun u => sgn (kindAt m a u)) L : Nat) from by unfold free1; rw [if_pos h, hLn]; rfl]
  have hF : ∀ i, i < L → 0 ≤ sgn (kindAt m a i) ∧ sgn (kindAt m a i) ≤ 255 := fun i _ => by have := sgn_bd (kindAt m a i); omega
  generalize hG : (fun u : Nat => sgn (kindAt m a u)) = G at *
  have hF : ∀ i, i < L → 0 ≤ G i ∧ G i ≤ 255 := fun i hi => by rw [← hG]; exact hF i hi
  have hG1 : ∀ i, i < L → G i ≤ 70 := fun i _ => by rw [← hG]; exact (sgn_bd _).2
  have hfn := freeN_le G
  repeat((conv=>whnf);first|((with_reducible refine qS ?_ ?_ ?_);exact rfl;exact rfl)|with_reducible refine qB ?_|((with_reducible refine qI ?_ ?_);omega)|((with_reducible refine qDT ?_ ?_);omega)|((with_reducible refine qDF ?_ ?_);omega)|((with_reducible refine qNT ?_ ?_);omega)|((with_reducible refine qNF ?_ ?_);omega)|((with_reducible refine qU8 ?_ ?_);omega)|((with_reducible refine qU32 ?_ ?_);omega)|((with_reducible refine qU64 ?_ ?_);omega)|((with_reducible refine qU16 ?_ ?_);omega))
  conv => whnf
  refine .inv (fun i : Nat => i ≤ L) (fun i => [(5, iv .i64 (freeN G i : Nat))]) (fun i => matH m [boxM m c, .ob (.raw (.sit (strF L G) i))]) (fun i => L - i) 0 (Nat.zero_le _) ?_ (fun i hi => ?_)
  · conv => whnf
    refine Le.id rfl ?_ ?_
    all_goals(repeat'(first|exact leT_empty|exact trivial|exact rfl|exact .inl rfl|exact .inr rfl|exact .inr ⟨rfl,rfl⟩|exact Nat.le_refl _|exact Nat.zero_le _|exact fun _ _=>rfl|assumption|refine And.intro ?_ ?_|exact ul0|exact ul1 rfl|exact ul2 rfl rfl|exact ul3 rfl rfl rfl))
  conv => whnf
  refine cD (fun h5 => ?_) (fun h5 => ?_)
  · rw [strF_size] at h5
    have e := strF_bt hF h5
    have := hG1 i h5
    have := hfn i
    refine ⟨by rw [e]; omega, ?_⟩
    rw [e]
    conv => whnf
    refine cD (fun h6 => ?_) (fun h6 => ?_)
    · have e2 : freeN G (i + 1) = freeN G i + 1 := by simp only [freeN]; rw [if_pos (.inl h6)]
      repeat((conv=>whnf);first|((with_reducible refine qS ?_ ?_ ?_);exact rfl;exact rfl)|with_reducible refine qB ?_|((with_reducible refine qI ?_ ?_);omega)|((with_reducible refine qDT ?_ ?_);omega)|((with_reducible refine qDF ?_ ?_);omega)|((with_reducible refine qNT ?_ ?_);omega)|((with_reducible refine qNF ?_ ?_);omega)|((with_reducible refine qU8 ?_ ?_);omega)|((with_reducible refine qU32 ?_ ?_);omega)|((with_reducible refine qU64 ?_ ?_);omega)|((with_reducible refine qU16 ?_ ?_);omega))
      conv => whnf
      rw [show ((freeN G i : Nat) : Int) + 1 = ((freeN G (i + 1) : Nat) : Int) by omega]
      refine ⟨i + 1, ⟨by omega, by omega⟩, ?_⟩
      conv => whnf
      refine Le.id rfl ?_ ?_
      all_goals(repeat'(first|exact leT_empty|exact trivial|exact rfl|exact .inl rfl|exact .inr rfl|exact .inr ⟨rfl,rfl⟩|exact Nat.le_refl _|exact Nat.zero_le _|exact fun _ _=>rfl|assumption|refine And.intro ?_ ?_|exact ul0|exact ul1 rfl|exact ul2 rfl rfl|exact ul3 rfl rfl rfl))
    conv => whnf
    refine cD (fun h7 => ?_) (fun h7 => ?_)
    · have e2 : freeN G (i + 1) = freeN G i + 1 := by simp only [freeN]; rw [if_pos (.inr h7)]
      repeat((conv=>whnf);first|((with_reducible refine qS ?_ ?_ ?_);exact rfl;exact rfl)|with_reducible refine qB ?_|((with_reducible refine qI ?_ ?_);omega)|((with_reducible refine qDT ?_ ?_);omega)|((with_reducible refine qDF ?_ ?_);omega)|((with_reducible refine qNT ?_ ?_);omega)|((with_reducible refine qNF ?_ ?_);omega)|((with_reducible refine qU8 ?_ ?_);omega)|((with_reducible refine qU32 ?_ ?_);omega)|((with_reducible refine qU64 ?_ ?_);omega)|((with_reducible refine qU16 ?_ ?_);omega))
      conv => whnf
      rw [show ((freeN G i : Nat) : Int) + 1 = ((freeN G (i + 1) : Nat) : Int) by omega]
      refine ⟨i + 1, ⟨by omega, by omega⟩, ?_⟩
      conv => whnf
      refine Le.id rfl ?_ ?_
      all_goals(repeat'(first|exact leT_empty|exact trivial|exact rfl|exact .inl rfl|exact .inr rfl|exact .inr ⟨rfl,rfl⟩|exact Nat.le_refl _|exact Nat.zero_le _|exact fun _ _=>rfl|assumption|refine And.intro ?_ ?_|exact ul0|exact ul1 rfl|exact ul2 rfl rfl|exact ul3 rfl rfl rfl))
    · have e2 : freeN G i = freeN G (i + 1) := by simp only [freeN]; rw [if_neg (by omega)]; rfl
      repeat((conv=>whnf);first|((with_reducible refine qS ?_ ?_ ?_);exact rfl;exact rfl)|with_reducible refine qB ?_|((with_reducible refine qI ?_ ?_);omega)|((with_reducible refine qDT ?_ ?_);omega)|((with_reducible refine qDF ?_ ?_);omega)|((with_reducible refine qNT ?_ ?_);omega)|((with_reducible refine qNF ?_ ?_);omega)|((with_reducible refine qU8 ?_ ?_);omega)|((with_reducible refine qU32 ?_ ?_);omega)|((with_reducible refine qU64 ?_ ?_);omega)|((with_reducible refine qU16 ?_ ?_);omega))
      conv => whnf
      rw [e2]
      refine ⟨i + 1, ⟨by omega, by omega⟩, ?_⟩
      conv => whnf
      refine Le.id rfl ?_ ?_
      all_goals(repeat'(first|exact leT_empty|exact trivial|exact rfl|exact .inl rfl|exact .inr rfl|exact .inr ⟨rfl,rfl⟩|exact Nat.le_refl _|exact Nat.zero_le _|exact fun _ _=>rfl|assumption|refine And.intro ?_ ?_|exact ul0|exact ul1 rfl|exact ul2 rfl rfl|exact ul3 rfl rfl rfl))
  · rw [strF_size] at h5
    obtain rfl : i = L := by omega
    repeat((conv=>whnf);first|((with_reducible refine qS ?_ ?_ ?_);exact rfl;exact rfl)|with_reducible refine qB ?_|((with_reducible refine qI ?_ ?_);omega)|((with_reducible refine qDT ?_ ?_);omega)|((with_reducible refine qDF ?_ ?_);omega)|((with_reducible refine qNT ?_ ?_);omega)|((with_reducible refine qNF ?_ ?_);omega)|((with_reducible refine qU8 ?_ ?_);omega)|((with_reducible refine qU32 ?_ ?_);omega)|((with_reducible refine qU64 ?_ ?_);omega)|((with_reducible refine qU16 ?_ ?_);omega))
    conv => whnf
    exact trimM rfl rfl
theorem free_ok : ConOk Try.prog F.window_Free freeC := con_of_run (clRunX_ok (d := 5) ttOk outsKn_ok tabQFr_ok 2) (fn_enters (ok.window_Free (D := 5) u0 _ (clRunX_ok (d := 5) ttOk .nil TabOk.nil 1))) fun p hp => free_run p.1 p.2.1 p.2.2 hp.1 hp.2.1 hp.2.2
end Go.Proofs.Ytbdifadabipfiaa.Co
