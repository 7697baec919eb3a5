/- Contracts: the reference's check. -/
import Derived.Test.YtbdifadabipfiaaCoJ
namespace Go.Proofs.Ytbdifadabipfiaa.Co
open Go Go.Eng Go.Proofs Go.Proofs.Ytbdifadabipfiaa.Tb Go.Pu
set_option maxRecDepth 100000
set_option maxHeartbeats 8000000
/-! ### Step -/
abbrev outsR2 : List (FuncId × Cx) := (F.ref12_Is, AskC isC) :: outsR1
theorem outsR2_ok : OutsOk Try.prog outsR2 := .cons (ask_ok isR_ok) outsR1_ok
noncomputable abbrev tabSr : List (FuncId × Eng.Fn) := [(F.ref12_Step, fn.ref12_Step u0)]
theorem tabSr_ok {d : Nat} : TabOk d tabSr tt := .cons (ok.ref12_Step u0) (TabOk.nil)
theorem stepR_run (m : Mat) (c : Caps) (hm : m.Ok) : clRunX 4 tt outsR2 tabSr 2 F.ref12_Step [] [matT m c 0 1 2] (matH m []) (fun x h => Trim 3 x h fun x h => x = iv .i64 (Pu.step m) ∧ h = matH m []) := by
  conv => whnf
  refine is_use (m := m) (c := c) hm ?_
  rcases Bool.eq_false_or_eq_true (isM m) with hi | hi <;> rw [hi]
  rotate_left
  · conv => whnf
    exact trimM rfl (congrArg (iv .i64) (by unfold Pu.step; rw [hi]; rfl))
  have hI := isM_iff.1 hi
  obtain ⟨_, _, _, _, _, _, _, g1, g2, g3, g4, _⟩ := hI.head
  have hu := units_bd g3 g4
  conv => whnf
  refine units_use (m := m) (c := c) ?_
  repeat((conv=>whnf);first|((with_reducible refine qS ?_ ?_ ?_);exact rfl;exact rfl)|with_reducible refine qB ?_|((with_reducible refine qI ?_ ?_);omega)|((with_reducible refine qDT ?_ ?_);omega)|((with_reducible refine qDF ?_ ?_);omega)|((with_reducible refine qNT ?_ ?_);omega)|((with_reducible refine qNF ?_ ?_);omega)|((with_reducible refine qU8 ?_ ?_);omega)|((with_reducible refine qU32 ?_ ?_);omega)|((with_reducible refine qU64 ?_ ?_);omega)|((with_reducible refine qU16 ?_ ?_);omega))
  conv => whnf
  exact trimM rfl (congrArg (iv .i64) (step_of hI).symm)
theorem stepR_ok : ConOk Try.prog F.ref12_Step stepC := con_of_run (clRunX_ok (d := 4) ttOk outsR2_ok tabSr_ok 2) (fn_enters (ok.ref12_Step (D := 4) u0 _ (clRunX_ok (d := 4) ttOk .nil TabOk.nil 1))) fun p hp => stepR_run p.1 p.2 hp
/-! ### Rank, Find -/
def rank (m : Mat) (v : Int) : Int := first m.nM fun j => decide (m.M j = v)
def find (m : Mat) (id : Int) : Int := first m.nG fun j => decide ((m.G j).id = id)
abbrev rankC : Con (Mat × Caps × Int) := RoCon (fun p => [matT p.1 p.2.1 0 1 2, iv .i64 p.2.2]) (fun p => matH p.1 []) (fun p => p.1.Ok) fun p => iv .i64 (rank p.1 p.2.2)
theorem rank_use {m : Mat} {c : Caps} {v : Int} {rest : Heap} {K : R → Heap → Prop} (hm : m.Ok) (hk : K (iv .i64 (rank m v)) (matH m rest)) : AskC rankC [matT m c 0 1 2, iv .i64 v] (matH m rest) K :=
  .use (m, c, v) [0, 1, 2] hm rfl (mat_le m rest) ⟨mat_lx m c rest, .inl rfl, trivial⟩ hk
noncomputable abbrev tabRr : List (FuncId × Eng.Fn) := [(F.ref12_Rank, fn.ref12_Rank u0)]
theorem tabRr_ok {d : Nat} : TabOk d tabRr tt := .cons (ok.ref12_Rank u0) (TabOk.nil)
theorem rankR_run (m : Mat) (c : Caps) (v : Int) (hm : m.Ok) : clRunX 5 tt outs0 tabRr 2 F.ref12_Rank [] [matT m c 0 1 2, iv .i64 v] (matH m []) (fun x h => Trim 3 x h fun x h => x = iv .i64 (rank m v) ∧ h = matH m []) := by
  have hnM := hm.nM
  conv => whnf
  refine .rd (fun i : Nat => i ≤ m.nM ∧ ∀ j, j < i → ¬ m.M j = v) (fun i => [(5, iv .i64 i)]) (fun i => m.nM - i) 0 ⟨Nat.zero_le _, all_0⟩ ?_ (fun i ⟨hi, hp⟩ => ?_)
  · conv=>whnf
    refine Le.id rfl ?_ ?_<;>repeat'(first|exact leT_empty|exact trivial|exact rfl|exact fun _ _=>rfl|exact .inl rfl|exact Nat.le_refl _|refine And.intro ?_ ?_)
  conv => whnf
  refine cD (fun h5 => ?_) (fun h5 => ?_)
  · repeat((conv=>whnf);first|((with_reducible refine qS ?_ ?_ ?_);exact rfl;exact rfl)|with_reducible refine qB ?_|((with_reducible refine qI ?_ ?_);omega)|((with_reducible refine qDT ?_ ?_);omega)|((with_reducible refine qDF ?_ ?_);omega)|((with_reducible refine qNT ?_ ?_);omega)|((with_reducible refine qNF ?_ ?_);omega)|((with_reducible refine qU8 ?_ ?_);omega)|((with_reducible refine qU32 ?_ ?_);omega)|((with_reducible refine qU64 ?_ ?_);omega)|((with_reducible refine qU16 ?_ ?_);omega))
    conv => whnf
    try rw [zi i]
    refine cD (fun h6 => ?_) (fun h6 => ?_)
    · conv => whnf
      exact trimM rfl (congrArg (iv .i64) (first_some (by omega) (fun q hq => decide_eq_false (hp q hq)) (decide_eq_true h6)).symm)
    · repeat((conv=>whnf);first|((with_reducible refine qS ?_ ?_ ?_);exact rfl;exact rfl)|with_reducible refine qB ?_|((with_reducible refine qI ?_ ?_);omega)|((with_reducible refine qDT ?_ ?_);omega)|((with_reducible refine qDF ?_ ?_);omega)|((with_reducible refine qNT ?_ ?_);omega)|((with_reducible refine qNF ?_ ?_);omega)|((with_reducible refine qU8 ?_ ?_);omega)|((with_reducible refine qU32 ?_ ?_);omega)|((with_reducible refine qU64 ?_ ?_);omega)|((with_reducible refine qU16 ?_ ?_);omega))
      conv => whnf
      refine ⟨i + 1, ⟨⟨by omega, all_up hp h6⟩, by omega⟩, ?_⟩
      conv=>whnf
      refine Le.id rfl ?_ ?_<;>repeat'(first|exact leT_empty|exact trivial|exact rfl|exact fun _ _=>rfl|exact .inl rfl|exact Nat.le_refl _|refine And.intro ?_ ?_)
  obtain rfl : i = m.nM := by omega
  conv => whnf
  exact trimM rfl (congrArg (iv .i64) (first_none fun j hj => decide_eq_false (hp j hj)).symm)
theorem rankR_ok : ConOk Try.prog F.ref12_Rank rankC := con_of_run (clRunX_ok (d := 5) ttOk outs0_ok tabRr_ok 2) (fn_enters (ok.ref12_Rank (D := 5) u0 _ (clRunX_ok (d := 5) ttOk .nil TabOk.nil 1))) fun p hp => rankR_run p.1 p.2.1 p.2.2 hp
def frmT (ext : Bool) (id : Int) (rtr : Bool) (s : ByteArray) : R := .t (.agg [.c (bC ext), .c (uC id), .c (bC rtr), .c (.v (.string s))])
abbrev findC : Con (Mat × Caps × Int × ByteArray) := RoCon (fun p => [matT p.1 p.2.1 0 1 2, frmT false p.2.2.1 false p.2.2.2]) (fun p => matH p.1 []) (fun p => p.1.Ok) fun p => iv .i64 (find p.1 p.2.2.1)
theorem find_use {m : Mat} {c : Caps} {v : Int} {s : ByteArray} {rest : Heap} {K : R → Heap → Prop} (hm : m.Ok) (hk : K (iv .i64 (find m v)) (matH m rest)) : AskC findC [matT m c 0 1 2, frmT false v false s] (matH m rest) K :=
  .use (m, c, v, s) [0, 1, 2] hm rfl (mat_le m rest) ⟨mat_lx m c rest, ⟨.inl rfl, .inl rfl, .inl rfl, .inl rfl, trivial⟩, trivial⟩ hk
noncomputable abbrev tabFr : List (FuncId × Eng.Fn) := [(F.ref12_Find, fn.ref12_Find u0)]
theorem tabFr_ok {d : Nat} : TabOk d tabFr tt := .cons (ok.ref12_Find u0) (TabOk.nil)
theorem findR_run (m : Mat) (c : Caps) (v : Int) (s : ByteArray) (hm : m.Ok) : clRunX 6 tt outs0 tabFr 2 F.ref12_Find [] [matT m c 0 1 2, frmT false v false s] (matH m []) (fun x h => Trim 3 x h fun x h => x = iv .i64 (find m v) ∧ h = matH m []) := by
  have hnG := hm.nG
  conv => whnf
  refine .rd (fun i : Nat => i ≤ m.nG ∧ ∀ j, j < i → ¬ (m.G j).id = v) (fun i => [(5, iv .i64 i)]) (fun i => m.nG - i) 0 ⟨Nat.zero_le _, all_0⟩ ?_ (fun i ⟨hi, hp⟩ => ?_)
  · conv=>whnf
    refine Le.id rfl ?_ ?_<;>repeat'(first|exact leT_empty|exact trivial|exact rfl|exact fun _ _=>rfl|exact .inl rfl|exact Nat.le_refl _|refine And.intro ?_ ?_)
  conv => whnf
  refine cD (fun h5 => ?_) (fun h5 => ?_)
  · repeat((conv=>whnf);first|((with_reducible refine qS ?_ ?_ ?_);exact rfl;exact rfl)|with_reducible refine qB ?_|((with_reducible refine qI ?_ ?_);omega)|((with_reducible refine qDT ?_ ?_);omega)|((with_reducible refine qDF ?_ ?_);omega)|((with_reducible refine qNT ?_ ?_);omega)|((with_reducible refine qNF ?_ ?_);omega)|((with_reducible refine qU8 ?_ ?_);omega)|((with_reducible refine qU32 ?_ ?_);omega)|((with_reducible refine qU64 ?_ ?_);omega)|((with_reducible refine qU16 ?_ ?_);omega))
    conv => whnf
    try rw [zi i]
    refine cD (fun h6 => ?_) (fun h6 => ?_)
    · conv => whnf
      exact trimM rfl (congrArg (iv .i64) (first_some (by omega) (fun q hq => decide_eq_false (hp q hq)) (decide_eq_true h6)).symm)
    · repeat((conv=>whnf);first|((with_reducible refine qS ?_ ?_ ?_);exact rfl;exact rfl)|with_reducible refine qB ?_|((with_reducible refine qI ?_ ?_);omega)|((with_reducible refine qDT ?_ ?_);omega)|((with_reducible refine qDF ?_ ?_);omega)|((with_reducible refine qNT ?_ ?_);omega)|((with_reducible refine qNF ?_ ?_);omega)|((with_reducible refine qU8 ?_ ?_);omega)|((with_reducible refine qU32 ?_ ?_);omega)|((with_reducible refine qU64 ?_ ?_);omega)|((with_reducible refine qU16 ?_ ?_);omega))
      conv => whnf
      refine ⟨i + 1, ⟨⟨by omega, all_up hp h6⟩, by omega⟩, ?_⟩
      conv=>whnf
      refine Le.id rfl ?_ ?_<;>repeat'(first|exact leT_empty|exact trivial|exact rfl|exact fun _ _=>rfl|exact .inl rfl|exact Nat.le_refl _|refine And.intro ?_ ?_)
  obtain rfl : i = m.nG := by omega
  conv => whnf
  exact trimM rfl (congrArg (iv .i64) (first_none fun j hj => decide_eq_false (hp j hj)).symm)
theorem findR_ok : ConOk Try.prog F.ref12_Find findC := con_of_run (clRunX_ok (d := 6) ttOk outs0_ok tabFr_ok 2) (fn_enters (ok.ref12_Find (D := 6) u0 _ (clRunX_ok (d := 6) ttOk .nil TabOk.nil 1))) fun p hp => findR_run p.1 p.2.1 p.2.2.1 p.2.2.2 hp
/-! ### Meet -/
noncomputable abbrev tabMr : List (FuncId × Eng.Fn) := [(F.ref12_Meet, fn.ref12_Meet u0)]
theorem tabMr_ok {d : Nat} : TabOk d tabMr tt := .cons (ok.ref12_Meet u0) (TabOk.nil)
theorem meetR_run (m : Mat) (c : Caps) (a b : Int) (hm : m.Ok) : clRunX 7 tt outsR1 tabMr 2 F.ref12_Meet [] [matT m c 0 1 2, iv .i64 a, iv .i64 b] (matH m []) (fun x h => Trim 3 x h fun x h => x = bv (meet m a b) ∧ h = matH m []) := by
  have hnW := hm.nW
  have hcy := hm.cycles
  unfold I64 at hcy
  repeat((conv=>whnf);first|((with_reducible refine qS ?_ ?_ ?_);exact rfl;exact rfl)|with_reducible refine qB ?_|((with_reducible refine qI ?_ ?_);omega)|((with_reducible refine qDT ?_ ?_);omega)|((with_reducible refine qDF ?_ ?_);omega)|((with_reducible refine qNT ?_ ?_);omega)|((with_reducible refine qNF ?_ ?_);omega)|((with_reducible refine qU8 ?_ ?_);omega)|((with_reducible refine qU32 ?_ ?_);omega)|((with_reducible refine qU64 ?_ ?_);omega)|((with_reducible refine qU16 ?_ ?_);omega))
  conv => whnf
  refine within_use ?_
  conv => whnf
  refine cN (fun h1 => ?_) (fun h1 => ?_)
  · conv => whnf
    exact trimM rfl (congrArg bv (meet_no (by omega)))
  repeat((conv=>whnf);first|((with_reducible refine qS ?_ ?_ ?_);exact rfl;exact rfl)|with_reducible refine qB ?_|((with_reducible refine qI ?_ ?_);omega)|((with_reducible refine qDT ?_ ?_);omega)|((with_reducible refine qDF ?_ ?_);omega)|((with_reducible refine qNT ?_ ?_);omega)|((with_reducible refine qNF ?_ ?_);omega)|((with_reducible refine qU8 ?_ ?_);omega)|((with_reducible refine qU32 ?_ ?_);omega)|((with_reducible refine qU64 ?_ ?_);omega)|((with_reducible refine qU16 ?_ ?_);omega))
  conv => whnf
  refine within_use ?_
  conv => whnf
  refine cN (fun h2 => ?_) (fun h2 => ?_)
  · conv => whnf
    exact trimM rfl (congrArg bv (meet_no (by omega)))
  have hin := meet_in (m := m) (a := a) (b := b) ⟨by omega, by omega, by omega, by omega⟩
  repeat((conv=>whnf);first|((with_reducible refine qS ?_ ?_ ?_);exact rfl;exact rfl)|with_reducible refine qB ?_|((with_reducible refine qI ?_ ?_);omega)|((with_reducible refine qDT ?_ ?_);omega)|((with_reducible refine qDF ?_ ?_);omega)|((with_reducible refine qNT ?_ ?_);omega)|((with_reducible refine qNF ?_ ?_);omega)|((with_reducible refine qU8 ?_ ?_);omega)|((with_reducible refine qU32 ?_ ?_);omega)|((with_reducible refine qU64 ?_ ?_);omega)|((with_reducible refine qU16 ?_ ?_);omega))
  conv => whnf
  refine ⟨?_, ?_⟩
  all_goals
    repeat((conv=>whnf);first|((with_reducible refine qS ?_ ?_ ?_);exact rfl;exact rfl)|with_reducible refine qB ?_|((with_reducible refine qI ?_ ?_);omega)|((with_reducible refine qDT ?_ ?_);omega)|((with_reducible refine qDF ?_ ?_);omega)|((with_reducible refine qNT ?_ ?_);omega)|((with_reducible refine qNF ?_ ?_);omega)|((with_reducible refine qU8 ?_ ?_);omega)|((with_reducible refine qU32 ?_ ?_);omega)|((with_reducible refine qU64 ?_ ?_);omega)|((with_reducible refine qU16 ?_ ?_);omega))
    conv => whnf
    try rw [za a]
    try rw [za b]
    refine cD (fun h3 => ?_) (fun h3 => ?_)
    · conv => whnf
      exact trimM rfl (congrArg bv (by rw [hin, meetW_no (by omega)]))
    conv => whnf
    refine cD (fun h4 => ?_) (fun h4 => ?_)
    · conv => whnf
      exact trimM rfl (congrArg bv (by rw [hin, meetW_no (by omega)]))
    conv => whnf
    refine .rd (fun i : Nat => i ≤ (min (max m.cycles 0) 8).toNat ∧ ∀ j : Nat, j < i → (comes (m.W a.toNat).cyc (m.W a.toNat).rep j && comes (m.W b.toNat).cyc (m.W b.toNat).rep j) = false) (fun i => [(9, iv .i64 i)]) (fun i => (min (max m.cycles 0) 8).toNat - i) 0 ⟨Nat.zero_le _, all_0⟩ ?_ (fun i ⟨hi, hp⟩ => ?_)
    · conv=>whnf
      refine Le.id rfl ?_ ?_<;>repeat'(first|exact leT_empty|exact trivial|exact rfl|exact fun _ _=>rfl|exact .inl rfl|exact Nat.le_refl _|refine And.intro ?_ ?_)
    have out : ¬ ((i : Int) < m.cycles ∧ (i : Int) < 8) → false = meet m a b := fun h5 => by
      obtain rfl : i = (min (max m.cycles 0) 8).toNat := by omega
      rw [hin, meetW_none hp]
    conv => whnf
    refine cD (fun h5 => ?_) (fun h5 => ?_)
    rotate_left
    · conv => whnf
      exact trimM rfl (congrArg bv (out (by omega)))
    conv => whnf
    refine cD (fun h6 => ?_) (fun h6 => ?_)
    rotate_left
    · conv => whnf
      exact trimM rfl (congrArg bv (out (by omega)))
    conv => whnf
    refine comes_use (by unfold I64; omega) ?_
    rcases Bool.eq_false_or_eq_true (comes (m.W a.toNat).cyc (m.W a.toNat).rep i) with hc1 | hc1 <;> rw [hc1]
    rotate_left
    · repeat((conv=>whnf);first|((with_reducible refine qS ?_ ?_ ?_);exact rfl;exact rfl)|with_reducible refine qB ?_|((with_reducible refine qI ?_ ?_);omega)|((with_reducible refine qDT ?_ ?_);omega)|((with_reducible refine qDF ?_ ?_);omega)|((with_reducible refine qNT ?_ ?_);omega)|((with_reducible refine qNF ?_ ?_);omega)|((with_reducible refine qU8 ?_ ?_);omega)|((with_reducible refine qU32 ?_ ?_);omega)|((with_reducible refine qU64 ?_ ?_);omega)|((with_reducible refine qU16 ?_ ?_);omega))
      conv => whnf
      refine ⟨i + 1, ⟨⟨by omega, all_up hp (by rw [hc1]; rfl)⟩, by omega⟩, ?_⟩
      conv=>whnf
      refine Le.id rfl ?_ ?_<;>repeat'(first|exact leT_empty|exact trivial|exact rfl|exact fun _ _=>rfl|exact .inl rfl|exact Nat.le_refl _|refine And.intro ?_ ?_)
    conv => whnf
    refine comes_use (by unfold I64; omega) ?_
    rcases Bool.eq_false_or_eq_true (comes (m.W b.toNat).cyc (m.W b.toNat).rep i) with hc2 | hc2 <;> rw [hc2]
    rotate_left
    · repeat((conv=>whnf);first|((with_reducible refine qS ?_ ?_ ?_);exact rfl;exact rfl)|with_reducible refine qB ?_|((with_reducible refine qI ?_ ?_);omega)|((with_reducible refine qDT ?_ ?_);omega)|((with_reducible refine qDF ?_ ?_);omega)|((with_reducible refine qNT ?_ ?_);omega)|((with_reducible refine qNF ?_ ?_);omega)|((with_reducible refine qU8 ?_ ?_);omega)|((with_reducible refine qU32 ?_ ?_);omega)|((with_reducible refine qU64 ?_ ?_);omega)|((with_reducible refine qU16 ?_ ?_);omega))
      conv => whnf
      refine ⟨i + 1, ⟨⟨by omega, all_up hp (by rw [hc2, Bool.and_false])⟩, by omega⟩, ?_⟩
      conv=>whnf
      refine Le.id rfl ?_ ?_<;>repeat'(first|exact leT_empty|exact trivial|exact rfl|exact fun _ _=>rfl|exact .inl rfl|exact Nat.le_refl _|refine And.intro ?_ ?_)
    conv => whnf
    exact trimM rfl (congrArg bv (by rw [hin, meetW_yes ⟨by omega, by omega⟩ (i := i) (by omega) hc1 hc2]))
theorem meetR_ok : ConOk Try.prog F.ref12_Meet meetC := con_of_run (clRunX_ok (d := 7) ttOk outsR1_ok tabMr_ok 2) (fn_enters (ok.ref12_Meet (D := 7) u0 _ (clRunX_ok (d := 7) ttOk .nil TabOk.nil 1))) fun p hp => meetR_run p.1 p.2.1 p.2.2.1 p.2.2.2 hp
end Go.Proofs.Ytbdifadabipfiaa.Co
