/- Contracts: which windows meet. -/
import Derived.Test.YtbdifadabipfiaaCoE
namespace Go.Proofs.Ytbdifadabipfiaa.Co
open Go Go.Eng Go.Proofs Go.Proofs.Ytbdifadabipfiaa.Tb Go.Pu
set_option maxRecDepth 100000
set_option maxHeartbeats 8000000
theorem za (a : Int) : 0 + a.toNat = a.toNat := Nat.zero_add _
def winTT (x : Win) : T := .agg [.c (iC x.kind), .c (iC x.st), .c (iC x.en), .c (iC x.cyc), .c (iC x.rep), .c (iC x.msg)]
def win0 : Win := ⟨0, 0, 0, 0, 0, 0⟩
def thereF (m : Mat) (a : Int) : R := if 0 ≤ a ∧ a < m.nW then .tup [winTT (m.W a.toNat), .one (bC true)] else .tup [winTT win0, .one (bC false)]
theorem thereF_pl (m : Mat) (a : Int) : plR (thereF m a) = true := by unfold thereF; split <;> rfl
abbrev thereC : Con (Mat × Caps × Int) := RoCon (fun p => [matT p.1 p.2.1 0 1 2, iv .i64 p.2.2]) (fun p => matH p.1 []) (fun p => p.1.Ok) fun p => thereF p.1 p.2.2
theorem there_use {m : Mat} {c : Caps} {a : Int} {rest : Heap} {K : R → Heap → Prop} (hm : m.Ok) (hk : K (thereF m a) (matH m rest)) : AskC thereC [matT m c 0 1 2, iv .i64 a] (matH m rest) K :=
  .use (m, c, a) [0, 1, 2] hm (by show (true && (true && plR (thereF m a))) = true; rw [thereF_pl]; rfl) (mat_le m rest) ⟨mat_lx m c rest, .inl rfl, trivial⟩ hk
theorem there_yes {m : Mat} {c : Caps} {a : Int} {rest : Heap} {K : R → Heap → Prop} (hm : m.Ok) (ha : 0 ≤ a ∧ a < m.nW) (hk : K (.tup [winTT (m.W a.toNat), .one (bC true)]) (matH m rest)) : AskC thereC [matT m c 0 1 2, iv .i64 a] (matH m rest) K :=
  there_use hm (by unfold thereF; rw [if_pos ha]; exact hk)
theorem there_no {m : Mat} {c : Caps} {a : Int} {rest : Heap} {K : R → Heap → Prop} (hm : m.Ok) (ha : ¬ (0 ≤ a ∧ a < m.nW)) (hk : K (.tup [winTT win0, .one (bC false)]) (matH m rest)) : AskC thereC [matT m c 0 1 2, iv .i64 a] (matH m rest) K :=
  there_use hm (by unfold thereF; rw [if_neg ha]; exact hk)
noncomputable abbrev tabTh : List (FuncId × Eng.Fn) := [(F.check_there, fn.check_there u0)]
theorem tabTh_ok {d : Nat} : TabOk d tabTh tt := .cons (ok.check_there u0) (TabOk.nil)
theorem there_run (m : Mat) (c : Caps) (a : Int) (hm : m.Ok) : clRunX 5 tt outs0 tabTh 2 F.check_there [] [matT m c 0 1 2, iv .i64 a] (matH m []) (fun x h => Trim 3 x h fun x h => x = thereF m a ∧ h = matH m []) := by
  conv => whnf
  refine cD (fun h1 => ?_) (fun h1 => ?_)
  · conv => whnf
    exact trimM rfl (by unfold thereF; rw [if_neg (by omega)]; rfl)
  conv => whnf
  refine cD (fun h2 => ?_) (fun h2 => ?_)
  · conv => whnf
    exact trimM rfl (by unfold thereF; rw [if_neg (by omega)]; rfl)
  repeat((conv=>whnf);first|((with_reducible refine qS ?_ ?_ ?_);exact rfl;exact rfl)|with_reducible refine qB ?_|((with_reducible refine qI ?_ ?_);omega)|((with_reducible refine qDT ?_ ?_);omega)|((with_reducible refine qDF ?_ ?_);omega)|((with_reducible refine qNT ?_ ?_);omega)|((with_reducible refine qNF ?_ ?_);omega)|((with_reducible refine qU8 ?_ ?_);omega)|((with_reducible refine qU32 ?_ ?_);omega)|((with_reducible refine qU64 ?_ ?_);omega)|((with_reducible refine qU16 ?_ ?_);omega))
  conv => whnf
  try rw [za a]
  exact trimM rfl (by unfold thereF; rw [if_pos (by omega)]; rfl)
theorem there_ok : ConOk Try.prog F.check_there thereC := con_of_run (clRunX_ok (d := 5) ttOk outs0_ok tabTh_ok 2) (fn_enters (ok.check_there (D := 5) u0 _ (clRunX_ok (d := 5) ttOk .nil TabOk.nil 1))) fun p hp => there_run p.1 p.2.1 p.2.2 hp
abbrev outs4 : List (FuncId × Cx) := (F.check_there, AskC thereC) :: outs3
theorem outs4_ok : OutsOk Try.prog outs4 := .cons (ask_ok there_ok) outs3_ok
theorem meet_no {m : Mat} {a b : Int} (h : ¬ (0 ≤ a ∧ a < m.nW ∧ 0 ≤ b ∧ b < m.nW)) : false = meet m a b := by rw [meet, decide_eq_false h]; rfl
theorem meet_in {m : Mat} {a b : Int} (h : 0 ≤ a ∧ a < m.nW ∧ 0 ≤ b ∧ b < m.nW) : meet m a b = meetW m.cycles (m.W a.toNat) (m.W b.toNat) := by rw [meet, decide_eq_true h]; rfl
theorem meetW_no {c : Int} {x y : Win} (h : ¬ (x.st < y.en ∧ y.st < x.en)) : meetW c x y = false := by rw [meetW, decide_eq_false h]; rfl
theorem meetW_yes {c : Int} {x y : Win} (h : x.st < y.en ∧ y.st < x.en) {i : Nat} (hi : i < (min (max c 0) 8).toNat) (h1 : comes x.cyc x.rep i = true) (h2 : comes y.cyc y.rep i = true) : meetW c x y = true := by
  rw [meetW, decide_eq_true h, Bool.true_and, anyB_iff]
  exact ⟨i, hi, by rw [h1, h2]; rfl⟩
theorem meetW_none {c : Int} {x y : Win} (h : ∀ i, i < (min (max c 0) 8).toNat → (comes x.cyc x.rep i && comes y.cyc y.rep i) = false) : meetW c x y = false := by
  rw [meetW, anyB_false.2 h, Bool.and_false]
abbrev meetC : Con (Mat × Caps × Int × Int) := RoCon (fun p => [matT p.1 p.2.1 0 1 2, iv .i64 p.2.2.1, iv .i64 p.2.2.2]) (fun p => matH p.1 []) (fun p => p.1.Ok) fun p => bv (meet p.1 p.2.2.1 p.2.2.2)
theorem meet_use {m : Mat} {c : Caps} {a b : Int} {rest : Heap} {K : R → Heap → Prop} (hm : m.Ok) (hk : K (bv (meet m a b)) (matH m rest)) : AskC meetC [matT m c 0 1 2, iv .i64 a, iv .i64 b] (matH m rest) K :=
  .use (m, c, a, b) [0, 1, 2] hm rfl (mat_le m rest) ⟨mat_lx m c rest, .inl rfl, .inl rfl, trivial⟩ hk
noncomputable abbrev tabMe : List (FuncId × Eng.Fn) := [(F.check_Meet, fn.check_Meet u0)]
theorem tabMe_ok {d : Nat} : TabOk d tabMe tt := .cons (ok.check_Meet u0) (TabOk.nil)
theorem meet_run (m : Mat) (c : Caps) (a b : Int) (hm : m.Ok) : clRunX 7 tt outs4 tabMe 2 F.check_Meet [] [matT m c 0 1 2, iv .i64 a, iv .i64 b] (matH m []) (fun x h => Trim 3 x h fun x h => x = bv (meet m a b) ∧ h = matH m []) := by
  by_cases ha : 0 ≤ a ∧ a < m.nW
  rotate_left
  · conv => whnf
    refine there_no (m := m) (c := c) hm ha ?_
    by_cases hb : 0 ≤ b ∧ b < m.nW
    · conv => whnf
      refine there_yes (m := m) (c := c) hm hb ?_
      conv => whnf
      exact trimM rfl (congrArg bv (meet_no (by omega)))
    · conv => whnf
      refine there_no (m := m) (c := c) hm hb ?_
      conv => whnf
      exact trimM rfl (congrArg bv (meet_no (by omega)))
  by_cases hb : 0 ≤ b ∧ b < m.nW
  rotate_left
  · conv => whnf
    refine there_yes (m := m) (c := c) hm ha ?_
    conv => whnf
    refine there_no (m := m) (c := c) hm hb ?_
    conv => whnf
    exact trimM rfl (congrArg bv (meet_no (by omega)))
  have hin := meet_in (m := m) (a := a) (b := b) ⟨ha.1, ha.2, hb.1, hb.2⟩
  conv => whnf
  refine there_yes (m := m) (c := c) hm ha ?_
  conv => whnf
  refine there_yes (m := m) (c := c) hm hb ?_
  conv => whnf
  refine cD (fun h1 => ?_) (fun h1 => ?_)
  · conv => whnf
    exact trimM rfl (congrArg bv (by rw [hin, meetW_no (by omega)]))
  conv => whnf
  refine cD (fun h2 => ?_) (fun h2 => ?_)
  · conv => whnf
    exact trimM rfl (congrArg bv (by rw [hin, meetW_no (by omega)]))
  conv => whnf
  refine .rd (fun i : Nat => i ≤ (min (max m.cycles 0) 8).toNat ∧ ∀ j : Nat, j < i → (comes (m.W a.toNat).cyc (m.W a.toNat).rep j && comes (m.W b.toNat).cyc (m.W b.toNat).rep j) = false) (fun i => [(48, iv .i64 i)]) (fun i => (min (max m.cycles 0) 8).toNat - i) 0 ⟨Nat.zero_le _, all_0⟩ ?_ (fun i ⟨hi, hp⟩ => ?_)
  · conv=>whnf
    refine Le.id rfl ?_ ?_<;>repeat'(first|exact leT_empty|exact trivial|exact rfl|exact fun _ _=>rfl|exact .inl rfl|exact Nat.le_refl _|refine And.intro ?_ ?_)
  conv => whnf
  refine cD (fun h5 => ?_) (fun h5 => ?_)
  · conv => whnf
    refine comes_use (by unfold I64; omega) ?_
    conv => whnf
    cases hc1 : comes (m.W a.toNat).cyc (m.W a.toNat).rep i with
    | false =>
      repeat((conv=>whnf);first|((with_reducible refine qS ?_ ?_ ?_);exact rfl;exact rfl)|with_reducible refine qB ?_|((with_reducible refine qI ?_ ?_);omega)|((with_reducible refine qDT ?_ ?_);omega)|((with_reducible refine qDF ?_ ?_);omega)|((with_reducible refine qNT ?_ ?_);omega)|((with_reducible refine qNF ?_ ?_);omega)|((with_reducible refine qU8 ?_ ?_);omega)|((with_reducible refine qU32 ?_ ?_);omega)|((with_reducible refine qU64 ?_ ?_);omega)|((with_reducible refine qU16 ?_ ?_);omega))
      conv => whnf
      refine ⟨i + 1, ⟨⟨by omega, all_up hp (by rw [hc1]; rfl)⟩, by omega⟩, ?_⟩
      conv=>whnf
      refine Le.id rfl ?_ ?_<;>repeat'(first|exact leT_empty|exact trivial|exact rfl|exact fun _ _=>rfl|exact .inl rfl|exact Nat.le_refl _|refine And.intro ?_ ?_)
    | true =>
      conv => whnf
      refine comes_use (by unfold I64; omega) ?_
      conv => whnf
      cases hc2 : comes (m.W b.toNat).cyc (m.W b.toNat).rep i with
      | false =>
        repeat((conv=>whnf);first|((with_reducible refine qS ?_ ?_ ?_);exact rfl;exact rfl)|with_reducible refine qB ?_|((with_reducible refine qI ?_ ?_);omega)|((with_reducible refine qDT ?_ ?_);omega)|((with_reducible refine qDF ?_ ?_);omega)|((with_reducible refine qNT ?_ ?_);omega)|((with_reducible refine qNF ?_ ?_);omega)|((with_reducible refine qU8 ?_ ?_);omega)|((with_reducible refine qU32 ?_ ?_);omega)|((with_reducible refine qU64 ?_ ?_);omega)|((with_reducible refine qU16 ?_ ?_);omega))
        conv => whnf
        refine ⟨i + 1, ⟨⟨by omega, all_up hp (by rw [hc2, Bool.and_false])⟩, by omega⟩, ?_⟩
        conv=>whnf
        refine Le.id rfl ?_ ?_<;>repeat'(first|exact leT_empty|exact trivial|exact rfl|exact fun _ _=>rfl|exact .inl rfl|exact Nat.le_refl _|refine And.intro ?_ ?_)
      | true =>
        conv => whnf
        exact trimM rfl (congrArg bv (by rw [hin, meetW_yes ⟨by omega, by omega⟩ (i := i) (by omega) hc1 hc2]))
  obtain rfl : i = (min (max m.cycles 0) 8).toNat := by omega
  conv => whnf
  exact trimM rfl (congrArg bv (by rw [hin, meetW_none hp]))
theorem meet_ok : ConOk Try.prog F.check_Meet meetC := con_of_run (clRunX_ok (d := 7) ttOk outs4_ok tabMe_ok 2) (fn_enters (ok.check_Meet (D := 7) u0 _ (clRunX_ok (d := 7) ttOk .nil TabOk.nil 1))) fun p hp => meet_run p.1 p.2.1 p.2.2.1 p.2.2.2 hp
end Go.Proofs.Ytbdifadabipfiaa.Co
