/- Contracts: the reference's check, whole. -/
import Derived.Test.YtbdifadabipfiaaCoK
namespace Go.Proofs.Ytbdifadabipfiaa.Co
open Go Go.Eng Go.Proofs Go.Proofs.Ytbdifadabipfiaa.Tb Go.Pu
set_option maxRecDepth 100000
set_option maxHeartbeats 8000000
theorem rank_lt {m : Mat} {i : Nat} (hi : i < m.nM) : rank m (m.M i) < i ↔ badM m i = true := by
  unfold rank badM
  rw [anyB_iff]
  rcases first_cases m.nM fun j => decide (m.M j = m.M i) with ⟨h1, h2⟩ | ⟨j, h1, h2, h3, h4⟩
  · have := h2 i hi; simp at this
  · rw [h2]
    constructor
    · intro h
      exact ⟨j, by omega, by have := of_decide_eq_true h3; exact decide_eq_true this.symm⟩
    · rintro ⟨k, hk, e⟩
      have : ¬ k < j := fun hlt => by
        have := h4 k hlt
        rw [decide_eq_true (of_decide_eq_true e).symm] at this; cases this
      omega
theorem find_lt {m : Mat} {i : Nat} (hi : i < m.nG) : find m (m.G i).id < i ↔ anyB i (fun j => decide ((m.G j).id = (m.G i).id)) = true := by
  unfold find
  rw [anyB_iff]
  rcases first_cases m.nG fun j => decide ((m.G j).id = (m.G i).id) with ⟨h1, h2⟩ | ⟨j, h1, h2, h3, h4⟩
  · have := h2 i hi; simp at this
  · rw [h2]
    constructor
    · intro h
      exact ⟨j, by omega, h3⟩
    · rintro ⟨k, hk, e⟩
      have : ¬ k < j := fun hlt => by
        have := h4 k hlt
        rw [e] at this; cases this
      omega
theorem by8 {a b : Int} (ha : 0 ≤ a) (hb : 0 ≤ b) (hm : b.tmod 8 = 0) : (a.tdiv 8 = b.tdiv 8) ↔ (b ≤ a ∧ a - b < 8) := by
  rw [Int.tdiv_eq_ediv_of_nonneg ha, Int.tdiv_eq_ediv_of_nonneg hb]
  rw [Int.tmod_eq_emod_of_nonneg hb] at hm
  omega
abbrev outsR3 : List (FuncId × Cx) := (F.ref12_Rank, AskC rankC) :: (F.ref12_Find, AskC findC) :: (F.ref12_Step, AskC stepC) :: (F.ref12_Meet, AskC meetC) :: outsR2
theorem outsR3_ok : OutsOk Try.prog outsR3 := .cons (ask_ok rankR_ok) (.cons (ask_ok findR_ok) (.cons (ask_ok stepR_ok) (.cons (ask_ok meetR_ok) outsR2_ok)))
abbrev twiceRC : Con (Mat × Caps) := RoCon (fun p => [matT p.1 p.2 0 1 2]) (fun p => matH p.1 []) (fun p => p.1.Ok ∧ isM p.1 = true) fun p => pairR (chkT p.1)
theorem twiceR_use {m : Mat} {c : Caps} {rest : Heap} {K : R → Heap → Prop} (hm : m.Ok) (hc : isM m = true) (hk : K (pairR (chkT m)) (matH m rest)) : AskC twiceRC [matT m c 0 1 2] (matH m rest) K :=
  .use (m, c) [0, 1, 2] ⟨hm, hc⟩ rfl (mat_le m rest) ⟨mat_lx m c rest, trivial⟩ hk
noncomputable abbrev tabTr : List (FuncId × Eng.Fn) := [(F.ref12_twice, fn.ref12_twice u0)]
theorem tabTr_ok {d : Nat} : TabOk d tabTr tt := .cons (ok.ref12_twice u0) (TabOk.nil)
theorem twiceR_run (m : Mat) (c : Caps) (hm : m.Ok) (hI : isM m = true) : clRunX 6 tt outsR3 tabTr 2 F.ref12_twice [] [matT m c 0 1 2] (matH m []) (fun x h => Trim 3 x h fun x h => x = pairR (chkT m) ∧ h = matH m []) := by
  have hnM := hm.nM
  have hnG := hm.nG
  have hG := hm.G
  have hI' := isM_iff.1 hI
  have hL := hI'.head
  unfold headP at hL
  obtain ⟨r0, r1⟩ := hm.ref
  conv => whnf
  refine .rd (fun i : Nat => i ≤ m.nM ∧ ∀ j, j < i → badM m j = false) (fun i => [(4, iv .i64 i)]) (fun i => m.nM - i) 0 ⟨Nat.zero_le _, all_0⟩ ?_ (fun i ⟨hi, hp⟩ => ?_)
  · conv=>whnf
    refine Le.id rfl ?_ ?_<;>repeat'(first|exact leT_empty|exact trivial|exact rfl|exact fun _ _=>rfl|exact .inl rfl|exact Nat.le_refl _|refine And.intro ?_ ?_)
  conv => whnf
  refine cD (fun h5 => ?_) (fun h5 => ?_)
  · repeat((conv=>whnf);first|((with_reducible refine qS ?_ ?_ ?_);exact rfl;exact rfl)|with_reducible refine qB ?_|((with_reducible refine qI ?_ ?_);omega)|((with_reducible refine qDT ?_ ?_);omega)|((with_reducible refine qDF ?_ ?_);omega)|((with_reducible refine qNT ?_ ?_);omega)|((with_reducible refine qNF ?_ ?_);omega)|((with_reducible refine qU8 ?_ ?_);omega)|((with_reducible refine qU32 ?_ ?_);omega)|((with_reducible refine qU64 ?_ ?_);omega)|((with_reducible refine qU16 ?_ ?_);omega))
    conv => whnf
    try rw [zi i]
    refine rank_use (m := m) (c := c) (v := m.M i) hm ?_
    repeat((conv=>whnf);first|((with_reducible refine qS ?_ ?_ ?_);exact rfl;exact rfl)|with_reducible refine qB ?_|((with_reducible refine qI ?_ ?_);omega)|((with_reducible refine qDT ?_ ?_);omega)|((with_reducible refine qDF ?_ ?_);omega)|((with_reducible refine qNT ?_ ?_);omega)|((with_reducible refine qNF ?_ ?_);omega)|((with_reducible refine qU8 ?_ ?_);omega)|((with_reducible refine qU32 ?_ ?_);omega)|((with_reducible refine qU64 ?_ ?_);omega)|((with_reducible refine qU16 ?_ ?_);omega))
    conv => whnf
    refine cD (fun h6 => ?_) (fun h6 => ?_)
    · conv => whnf
      have e : first m.nM (badM m) = (i : Int) := first_some (by omega) hp ((rank_lt (by omega)).1 h6)
      exact trimM rfl (congrArg pairR (by rw [chkT, e, pick_pos (by omega)]) : pairR ((i : Int), 142) = _)
    · repeat((conv=>whnf);first|((with_reducible refine qS ?_ ?_ ?_);exact rfl;exact rfl)|with_reducible refine qB ?_|((with_reducible refine qI ?_ ?_);omega)|((with_reducible refine qDT ?_ ?_);omega)|((with_reducible refine qDF ?_ ?_);omega)|((with_reducible refine qNT ?_ ?_);omega)|((with_reducible refine qNF ?_ ?_);omega)|((with_reducible refine qU8 ?_ ?_);omega)|((with_reducible refine qU32 ?_ ?_);omega)|((with_reducible refine qU64 ?_ ?_);omega)|((with_reducible refine qU16 ?_ ?_);omega))
      conv => whnf
      refine ⟨i + 1, ⟨⟨by omega, all_up hp (Bool.eq_false_iff.2 fun e => h6 ((rank_lt (by omega)).2 e))⟩, by omega⟩, ?_⟩
      conv=>whnf
      refine Le.id rfl ?_ ?_<;>repeat'(first|exact leT_empty|exact trivial|exact rfl|exact fun _ _=>rfl|exact .inl rfl|exact Nat.le_refl _|refine And.intro ?_ ?_)
  obtain rfl : i = m.nM := by omega
  have e1 : first m.nM (badM m) = -1 := first_none hp
  conv => whnf
  refine .rd (fun i : Nat => i ≤ m.nG ∧ ∀ j, j < i → badG m j = false) (fun i => [(5, iv .i64 i)]) (fun i => m.nG - i) 0 ⟨Nat.zero_le _, all_0⟩ ?_ (fun i ⟨hi, hq⟩ => ?_)
  · conv=>whnf
    refine Le.id rfl ?_ ?_<;>repeat'(first|exact leT_empty|exact trivial|exact rfl|exact fun _ _=>rfl|exact .inl rfl|exact Nat.le_refl _|refine And.intro ?_ ?_)
  conv => whnf
  refine cD (fun h5 => ?_) (fun h5 => ?_)
  · have hGi := hG i (by omega)
    unfold U32 at hGi
    have hGm := hI'.G i (by omega)
    unfold msgP at hGm
    have yes : badG m i = true → pairR ((i : Int), 142) = pairR (chkT m) := fun hb => by
      have e : first m.nG (badG m) = (i : Int) := first_some (by omega) hq hb
      rw [chkT, e1, e, pick_neg (by omega), pick_pos (by omega)]
    have h8 := by8 hGi.1.1 r0 hL.2.2.2.2.2.2.2.2.2.2.2.2.2.2
    have q1 : 0 ≤ (m.G i).id.tdiv 8 ∧ (m.G i).id.tdiv 8 ≤ 4294967295 := by rw [Int.tdiv_eq_ediv_of_nonneg hGi.1.1]; omega
    have q2 : 0 ≤ m.ref.tdiv 8 ∧ m.ref.tdiv 8 ≤ 4294967295 := by rw [Int.tdiv_eq_ediv_of_nonneg r0]; omega
    repeat((conv=>whnf);first|((with_reducible refine qS ?_ ?_ ?_);exact rfl;exact rfl)|with_reducible refine qB ?_|((with_reducible refine qI ?_ ?_);omega)|((with_reducible refine qDT ?_ ?_);omega)|((with_reducible refine qDF ?_ ?_);omega)|((with_reducible refine qNT ?_ ?_);omega)|((with_reducible refine qNF ?_ ?_);omega)|((with_reducible refine qU8 ?_ ?_);omega)|((with_reducible refine qU32 ?_ ?_);omega)|((with_reducible refine qU64 ?_ ?_);omega)|((with_reducible refine qU16 ?_ ?_);omega))
    conv => whnf
    try rw [zi i]
    refine find_use (m := m) (c := c) (v := (m.G i).id) hm ?_
    conv => whnf
    refine cD (fun h6 => ?_) (fun h6 => ?_)
    · conv => whnf
      exact trimM rfl (yes (by unfold badG; rw [(find_lt (by omega)).1 h6, Bool.or_true]))
    repeat((conv=>whnf);first|((with_reducible refine qS ?_ ?_ ?_);exact rfl;exact rfl)|with_reducible refine qB ?_|((with_reducible refine qI ?_ ?_);omega)|((with_reducible refine qDT ?_ ?_);omega)|((with_reducible refine qDF ?_ ?_);omega)|((with_reducible refine qNT ?_ ?_);omega)|((with_reducible refine qNF ?_ ?_);omega)|((with_reducible refine qU8 ?_ ?_);omega)|((with_reducible refine qU32 ?_ ?_);omega)|((with_reducible refine qU64 ?_ ?_);omega)|((with_reducible refine qU16 ?_ ?_);omega))
    conv => whnf
    refine cD (fun h7 => ?_) (fun h7 => ?_)
    · conv => whnf
      exact trimM rfl (yes (by unfold badG; rw [decide_eq_true (h8.1 h7)]; rfl))
    · repeat((conv=>whnf);first|((with_reducible refine qS ?_ ?_ ?_);exact rfl;exact rfl)|with_reducible refine qB ?_|((with_reducible refine qI ?_ ?_);omega)|((with_reducible refine qDT ?_ ?_);omega)|((with_reducible refine qDF ?_ ?_);omega)|((with_reducible refine qNT ?_ ?_);omega)|((with_reducible refine qNF ?_ ?_);omega)|((with_reducible refine qU8 ?_ ?_);omega)|((with_reducible refine qU32 ?_ ?_);omega)|((with_reducible refine qU64 ?_ ?_);omega)|((with_reducible refine qU16 ?_ ?_);omega))
      conv => whnf
      refine ⟨i + 1, ⟨⟨by omega, all_up hq (by unfold badG; rw [decide_eq_false (fun e => h7 (h8.2 e)), Bool.eq_false_iff.2 fun e => h6 ((find_lt (by omega)).2 e)]; rfl)⟩, by omega⟩, ?_⟩
      conv=>whnf
      refine Le.id rfl ?_ ?_<;>repeat'(first|exact leT_empty|exact trivial|exact rfl|exact fun _ _=>rfl|exact .inl rfl|exact Nat.le_refl _|refine And.intro ?_ ?_)
  obtain rfl : i = m.nG := by omega
  have e2 : first m.nG (badG m) = -1 := first_none hq
  repeat((conv=>whnf);first|((with_reducible refine qS ?_ ?_ ?_);exact rfl;exact rfl)|with_reducible refine qB ?_|((with_reducible refine qI ?_ ?_);omega)|((with_reducible refine qDT ?_ ?_);omega)|((with_reducible refine qDF ?_ ?_);omega)|((with_reducible refine qNT ?_ ?_);omega)|((with_reducible refine qNF ?_ ?_);omega)|((with_reducible refine qU8 ?_ ?_);omega)|((with_reducible refine qU32 ?_ ?_);omega)|((with_reducible refine qU64 ?_ ?_);omega)|((with_reducible refine qU16 ?_ ?_);omega))
  conv => whnf
  exact trimM rfl (congrArg pairR (by rw [chkT, e1, e2, pick_neg (by omega), pick_neg (by omega)]) : pairR (0, 0) = _)
theorem twiceR_ok : ConOk Try.prog F.ref12_twice twiceRC := con_of_run (clRunX_ok (d := 6) ttOk outsR3_ok tabTr_ok 2) (fn_enters (ok.ref12_twice (D := 6) u0 _ (clRunX_ok (d := 6) ttOk .nil TabOk.nil 1))) fun p hp => twiceR_run p.1 p.2 hp.1 hp.2
/-! ### window -/
abbrev winEC : Con (Mat × Caps × Nat) := RoCon (fun p => [matT p.1 p.2.1 0 1 2, iv .i64 p.2.2]) (fun p => matH p.1 []) (fun p => p.1.Ok ∧ isM p.1 = true ∧ p.2.2 < p.1.nW) fun p => iv .i64 (winErr p.1 p.2.2)
theorem winE_use {m : Mat} {c : Caps} {i : Nat} {rest : Heap} {K : R → Heap → Prop} (hm : m.Ok) (hc : isM m = true) (hi : i < m.nW) (hk : K (iv .i64 (winErr m i)) (matH m rest)) : AskC winEC [matT m c 0 1 2, iv .i64 i] (matH m rest) K :=
  .use (m, c, i) [0, 1, 2] ⟨hm, hc, hi⟩ rfl (mat_le m rest) ⟨mat_lx m c rest, .inl rfl, trivial⟩ hk
noncomputable abbrev tabWe : List (FuncId × Eng.Fn) := [(F.ref12_window, fn.ref12_window u0)]
theorem tabWe_ok {d : Nat} : TabOk d tabWe tt := .cons (ok.ref12_window u0) (TabOk.nil)
theorem winE_run (m : Mat) (c : Caps) (i : Nat) (hm : m.Ok) (hI : isM m = true) (hi : i < m.nW) : clRunX 6 tt outsR3 tabWe 2 F.ref12_window [] [matT m c 0 1 2, iv .i64 i] (matH m []) (fun x h => Trim 3 x h fun x h => x = iv .i64 (winErr m i) ∧ h = matH m []) := by
  have hnW := hm.nW
  have hWi := (isM_iff.1 hI).W i hi
  have hL := (isM_iff.1 hI).head
  unfold headP at hL
  unfold winP at hWi
  have hsb := step_bd (m := m)
  repeat((conv=>whnf);first|((with_reducible refine qS ?_ ?_ ?_);exact rfl;exact rfl)|with_reducible refine qB ?_|((with_reducible refine qI ?_ ?_);omega)|((with_reducible refine qDT ?_ ?_);omega)|((with_reducible refine qDF ?_ ?_);omega)|((with_reducible refine qNT ?_ ?_);omega)|((with_reducible refine qNF ?_ ?_);omega)|((with_reducible refine qU8 ?_ ?_);omega)|((with_reducible refine qU32 ?_ ?_);omega)|((with_reducible refine qU64 ?_ ?_);omega)|((with_reducible refine qU16 ?_ ?_);omega))
  conv => whnf
  try rw [zi i]
  refine cD (fun h6 => ?_) (fun h6 => ?_)
  conv => whnf
  refine cD (fun h7 => ?_) (fun h7 => ?_)
  · conv => whnf
    exact trimM rfl (congrArg (iv .i64) (err145 h6 (.inl h7)).symm)
  repeat((conv=>whnf);first|((with_reducible refine qS ?_ ?_ ?_);exact rfl;exact rfl)|with_reducible refine qB ?_|((with_reducible refine qI ?_ ?_);omega)|((with_reducible refine qDT ?_ ?_);omega)|((with_reducible refine qDF ?_ ?_);omega)|((with_reducible refine qNT ?_ ?_);omega)|((with_reducible refine qNF ?_ ?_);omega)|((with_reducible refine qU8 ?_ ?_);omega)|((with_reducible refine qU32 ?_ ?_);omega)|((with_reducible refine qU64 ?_ ?_);omega)|((with_reducible refine qU16 ?_ ?_);omega))
  conv => whnf
  try rw [za]
  rcases Bool.eq_false_or_eq_true (m.G (m.W i).msg.toNat).ev with hev | hev <;> rw [hev]
  · conv => whnf
    exact trimM rfl (congrArg (iv .i64) (err145 h6 (.inr hev)).symm)
  have n1 : ¬ ((m.W i).kind = 1 ∧ ((m.nG : Int) ≤ (m.W i).msg ∨ (m.G (m.W i).msg.toNat).ev = true)) := by
    rintro ⟨_, q | q⟩
    · omega
    · rw [hev] at q; cases q
  rotate_left
  have n1 : ¬ ((m.W i).kind = 1 ∧ ((m.nG : Int) ≤ (m.W i).msg ∨ (m.G (m.W i).msg.toNat).ev = true)) := fun q => h6 q.1
  all_goals
    repeat((conv=>whnf);first|((with_reducible refine qS ?_ ?_ ?_);exact rfl;exact rfl)|with_reducible refine qB ?_|((with_reducible refine qI ?_ ?_);omega)|((with_reducible refine qDT ?_ ?_);omega)|((with_reducible refine qDF ?_ ?_);omega)|((with_reducible refine qNT ?_ ?_);omega)|((with_reducible refine qNF ?_ ?_);omega)|((with_reducible refine qU8 ?_ ?_);omega)|((with_reducible refine qU32 ?_ ?_);omega)|((with_reducible refine qU64 ?_ ?_);omega)|((with_reducible refine qU16 ?_ ?_);omega))
    conv => whnf
    refine step_use (m := m) (c := c) hm ?_
    repeat((conv=>whnf);first|((with_reducible refine qS ?_ ?_ ?_);exact rfl;exact rfl)|with_reducible refine qB ?_|((with_reducible refine qI ?_ ?_);omega)|((with_reducible refine qDT ?_ ?_);omega)|((with_reducible refine qDF ?_ ?_);omega)|((with_reducible refine qNT ?_ ?_);omega)|((with_reducible refine qNF ?_ ?_);omega)|((with_reducible refine qU8 ?_ ?_);omega)|((with_reducible refine qU32 ?_ ?_);omega)|((with_reducible refine qU64 ?_ ?_);omega)|((with_reducible refine qU16 ?_ ?_);omega))
    conv => whnf
    refine cD (fun h8 => ?_) (fun h8 => ?_)
    · conv => whnf
      exact trimM rfl (congrArg (iv .i64) (err144 n1 (.inl h8)).symm)
    by_cases h9 : (m.W i).kind = 3
    · try (exfalso; omega)
      all_goals
        have n2 : ¬ ((m.W i).st < Pu.step m ∨ ((m.W i).kind ≠ 3 ∧ (m.W i).en - (m.W i).st < Pu.step m)) := by omega
        repeat((conv=>whnf);first|((with_reducible refine qS ?_ ?_ ?_);exact rfl;exact rfl)|with_reducible refine qB ?_|((with_reducible refine qI ?_ ?_);omega)|((with_reducible refine qDT ?_ ?_);omega)|((with_reducible refine qDF ?_ ?_);omega)|((with_reducible refine qNT ?_ ?_);omega)|((with_reducible refine qNF ?_ ?_);omega)|((with_reducible refine qU8 ?_ ?_);omega)|((with_reducible refine qU32 ?_ ?_);omega)|((with_reducible refine qU64 ?_ ?_);omega)|((with_reducible refine qU16 ?_ ?_);omega))
        conv => whnf
        refine .rd (fun k : Nat => k ≤ i ∧ ∀ j : Nat, j < k → meet m i j = false) (fun k => [(6, iv .i64 k)]) (fun k => i - k) 0 ⟨Nat.zero_le _, all_0⟩ ?_ (fun k ⟨hk, hq⟩ => ?_)
        · conv=>whnf
          refine Le.id rfl ?_ ?_<;>repeat'(first|exact leT_empty|exact trivial|exact rfl|exact fun _ _=>rfl|exact .inl rfl|exact Nat.le_refl _|refine And.intro ?_ ?_)
        conv => whnf
        refine cD (fun h11 => ?_) (fun h11 => ?_)
        · conv => whnf
          refine meet_use (m := m) (c := c) hm ?_
          rw [meet_comm m (k : Int) (i : Int)]
          rcases Bool.eq_false_or_eq_true (meet m (i : Int) (k : Int)) with hb | hb <;> rw [hb]
          · conv => whnf
            exact trimM rfl (congrArg (iv .i64) (err143 n1 n2 (anyB_iff.2 ⟨k, by omega, hb⟩)).symm)
          · repeat((conv=>whnf);first|((with_reducible refine qS ?_ ?_ ?_);exact rfl;exact rfl)|with_reducible refine qB ?_|((with_reducible refine qI ?_ ?_);omega)|((with_reducible refine qDT ?_ ?_);omega)|((with_reducible refine qDF ?_ ?_);omega)|((with_reducible refine qNT ?_ ?_);omega)|((with_reducible refine qNF ?_ ?_);omega)|((with_reducible refine qU8 ?_ ?_);omega)|((with_reducible refine qU32 ?_ ?_);omega)|((with_reducible refine qU64 ?_ ?_);omega)|((with_reducible refine qU16 ?_ ?_);omega))
            conv => whnf
            refine ⟨k + 1, ⟨⟨by omega, all_up hq hb⟩, by omega⟩, ?_⟩
            conv=>whnf
            refine Le.id rfl ?_ ?_<;>repeat'(first|exact leT_empty|exact trivial|exact rfl|exact fun _ _=>rfl|exact .inl rfl|exact Nat.le_refl _|refine And.intro ?_ ?_)
        obtain rfl : k = i := by omega
        repeat((conv=>whnf);first|((with_reducible refine qS ?_ ?_ ?_);exact rfl;exact rfl)|with_reducible refine qB ?_|((with_reducible refine qI ?_ ?_);omega)|((with_reducible refine qDT ?_ ?_);omega)|((with_reducible refine qDF ?_ ?_);omega)|((with_reducible refine qNT ?_ ?_);omega)|((with_reducible refine qNF ?_ ?_);omega)|((with_reducible refine qU8 ?_ ?_);omega)|((with_reducible refine qU32 ?_ ?_);omega)|((with_reducible refine qU64 ?_ ?_);omega)|((with_reducible refine qU16 ?_ ?_);omega))
        conv => whnf
        exact trimM rfl (congrArg (iv .i64) (err0 n1 n2 (anyB_false.2 hq)).symm)
    · repeat((conv=>whnf);first|((with_reducible refine qS ?_ ?_ ?_);exact rfl;exact rfl)|with_reducible refine qB ?_|((with_reducible refine qI ?_ ?_);omega)|((with_reducible refine qDT ?_ ?_);omega)|((with_reducible refine qDF ?_ ?_);omega)|((with_reducible refine qNT ?_ ?_);omega)|((with_reducible refine qNF ?_ ?_);omega)|((with_reducible refine qU8 ?_ ?_);omega)|((with_reducible refine qU32 ?_ ?_);omega)|((with_reducible refine qU64 ?_ ?_);omega)|((with_reducible refine qU16 ?_ ?_);omega))
      conv => whnf
      refine step_use (m := m) (c := c) hm ?_
      repeat((conv=>whnf);first|((with_reducible refine qS ?_ ?_ ?_);exact rfl;exact rfl)|with_reducible refine qB ?_|((with_reducible refine qI ?_ ?_);omega)|((with_reducible refine qDT ?_ ?_);omega)|((with_reducible refine qDF ?_ ?_);omega)|((with_reducible refine qNT ?_ ?_);omega)|((with_reducible refine qNF ?_ ?_);omega)|((with_reducible refine qU8 ?_ ?_);omega)|((with_reducible refine qU32 ?_ ?_);omega)|((with_reducible refine qU64 ?_ ?_);omega)|((with_reducible refine qU16 ?_ ?_);omega))
      conv => whnf
      refine cD (fun h10 => ?_) (fun h10 => ?_)
      · conv => whnf
        exact trimM rfl (congrArg (iv .i64) (err144 n1 (.inr ⟨h9, h10⟩)).symm)
      have n2 : ¬ ((m.W i).st < Pu.step m ∨ ((m.W i).kind ≠ 3 ∧ (m.W i).en - (m.W i).st < Pu.step m)) := by omega
      repeat((conv=>whnf);first|((with_reducible refine qS ?_ ?_ ?_);exact rfl;exact rfl)|with_reducible refine qB ?_|((with_reducible refine qI ?_ ?_);omega)|((with_reducible refine qDT ?_ ?_);omega)|((with_reducible refine qDF ?_ ?_);omega)|((with_reducible refine qNT ?_ ?_);omega)|((with_reducible refine qNF ?_ ?_);omega)|((with_reducible refine qU8 ?_ ?_);omega)|((with_reducible refine qU32 ?_ ?_);omega)|((with_reducible refine qU64 ?_ ?_);omega)|((with_reducible refine qU16 ?_ ?_);omega))
      conv => whnf
      refine .rd (fun k : Nat => k ≤ i ∧ ∀ j : Nat, j < k → meet m i j = false) (fun k => [(6, iv .i64 k)]) (fun k => i - k) 0 ⟨Nat.zero_le _, all_0⟩ ?_ (fun k ⟨hk, hq⟩ => ?_)
      · conv=>whnf
        refine Le.id rfl ?_ ?_<;>repeat'(first|exact leT_empty|exact trivial|exact rfl|exact fun _ _=>rfl|exact .inl rfl|exact Nat.le_refl _|refine And.intro ?_ ?_)
      conv => whnf
      refine cD (fun h11 => ?_) (fun h11 => ?_)
      · conv => whnf
        refine meet_use (m := m) (c := c) hm ?_
        rw [meet_comm m (k : Int) (i : Int)]
        rcases Bool.eq_false_or_eq_true (meet m (i : Int) (k : Int)) with hb | hb <;> rw [hb]
        · conv => whnf
          exact trimM rfl (congrArg (iv .i64) (err143 n1 n2 (anyB_iff.2 ⟨k, by omega, hb⟩)).symm)
        · repeat((conv=>whnf);first|((with_reducible refine qS ?_ ?_ ?_);exact rfl;exact rfl)|with_reducible refine qB ?_|((with_reducible refine qI ?_ ?_);omega)|((with_reducible refine qDT ?_ ?_);omega)|((with_reducible refine qDF ?_ ?_);omega)|((with_reducible refine qNT ?_ ?_);omega)|((with_reducible refine qNF ?_ ?_);omega)|((with_reducible refine qU8 ?_ ?_);omega)|((with_reducible refine qU32 ?_ ?_);omega)|((with_reducible refine qU64 ?_ ?_);omega)|((with_reducible refine qU16 ?_ ?_);omega))
          conv => whnf
          refine ⟨k + 1, ⟨⟨by omega, all_up hq hb⟩, by omega⟩, ?_⟩
          conv=>whnf
          refine Le.id rfl ?_ ?_<;>repeat'(first|exact leT_empty|exact trivial|exact rfl|exact fun _ _=>rfl|exact .inl rfl|exact Nat.le_refl _|refine And.intro ?_ ?_)
      obtain rfl : k = i := by omega
      repeat((conv=>whnf);first|((with_reducible refine qS ?_ ?_ ?_);exact rfl;exact rfl)|with_reducible refine qB ?_|((with_reducible refine qI ?_ ?_);omega)|((with_reducible refine qDT ?_ ?_);omega)|((with_reducible refine qDF ?_ ?_);omega)|((with_reducible refine qNT ?_ ?_);omega)|((with_reducible refine qNF ?_ ?_);omega)|((with_reducible refine qU8 ?_ ?_);omega)|((with_reducible refine qU32 ?_ ?_);omega)|((with_reducible refine qU64 ?_ ?_);omega)|((with_reducible refine qU16 ?_ ?_);omega))
      conv => whnf
      exact trimM rfl (congrArg (iv .i64) (err0 n1 n2 (anyB_false.2 hq)).symm)
theorem winE_ok : ConOk Try.prog F.ref12_window winEC := con_of_run (clRunX_ok (d := 6) ttOk outsR3_ok tabWe_ok 2) (fn_enters (ok.ref12_window (D := 6) u0 _ (clRunX_ok (d := 6) ttOk .nil TabOk.nil 1))) fun p hp => winE_run p.1 p.2.1 p.2.2 hp.1 hp.2.1 hp.2.2
/-! ### Check -/
abbrev outsR4 : List (FuncId × Cx) := (F.ref12_twice, AskC twiceRC) :: (F.ref12_window, AskC winEC) :: outsR3
theorem outsR4_ok : OutsOk Try.prog outsR4 := .cons (ask_ok twiceR_ok) (.cons (ask_ok winE_ok) outsR3_ok)
abbrev checkRC : Con (Mat × Caps) := RoCon (fun p => [matT p.1 p.2 0 1 2]) (fun p => matH p.1 []) (fun p => p.1.Ok) fun p => pairR (chk p.1)
theorem checkR_use {m : Mat} {c : Caps} {rest : Heap} {K : R → Heap → Prop} (hm : m.Ok) (hk : K (pairR (chk m)) (matH m rest)) : AskC checkRC [matT m c 0 1 2] (matH m rest) K :=
  .use (m, c) [0, 1, 2] hm rfl (mat_le m rest) ⟨mat_lx m c rest, trivial⟩ hk
noncomputable abbrev tabCc : List (FuncId × Eng.Fn) := [(F.ref12_Check, fn.ref12_Check u0)]
theorem tabCc_ok {d : Nat} : TabOk d tabCc tt := .cons (ok.ref12_Check u0) (TabOk.nil)
theorem checkR_run (m : Mat) (c : Caps) (hm : m.Ok) : clRunX 7 tt outsR4 tabCc 2 F.ref12_Check [] [matT m c 0 1 2] (matH m []) (fun x h => Trim 3 x h fun x h => x = pairR (chk m) ∧ h = matH m []) := by
  have hnM := hm.nM
  have hnG := hm.nG
  have hnW := hm.nW
  conv => whnf
  refine is_use (m := m) (c := c) hm ?_
  rcases Bool.eq_false_or_eq_true (isM m) with hI | hI <;> rw [hI]
  rotate_left
  · conv => whnf
    exact trimM rfl (congrArg pairR (by rw [chk, if_pos hI]) : pairR (0, 120) = _)
  have e0 : chk m = if m.length < Pu.step m then (0, 140) else if (chkO m).2 ≠ 0 then chkO m else if (chkT m).2 ≠ 0 then chkT m else if (chkW m).2 ≠ 0 then chkW m else (0, 0) := by
    rw [chk, if_neg (by rw [hI]; simp)]
  conv => whnf
  refine step_use (m := m) (c := c) hm ?_
  repeat((conv=>whnf);first|((with_reducible refine qS ?_ ?_ ?_);exact rfl;exact rfl)|with_reducible refine qB ?_|((with_reducible refine qI ?_ ?_);omega)|((with_reducible refine qDT ?_ ?_);omega)|((with_reducible refine qDF ?_ ?_);omega)|((with_reducible refine qNT ?_ ?_);omega)|((with_reducible refine qNF ?_ ?_);omega)|((with_reducible refine qU8 ?_ ?_);omega)|((with_reducible refine qU32 ?_ ?_);omega)|((with_reducible refine qU64 ?_ ?_);omega)|((with_reducible refine qU16 ?_ ?_);omega))
  conv => whnf
  refine cD (fun h1 => ?_) (fun h1 => ?_)
  · conv => whnf
    exact trimM rfl (congrArg pairR (by rw [e0, if_pos h1]) : pairR (0, 140) = _)
  rw [if_neg h1] at e0
  conv => whnf
  refine .rd (fun i : Nat => i ≤ m.nM ∧ ∀ j, j < i → ¬ m.nodes ≤ m.M j) (fun i => [(4, iv .i64 i)]) (fun i => m.nM - i) 0 ⟨Nat.zero_le _, all_0⟩ ?_ (fun i ⟨hi, hp⟩ => ?_)
  · conv=>whnf
    refine Le.id rfl ?_ ?_<;>repeat'(first|exact leT_empty|exact trivial|exact rfl|exact fun _ _=>rfl|exact .inl rfl|exact Nat.le_refl _|refine And.intro ?_ ?_)
  conv => whnf
  refine cD (fun h5 => ?_) (fun h5 => ?_)
  · repeat((conv=>whnf);first|((with_reducible refine qS ?_ ?_ ?_);exact rfl;exact rfl)|with_reducible refine qB ?_|((with_reducible refine qI ?_ ?_);omega)|((with_reducible refine qDT ?_ ?_);omega)|((with_reducible refine qDF ?_ ?_);omega)|((with_reducible refine qNT ?_ ?_);omega)|((with_reducible refine qNF ?_ ?_);omega)|((with_reducible refine qU8 ?_ ?_);omega)|((with_reducible refine qU32 ?_ ?_);omega)|((with_reducible refine qU64 ?_ ?_);omega)|((with_reducible refine qU16 ?_ ?_);omega))
    conv => whnf
    try rw [zi i]
    refine cD (fun h6 => ?_) (fun h6 => ?_)
    · conv => whnf
      have e : chkO m = ((i : Int), 141) := by
        have e : first m.nM (fun i => decide (m.nodes ≤ m.M i)) = (i : Int) := first_some (by omega) (fun q hq => decide_eq_false (hp q hq)) (decide_eq_true h6)
        rw [chkO, e, pick_pos (by omega)]
      exact trimM rfl (congrArg pairR (by rw [e0, e, if_pos (by simp)]) : pairR ((i : Int), 141) = _)
    · repeat((conv=>whnf);first|((with_reducible refine qS ?_ ?_ ?_);exact rfl;exact rfl)|with_reducible refine qB ?_|((with_reducible refine qI ?_ ?_);omega)|((with_reducible refine qDT ?_ ?_);omega)|((with_reducible refine qDF ?_ ?_);omega)|((with_reducible refine qNT ?_ ?_);omega)|((with_reducible refine qNF ?_ ?_);omega)|((with_reducible refine qU8 ?_ ?_);omega)|((with_reducible refine qU32 ?_ ?_);omega)|((with_reducible refine qU64 ?_ ?_);omega)|((with_reducible refine qU16 ?_ ?_);omega))
      conv => whnf
      refine ⟨i + 1, ⟨⟨by omega, all_up hp h6⟩, by omega⟩, ?_⟩
      conv=>whnf
      refine Le.id rfl ?_ ?_<;>repeat'(first|exact leT_empty|exact trivial|exact rfl|exact fun _ _=>rfl|exact .inl rfl|exact Nat.le_refl _|refine And.intro ?_ ?_)
  obtain rfl : i = m.nM := by omega
  have e1 : first m.nM (fun i => decide (m.nodes ≤ m.M i)) = -1 := first_none fun j hj => decide_eq_false (hp j hj)
  conv => whnf
  refine .rd (fun i : Nat => i ≤ m.nG ∧ ∀ j, j < i → ¬ m.nodes ≤ (m.G j).ow) (fun i => [(5, iv .i64 i)]) (fun i => m.nG - i) 0 ⟨Nat.zero_le _, all_0⟩ ?_ (fun i ⟨hi, hq⟩ => ?_)
  · conv=>whnf
    refine Le.id rfl ?_ ?_<;>repeat'(first|exact leT_empty|exact trivial|exact rfl|exact fun _ _=>rfl|exact .inl rfl|exact Nat.le_refl _|refine And.intro ?_ ?_)
  conv => whnf
  refine cD (fun h5 => ?_) (fun h5 => ?_)
  · repeat((conv=>whnf);first|((with_reducible refine qS ?_ ?_ ?_);exact rfl;exact rfl)|with_reducible refine qB ?_|((with_reducible refine qI ?_ ?_);omega)|((with_reducible refine qDT ?_ ?_);omega)|((with_reducible refine qDF ?_ ?_);omega)|((with_reducible refine qNT ?_ ?_);omega)|((with_reducible refine qNF ?_ ?_);omega)|((with_reducible refine qU8 ?_ ?_);omega)|((with_reducible refine qU32 ?_ ?_);omega)|((with_reducible refine qU64 ?_ ?_);omega)|((with_reducible refine qU16 ?_ ?_);omega))
    conv => whnf
    try rw [zi i]
    refine cD (fun h6 => ?_) (fun h6 => ?_)
    · conv => whnf
      have e : chkO m = ((i : Int), 141) := by
        have e : first m.nG (fun i => decide (m.nodes ≤ (m.G i).ow)) = (i : Int) := first_some (by omega) (fun q hq' => decide_eq_false (hq q hq')) (decide_eq_true h6)
        rw [chkO, e1, e, pick_neg (by omega), pick_pos (by omega)]
      exact trimM rfl (congrArg pairR (by rw [e0, e, if_pos (by simp)]) : pairR ((i : Int), 141) = _)
    · repeat((conv=>whnf);first|((with_reducible refine qS ?_ ?_ ?_);exact rfl;exact rfl)|with_reducible refine qB ?_|((with_reducible refine qI ?_ ?_);omega)|((with_reducible refine qDT ?_ ?_);omega)|((with_reducible refine qDF ?_ ?_);omega)|((with_reducible refine qNT ?_ ?_);omega)|((with_reducible refine qNF ?_ ?_);omega)|((with_reducible refine qU8 ?_ ?_);omega)|((with_reducible refine qU32 ?_ ?_);omega)|((with_reducible refine qU64 ?_ ?_);omega)|((with_reducible refine qU16 ?_ ?_);omega))
      conv => whnf
      refine ⟨i + 1, ⟨⟨by omega, all_up hq h6⟩, by omega⟩, ?_⟩
      conv=>whnf
      refine Le.id rfl ?_ ?_<;>repeat'(first|exact leT_empty|exact trivial|exact rfl|exact fun _ _=>rfl|exact .inl rfl|exact Nat.le_refl _|refine And.intro ?_ ?_)
  obtain rfl : i = m.nG := by omega
  have e2 : first m.nG (fun i => decide (m.nodes ≤ (m.G i).ow)) = -1 := first_none fun j hj => decide_eq_false (hq j hj)
  have e3 : chkO m = (0, 0) := by rw [chkO, e1, e2, pick_neg (by omega), pick_neg (by omega)]
  rw [e3, if_neg (by simp)] at e0
  conv => whnf
  refine twiceR_use (m := m) (c := c) hm hI ?_
  conv => whnf
  refine cN (fun h3 => ?_) (fun h3 => ?_)
  · conv => whnf
    exact trimM rfl (congrArg pairR (by rw [e0, if_pos h3]) : pairR ((chkT m).1, (chkT m).2) = _)
  rw [if_neg (by simpa using h3)] at e0
  conv => whnf
  refine .rd (fun i : Nat => i ≤ m.nW ∧ ∀ j, j < i → winErr m j = 0) (fun i => [(8, iv .i64 i)]) (fun i => m.nW - i) 0 ⟨Nat.zero_le _, all_0⟩ ?_ (fun i ⟨hi, hr⟩ => ?_)
  · conv=>whnf
    refine Le.id rfl ?_ ?_<;>repeat'(first|exact leT_empty|exact trivial|exact rfl|exact fun _ _=>rfl|exact .inl rfl|exact Nat.le_refl _|refine And.intro ?_ ?_)
  conv => whnf
  refine cD (fun h5 => ?_) (fun h5 => ?_)
  · conv => whnf
    refine winE_use (m := m) (c := c) (i := i) hm hI (by omega) ?_
    conv => whnf
    refine cN (fun h6 => ?_) (fun h6 => ?_)
    · conv => whnf
      exact trimM rfl (congrArg pairR (by rw [e0, chkW_at (by omega) hr rfl h6, if_pos h6]) : pairR ((i : Int), winErr m i) = _)
    · repeat((conv=>whnf);first|((with_reducible refine qS ?_ ?_ ?_);exact rfl;exact rfl)|with_reducible refine qB ?_|((with_reducible refine qI ?_ ?_);omega)|((with_reducible refine qDT ?_ ?_);omega)|((with_reducible refine qDF ?_ ?_);omega)|((with_reducible refine qNT ?_ ?_);omega)|((with_reducible refine qNF ?_ ?_);omega)|((with_reducible refine qU8 ?_ ?_);omega)|((with_reducible refine qU32 ?_ ?_);omega)|((with_reducible refine qU64 ?_ ?_);omega)|((with_reducible refine qU16 ?_ ?_);omega))
      conv => whnf
      refine ⟨i + 1, ⟨⟨by omega, all_up hr h6⟩, by omega⟩, ?_⟩
      conv=>whnf
      refine Le.id rfl ?_ ?_<;>repeat'(first|exact leT_empty|exact trivial|exact rfl|exact fun _ _=>rfl|exact .inl rfl|exact Nat.le_refl _|refine And.intro ?_ ?_)
  obtain rfl : i = m.nW := by omega
  conv => whnf
  exact trimM rfl (congrArg pairR (by rw [e0, chkW_0 hr, if_neg (by simp)]) : pairR (0, 0) = _)
theorem checkR_ok : ConOk Try.prog F.ref12_Check checkRC := con_of_run (clRunX_ok (d := 7) ttOk outsR4_ok tabCc_ok 2) (fn_enters (ok.ref12_Check (D := 7) u0 _ (clRunX_ok (d := 7) ttOk .nil TabOk.nil 1))) fun p hp => checkR_run p.1 p.2 hp
end Go.Proofs.Ytbdifadabipfiaa.Co
