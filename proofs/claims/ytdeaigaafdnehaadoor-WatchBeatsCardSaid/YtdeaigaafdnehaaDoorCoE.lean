/- Contracts: the references' small functions; which windows meet. -/
import Derived.Test.YtdeaigaafdnehaaDoorCoD
namespace Go.Proofs.YtdeaigaafdnehaaDoor.Co
open Go Go.Eng Go.Proofs Go.Proofs.YtdeaigaafdnehaaDoor.Tb Go.Pu
set_option maxRecDepth 100000
set_option maxHeartbeats 8000000
theorem isM_nh {m : Mat} (h : ¬ headP m) : false = isM m := by rw [isM, decide_eq_false h]; rfl
theorem isM_ns {m : Mat} (h : ¬ sizeP m) : false = isM m := by rw [isM, decide_eq_false h, Bool.false_and, Bool.and_false]
theorem isM_nM {m : Mat} {i : Nat} (hi : i < m.nM) (h : ¬ whoP (m.M i)) : false = isM m := (Bool.eq_false_iff.2 fun e => h ((isM_iff.1 e).M i hi)).symm
theorem isM_nG {m : Mat} {i : Nat} (hi : i < m.nG) (h : ¬ msgP (m.G i)) : false = isM m := (Bool.eq_false_iff.2 fun e => h ((isM_iff.1 e).G i hi)).symm
theorem isM_nW {m : Mat} {i : Nat} (hi : i < m.nW) (h : ¬ winP m (m.W i)) : false = isM m := (Bool.eq_false_iff.2 fun e => h ((isM_iff.1 e).W i hi)).symm
theorem all_up {n : Nat} {P : Nat → Prop} (hp : ∀ j, j < n → P j) (h : P n) : ∀ j, j < n + 1 → P j := fun j hj => by
  by_cases e : j = n
  · subst e; exact h
  · exact hp j (by omega)
theorem zi (i : Nat) : 0 + (i : Int).toNat = i := by rw [Nat.zero_add]; rfl
theorem all_0 {P : Nat → Prop} : ∀ j, j < 0 → P j := fun j hj => absurd hj (Nat.not_lt_zero j)
noncomputable abbrev tabWr : List (FuncId × Eng.Fn) := [(F.ref12_within, fn.ref12_within u0)]
theorem tabWr_ok {d : Nat} : TabOk d tabWr tt := .cons (ok.ref12_within u0) (TabOk.nil)
theorem withinR_run (n lo hi : Int) : clRunX 4 tt outs0 tabWr 2 F.ref12_within [] [iv .i64 n, iv .i64 lo, iv .i64 hi] ([]) (fun x h => Trim 0 x h fun x h => x = bv (decide (lo ≤ n ∧ n ≤ hi)) ∧ h = []) := by
  conv => whnf
  refine cD (fun h1 => ?_) (fun h1 => ?_)
  · conv => whnf
    exact trim0 rfl (congrArg bv (decide_eq_decide.2 (by omega)))
  · conv => whnf
    exact trim0 rfl (congrArg bv (decide_eq_false (by omega)).symm)
theorem withinR_ok : ConOk Tryd.prog F.ref12_within within := con_of_run (clRunX_ok (d := 4) ttOk outs0_ok tabWr_ok 2) (fn_enters (ok.ref12_within (D := 4) u0 _ (clRunX_ok (d := 4) ttOk .nil TabOk.nil 1))) fun p _ => withinR_run p.1 p.2.1 p.2.2
abbrev powerR : Con (Int × Int) := RoCon (fun p => [iv .i64 p.1, iv .i64 p.2]) (fun _ => []) (fun _ => True) fun p => bv (decide (power p.1 ∧ p.1 ≤ p.2))
theorem powerR_use {n k : Int} {h : Heap} {K : R → Heap → Prop} (hk : K (bv (decide (power n ∧ n ≤ k))) h) : AskC powerR [iv .i64 n, iv .i64 k] h K :=
  .use (n, k) [] trivial rfl trivial ⟨.inl rfl, .inl rfl, trivial⟩ hk
noncomputable abbrev tabPr : List (FuncId × Eng.Fn) := [(F.ref12_power, fn.ref12_power u0)]
theorem tabPr_ok {d : Nat} : TabOk d tabPr tt := .cons (ok.ref12_power u0) (TabOk.nil)
theorem powerR_run (n k : Int) : clRunX 5 tt outs0 tabPr 2 F.ref12_power [] [iv .i64 n, iv .i64 k] ([]) (fun x h => Trim 0 x h fun x h => x = bv (decide (power n ∧ n ≤ k)) ∧ h = []) := by
  conv => whnf
  refine cD (fun h1 => ?_) (fun h1 => ?_)
  · conv => whnf
    exact trim0 rfl (congrArg bv (decide_eq_decide.2 (by unfold power; omega)))
  conv => whnf
  refine cD (fun h2 => ?_) (fun h2 => ?_)
  · conv => whnf
    exact trim0 rfl (congrArg bv (decide_eq_decide.2 (by unfold power; omega)))
  conv => whnf
  refine cD (fun h3 => ?_) (fun h3 => ?_)
  · conv => whnf
    exact trim0 rfl (congrArg bv (decide_eq_decide.2 (by unfold power; omega)))
  conv => whnf
  refine cD (fun h4 => ?_) (fun h4 => ?_)
  · conv => whnf
    exact trim0 rfl (congrArg bv (decide_eq_decide.2 (by unfold power; omega)))
  conv => whnf
  exact trim0 rfl (congrArg bv (decide_eq_false (by unfold power; omega)).symm)
theorem powerR_ok : ConOk Tryd.prog F.ref12_power powerR := con_of_run (clRunX_ok (d := 5) ttOk outs0_ok tabPr_ok 2) (fn_enters (ok.ref12_power (D := 5) u0 _ (clRunX_ok (d := 5) ttOk .nil TabOk.nil 1))) fun p _ => powerR_run p.1 p.2
abbrev outsR1 : List (FuncId × Cx) := [(F.ref12_within, AskC within), (F.ref12_power, AskC powerR)]
theorem outsR1_ok : OutsOk Tryd.prog outsR1 := .cons (ask_ok withinR_ok) (.cons (ask_ok powerR_ok) .nil)
noncomputable abbrev tabIr : List (FuncId × Eng.Fn) := [(F.ref12_Is, fn.ref12_Is u0)]
theorem tabIr_ok {d : Nat} : TabOk d tabIr tt := .cons (ok.ref12_Is u0) (TabOk.nil)
theorem isR_run (m : Mat) (c : Caps) (hm : m.Ok) : clRunX 8 tt outsR1 tabIr 2 F.ref12_Is [] [matT m c 0 1 2] (matH m []) (fun x h => Trim 3 x h fun x h => x = bv (isM m) ∧ h = matH m []) := by
  have hnM := hm.nM
  have hnG := hm.nG
  have hnW := hm.nW
  iterate 2
    conv => whnf
    refine within_use ?_
    conv => whnf
    refine cN (fun h1 => ?_) (fun h1 => ?_)
    · conv => whnf
      exact trimM rfl (congrArg bv (isM_nh (by unfold headP; omega)))
  conv => whnf
  refine powerR_use ?_
  conv => whnf
  refine cN (fun h1 => ?_) (fun hp => ?_)
  · conv => whnf
    exact trimM rfl (congrArg bv (isM_nh (by unfold headP power at *; omega)))
  iterate 3
    conv => whnf
    refine within_use ?_
    conv => whnf
    refine cN (fun h1 => ?_) (fun h1 => ?_)
    · conv => whnf
      exact trimM rfl (congrArg bv (isM_nh (by unfold headP; omega)))
  conv => whnf
  refine within_use ?_
  conv => whnf
  refine cN (fun h1 => ?_) (fun h1 => ?_)
  · conv => whnf
    exact trimM rfl (congrArg bv (isM_nh (by unfold headP; omega)))
  conv => whnf
  refine cD (fun h1 => ?_) (fun h1 => ?_)
  · conv => whnf
    exact trimM rfl (congrArg bv (isM_nh (by unfold headP; omega)))
  repeat((conv=>whnf);first|((with_reducible refine qS ?_ ?_ ?_);exact rfl;exact rfl)|with_reducible refine qB ?_|((with_reducible refine qI ?_ ?_);omega)|((with_reducible refine qDT ?_ ?_);omega)|((with_reducible refine qDF ?_ ?_);omega)|((with_reducible refine qNT ?_ ?_);omega)|((with_reducible refine qNF ?_ ?_);omega)|((with_reducible refine qU8 ?_ ?_);omega)|((with_reducible refine qU32 ?_ ?_);omega)|((with_reducible refine qU64 ?_ ?_);omega)|((with_reducible refine qU16 ?_ ?_);omega))
  conv => whnf
  refine cN (fun h1 => ?_) (fun h1 => ?_)
  · conv => whnf
    exact trimM rfl (congrArg bv (isM_nh (by unfold headP; omega)))
  have hh : headP m := by
    unfold headP
    exact ⟨by omega, by omega, by omega, by omega, hp.1, by omega, by omega, by omega, by omega, by omega, by omega, by omega, by omega, by omega, by omega⟩
  clear hp
  conv => whnf
  refine within_use ?_
  conv => whnf
  refine cN (fun h1 => ?_) (fun h2 => ?_)
  · conv => whnf
    exact trimM rfl (congrArg bv (isM_ns (by unfold sizeP; omega)))
  conv => whnf
  refine cD (fun h1 => ?_) (fun h3 => ?_)
  · conv => whnf
    exact trimM rfl (congrArg bv (isM_ns (by unfold sizeP; omega)))
  conv => whnf
  refine cD (fun h1 => ?_) (fun h4 => ?_)
  · conv => whnf
    exact trimM rfl (congrArg bv (isM_ns (by unfold sizeP; omega)))
  conv => whnf
  refine .rd (fun i : Nat => i ≤ m.nM ∧ ∀ j, j < i → whoP (m.M j)) (fun i => [(3, iv .i64 i)]) (fun i => m.nM - i) 0 ⟨Nat.zero_le _, all_0⟩ ?_ (fun i ⟨hi, hp⟩ => ?_)
  · conv=>whnf
    refine Le.id rfl ?_ ?_<;>repeat'(first|exact leT_empty|exact trivial|exact rfl|exact fun _ _=>rfl|exact .inl rfl|exact Nat.le_refl _|refine And.intro ?_ ?_)
  conv => whnf
  refine cD (fun h5 => ?_) (fun h5 => ?_)
  · repeat((conv=>whnf);first|((with_reducible refine qS ?_ ?_ ?_);exact rfl;exact rfl)|with_reducible refine qB ?_|((with_reducible refine qI ?_ ?_);omega)|((with_reducible refine qDT ?_ ?_);omega)|((with_reducible refine qDF ?_ ?_);omega)|((with_reducible refine qNT ?_ ?_);omega)|((with_reducible refine qNF ?_ ?_);omega)|((with_reducible refine qU8 ?_ ?_);omega)|((with_reducible refine qU32 ?_ ?_);omega)|((with_reducible refine qU64 ?_ ?_);omega)|((with_reducible refine qU16 ?_ ?_);omega))
    conv => whnf
    refine within_use ?_
    try rw [zi i]
    conv => whnf
    refine cN (fun h6 => ?_) (fun h6 => ?_)
    · conv => whnf
      exact trimM rfl (congrArg bv (isM_nM (by omega) h6))
    · repeat((conv=>whnf);first|((with_reducible refine qS ?_ ?_ ?_);exact rfl;exact rfl)|with_reducible refine qB ?_|((with_reducible refine qI ?_ ?_);omega)|((with_reducible refine qDT ?_ ?_);omega)|((with_reducible refine qDF ?_ ?_);omega)|((with_reducible refine qNT ?_ ?_);omega)|((with_reducible refine qNF ?_ ?_);omega)|((with_reducible refine qU8 ?_ ?_);omega)|((with_reducible refine qU32 ?_ ?_);omega)|((with_reducible refine qU64 ?_ ?_);omega)|((with_reducible refine qU16 ?_ ?_);omega))
      conv => whnf
      refine ⟨i + 1, ⟨⟨by omega, all_up hp h6⟩, by omega⟩, ?_⟩
      conv=>whnf
      refine Le.id rfl ?_ ?_<;>repeat'(first|exact leT_empty|exact trivial|exact rfl|exact fun _ _=>rfl|exact .inl rfl|exact Nat.le_refl _|refine And.intro ?_ ?_)
  obtain rfl : i = m.nM := by omega
  conv => whnf
  refine .rd (fun i : Nat => i ≤ m.nG ∧ ∀ j, j < i → msgP (m.G j)) (fun i => [(4, iv .i64 i)]) (fun i => m.nG - i) 0 ⟨Nat.zero_le _, all_0⟩ ?_ (fun i ⟨hi, hq⟩ => ?_)
  · conv=>whnf
    refine Le.id rfl ?_ ?_<;>repeat'(first|exact leT_empty|exact trivial|exact rfl|exact fun _ _=>rfl|exact .inl rfl|exact Nat.le_refl _|refine And.intro ?_ ?_)
  conv => whnf
  refine cD (fun h5 => ?_) (fun h5 => ?_)
  · repeat((conv=>whnf);first|((with_reducible refine qS ?_ ?_ ?_);exact rfl;exact rfl)|with_reducible refine qB ?_|((with_reducible refine qI ?_ ?_);omega)|((with_reducible refine qDT ?_ ?_);omega)|((with_reducible refine qDF ?_ ?_);omega)|((with_reducible refine qNT ?_ ?_);omega)|((with_reducible refine qNF ?_ ?_);omega)|((with_reducible refine qU8 ?_ ?_);omega)|((with_reducible refine qU32 ?_ ?_);omega)|((with_reducible refine qU64 ?_ ?_);omega)|((with_reducible refine qU16 ?_ ?_);omega))
    conv => whnf
    try rw [zi i]
    refine cD (fun h6 => ?_) (fun h6 => ?_)
    · conv => whnf
      exact trimM rfl (congrArg bv (isM_nG (i := i) (by omega) (by unfold msgP; omega)))
    · repeat((conv=>whnf);first|((with_reducible refine qS ?_ ?_ ?_);exact rfl;exact rfl)|with_reducible refine qB ?_|((with_reducible refine qI ?_ ?_);omega)|((with_reducible refine qDT ?_ ?_);omega)|((with_reducible refine qDF ?_ ?_);omega)|((with_reducible refine qNT ?_ ?_);omega)|((with_reducible refine qNF ?_ ?_);omega)|((with_reducible refine qU8 ?_ ?_);omega)|((with_reducible refine qU32 ?_ ?_);omega)|((with_reducible refine qU64 ?_ ?_);omega)|((with_reducible refine qU16 ?_ ?_);omega))
      conv => whnf
      refine within_use ?_
      try rw [zi i]
      conv => whnf
      refine cN (fun h7 => ?_) (fun h7 => ?_)
      · conv => whnf
        exact trimM rfl (congrArg bv (isM_nG (i := i) (by omega) (by unfold msgP; omega)))
      · repeat((conv=>whnf);first|((with_reducible refine qS ?_ ?_ ?_);exact rfl;exact rfl)|with_reducible refine qB ?_|((with_reducible refine qI ?_ ?_);omega)|((with_reducible refine qDT ?_ ?_);omega)|((with_reducible refine qDF ?_ ?_);omega)|((with_reducible refine qNT ?_ ?_);omega)|((with_reducible refine qNF ?_ ?_);omega)|((with_reducible refine qU8 ?_ ?_);omega)|((with_reducible refine qU32 ?_ ?_);omega)|((with_reducible refine qU64 ?_ ?_);omega)|((with_reducible refine qU16 ?_ ?_);omega))
        conv => whnf
        refine ⟨i + 1, ⟨⟨by omega, all_up hq (by unfold msgP; omega)⟩, by omega⟩, ?_⟩
        conv=>whnf
        refine Le.id rfl ?_ ?_<;>repeat'(first|exact leT_empty|exact trivial|exact rfl|exact fun _ _=>rfl|exact .inl rfl|exact Nat.le_refl _|refine And.intro ?_ ?_)
  obtain rfl : i = m.nG := by omega
  conv => whnf
  refine .rd (fun i : Nat => i ≤ m.nW ∧ ∀ j, j < i → winP m (m.W j)) (fun i => [(5, iv .i64 i)]) (fun i => m.nW - i) 0 ⟨Nat.zero_le _, all_0⟩ ?_ (fun i ⟨hi, hr⟩ => ?_)
  · conv=>whnf
    refine Le.id rfl ?_ ?_<;>repeat'(first|exact leT_empty|exact trivial|exact rfl|exact fun _ _=>rfl|exact .inl rfl|exact Nat.le_refl _|refine And.intro ?_ ?_)
  conv => whnf
  refine cD (fun h5 => ?_) (fun h5 => ?_)
  · repeat((conv=>whnf);first|((with_reducible refine qS ?_ ?_ ?_);exact rfl;exact rfl)|with_reducible refine qB ?_|((with_reducible refine qI ?_ ?_);omega)|((with_reducible refine qDT ?_ ?_);omega)|((with_reducible refine qDF ?_ ?_);omega)|((with_reducible refine qNT ?_ ?_);omega)|((with_reducible refine qNF ?_ ?_);omega)|((with_reducible refine qU8 ?_ ?_);omega)|((with_reducible refine qU32 ?_ ?_);omega)|((with_reducible refine qU64 ?_ ?_);omega)|((with_reducible refine qU16 ?_ ?_);omega))
    iterate 3
      conv => whnf
      try rw [zi i]
      refine within_use ?_
      conv => whnf
      refine cN (fun h6 => ?_) (fun h6 => ?_)
      · conv => whnf
        exact trimM rfl (congrArg bv (isM_nW (i := i) (by omega) (by unfold winP; omega)))
    conv => whnf
    try rw [zi i]
    refine cD (fun h6 => ?_) (fun h6 => ?_)
    · conv => whnf
      exact trimM rfl (congrArg bv (isM_nW (i := i) (by omega) (by unfold winP; omega)))
    conv => whnf
    try rw [zi i]
    refine powerR_use ?_
    conv => whnf
    refine cN (fun h6 => ?_) (fun hpw => ?_)
    · conv => whnf
      exact trimM rfl (congrArg bv (isM_nW (i := i) (by omega) (by unfold winP; exact fun h => h6 ⟨h.2.2.2.2.2.2.2.1, h.2.2.2.2.2.2.2.2.1⟩)))
    have h7 : 1 ≤ (m.W i).rep ∧ (m.W i).rep ≤ 8 := by have := hpw.1; unfold power at this; omega
    have h8 := hpw.1
    have h9 := hpw.2
    clear hpw
    conv => whnf
    try rw [zi i]
    refine bI (by omega) ?_
    conv => whnf
    refine within_use ?_
    conv => whnf
    refine cN (fun h6 => ?_) (fun h6 => ?_)
    · conv => whnf
      exact trimM rfl (congrArg bv (isM_nW (i := i) (by omega) (by unfold winP; omega)))
    conv => whnf
    try rw [zi i]
    refine within_use ?_
    conv => whnf
    refine cN (fun h6 => ?_) (fun h6 => ?_)
    · conv => whnf
      exact trimM rfl (congrArg bv (isM_nW (i := i) (by omega) (by unfold winP; omega)))
    conv => whnf
    try rw [zi i]
    refine cN (fun h10 => ?_) (fun h10 => ?_)
    · conv => whnf
      refine cN (fun h11 => ?_) (fun h11 => ?_)
      · conv => whnf
        exact trimM rfl (congrArg bv (isM_nW (i := i) (by omega) (by unfold winP; omega)))
      · repeat((conv=>whnf);first|((with_reducible refine qS ?_ ?_ ?_);exact rfl;exact rfl)|with_reducible refine qB ?_|((with_reducible refine qI ?_ ?_);omega)|((with_reducible refine qDT ?_ ?_);omega)|((with_reducible refine qDF ?_ ?_);omega)|((with_reducible refine qNT ?_ ?_);omega)|((with_reducible refine qNF ?_ ?_);omega)|((with_reducible refine qU8 ?_ ?_);omega)|((with_reducible refine qU32 ?_ ?_);omega)|((with_reducible refine qU64 ?_ ?_);omega)|((with_reducible refine qU16 ?_ ?_);omega))
        conv => whnf
        refine ⟨i + 1, ⟨⟨by omega, all_up hr (by unfold winP; exact ⟨by omega, by omega, by omega, by omega, by omega, by omega, by omega, h8, by omega, by omega, by omega, by omega, by omega, by omega⟩)⟩, by omega⟩, ?_⟩
        conv=>whnf
        refine Le.id rfl ?_ ?_<;>repeat'(first|exact leT_empty|exact trivial|exact rfl|exact fun _ _=>rfl|exact .inl rfl|exact Nat.le_refl _|refine And.intro ?_ ?_)
    · repeat((conv=>whnf);first|((with_reducible refine qS ?_ ?_ ?_);exact rfl;exact rfl)|with_reducible refine qB ?_|((with_reducible refine qI ?_ ?_);omega)|((with_reducible refine qDT ?_ ?_);omega)|((with_reducible refine qDF ?_ ?_);omega)|((with_reducible refine qNT ?_ ?_);omega)|((with_reducible refine qNF ?_ ?_);omega)|((with_reducible refine qU8 ?_ ?_);omega)|((with_reducible refine qU32 ?_ ?_);omega)|((with_reducible refine qU64 ?_ ?_);omega)|((with_reducible refine qU16 ?_ ?_);omega))
      conv => whnf
      refine ⟨i + 1, ⟨⟨by omega, all_up hr (by unfold winP; exact ⟨by omega, by omega, by omega, by omega, by omega, by omega, by omega, h8, by omega, by omega, by omega, by omega, by omega, by omega⟩)⟩, by omega⟩, ?_⟩
      conv=>whnf
      refine Le.id rfl ?_ ?_<;>repeat'(first|exact leT_empty|exact trivial|exact rfl|exact fun _ _=>rfl|exact .inl rfl|exact Nat.le_refl _|refine And.intro ?_ ?_)
  obtain rfl : i = m.nW := by omega
  conv => whnf
  exact trimM rfl (congrArg bv (isM_iff.2 ⟨hh, by unfold sizeP; omega, hp, hq, hr⟩).symm)
theorem isR_ok : ConOk Tryd.prog F.ref12_Is isC := con_of_run (clRunX_ok (d := 8) ttOk outsR1_ok tabIr_ok 2) (fn_enters (ok.ref12_Is (D := 8) u0 _ (clRunX_ok (d := 8) ttOk .nil TabOk.nil 1))) fun p hp => isR_run p.1 p.2 hp
end Go.Proofs.YtdeaigaafdnehaaDoor.Co
