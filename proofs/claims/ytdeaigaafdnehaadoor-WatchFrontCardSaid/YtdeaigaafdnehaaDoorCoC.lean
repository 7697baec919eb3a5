/- Contracts: whether a matrix may be. -/
import Derived.Test.YtdeaigaafdnehaaDoorCoB
namespace Go.Proofs.YtdeaigaafdnehaaDoor.Co
open Go Go.Eng Go.Proofs Go.Proofs.YtdeaigaafdnehaaDoor.Tb Go.Pu
set_option maxRecDepth 100000
set_option maxHeartbeats 8000000
abbrev isC : Con (Mat × Caps) := RoCon (fun p => [matT p.1 p.2 0 1 2]) (fun p => matH p.1 []) (fun p => p.1.Ok) fun p => bv (isM p.1)
theorem is_use {m : Mat} {c : Caps} {rest : Heap} {K : R → Heap → Prop} (hm : m.Ok) (hk : K (bv (isM m)) (matH m rest)) : AskC isC [matT m c 0 1 2] (matH m rest) K :=
  .use (m, c) [0, 1, 2] hm rfl (mat_le m rest) ⟨mat_lx m c rest, trivial⟩ hk
noncomputable abbrev tabIs : List (FuncId × Eng.Fn) := [(F.matrix_Is, fn.matrix_Is u0), (F.matrix_Is_1, fn.matrix_Is_1 u0), (F.matrix_Is_2, fn.matrix_Is_2 u0), (F.matrix_Is_3, fn.matrix_Is_3 u0), (F.slices_ContainsFunc_int, fn.slices_ContainsFunc_int u0), (F.slices_ContainsFunc_Message, fn.slices_ContainsFunc_Message u0), (F.slices_ContainsFunc_Window, fn.slices_ContainsFunc_Window u0), (F.slices_IndexFunc_int, fn.slices_IndexFunc_int u0), (F.slices_IndexFunc_Message, fn.slices_IndexFunc_Message u0), (F.slices_IndexFunc_Window, fn.slices_IndexFunc_Window u0)]
theorem is_run (m : Mat) (c : Caps) (hm : m.Ok) : clRunX 6 tt outs2 tabIs 6 F.matrix_Is [] [matT m c 0 1 2] (matH m []) (fun x h => Trim 3 x h fun x h => x = bv (isM m) ∧ h = matH m []) := by
  have hnM := hm.nM
  have hnG := hm.nG
  have hnW := hm.nW
  conv => whnf
  refine head_use ?_
  conv => whnf
  refine cN (fun h1 => ?_) (fun h1 => ?_)
  · conv => whnf
    exact trimM rfl (congrArg bv (by rw [isM, decide_eq_false h1]; rfl))
  conv => whnf
  refine within_use ?_
  conv => whnf
  refine cN (fun h2 => ?_) (fun h2 => ?_)
  · conv => whnf
    exact trimM rfl (congrArg bv (by rw [isM, decide_eq_false (p := sizeP m) (by unfold sizeP; omega), Bool.false_and, Bool.and_false]))
  conv => whnf
  refine cD (fun h3 => ?_) (fun h3 => ?_)
  · conv => whnf
    exact trimM rfl (congrArg bv (by rw [isM, decide_eq_false (p := sizeP m) (by unfold sizeP; omega), Bool.false_and, Bool.and_false]))
  conv => whnf
  refine cD (fun h4 => ?_) (fun h4 => ?_)
  · conv => whnf
    exact trimM rfl (congrArg bv (by rw [isM, decide_eq_false (p := sizeP m) (by unfold sizeP; omega), Bool.false_and, Bool.and_false]))
  conv => whnf
  refine .rd (fun i : Nat => i ≤ m.nM ∧ ∀ j, j < i → whoP (m.M j)) (fun i => [(8, iv .i64 i)]) (fun i => m.nM - i) 0 ⟨Nat.zero_le _, fun j hj => absurd hj (Nat.not_lt_zero j)⟩ ?_ (fun i ⟨hi, hp⟩ => ?_)
  · conv=>whnf
    refine Le.id rfl ?_ ?_<;>repeat'(first|exact leT_empty|exact trivial|exact rfl|exact fun _ _=>rfl|exact .inl rfl|exact Nat.le_refl _|refine And.intro ?_ ?_)
  · conv => whnf
    refine cD (fun h5 => ?_) (fun h5 => ?_)
    · repeat((conv=>whnf);first|((with_reducible refine qS ?_ ?_ ?_);exact rfl;exact rfl)|with_reducible refine qB ?_|((with_reducible refine qI ?_ ?_);omega)|((with_reducible refine qDT ?_ ?_);omega)|((with_reducible refine qDF ?_ ?_);omega)|((with_reducible refine qNT ?_ ?_);omega)|((with_reducible refine qNF ?_ ?_);omega)|((with_reducible refine qU8 ?_ ?_);omega)|((with_reducible refine qU32 ?_ ?_);omega)|((with_reducible refine qU64 ?_ ?_);omega)|((with_reducible refine qU16 ?_ ?_);omega))
      conv => whnf
      refine within_use ?_
      conv => whnf
      refine cN (fun h6 => ?_) (fun h6 => ?_)
      · repeat((conv=>whnf);first|((with_reducible refine qS ?_ ?_ ?_);exact rfl;exact rfl)|with_reducible refine qB ?_|((with_reducible refine qI ?_ ?_);omega)|((with_reducible refine qDT ?_ ?_);omega)|((with_reducible refine qDF ?_ ?_);omega)|((with_reducible refine qNT ?_ ?_);omega)|((with_reducible refine qNF ?_ ?_);omega)|((with_reducible refine qU8 ?_ ?_);omega)|((with_reducible refine qU32 ?_ ?_);omega)|((with_reducible refine qU64 ?_ ?_);omega)|((with_reducible refine qU16 ?_ ?_);omega))
        conv => whnf
        rw [Nat.zero_add, Int.toNat_natCast] at h6
        refine trimM rfl (congrArg bv ?_)
        rw [isM, allB_false.2 ⟨i, by omega, decide_eq_false h6⟩, Bool.false_and, Bool.and_false, Bool.and_false]
      · repeat((conv=>whnf);first|((with_reducible refine qS ?_ ?_ ?_);exact rfl;exact rfl)|with_reducible refine qB ?_|((with_reducible refine qI ?_ ?_);omega)|((with_reducible refine qDT ?_ ?_);omega)|((with_reducible refine qDF ?_ ?_);omega)|((with_reducible refine qNT ?_ ?_);omega)|((with_reducible refine qNF ?_ ?_);omega)|((with_reducible refine qU8 ?_ ?_);omega)|((with_reducible refine qU32 ?_ ?_);omega)|((with_reducible refine qU64 ?_ ?_);omega)|((with_reducible refine qU16 ?_ ?_);omega))
        conv => whnf
        rw [Nat.zero_add, Int.toNat_natCast] at h6
        refine ⟨i + 1, ⟨⟨by omega, fun j hj => ?_⟩, by omega⟩, ?_⟩
        · by_cases e : j = i
          · subst e; exact h6
          · exact hp j (by omega)
        conv=>whnf
        refine Le.id rfl ?_ ?_<;>repeat'(first|exact leT_empty|exact trivial|exact rfl|exact fun _ _=>rfl|exact .inl rfl|exact Nat.le_refl _|refine And.intro ?_ ?_)
    · repeat((conv=>whnf);first|((with_reducible refine qS ?_ ?_ ?_);exact rfl;exact rfl)|with_reducible refine qB ?_|((with_reducible refine qI ?_ ?_);omega)|((with_reducible refine qDT ?_ ?_);omega)|((with_reducible refine qDF ?_ ?_);omega)|((with_reducible refine qNT ?_ ?_);omega)|((with_reducible refine qNF ?_ ?_);omega)|((with_reducible refine qU8 ?_ ?_);omega)|((with_reducible refine qU32 ?_ ?_);omega)|((with_reducible refine qU64 ?_ ?_);omega)|((with_reducible refine qU16 ?_ ?_);omega))
      conv => whnf
      obtain rfl : i = m.nM := by omega
      refine .rd (fun i : Nat => i ≤ m.nG ∧ ∀ j, j < i → msgP (m.G j)) (fun i => [(8, iv .i64 i)]) (fun i => m.nG - i) 0 ⟨Nat.zero_le _, fun j hj => absurd hj (Nat.not_lt_zero j)⟩ ?_ (fun i ⟨hi, hq⟩ => ?_)
      · conv=>whnf
        refine Le.id rfl ?_ ?_<;>repeat'(first|exact leT_empty|exact trivial|exact rfl|exact fun _ _=>rfl|exact .inl rfl|exact Nat.le_refl _|refine And.intro ?_ ?_)
      · have bad : ∀ (e : ¬ msgP (m.G i)), i < m.nG → false = isM m := fun e hlt => by
          rw [isM, allB_false.2 ⟨i, hlt, decide_eq_false e⟩, Bool.false_and, Bool.and_false, Bool.and_false, Bool.and_false]
        conv => whnf
        refine cD (fun h5 => ?_) (fun h5 => ?_)
        · repeat((conv=>whnf);first|((with_reducible refine qS ?_ ?_ ?_);exact rfl;exact rfl)|with_reducible refine qB ?_|((with_reducible refine qI ?_ ?_);omega)|((with_reducible refine qDT ?_ ?_);omega)|((with_reducible refine qDF ?_ ?_);omega)|((with_reducible refine qNT ?_ ?_);omega)|((with_reducible refine qNF ?_ ?_);omega)|((with_reducible refine qU8 ?_ ?_);omega)|((with_reducible refine qU32 ?_ ?_);omega)|((with_reducible refine qU64 ?_ ?_);omega)|((with_reducible refine qU16 ?_ ?_);omega))
          conv => whnf
          refine cD (fun h6 => ?_) (fun h6 => ?_)
          · repeat((conv=>whnf);first|((with_reducible refine qS ?_ ?_ ?_);exact rfl;exact rfl)|with_reducible refine qB ?_|((with_reducible refine qI ?_ ?_);omega)|((with_reducible refine qDT ?_ ?_);omega)|((with_reducible refine qDF ?_ ?_);omega)|((with_reducible refine qNT ?_ ?_);omega)|((with_reducible refine qNF ?_ ?_);omega)|((with_reducible refine qU8 ?_ ?_);omega)|((with_reducible refine qU32 ?_ ?_);omega)|((with_reducible refine qU64 ?_ ?_);omega)|((with_reducible refine qU16 ?_ ?_);omega))
            conv => whnf
            rw [Nat.zero_add, Int.toNat_natCast] at h6
            exact trimM rfl (congrArg bv (bad (by unfold msgP; omega) (by omega)))
          · conv => whnf
            refine within_use ?_
            conv => whnf
            refine cN (fun h7 => ?_) (fun h7 => ?_)
            · repeat((conv=>whnf);first|((with_reducible refine qS ?_ ?_ ?_);exact rfl;exact rfl)|with_reducible refine qB ?_|((with_reducible refine qI ?_ ?_);omega)|((with_reducible refine qDT ?_ ?_);omega)|((with_reducible refine qDF ?_ ?_);omega)|((with_reducible refine qNT ?_ ?_);omega)|((with_reducible refine qNF ?_ ?_);omega)|((with_reducible refine qU8 ?_ ?_);omega)|((with_reducible refine qU32 ?_ ?_);omega)|((with_reducible refine qU64 ?_ ?_);omega)|((with_reducible refine qU16 ?_ ?_);omega))
              conv => whnf
              rw [Nat.zero_add, Int.toNat_natCast] at h7
              exact trimM rfl (congrArg bv (bad (by unfold msgP; omega) (by omega)))
            · repeat((conv=>whnf);first|((with_reducible refine qS ?_ ?_ ?_);exact rfl;exact rfl)|with_reducible refine qB ?_|((with_reducible refine qI ?_ ?_);omega)|((with_reducible refine qDT ?_ ?_);omega)|((with_reducible refine qDF ?_ ?_);omega)|((with_reducible refine qNT ?_ ?_);omega)|((with_reducible refine qNF ?_ ?_);omega)|((with_reducible refine qU8 ?_ ?_);omega)|((with_reducible refine qU32 ?_ ?_);omega)|((with_reducible refine qU64 ?_ ?_);omega)|((with_reducible refine qU16 ?_ ?_);omega))
              conv => whnf
              rw [Nat.zero_add, Int.toNat_natCast] at h6 h7
              refine ⟨i + 1, ⟨⟨by omega, fun j hj => ?_⟩, by omega⟩, ?_⟩
              · by_cases e : j = i
                · subst e; unfold msgP; omega
                · exact hq j (by omega)
              conv=>whnf
              refine Le.id rfl ?_ ?_<;>repeat'(first|exact leT_empty|exact trivial|exact rfl|exact fun _ _=>rfl|exact .inl rfl|exact Nat.le_refl _|refine And.intro ?_ ?_)
        · repeat((conv=>whnf);first|((with_reducible refine qS ?_ ?_ ?_);exact rfl;exact rfl)|with_reducible refine qB ?_|((with_reducible refine qI ?_ ?_);omega)|((with_reducible refine qDT ?_ ?_);omega)|((with_reducible refine qDF ?_ ?_);omega)|((with_reducible refine qNT ?_ ?_);omega)|((with_reducible refine qNF ?_ ?_);omega)|((with_reducible refine qU8 ?_ ?_);omega)|((with_reducible refine qU32 ?_ ?_);omega)|((with_reducible refine qU64 ?_ ?_);omega)|((with_reducible refine qU16 ?_ ?_);omega))
          conv => whnf
          obtain rfl : i = m.nG := by omega
          refine .rd (fun i : Nat => i ≤ m.nW ∧ ∀ j, j < i → winP m (m.W j)) (fun i => [(8, iv .i64 i)]) (fun i => m.nW - i) 0 ⟨Nat.zero_le _, fun j hj => absurd hj (Nat.not_lt_zero j)⟩ ?_ (fun i ⟨hi, hr⟩ => ?_)
          · conv=>whnf
            refine Le.id rfl ?_ ?_<;>repeat'(first|exact leT_empty|exact trivial|exact rfl|exact fun _ _=>rfl|exact .inl rfl|exact Nat.le_refl _|refine And.intro ?_ ?_)
          · conv => whnf
            refine cD (fun h5 => ?_) (fun h5 => ?_)
            · repeat((conv=>whnf);first|((with_reducible refine qS ?_ ?_ ?_);exact rfl;exact rfl)|with_reducible refine qB ?_|((with_reducible refine qI ?_ ?_);omega)|((with_reducible refine qDT ?_ ?_);omega)|((with_reducible refine qDF ?_ ?_);omega)|((with_reducible refine qNT ?_ ?_);omega)|((with_reducible refine qNF ?_ ?_);omega)|((with_reducible refine qU8 ?_ ?_);omega)|((with_reducible refine qU32 ?_ ?_);omega)|((with_reducible refine qU64 ?_ ?_);omega)|((with_reducible refine qU16 ?_ ?_);omega))
              conv => whnf
              refine window_use (m := m) (c := c) (w := m.W (0 + (i : Int).toNat)) ?_
              conv => whnf
              rw [Nat.zero_add, Int.toNat_natCast]
              refine cN (fun h7 => ?_) (fun h7 => ?_)
              · repeat((conv=>whnf);first|((with_reducible refine qS ?_ ?_ ?_);exact rfl;exact rfl)|with_reducible refine qB ?_|((with_reducible refine qI ?_ ?_);omega)|((with_reducible refine qDT ?_ ?_);omega)|((with_reducible refine qDF ?_ ?_);omega)|((with_reducible refine qNT ?_ ?_);omega)|((with_reducible refine qNF ?_ ?_);omega)|((with_reducible refine qU8 ?_ ?_);omega)|((with_reducible refine qU32 ?_ ?_);omega)|((with_reducible refine qU64 ?_ ?_);omega)|((with_reducible refine qU16 ?_ ?_);omega))
                conv => whnf
                refine trimM rfl (congrArg bv ?_)
                rw [isM, (allB_false (p := fun i => decide (winP m (m.W i)))).2 ⟨i, by omega, decide_eq_false h7⟩, Bool.and_false, Bool.and_false, Bool.and_false, Bool.and_false, decide_eq_true (by omega)]
                rfl
              · repeat((conv=>whnf);first|((with_reducible refine qS ?_ ?_ ?_);exact rfl;exact rfl)|with_reducible refine qB ?_|((with_reducible refine qI ?_ ?_);omega)|((with_reducible refine qDT ?_ ?_);omega)|((with_reducible refine qDF ?_ ?_);omega)|((with_reducible refine qNT ?_ ?_);omega)|((with_reducible refine qNF ?_ ?_);omega)|((with_reducible refine qU8 ?_ ?_);omega)|((with_reducible refine qU32 ?_ ?_);omega)|((with_reducible refine qU64 ?_ ?_);omega)|((with_reducible refine qU16 ?_ ?_);omega))
                conv => whnf
                refine ⟨i + 1, ⟨⟨by omega, fun j hj => ?_⟩, by omega⟩, ?_⟩
                · by_cases e : j = i
                  · subst e; exact h7
                  · exact hr j (by omega)
                conv=>whnf
                refine Le.id rfl ?_ ?_<;>repeat'(first|exact leT_empty|exact trivial|exact rfl|exact fun _ _=>rfl|exact .inl rfl|exact Nat.le_refl _|refine And.intro ?_ ?_)
            · repeat((conv=>whnf);first|((with_reducible refine qS ?_ ?_ ?_);exact rfl;exact rfl)|with_reducible refine qB ?_|((with_reducible refine qI ?_ ?_);omega)|((with_reducible refine qDT ?_ ?_);omega)|((with_reducible refine qDF ?_ ?_);omega)|((with_reducible refine qNT ?_ ?_);omega)|((with_reducible refine qNF ?_ ?_);omega)|((with_reducible refine qU8 ?_ ?_);omega)|((with_reducible refine qU32 ?_ ?_);omega)|((with_reducible refine qU64 ?_ ?_);omega)|((with_reducible refine qU16 ?_ ?_);omega))
              conv => whnf
              obtain rfl : i = m.nW := by omega
              exact trimM rfl (congrArg bv (isM_iff.2 ⟨h1, by unfold sizeP; omega, hp, hq, hr⟩).symm)
theorem is_ok : ConOk Tryd.prog F.matrix_Is isC :=
  con_of_run (clRunX_ok (d := 6) ttOk outs2_ok (TabOk.cons (ok.matrix_Is u0) (.cons (ok.matrix_Is_1 u0) (.cons (ok.matrix_Is_2 u0) (.cons (ok.matrix_Is_3 u0) (.cons (ok.slices_ContainsFunc_int u0) (.cons (ok.slices_ContainsFunc_Message u0) (.cons (ok.slices_ContainsFunc_Window u0) (.cons (ok.slices_IndexFunc_int u0) (.cons (ok.slices_IndexFunc_Message u0) (.cons (ok.slices_IndexFunc_Window u0) .nil)))))))))) 6) (fn_enters (ok.matrix_Is (D := 6) u0 _ (clRunX_ok (d := 6) ttOk .nil TabOk.nil 2))) fun p hp => is_run p.1 p.2 hp
def capsOk (m : Mat) (c : Caps) : Prop := m.nM ≤ c.c1 ∧ m.nG ≤ c.c2 ∧ m.nW ≤ c.c3
end Go.Proofs.YtdeaigaafdnehaaDoor.Co
