/- Contracts: a node's plan. -/
import Derived.Test.YtbdifadabipfiaaCoU
namespace Go.Proofs.Ytbdifadabipfiaa.Co
open Go Go.Eng Go.Proofs Go.Proofs.Ytbdifadabipfiaa.Tb Go.Pu
set_option maxRecDepth 100000
set_option maxHeartbeats 8000000
abbrev nilS : R := .t (.one (.v (.slice none 0 0)))
abbrev outsPp : List (FuncId × Cx) := [(F.check_Check, AskC checkC), (F.plan_window, AskC trgC), (F.matrix_Rank, AskC rankC), (F.plan_Beat, AskC beatC), (F.plan_Watch, AskC watchC), (F.slices_SortStableFunc_Trigger, AskC sortC)]
theorem outsPp_ok : OutsOk Try.prog outsPp := .cons (ask_ok check_ok) (.cons (ask_ok trg_ok) (.cons (ask_ok rankM_ok) (.cons (ask_ok beat_ok) (.cons (ask_ok watch_ok) (.cons (ask_ok sort_ok) .nil)))))
noncomputable abbrev tabPp : List (FuncId × Eng.Fn) := [(F.plan_Plan, fn.plan_Plan u0), (F.plan_Plan_1, fn.plan_Plan_1 u0)]
theorem tabPp_ok {d : Nat} : TabOk d tabPp tt := .cons (ok.plan_Plan u0) (.cons (ok.plan_Plan_1 u0) (TabOk.nil))
/-- The row that is out by now. -/
abbrev outC (k b cap : Nat) : HE := match k with
  | 0 => .ob (.own [.c (.v (.slice none 0 0))])
  | k + 1 => .ob (.own [.c (.slc b 0 6 0 (k + 1) cap false)])
abbrev rowsC (T : Nat → Trg) (k cap : Nat) : Heap := match k with
  | 0 => []
  | k + 1 => [rowT T (k + 1) cap]
def planP (m : Mat) (who : Int) (cap : Nat) (x : R) (h : Heap) : Prop :=
  x = (if (chk m).2 = 0 then slT 3 (rowL0 m who).length cap false else nilS) ∧ h = (if (chk m).2 = 0 then matH m [rowT (planF m who) (rowL0 m who).length cap] else matH m [])
theorem appF {f : Nat → List C} {L : List Trg} {t : Trg} {n q : Nat} (hn : L.length = n) (hf : ∀ i, i < n → f i = trgL (at0L L i)) (hq : q < n + 1) : (if q < n then f (0 + q) else nthD [] [trgL t] (0 + (q - n))) = trgL (at0L (L ++ [t]) q) := by
  rw [at0L_end _ _ _ (by omega), hn]
  by_cases c : q < n
  · rw [if_pos c, if_pos c, Nat.zero_add, hf q c]
  · rw [if_neg c, if_neg c, show 0 + (q - n) = 0 by omega]; rfl
theorem app0 {L : List Trg} {t : Trg} {q : Nat} (hn : L = []) (hq : q < 0 + 1) : nthD [] [trgL t] (0 + q) = trgL (at0L (L ++ [t]) q) := by
  subst hn
  obtain rfl : q = 0 := by omega
  rfl
theorem plan_run (m : Mat) (c : Caps) (who : Int) (hm : m.Ok) (hc : capsOk m c) (hw : I64 who) : clRunX 6 tt outsPp tabPp 3 F.plan_Plan [] [matT m c 0 1 2, iv .i64 who] (matH m []) (fun x h => Trim 3 x h fun x h => ∃ cap, (rowL0 m who).length ≤ cap ∧ x = (if (chk m).2 = 0 then slT 3 (rowL0 m who).length cap false else nilS) ∧ h = (if (chk m).2 = 0 then matH m [rowT (planF m who) (rowL0 m who).length cap] else matH m [])) := by
  repeat((conv=>whnf);first|((with_reducible refine qS ?_ ?_ ?_);exact rfl;exact rfl)|with_reducible refine qB ?_|((with_reducible refine qI ?_ ?_);omega)|((with_reducible refine qDT ?_ ?_);omega)|((with_reducible refine qDF ?_ ?_);omega)|((with_reducible refine qNT ?_ ?_);omega)|((with_reducible refine qNF ?_ ?_);omega)|((with_reducible refine qU8 ?_ ?_);omega)|((with_reducible refine qU32 ?_ ?_);omega)|((with_reducible refine qU64 ?_ ?_);omega)|((with_reducible refine qU16 ?_ ?_);omega))
  conv => whnf
  refine check_use (m := m) (c := c) hm hc ?_
  repeat((conv=>whnf);first|((with_reducible refine qS ?_ ?_ ?_);exact rfl;exact rfl)|with_reducible refine qB ?_|((with_reducible refine qI ?_ ?_);omega)|((with_reducible refine qDT ?_ ?_);omega)|((with_reducible refine qDF ?_ ?_);omega)|((with_reducible refine qNT ?_ ?_);omega)|((with_reducible refine qNF ?_ ?_);omega)|((with_reducible refine qU8 ?_ ?_);omega)|((with_reducible refine qU32 ?_ ?_);omega)|((with_reducible refine qU64 ?_ ?_);omega)|((with_reducible refine qU16 ?_ ?_);omega))
  conv => whnf
  refine cN (fun h1 => ?_) (fun h1 => ?_)
  · repeat((conv=>whnf);first|((with_reducible refine qS ?_ ?_ ?_);exact rfl;exact rfl)|with_reducible refine qB ?_|((with_reducible refine qI ?_ ?_);omega)|((with_reducible refine qDT ?_ ?_);omega)|((with_reducible refine qDF ?_ ?_);omega)|((with_reducible refine qNT ?_ ?_);omega)|((with_reducible refine qNF ?_ ?_);omega)|((with_reducible refine qU8 ?_ ?_);omega)|((with_reducible refine qU32 ?_ ?_);omega)|((with_reducible refine qU64 ?_ ?_);omega)|((with_reducible refine qU16 ?_ ?_);omega))
    conv => whnf
    refine Trim.fam (rowL0 m who).length (Nat.le_refl _) ?_
    rw [if_neg h1, if_neg h1]
    refine Le.id rfl ?_ ?_
    · repeat'(first|exact leT_empty|exact trivial|exact rfl|exact .inl rfl|exact .inr rfl|exact .inr ⟨rfl,rfl⟩|exact Nat.le_refl _|exact Nat.zero_le _|exact fun _ _=>rfl|assumption|refine And.intro ?_ ?_|exact ul0|exact ul1 rfl|exact ul2 rfl rfl|exact ul3 rfl rfl rfl)
    · repeat'(first|exact leT_empty|exact trivial|exact rfl|exact .inl rfl|exact .inr rfl|exact .inr ⟨rfl,rfl⟩|exact Nat.le_refl _|exact Nat.zero_le _|exact fun _ _=>rfl|assumption|refine And.intro ?_ ?_|exact ul0|exact ul1 rfl|exact ul2 rfl rfl|exact ul3 rfl rfl rfl)
  have hP := pass_of h1
  have hi0 := hP.is
  have hnW : m.nW ≤ 16 := hi0.size.2.2.2
  repeat((conv=>whnf);first|((with_reducible refine qS ?_ ?_ ?_);exact rfl;exact rfl)|with_reducible refine qB ?_|((with_reducible refine qI ?_ ?_);omega)|((with_reducible refine qDT ?_ ?_);omega)|((with_reducible refine qDF ?_ ?_);omega)|((with_reducible refine qNT ?_ ?_);omega)|((with_reducible refine qNF ?_ ?_);omega)|((with_reducible refine qU8 ?_ ?_);omega)|((with_reducible refine qU32 ?_ ?_);omega)|((with_reducible refine qU64 ?_ ?_);omega)|((with_reducible refine qU16 ?_ ?_);omega))
  conv => whnf
  refine .inv (fun p : Nat × Nat => p.1 ≤ m.nW ∧ (wTrgs m who p.1).length ≤ p.2) (fun p => [(22, iv .i64 p.1)]) (fun p => matH m (boxM m c :: outC (wTrgs m who p.1).length 5 p.2 :: rowsC (at0L (wTrgs m who p.1)) (wTrgs m who p.1).length p.2)) (fun p => m.nW - p.1) (0, 0) ⟨Nat.zero_le _, Nat.le_refl _⟩ ?_ (fun p ⟨hi, hl⟩ => ?_)
  · conv => whnf
    refine Le.id rfl ?_ ?_
    all_goals(repeat'(first|exact leT_empty|exact trivial|exact rfl|exact .inl rfl|exact .inr rfl|exact .inr ⟨rfl,rfl⟩|exact Nat.le_refl _|exact Nat.zero_le _|exact fun _ _=>rfl|assumption|refine And.intro ?_ ?_|exact ul0|exact ul1 rfl|exact ul2 rfl rfl|exact ul3 rfl rfl rfl))
  generalize p.1 = i at *
  generalize p.2 = cap at *
  conv => whnf
  refine cD (fun h5 => ?_) (fun h5 => ?_)
  · have hw := hP.w (i := i) (by omega)
    have ew : wTrgs m who (i + 1) = if (m.W i).kind = 3 then wTrgs m who i else wTrgs m who i ++ [trgW m who (m.W i)] := rfl
    have hlen := wTrgs_len m who i
    obtain ⟨k, hk⟩ : ∃ k, (wTrgs m who i).length = k := ⟨_, rfl⟩
    rw [hk] at hl hlen ⊢
    rcases k with _ | k
    · repeat((conv=>whnf);first|((with_reducible refine qS ?_ ?_ ?_);exact rfl;exact rfl)|with_reducible refine qB ?_|((with_reducible refine qI ?_ ?_);omega)|((with_reducible refine qDT ?_ ?_);omega)|((with_reducible refine qDF ?_ ?_);omega)|((with_reducible refine qNT ?_ ?_);omega)|((with_reducible refine qNF ?_ ?_);omega)|((with_reducible refine qU8 ?_ ?_);omega)|((with_reducible refine qU32 ?_ ?_);omega)|((with_reducible refine qU64 ?_ ?_);omega)|((with_reducible refine qU16 ?_ ?_);omega))
      conv => whnf
      try rw [zi i]
      repeat((conv=>whnf);first|((with_reducible refine qS ?_ ?_ ?_);exact rfl;exact rfl)|with_reducible refine qB ?_|((with_reducible refine qI ?_ ?_);omega)|((with_reducible refine qDT ?_ ?_);omega)|((with_reducible refine qDF ?_ ?_);omega)|((with_reducible refine qNT ?_ ?_);omega)|((with_reducible refine qNF ?_ ?_);omega)|((with_reducible refine qU8 ?_ ?_);omega)|((with_reducible refine qU32 ?_ ?_);omega)|((with_reducible refine qU64 ?_ ?_);omega)|((with_reducible refine qU16 ?_ ?_);omega))
      conv => whnf
      refine cD (fun h6 => ?_) (fun h6 => ?_)
      · rw [if_pos h6] at ew
        repeat((conv=>whnf);first|((with_reducible refine qS ?_ ?_ ?_);exact rfl;exact rfl)|with_reducible refine qB ?_|((with_reducible refine qI ?_ ?_);omega)|((with_reducible refine qDT ?_ ?_);omega)|((with_reducible refine qDF ?_ ?_);omega)|((with_reducible refine qNT ?_ ?_);omega)|((with_reducible refine qNF ?_ ?_);omega)|((with_reducible refine qU8 ?_ ?_);omega)|((with_reducible refine qU32 ?_ ?_);omega)|((with_reducible refine qU64 ?_ ?_);omega)|((with_reducible refine qU16 ?_ ?_);omega))
        conv => whnf
        refine ⟨(i + 1, cap), ⟨⟨by show i + 1 ≤ m.nW; omega, by rw [ew, hk]; omega⟩, by show m.nW - (i + 1) < m.nW - i; omega⟩, ?_⟩
        rw [ew, hk]
        conv => whnf
        refine Le.id rfl ?_ ?_
        all_goals(repeat'(first|exact leT_empty|exact trivial|exact rfl|exact .inl rfl|exact .inr rfl|exact .inr ⟨rfl,rfl⟩|exact Nat.le_refl _|exact Nat.zero_le _|exact fun _ _=>rfl|assumption|refine And.intro ?_ ?_|exact ul0|exact ul1 rfl|exact ul2 rfl rfl|exact ul3 rfl rfl rfl))
      rw [if_neg h6] at ew
      repeat((conv=>whnf);first|((with_reducible refine qS ?_ ?_ ?_);exact rfl;exact rfl)|with_reducible refine qB ?_|((with_reducible refine qI ?_ ?_);omega)|((with_reducible refine qDT ?_ ?_);omega)|((with_reducible refine qDF ?_ ?_);omega)|((with_reducible refine qNT ?_ ?_);omega)|((with_reducible refine qNF ?_ ?_);omega)|((with_reducible refine qU8 ?_ ?_);omega)|((with_reducible refine qU32 ?_ ?_);omega)|((with_reducible refine qU64 ?_ ?_);omega)|((with_reducible refine qU16 ?_ ?_);omega))
      conv => whnf
      refine trg_use (m := m) (c := c) (w := m.W i) hm hi0 hw.1 (fun h => (hw.2.1 h).1) h6 ?_
      repeat((conv=>whnf);first|((with_reducible refine qS ?_ ?_ ?_);exact rfl;exact rfl)|with_reducible refine qB ?_|((with_reducible refine qI ?_ ?_);omega)|((with_reducible refine qDT ?_ ?_);omega)|((with_reducible refine qDF ?_ ?_);omega)|((with_reducible refine qNT ?_ ?_);omega)|((with_reducible refine qNF ?_ ?_);omega)|((with_reducible refine qU8 ?_ ?_);omega)|((with_reducible refine qU32 ?_ ?_);omega)|((with_reducible refine qU64 ?_ ?_);omega)|((with_reducible refine qU16 ?_ ?_);omega))
      conv => whnf
      intro cap' hc'
      have e2 : (wTrgs m who (i + 1)).length = 0 + 1 := by rw [ew, List.length_append, hk]; rfl
      have eT : ∀ q, q < 0 + 1 → at0L (wTrgs m who (i + 1)) q = if q < 0 then at0L (wTrgs m who i) q else trgW m who (m.W i) := fun q hq => by rw [ew, at0L_end _ _ _ (by omega), hk]
      repeat((conv=>whnf);first|((with_reducible refine qS ?_ ?_ ?_);exact rfl;exact rfl)|with_reducible refine qB ?_|((with_reducible refine qI ?_ ?_);omega)|((with_reducible refine qDT ?_ ?_);omega)|((with_reducible refine qDF ?_ ?_);omega)|((with_reducible refine qNT ?_ ?_);omega)|((with_reducible refine qNF ?_ ?_);omega)|((with_reducible refine qU8 ?_ ?_);omega)|((with_reducible refine qU32 ?_ ?_);omega)|((with_reducible refine qU64 ?_ ?_);omega)|((with_reducible refine qU16 ?_ ?_);omega))
      conv => whnf
      refine ⟨(i + 1, cap'), ⟨⟨by show i + 1 ≤ m.nW; omega, by rw [e2]; omega⟩, by show m.nW - (i + 1) < m.nW - i; omega⟩, ?_⟩
      rw [e2]
      conv => whnf
      refine Le.nm [0, 1, 2, 3, 4, 7] rfl ?_ ?_
      · refine ⟨⟨.inl rfl, Nat.le_refl _, fun _ _ => rfl⟩, ⟨.inl rfl, Nat.le_refl _, fun _ _ => rfl⟩, ⟨.inl rfl, Nat.le_refl _, fun _ _ => rfl⟩, ?_, ?_, ⟨rfl, rfl, rfl, fun q hq => ?_⟩, trivial⟩
        · repeat'(first|exact leT_empty|exact trivial|exact rfl|exact .inl rfl|exact .inr rfl|exact .inr ⟨rfl,rfl⟩|exact Nat.le_refl _|exact Nat.zero_le _|exact fun _ _=>rfl|assumption|refine And.intro ?_ ?_|exact ul0|exact ul1 rfl|exact ul2 rfl rfl|exact ul3 rfl rfl rfl)
        · repeat'(first|exact leT_empty|exact trivial|exact rfl|exact .inl rfl|exact .inr rfl|exact .inr ⟨rfl,rfl⟩|exact Nat.le_refl _|exact Nat.zero_le _|exact fun _ _=>rfl|assumption|refine And.intro ?_ ?_|exact ul0|exact ul1 rfl|exact ul2 rfl rfl|exact ul3 rfl rfl rfl)
        · have eT := eT q hq
          rw [if_neg (Nat.not_lt_zero q)] at eT
          have hq : q < 1 := hq
          obtain rfl : q = 0 := by omega
          show trgL (trgW m who (m.W i)) = trgL (at0L (wTrgs m who (i + 1)) 0)
          rw [eT]
      · repeat'(first|exact leT_empty|exact trivial|exact rfl|exact .inl rfl|exact .inr rfl|exact .inr ⟨rfl,rfl⟩|exact Nat.le_refl _|exact Nat.zero_le _|exact fun _ _=>rfl|assumption|refine And.intro ?_ ?_|exact ul0|exact ul1 rfl|exact ul2 rfl rfl|exact ul3 rfl rfl rfl)
    · repeat((conv=>whnf);first|((with_reducible refine qS ?_ ?_ ?_);exact rfl;exact rfl)|with_reducible refine qB ?_|((with_reducible refine qI ?_ ?_);omega)|((with_reducible refine qDT ?_ ?_);omega)|((with_reducible refine qDF ?_ ?_);omega)|((with_reducible refine qNT ?_ ?_);omega)|((with_reducible refine qNF ?_ ?_);omega)|((with_reducible refine qU8 ?_ ?_);omega)|((with_reducible refine qU32 ?_ ?_);omega)|((with_reducible refine qU64 ?_ ?_);omega)|((with_reducible refine qU16 ?_ ?_);omega))
      conv => whnf
      try rw [zi i]
      repeat((conv=>whnf);first|((with_reducible refine qS ?_ ?_ ?_);exact rfl;exact rfl)|with_reducible refine qB ?_|((with_reducible refine qI ?_ ?_);omega)|((with_reducible refine qDT ?_ ?_);omega)|((with_reducible refine qDF ?_ ?_);omega)|((with_reducible refine qNT ?_ ?_);omega)|((with_reducible refine qNF ?_ ?_);omega)|((with_reducible refine qU8 ?_ ?_);omega)|((with_reducible refine qU32 ?_ ?_);omega)|((with_reducible refine qU64 ?_ ?_);omega)|((with_reducible refine qU16 ?_ ?_);omega))
      conv => whnf
      refine cD (fun h6 => ?_) (fun h6 => ?_)
      · rw [if_pos h6] at ew
        repeat((conv=>whnf);first|((with_reducible refine qS ?_ ?_ ?_);exact rfl;exact rfl)|with_reducible refine qB ?_|((with_reducible refine qI ?_ ?_);omega)|((with_reducible refine qDT ?_ ?_);omega)|((with_reducible refine qDF ?_ ?_);omega)|((with_reducible refine qNT ?_ ?_);omega)|((with_reducible refine qNF ?_ ?_);omega)|((with_reducible refine qU8 ?_ ?_);omega)|((with_reducible refine qU32 ?_ ?_);omega)|((with_reducible refine qU64 ?_ ?_);omega)|((with_reducible refine qU16 ?_ ?_);omega))
        conv => whnf
        refine ⟨(i + 1, cap), ⟨⟨by show i + 1 ≤ m.nW; omega, by rw [ew, hk]; omega⟩, by show m.nW - (i + 1) < m.nW - i; omega⟩, ?_⟩
        rw [ew, hk]
        conv => whnf
        refine Le.id rfl ?_ ?_
        all_goals(repeat'(first|exact leT_empty|exact trivial|exact rfl|exact .inl rfl|exact .inr rfl|exact .inr ⟨rfl,rfl⟩|exact Nat.le_refl _|exact Nat.zero_le _|exact fun _ _=>rfl|assumption|refine And.intro ?_ ?_|exact ul0|exact ul1 rfl|exact ul2 rfl rfl|exact ul3 rfl rfl rfl))
      rw [if_neg h6] at ew
      repeat((conv=>whnf);first|((with_reducible refine qS ?_ ?_ ?_);exact rfl;exact rfl)|with_reducible refine qB ?_|((with_reducible refine qI ?_ ?_);omega)|((with_reducible refine qDT ?_ ?_);omega)|((with_reducible refine qDF ?_ ?_);omega)|((with_reducible refine qNT ?_ ?_);omega)|((with_reducible refine qNF ?_ ?_);omega)|((with_reducible refine qU8 ?_ ?_);omega)|((with_reducible refine qU32 ?_ ?_);omega)|((with_reducible refine qU64 ?_ ?_);omega)|((with_reducible refine qU16 ?_ ?_);omega))
      conv => whnf
      refine trg_use (m := m) (c := c) (w := m.W i) hm hi0 hw.1 (fun h => (hw.2.1 h).1) h6 ?_
      repeat((conv=>whnf);first|((with_reducible refine qS ?_ ?_ ?_);exact rfl;exact rfl)|with_reducible refine qB ?_|((with_reducible refine qI ?_ ?_);omega)|((with_reducible refine qDT ?_ ?_);omega)|((with_reducible refine qDF ?_ ?_);omega)|((with_reducible refine qNT ?_ ?_);omega)|((with_reducible refine qNF ?_ ?_);omega)|((with_reducible refine qU8 ?_ ?_);omega)|((with_reducible refine qU32 ?_ ?_);omega)|((with_reducible refine qU64 ?_ ?_);omega)|((with_reducible refine qU16 ?_ ?_);omega))
      conv => whnf
      refine cT (decide_eq_true (by show (k + 1 + 1) * 48 ≤ 1099511627776; omega)) ?_
      repeat((conv=>whnf);first|((with_reducible refine qS ?_ ?_ ?_);exact rfl;exact rfl)|with_reducible refine qB ?_|((with_reducible refine qI ?_ ?_);omega)|((with_reducible refine qDT ?_ ?_);omega)|((with_reducible refine qDF ?_ ?_);omega)|((with_reducible refine qNT ?_ ?_);omega)|((with_reducible refine qNF ?_ ?_);omega)|((with_reducible refine qU8 ?_ ?_);omega)|((with_reducible refine qU32 ?_ ?_);omega)|((with_reducible refine qU64 ?_ ?_);omega)|((with_reducible refine qU16 ?_ ?_);omega))
      conv => whnf
      intro cap' hc'
      have e2 : (wTrgs m who (i + 1)).length = (k + 1) + 1 := by rw [ew, List.length_append, hk]; rfl
      have eT : ∀ q, q < (k + 1) + 1 → at0L (wTrgs m who (i + 1)) q = if q < (k + 1) then at0L (wTrgs m who i) q else trgW m who (m.W i) := fun q hq => by rw [ew, at0L_end _ _ _ (by omega), hk]
      repeat((conv=>whnf);first|((with_reducible refine qS ?_ ?_ ?_);exact rfl;exact rfl)|with_reducible refine qB ?_|((with_reducible refine qI ?_ ?_);omega)|((with_reducible refine qDT ?_ ?_);omega)|((with_reducible refine qDF ?_ ?_);omega)|((with_reducible refine qNT ?_ ?_);omega)|((with_reducible refine qNF ?_ ?_);omega)|((with_reducible refine qU8 ?_ ?_);omega)|((with_reducible refine qU32 ?_ ?_);omega)|((with_reducible refine qU64 ?_ ?_);omega)|((with_reducible refine qU16 ?_ ?_);omega))
      conv => whnf
      refine ⟨(i + 1, cap'), ⟨⟨by show i + 1 ≤ m.nW; omega, by rw [e2]; omega⟩, by show m.nW - (i + 1) < m.nW - i; omega⟩, ?_⟩
      rw [e2]
      conv => whnf
      refine Le.nm [0, 1, 2, 3, 4, 8] rfl ?_ ?_
      · refine ⟨⟨.inl rfl, Nat.le_refl _, fun _ _ => rfl⟩, ⟨.inl rfl, Nat.le_refl _, fun _ _ => rfl⟩, ⟨.inl rfl, Nat.le_refl _, fun _ _ => rfl⟩, ?_, ?_, ⟨rfl, rfl, rfl, fun q hq => ?_⟩, trivial⟩
        · repeat'(first|exact leT_empty|exact trivial|exact rfl|exact .inl rfl|exact .inr rfl|exact .inr ⟨rfl,rfl⟩|exact Nat.le_refl _|exact Nat.zero_le _|exact fun _ _=>rfl|assumption|refine And.intro ?_ ?_|exact ul0|exact ul1 rfl|exact ul2 rfl rfl|exact ul3 rfl rfl rfl)
        · repeat'(first|exact leT_empty|exact trivial|exact rfl|exact .inl rfl|exact .inr rfl|exact .inr ⟨rfl,rfl⟩|exact Nat.le_refl _|exact Nat.zero_le _|exact fun _ _=>rfl|assumption|refine And.intro ?_ ?_|exact ul0|exact ul1 rfl|exact ul2 rfl rfl|exact ul3 rfl rfl rfl)
        · have eT := eT q hq
          show (if q < k + 1 then trgL (at0L (wTrgs m who i) (0 + q)) else nthD [] [trgL (trgW m who (m.W i))] (0 + (q - (k + 1)))) = trgL (at0L (wTrgs m who (i + 1)) q)
          rw [eT]
          by_cases c : q < k + 1
          · rw [if_pos c, if_pos c, Nat.zero_add]
          · rw [if_neg c, if_neg c, show 0 + (q - (k + 1)) = 0 by omega]; rfl
      · repeat'(first|exact leT_empty|exact trivial|exact rfl|exact .inl rfl|exact .inr rfl|exact .inr ⟨rfl,rfl⟩|exact Nat.le_refl _|exact Nat.zero_le _|exact fun _ _=>rfl|assumption|refine And.intro ?_ ?_|exact ul0|exact ul1 rfl|exact ul2 rfl rfl|exact ul3 rfl rfl rfl)
  obtain rfl : i = m.nW := by omega
  have hlen := wTrgs_len m who m.nW
  obtain ⟨k, hk⟩ : ∃ k, (wTrgs m who m.nW).length = k := ⟨_, rfl⟩
  have hr := rowL0_len m who
  have hrk : (rank m who = -1) ∨ (0 ≤ rank m who ∧ rank m who ≤ 3) := by
    have := hi0.size.2.1
    unfold Co.rank
    rcases first_cases m.nM (fun j => decide (m.M j = who)) with ⟨h1, _⟩ | ⟨j, h1, h2, _⟩
    · exact .inl h1
    · exact .inr (by omega)
  rw [hk] at hl hlen ⊢
  rcases k with _ | k
  · repeat((conv=>whnf);first|((with_reducible refine qS ?_ ?_ ?_);exact rfl;exact rfl)|with_reducible refine qB ?_|((with_reducible refine qI ?_ ?_);omega)|((with_reducible refine qDT ?_ ?_);omega)|((with_reducible refine qDF ?_ ?_);omega)|((with_reducible refine qNT ?_ ?_);omega)|((with_reducible refine qNF ?_ ?_);omega)|((with_reducible refine qU8 ?_ ?_);omega)|((with_reducible refine qU32 ?_ ?_);omega)|((with_reducible refine qU64 ?_ ?_);omega)|((with_reducible refine qU16 ?_ ?_);omega))
    conv => whnf
    refine rank_use (m := m) (c := c) hm ?_
    rcases hrk with hrk | hrk
    · have eR : rowL0 m who = wTrgs m who m.nW ++ [⟨5, watch1 m, 0, 1, 0, 0⟩] := by unfold rowL0; rw [if_neg (show ¬ 0 ≤ rankM m who from fun h => by have h : 0 ≤ rank m who := h; omega)]
      have eL : (rowL0 m who).length = 0 + 1 := by rw [eR]; simp only [List.length_append, hk]; rfl
      repeat((conv=>whnf);first|((with_reducible refine qS ?_ ?_ ?_);exact rfl;exact rfl)|with_reducible refine qB ?_|((with_reducible refine qI ?_ ?_);omega)|((with_reducible refine qDT ?_ ?_);omega)|((with_reducible refine qDF ?_ ?_);omega)|((with_reducible refine qNT ?_ ?_);omega)|((with_reducible refine qNF ?_ ?_);omega)|((with_reducible refine qU8 ?_ ?_);omega)|((with_reducible refine qU32 ?_ ?_);omega)|((with_reducible refine qU64 ?_ ?_);omega)|((with_reducible refine qU16 ?_ ?_);omega))
      conv => whnf
      refine watch_use (m := m) (c := c) hm ?_
      repeat((conv=>whnf);first|((with_reducible refine qS ?_ ?_ ?_);exact rfl;exact rfl)|with_reducible refine qB ?_|((with_reducible refine qI ?_ ?_);omega)|((with_reducible refine qDT ?_ ?_);omega)|((with_reducible refine qDF ?_ ?_);omega)|((with_reducible refine qNT ?_ ?_);omega)|((with_reducible refine qNF ?_ ?_);omega)|((with_reducible refine qU8 ?_ ?_);omega)|((with_reducible refine qU32 ?_ ?_);omega)|((with_reducible refine qU64 ?_ ?_);omega)|((with_reducible refine qU16 ?_ ?_);omega))
      conv => whnf
      intro c1 hc1
      repeat((conv=>whnf);first|((with_reducible refine qS ?_ ?_ ?_);exact rfl;exact rfl)|with_reducible refine qB ?_|((with_reducible refine qI ?_ ?_);omega)|((with_reducible refine qDT ?_ ?_);omega)|((with_reducible refine qDF ?_ ?_);omega)|((with_reducible refine qNT ?_ ?_);omega)|((with_reducible refine qNF ?_ ?_);omega)|((with_reducible refine qU8 ?_ ?_);omega)|((with_reducible refine qU32 ?_ ?_);omega)|((with_reducible refine qU64 ?_ ?_);omega)|((with_reducible refine qU16 ?_ ?_);omega))
      conv => whnf
      refine .det (at0L (rowL0 m who), 0 + 1, c1, c1, false) [6] unitR _ ⟨by show 0 + 1 ≤ 19; omega, by show 0 + 1 ≤ c1; omega, Nat.le_refl _⟩ rfl ?_ ?_ rfl rfl ?_
      · refine ⟨⟨rfl, rfl, rfl, fun q hq => ?_⟩, trivial⟩
        rw [eR]
        exact app0 (t := ⟨5, watch1 m, 0, 1, 0, 0⟩) (List.eq_nil_of_length_eq_zero hk) hq
      · repeat'(first|exact leT_empty|exact trivial|exact rfl|exact .inl rfl|exact .inr rfl|exact .inr ⟨rfl,rfl⟩|exact Nat.le_refl _|exact Nat.zero_le _|exact fun _ _=>rfl|assumption|refine And.intro ?_ ?_|exact ul0|exact ul1 rfl|exact ul2 rfl rfl|exact ul3 rfl rfl rfl)
      repeat((conv=>whnf);first|((with_reducible refine qS ?_ ?_ ?_);exact rfl;exact rfl)|with_reducible refine qB ?_|((with_reducible refine qI ?_ ?_);omega)|((with_reducible refine qDT ?_ ?_);omega)|((with_reducible refine qDF ?_ ?_);omega)|((with_reducible refine qNT ?_ ?_);omega)|((with_reducible refine qNF ?_ ?_);omega)|((with_reducible refine qU8 ?_ ?_);omega)|((with_reducible refine qU32 ?_ ?_);omega)|((with_reducible refine qU64 ?_ ?_);omega)|((with_reducible refine qU16 ?_ ?_);omega))
      conv => whnf
      refine Trim.fam c1 (by rw [eL]; omega) ?_
      rw [if_pos h1, if_pos h1, eL]
      refine Le.nm [0, 1, 2, 6] rfl ?_ ?_
      · refine ⟨⟨.inl rfl, Nat.le_refl _, fun _ _ => rfl⟩, ⟨.inl rfl, Nat.le_refl _, fun _ _ => rfl⟩, ⟨.inl rfl, Nat.le_refl _, fun _ _ => rfl⟩, ⟨rfl, rfl, rfl, fun q hq => ?_⟩, trivial⟩
        unfold planF
        rw [eL]
        rfl
      · repeat'(first|exact leT_empty|exact trivial|exact rfl|exact .inl rfl|exact .inr rfl|exact .inr ⟨rfl,rfl⟩|exact Nat.le_refl _|exact Nat.zero_le _|exact fun _ _=>rfl|assumption|refine And.intro ?_ ?_|exact ul0|exact ul1 rfl|exact ul2 rfl rfl|exact ul3 rfl rfl rfl)
    · have eR : rowL0 m who = wTrgs m who m.nW ++ [⟨4, m.length, 0, 1, 0, 0⟩] ++ [⟨4, beat1 m (rank m who), 0, 1, 1, 0⟩] ++ [⟨5, watch1 m, 0, 1, 0, 0⟩] := by unfold rowL0; rw [if_pos (show 0 ≤ rankM m who from hrk.1)]; rfl
      have eL : (rowL0 m who).length = 0 + 1 + 1 + 1 := by rw [eR]; simp only [List.length_append, hk]; rfl
      repeat((conv=>whnf);first|((with_reducible refine qS ?_ ?_ ?_);exact rfl;exact rfl)|with_reducible refine qB ?_|((with_reducible refine qI ?_ ?_);omega)|((with_reducible refine qDT ?_ ?_);omega)|((with_reducible refine qDF ?_ ?_);omega)|((with_reducible refine qNT ?_ ?_);omega)|((with_reducible refine qNF ?_ ?_);omega)|((with_reducible refine qU8 ?_ ?_);omega)|((with_reducible refine qU32 ?_ ?_);omega)|((with_reducible refine qU64 ?_ ?_);omega)|((with_reducible refine qU16 ?_ ?_);omega))
      conv => whnf
      intro c1 hc1
      repeat((conv=>whnf);first|((with_reducible refine qS ?_ ?_ ?_);exact rfl;exact rfl)|with_reducible refine qB ?_|((with_reducible refine qI ?_ ?_);omega)|((with_reducible refine qDT ?_ ?_);omega)|((with_reducible refine qDF ?_ ?_);omega)|((with_reducible refine qNT ?_ ?_);omega)|((with_reducible refine qNF ?_ ?_);omega)|((with_reducible refine qU8 ?_ ?_);omega)|((with_reducible refine qU32 ?_ ?_);omega)|((with_reducible refine qU64 ?_ ?_);omega)|((with_reducible refine qU16 ?_ ?_);omega))
      conv => whnf
      refine beat_use (m := m) (c := c) hm ?_
      repeat((conv=>whnf);first|((with_reducible refine qS ?_ ?_ ?_);exact rfl;exact rfl)|with_reducible refine qB ?_|((with_reducible refine qI ?_ ?_);omega)|((with_reducible refine qDT ?_ ?_);omega)|((with_reducible refine qDF ?_ ?_);omega)|((with_reducible refine qNT ?_ ?_);omega)|((with_reducible refine qNF ?_ ?_);omega)|((with_reducible refine qU8 ?_ ?_);omega)|((with_reducible refine qU32 ?_ ?_);omega)|((with_reducible refine qU64 ?_ ?_);omega)|((with_reducible refine qU16 ?_ ?_);omega))
      conv => whnf
      intro c2 hc2
      repeat((conv=>whnf);first|((with_reducible refine qS ?_ ?_ ?_);exact rfl;exact rfl)|with_reducible refine qB ?_|((with_reducible refine qI ?_ ?_);omega)|((with_reducible refine qDT ?_ ?_);omega)|((with_reducible refine qDF ?_ ?_);omega)|((with_reducible refine qNT ?_ ?_);omega)|((with_reducible refine qNF ?_ ?_);omega)|((with_reducible refine qU8 ?_ ?_);omega)|((with_reducible refine qU32 ?_ ?_);omega)|((with_reducible refine qU64 ?_ ?_);omega)|((with_reducible refine qU16 ?_ ?_);omega))
      conv => whnf
      refine watch_use (m := m) (c := c) hm ?_
      repeat((conv=>whnf);first|((with_reducible refine qS ?_ ?_ ?_);exact rfl;exact rfl)|with_reducible refine qB ?_|((with_reducible refine qI ?_ ?_);omega)|((with_reducible refine qDT ?_ ?_);omega)|((with_reducible refine qDF ?_ ?_);omega)|((with_reducible refine qNT ?_ ?_);omega)|((with_reducible refine qNF ?_ ?_);omega)|((with_reducible refine qU8 ?_ ?_);omega)|((with_reducible refine qU32 ?_ ?_);omega)|((with_reducible refine qU64 ?_ ?_);omega)|((with_reducible refine qU16 ?_ ?_);omega))
      conv => whnf
      intro c3 hc3
      repeat((conv=>whnf);first|((with_reducible refine qS ?_ ?_ ?_);exact rfl;exact rfl)|with_reducible refine qB ?_|((with_reducible refine qI ?_ ?_);omega)|((with_reducible refine qDT ?_ ?_);omega)|((with_reducible refine qDF ?_ ?_);omega)|((with_reducible refine qNT ?_ ?_);omega)|((with_reducible refine qNF ?_ ?_);omega)|((with_reducible refine qU8 ?_ ?_);omega)|((with_reducible refine qU32 ?_ ?_);omega)|((with_reducible refine qU64 ?_ ?_);omega)|((with_reducible refine qU16 ?_ ?_);omega))
      conv => whnf
      refine .det (at0L (rowL0 m who), 0 + 1 + 1 + 1, c3, c3, false) [10] unitR _ ⟨by show 0 + 1 + 1 + 1 ≤ 19; omega, by show 0 + 1 + 1 + 1 ≤ c3; omega, Nat.le_refl _⟩ rfl ?_ ?_ rfl rfl ?_
      · refine ⟨⟨rfl, rfl, rfl, fun q hq => ?_⟩, trivial⟩
        rw [eR]
        exact appF (t := ⟨5, watch1 m, 0, 1, 0, 0⟩) (n := 0 + 1 + 1) (L := wTrgs m who m.nW ++ [⟨4, m.length, 0, 1, 0, 0⟩] ++ [⟨4, beat1 m (rank m who), 0, 1, 1, 0⟩]) (by simp only [List.length_append, hk]; rfl) (fun i hi => appF (t := ⟨4, beat1 m (rank m who), 0, 1, 1, 0⟩) (n := 0 + 1) (L := wTrgs m who m.nW ++ [⟨4, m.length, 0, 1, 0, 0⟩]) (by simp only [List.length_append, hk]; rfl) (fun i hi => app0 (t := ⟨4, m.length, 0, 1, 0, 0⟩) (List.eq_nil_of_length_eq_zero hk) hi) hi) hq
      · repeat'(first|exact leT_empty|exact trivial|exact rfl|exact .inl rfl|exact .inr rfl|exact .inr ⟨rfl,rfl⟩|exact Nat.le_refl _|exact Nat.zero_le _|exact fun _ _=>rfl|assumption|refine And.intro ?_ ?_|exact ul0|exact ul1 rfl|exact ul2 rfl rfl|exact ul3 rfl rfl rfl)
      repeat((conv=>whnf);first|((with_reducible refine qS ?_ ?_ ?_);exact rfl;exact rfl)|with_reducible refine qB ?_|((with_reducible refine qI ?_ ?_);omega)|((with_reducible refine qDT ?_ ?_);omega)|((with_reducible refine qDF ?_ ?_);omega)|((with_reducible refine qNT ?_ ?_);omega)|((with_reducible refine qNF ?_ ?_);omega)|((with_reducible refine qU8 ?_ ?_);omega)|((with_reducible refine qU32 ?_ ?_);omega)|((with_reducible refine qU64 ?_ ?_);omega)|((with_reducible refine qU16 ?_ ?_);omega))
      conv => whnf
      refine Trim.fam c3 (by rw [eL]; omega) ?_
      rw [if_pos h1, if_pos h1, eL]
      refine Le.nm [0, 1, 2, 10] rfl ?_ ?_
      · refine ⟨⟨.inl rfl, Nat.le_refl _, fun _ _ => rfl⟩, ⟨.inl rfl, Nat.le_refl _, fun _ _ => rfl⟩, ⟨.inl rfl, Nat.le_refl _, fun _ _ => rfl⟩, ⟨rfl, rfl, rfl, fun q hq => ?_⟩, trivial⟩
        unfold planF
        rw [eL]
        rfl
      · repeat'(first|exact leT_empty|exact trivial|exact rfl|exact .inl rfl|exact .inr rfl|exact .inr ⟨rfl,rfl⟩|exact Nat.le_refl _|exact Nat.zero_le _|exact fun _ _=>rfl|assumption|refine And.intro ?_ ?_|exact ul0|exact ul1 rfl|exact ul2 rfl rfl|exact ul3 rfl rfl rfl)
  · repeat((conv=>whnf);first|((with_reducible refine qS ?_ ?_ ?_);exact rfl;exact rfl)|with_reducible refine qB ?_|((with_reducible refine qI ?_ ?_);omega)|((with_reducible refine qDT ?_ ?_);omega)|((with_reducible refine qDF ?_ ?_);omega)|((with_reducible refine qNT ?_ ?_);omega)|((with_reducible refine qNF ?_ ?_);omega)|((with_reducible refine qU8 ?_ ?_);omega)|((with_reducible refine qU32 ?_ ?_);omega)|((with_reducible refine qU64 ?_ ?_);omega)|((with_reducible refine qU16 ?_ ?_);omega))
    conv => whnf
    refine rank_use (m := m) (c := c) hm ?_
    rcases hrk with hrk | hrk
    · have eR : rowL0 m who = wTrgs m who m.nW ++ [⟨5, watch1 m, 0, 1, 0, 0⟩] := by unfold rowL0; rw [if_neg (show ¬ 0 ≤ rankM m who from fun h => by have h : 0 ≤ rank m who := h; omega)]
      have eL : (rowL0 m who).length = k + 1 + 1 := by rw [eR]; simp only [List.length_append, hk]; rfl
      repeat((conv=>whnf);first|((with_reducible refine qS ?_ ?_ ?_);exact rfl;exact rfl)|with_reducible refine qB ?_|((with_reducible refine qI ?_ ?_);omega)|((with_reducible refine qDT ?_ ?_);omega)|((with_reducible refine qDF ?_ ?_);omega)|((with_reducible refine qNT ?_ ?_);omega)|((with_reducible refine qNF ?_ ?_);omega)|((with_reducible refine qU8 ?_ ?_);omega)|((with_reducible refine qU32 ?_ ?_);omega)|((with_reducible refine qU64 ?_ ?_);omega)|((with_reducible refine qU16 ?_ ?_);omega))
      conv => whnf
      refine watch_use (m := m) (c := c) hm ?_
      repeat((conv=>whnf);first|((with_reducible refine qS ?_ ?_ ?_);exact rfl;exact rfl)|with_reducible refine qB ?_|((with_reducible refine qI ?_ ?_);omega)|((with_reducible refine qDT ?_ ?_);omega)|((with_reducible refine qDF ?_ ?_);omega)|((with_reducible refine qNT ?_ ?_);omega)|((with_reducible refine qNF ?_ ?_);omega)|((with_reducible refine qU8 ?_ ?_);omega)|((with_reducible refine qU32 ?_ ?_);omega)|((with_reducible refine qU64 ?_ ?_);omega)|((with_reducible refine qU16 ?_ ?_);omega))
      conv => whnf
      refine cT (decide_eq_true (by show (k + 1 + 1) * 48 ≤ 1099511627776; omega)) ?_
      repeat((conv=>whnf);first|((with_reducible refine qS ?_ ?_ ?_);exact rfl;exact rfl)|with_reducible refine qB ?_|((with_reducible refine qI ?_ ?_);omega)|((with_reducible refine qDT ?_ ?_);omega)|((with_reducible refine qDF ?_ ?_);omega)|((with_reducible refine qNT ?_ ?_);omega)|((with_reducible refine qNF ?_ ?_);omega)|((with_reducible refine qU8 ?_ ?_);omega)|((with_reducible refine qU32 ?_ ?_);omega)|((with_reducible refine qU64 ?_ ?_);omega)|((with_reducible refine qU16 ?_ ?_);omega))
      conv => whnf
      intro c1 hc1
      repeat((conv=>whnf);first|((with_reducible refine qS ?_ ?_ ?_);exact rfl;exact rfl)|with_reducible refine qB ?_|((with_reducible refine qI ?_ ?_);omega)|((with_reducible refine qDT ?_ ?_);omega)|((with_reducible refine qDF ?_ ?_);omega)|((with_reducible refine qNT ?_ ?_);omega)|((with_reducible refine qNF ?_ ?_);omega)|((with_reducible refine qU8 ?_ ?_);omega)|((with_reducible refine qU32 ?_ ?_);omega)|((with_reducible refine qU64 ?_ ?_);omega)|((with_reducible refine qU16 ?_ ?_);omega))
      conv => whnf
      refine .det (at0L (rowL0 m who), k + 1 + 1, c1, c1, false) [7] unitR _ ⟨by show k + 1 + 1 ≤ 19; omega, by show k + 1 + 1 ≤ c1; omega, Nat.le_refl _⟩ rfl ?_ ?_ rfl rfl ?_
      · refine ⟨⟨rfl, rfl, rfl, fun q hq => ?_⟩, trivial⟩
        rw [eR]
        exact appF (t := ⟨5, watch1 m, 0, 1, 0, 0⟩) (n := k + 1) hk (fun _ _ => rfl) hq
      · repeat'(first|exact leT_empty|exact trivial|exact rfl|exact .inl rfl|exact .inr rfl|exact .inr ⟨rfl,rfl⟩|exact Nat.le_refl _|exact Nat.zero_le _|exact fun _ _=>rfl|assumption|refine And.intro ?_ ?_|exact ul0|exact ul1 rfl|exact ul2 rfl rfl|exact ul3 rfl rfl rfl)
      repeat((conv=>whnf);first|((with_reducible refine qS ?_ ?_ ?_);exact rfl;exact rfl)|with_reducible refine qB ?_|((with_reducible refine qI ?_ ?_);omega)|((with_reducible refine qDT ?_ ?_);omega)|((with_reducible refine qDF ?_ ?_);omega)|((with_reducible refine qNT ?_ ?_);omega)|((with_reducible refine qNF ?_ ?_);omega)|((with_reducible refine qU8 ?_ ?_);omega)|((with_reducible refine qU32 ?_ ?_);omega)|((with_reducible refine qU64 ?_ ?_);omega)|((with_reducible refine qU16 ?_ ?_);omega))
      conv => whnf
      refine Trim.fam c1 (by rw [eL]; omega) ?_
      rw [if_pos h1, if_pos h1, eL]
      refine Le.nm [0, 1, 2, 7] rfl ?_ ?_
      · refine ⟨⟨.inl rfl, Nat.le_refl _, fun _ _ => rfl⟩, ⟨.inl rfl, Nat.le_refl _, fun _ _ => rfl⟩, ⟨.inl rfl, Nat.le_refl _, fun _ _ => rfl⟩, ⟨rfl, rfl, rfl, fun q hq => ?_⟩, trivial⟩
        unfold planF
        rw [eL]
        rfl
      · repeat'(first|exact leT_empty|exact trivial|exact rfl|exact .inl rfl|exact .inr rfl|exact .inr ⟨rfl,rfl⟩|exact Nat.le_refl _|exact Nat.zero_le _|exact fun _ _=>rfl|assumption|refine And.intro ?_ ?_|exact ul0|exact ul1 rfl|exact ul2 rfl rfl|exact ul3 rfl rfl rfl)
    · have eR : rowL0 m who = wTrgs m who m.nW ++ [⟨4, m.length, 0, 1, 0, 0⟩] ++ [⟨4, beat1 m (rank m who), 0, 1, 1, 0⟩] ++ [⟨5, watch1 m, 0, 1, 0, 0⟩] := by unfold rowL0; rw [if_pos (show 0 ≤ rankM m who from hrk.1)]; rfl
      have eL : (rowL0 m who).length = k + 1 + 1 + 1 + 1 := by rw [eR]; simp only [List.length_append, hk]; rfl
      repeat((conv=>whnf);first|((with_reducible refine qS ?_ ?_ ?_);exact rfl;exact rfl)|with_reducible refine qB ?_|((with_reducible refine qI ?_ ?_);omega)|((with_reducible refine qDT ?_ ?_);omega)|((with_reducible refine qDF ?_ ?_);omega)|((with_reducible refine qNT ?_ ?_);omega)|((with_reducible refine qNF ?_ ?_);omega)|((with_reducible refine qU8 ?_ ?_);omega)|((with_reducible refine qU32 ?_ ?_);omega)|((with_reducible refine qU64 ?_ ?_);omega)|((with_reducible refine qU16 ?_ ?_);omega))
      conv => whnf
      refine cT (decide_eq_true (by show (k + 1 + 1) * 48 ≤ 1099511627776; omega)) ?_
      repeat((conv=>whnf);first|((with_reducible refine qS ?_ ?_ ?_);exact rfl;exact rfl)|with_reducible refine qB ?_|((with_reducible refine qI ?_ ?_);omega)|((with_reducible refine qDT ?_ ?_);omega)|((with_reducible refine qDF ?_ ?_);omega)|((with_reducible refine qNT ?_ ?_);omega)|((with_reducible refine qNF ?_ ?_);omega)|((with_reducible refine qU8 ?_ ?_);omega)|((with_reducible refine qU32 ?_ ?_);omega)|((with_reducible refine qU64 ?_ ?_);omega)|((with_reducible refine qU16 ?_ ?_);omega))
      conv => whnf
      intro c1 hc1
      repeat((conv=>whnf);first|((with_reducible refine qS ?_ ?_ ?_);exact rfl;exact rfl)|with_reducible refine qB ?_|((with_reducible refine qI ?_ ?_);omega)|((with_reducible refine qDT ?_ ?_);omega)|((with_reducible refine qDF ?_ ?_);omega)|((with_reducible refine qNT ?_ ?_);omega)|((with_reducible refine qNF ?_ ?_);omega)|((with_reducible refine qU8 ?_ ?_);omega)|((with_reducible refine qU32 ?_ ?_);omega)|((with_reducible refine qU64 ?_ ?_);omega)|((with_reducible refine qU16 ?_ ?_);omega))
      conv => whnf
      refine beat_use (m := m) (c := c) hm ?_
      repeat((conv=>whnf);first|((with_reducible refine qS ?_ ?_ ?_);exact rfl;exact rfl)|with_reducible refine qB ?_|((with_reducible refine qI ?_ ?_);omega)|((with_reducible refine qDT ?_ ?_);omega)|((with_reducible refine qDF ?_ ?_);omega)|((with_reducible refine qNT ?_ ?_);omega)|((with_reducible refine qNF ?_ ?_);omega)|((with_reducible refine qU8 ?_ ?_);omega)|((with_reducible refine qU32 ?_ ?_);omega)|((with_reducible refine qU64 ?_ ?_);omega)|((with_reducible refine qU16 ?_ ?_);omega))
      conv => whnf
      refine cT (decide_eq_true (by show (k + 1 + 1 + 1) * 48 ≤ 1099511627776; omega)) ?_
      repeat((conv=>whnf);first|((with_reducible refine qS ?_ ?_ ?_);exact rfl;exact rfl)|with_reducible refine qB ?_|((with_reducible refine qI ?_ ?_);omega)|((with_reducible refine qDT ?_ ?_);omega)|((with_reducible refine qDF ?_ ?_);omega)|((with_reducible refine qNT ?_ ?_);omega)|((with_reducible refine qNF ?_ ?_);omega)|((with_reducible refine qU8 ?_ ?_);omega)|((with_reducible refine qU32 ?_ ?_);omega)|((with_reducible refine qU64 ?_ ?_);omega)|((with_reducible refine qU16 ?_ ?_);omega))
      conv => whnf
      intro c2 hc2
      repeat((conv=>whnf);first|((with_reducible refine qS ?_ ?_ ?_);exact rfl;exact rfl)|with_reducible refine qB ?_|((with_reducible refine qI ?_ ?_);omega)|((with_reducible refine qDT ?_ ?_);omega)|((with_reducible refine qDF ?_ ?_);omega)|((with_reducible refine qNT ?_ ?_);omega)|((with_reducible refine qNF ?_ ?_);omega)|((with_reducible refine qU8 ?_ ?_);omega)|((with_reducible refine qU32 ?_ ?_);omega)|((with_reducible refine qU64 ?_ ?_);omega)|((with_reducible refine qU16 ?_ ?_);omega))
      conv => whnf
      refine watch_use (m := m) (c := c) hm ?_
      repeat((conv=>whnf);first|((with_reducible refine qS ?_ ?_ ?_);exact rfl;exact rfl)|with_reducible refine qB ?_|((with_reducible refine qI ?_ ?_);omega)|((with_reducible refine qDT ?_ ?_);omega)|((with_reducible refine qDF ?_ ?_);omega)|((with_reducible refine qNT ?_ ?_);omega)|((with_reducible refine qNF ?_ ?_);omega)|((with_reducible refine qU8 ?_ ?_);omega)|((with_reducible refine qU32 ?_ ?_);omega)|((with_reducible refine qU64 ?_ ?_);omega)|((with_reducible refine qU16 ?_ ?_);omega))
      conv => whnf
      refine cT (decide_eq_true (by show (k + 1 + 1 + 1 + 1) * 48 ≤ 1099511627776; omega)) ?_
      repeat((conv=>whnf);first|((with_reducible refine qS ?_ ?_ ?_);exact rfl;exact rfl)|with_reducible refine qB ?_|((with_reducible refine qI ?_ ?_);omega)|((with_reducible refine qDT ?_ ?_);omega)|((with_reducible refine qDF ?_ ?_);omega)|((with_reducible refine qNT ?_ ?_);omega)|((with_reducible refine qNF ?_ ?_);omega)|((with_reducible refine qU8 ?_ ?_);omega)|((with_reducible refine qU32 ?_ ?_);omega)|((with_reducible refine qU64 ?_ ?_);omega)|((with_reducible refine qU16 ?_ ?_);omega))
      conv => whnf
      intro c3 hc3
      repeat((conv=>whnf);first|((with_reducible refine qS ?_ ?_ ?_);exact rfl;exact rfl)|with_reducible refine qB ?_|((with_reducible refine qI ?_ ?_);omega)|((with_reducible refine qDT ?_ ?_);omega)|((with_reducible refine qDF ?_ ?_);omega)|((with_reducible refine qNT ?_ ?_);omega)|((with_reducible refine qNF ?_ ?_);omega)|((with_reducible refine qU8 ?_ ?_);omega)|((with_reducible refine qU32 ?_ ?_);omega)|((with_reducible refine qU64 ?_ ?_);omega)|((with_reducible refine qU16 ?_ ?_);omega))
      conv => whnf
      refine .det (at0L (rowL0 m who), k + 1 + 1 + 1 + 1, c3, c3, false) [11] unitR _ ⟨by show k + 1 + 1 + 1 + 1 ≤ 19; omega, by show k + 1 + 1 + 1 + 1 ≤ c3; omega, Nat.le_refl _⟩ rfl ?_ ?_ rfl rfl ?_
      · refine ⟨⟨rfl, rfl, rfl, fun q hq => ?_⟩, trivial⟩
        rw [eR]
        exact appF (t := ⟨5, watch1 m, 0, 1, 0, 0⟩) (n := k + 1 + 1 + 1) (L := wTrgs m who m.nW ++ [⟨4, m.length, 0, 1, 0, 0⟩] ++ [⟨4, beat1 m (rank m who), 0, 1, 1, 0⟩]) (by simp only [List.length_append, hk]; rfl) (fun i hi => appF (t := ⟨4, beat1 m (rank m who), 0, 1, 1, 0⟩) (n := k + 1 + 1) (L := wTrgs m who m.nW ++ [⟨4, m.length, 0, 1, 0, 0⟩]) (by simp only [List.length_append, hk]; rfl) (fun i hi => appF (t := ⟨4, m.length, 0, 1, 0, 0⟩) (n := k + 1) hk (fun _ _ => rfl) hi) hi) hq
      · repeat'(first|exact leT_empty|exact trivial|exact rfl|exact .inl rfl|exact .inr rfl|exact .inr ⟨rfl,rfl⟩|exact Nat.le_refl _|exact Nat.zero_le _|exact fun _ _=>rfl|assumption|refine And.intro ?_ ?_|exact ul0|exact ul1 rfl|exact ul2 rfl rfl|exact ul3 rfl rfl rfl)
      repeat((conv=>whnf);first|((with_reducible refine qS ?_ ?_ ?_);exact rfl;exact rfl)|with_reducible refine qB ?_|((with_reducible refine qI ?_ ?_);omega)|((with_reducible refine qDT ?_ ?_);omega)|((with_reducible refine qDF ?_ ?_);omega)|((with_reducible refine qNT ?_ ?_);omega)|((with_reducible refine qNF ?_ ?_);omega)|((with_reducible refine qU8 ?_ ?_);omega)|((with_reducible refine qU32 ?_ ?_);omega)|((with_reducible refine qU64 ?_ ?_);omega)|((with_reducible refine qU16 ?_ ?_);omega))
      conv => whnf
      refine Trim.fam c3 (by rw [eL]; omega) ?_
      rw [if_pos h1, if_pos h1, eL]
      refine Le.nm [0, 1, 2, 11] rfl ?_ ?_
      · refine ⟨⟨.inl rfl, Nat.le_refl _, fun _ _ => rfl⟩, ⟨.inl rfl, Nat.le_refl _, fun _ _ => rfl⟩, ⟨.inl rfl, Nat.le_refl _, fun _ _ => rfl⟩, ⟨rfl, rfl, rfl, fun q hq => ?_⟩, trivial⟩
        unfold planF
        rw [eL]
        rfl
      · repeat'(first|exact leT_empty|exact trivial|exact rfl|exact .inl rfl|exact .inr rfl|exact .inr ⟨rfl,rfl⟩|exact Nat.le_refl _|exact Nat.zero_le _|exact fun _ _=>rfl|assumption|refine And.intro ?_ ?_|exact ul0|exact ul1 rfl|exact ul2 rfl rfl|exact ul3 rfl rfl rfl)
abbrev planC : Con (Mat × Caps × Int) := FamCon (β := Nat) (fun p => [matT p.1 p.2.1 0 1 2, iv .i64 p.2.2]) (fun p => matH p.1 []) (fun p => p.1.Ok ∧ capsOk p.1 p.2.1 ∧ I64 p.2.2) (fun p q => (rowL0 p.1 p.2.2).length ≤ q) (fun p q => if (chk p.1).2 = 0 then slT 3 (rowL0 p.1 p.2.2).length q false else nilS) (fun p q => if (chk p.1).2 = 0 then matH p.1 [rowT (planF p.1 p.2.2) (rowL0 p.1 p.2.2).length q] else matH p.1 [])
theorem plan_ok : ConOk Try.prog F.plan_Plan planC := con_of_run (clRunX_ok (d := 6) ttOk outsPp_ok tabPp_ok 3) (fn_enters (ok.plan_Plan (D := 6) u0 _ (clRunX_ok (d := 6) ttOk .nil TabOk.nil 1))) fun p hp => plan_run p.1 p.2.1 p.2.2 hp.1 hp.2.1 hp.2.2
theorem plan_ask {m : Mat} {c : Caps} {who : Int} (l : List Nat) {xs : List R} {h : Heap} {K : R → Heap → Prop} (n : Nat) (P : Nat → Trg) (hm : m.Ok) (hc : capsOk m c) (hw : I64 who) (h0 : (chk m).2 = 0) (hn : (rowL0 m who).length = n) (hP : planF m who = P)
    (hs : ((matH m []).all obB && sepB l (matH m [])) = true) (hH : leH (sig h l) h l (matH m [])) (hX : leXs 3 (sig h l) xs [matT m c 0 1 2, iv .i64 who])
    (hk : ∀ cap, n ≤ cap → K (renR (back h (matH m []) l) (slT 3 n cap false)) (mrg (back h (matH m []) l) h l (matH m []) (matH m [rowT P n cap]))) : AskC planC xs h K := by
  refine ⟨(m, c, who), l, ⟨hm, hc, hw⟩, hs, hH, hX, fun x h'' hq => ?_⟩
  obtain ⟨q, hq, e1, e2⟩ := hq
  have e1 : x = if (chk m).2 = 0 then slT 3 (rowL0 m who).length q false else nilS := e1
  have e2 : h'' = if (chk m).2 = 0 then matH m [rowT (planF m who) (rowL0 m who).length q] else matH m [] := e2
  have hq : (rowL0 m who).length ≤ q := hq
  rw [if_pos h0, hn] at e1
  rw [if_pos h0, hn, hP] at e2
  subst e1; subst e2
  exact hk q (by omega)
theorem plan_none {m : Mat} {c : Caps} {who : Int} (l : List Nat) {xs : List R} {h : Heap} {K : R → Heap → Prop} (hm : m.Ok) (hc : capsOk m c) (hw : I64 who) (h0 : (chk m).2 ≠ 0)
    (hs : ((matH m []).all obB && sepB l (matH m [])) = true) (hH : leH (sig h l) h l (matH m [])) (hX : leXs 3 (sig h l) xs [matT m c 0 1 2, iv .i64 who])
    (hk : K (renR (back h (matH m []) l) nilS) (mrg (back h (matH m []) l) h l (matH m []) (matH m []))) : AskC planC xs h K := by
  refine ⟨(m, c, who), l, ⟨hm, hc, hw⟩, hs, hH, hX, fun x h'' hq => ?_⟩
  obtain ⟨q, hq, e1, e2⟩ := hq
  have e1 : x = if (chk m).2 = 0 then slT 3 (rowL0 m who).length q false else nilS := e1
  have e2 : h'' = if (chk m).2 = 0 then matH m [rowT (planF m who) (rowL0 m who).length q] else matH m [] := e2
  rw [if_neg h0] at e1 e2
  subst e1; subst e2
  exact hk
end Go.Proofs.Ytbdifadabipfiaa.Co
