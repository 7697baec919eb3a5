/- Contracts: a row of triggers sorted. -/
import Derived.Test.YtbdifadabipfiaaCoR
import Derived.Test.YtbdifadabipfiaaCoO
import Derived.Test.YtbdifadabipfiaaPuF
import Derived.Test.YtbdifadabipfiaaEnK
namespace Go.Proofs.Ytbdifadabipfiaa.Co
open Go Go.Eng Go.Proofs Go.Proofs.Ytbdifadabipfiaa.Tb Go.Pu
set_option maxRecDepth 100000
set_option maxHeartbeats 8000000
def trgL (t : Trg) : List C := [iC t.kind, iC t.at_, iC t.cyc, iC t.rep, iC t.msg, iC t.til]
abbrev rowT (T : Nat → Trg) (n tot : Nat) : HE := .ob (.row 6 n (fun i => trgL (T i)) tot)
abbrev slT (b n cap : Nat) (nl : Bool) : R := .t (.one (.slc b 0 6 0 n cap nl))
theorem setK_c {l l' cs : List C} {i : Nat} {K : List C → Prop} (e : l = l') (h : setK l' i cs K) : setK l i cs K := by subst e; exact h
abbrev outsNo : List (FuncId × Cx) := []
theorem outsNo_ok : OutsOk Try.prog outsNo := .nil
noncomputable abbrev tabSs : List (FuncId × Eng.Fn) := [(F.slices_SortStableFunc_Trigger, fn.slices_SortStableFunc_Trigger u0), (F.slices_stableCmpFunc_Trigger, fn.slices_stableCmpFunc_Trigger u0), (F.slices_insertionSortCmpFunc_Trigger, fn.slices_insertionSortCmpFunc_Trigger u0), (F.plan_Plan_2, fn.plan_Plan_2 u0), (F.cmp_Compare_int, fn.cmp_Compare_int u0), (F.cmp_isNaN_int, fn.cmp_isNaN_int u0)]
theorem tabSs_ok {d : Nat} : TabOk d tabSs tt := .cons (ok.slices_SortStableFunc_Trigger u0) (.cons (ok.slices_stableCmpFunc_Trigger u0) (.cons (ok.slices_insertionSortCmpFunc_Trigger u0) (.cons (ok.plan_Plan_2 u0) (.cons (ok.cmp_Compare_int u0) (.cons (ok.cmp_isNaN_int u0) (TabOk.nil))))))
theorem sort_1 (T : Nat → Trg) : sortF T 1 = T := by
  have h := (posF_prop T 0).1
  show shF T 0 (posF T 0) = T
  rw [show posF T 0 = 0 by omega]; exact shF_same T 0
theorem sort_run1 (T : Nat → Trg) (n cap tot : Nat) (nl : Bool) (hn : n ≤ 19) (hc : n ≤ cap) (ht : cap ≤ tot) : clRunX 7 tt outsNo tabSs 6 F.slices_SortStableFunc_Trigger [] [slT 0 n cap nl, .t (.one (.fn (.func 130) []))] [rowT (sortF T 1) n tot] (fun x h => Trim 1 x h fun x h => x = unitR ∧ h = [rowT (sortF T n) n tot]) := by
  repeat((conv=>whnf);first|((with_reducible refine qS ?_ ?_ ?_);exact rfl;exact rfl)|with_reducible refine qB ?_|((with_reducible refine qI ?_ ?_);omega)|((with_reducible refine qDT ?_ ?_);omega)|((with_reducible refine qDF ?_ ?_);omega)|((with_reducible refine qNT ?_ ?_);omega)|((with_reducible refine qNF ?_ ?_);omega)|((with_reducible refine qU8 ?_ ?_);omega)|((with_reducible refine qU32 ?_ ?_);omega)|((with_reducible refine qU64 ?_ ?_);omega)|((with_reducible refine qU16 ?_ ?_);omega))
  conv => whnf
  refine .rd (fun _ : Unit => True) (fun _ => [(7, iv .i64 0), (8, iv .i64 20)]) (fun _ => 0) () trivial ?_ (fun _ _ => ?_)
  · conv => whnf
    refine Le.id rfl ?_ ?_
    all_goals(repeat'(first|exact leT_empty|exact trivial|exact rfl|exact .inl rfl|exact .inr rfl|exact .inr ⟨rfl,rfl⟩|exact Nat.le_refl _|exact Nat.zero_le _|exact fun _ _=>rfl|assumption|refine And.intro ?_ ?_|exact ul0|exact ul1 rfl|exact ul2 rfl rfl|exact ul3 rfl rfl rfl))
  repeat((conv=>whnf);first|((with_reducible refine qS ?_ ?_ ?_);exact rfl;exact rfl)|with_reducible refine qB ?_|((with_reducible refine qI ?_ ?_);omega)|((with_reducible refine qDT ?_ ?_);omega)|((with_reducible refine qDF ?_ ?_);omega)|((with_reducible refine qNT ?_ ?_);omega)|((with_reducible refine qNF ?_ ?_);omega)|((with_reducible refine qU8 ?_ ?_);omega)|((with_reducible refine qU32 ?_ ?_);omega)|((with_reducible refine qU64 ?_ ?_);omega)|((with_reducible refine qU16 ?_ ?_);omega))
  conv => whnf
  refine .inv (fun i : Nat => 1 ≤ i ∧ (i ≤ n ∨ i = 1)) (fun i => [(8, iv .i64 i)]) (fun i => [rowT (sortF T i) n tot]) (fun i => n + 1 - i) 1 ⟨Nat.le_refl _, .inr rfl⟩ ?_ (fun i ⟨hi1, hi⟩ => ?_)
  · conv => whnf
    refine Le.id rfl ?_ ?_
    all_goals(repeat'(first|exact leT_empty|exact trivial|exact rfl|exact .inl rfl|exact .inr rfl|exact .inr ⟨rfl,rfl⟩|exact Nat.le_refl _|exact Nat.zero_le _|exact fun _ _=>rfl|assumption|refine And.intro ?_ ?_|exact ul0|exact ul1 rfl|exact ul2 rfl rfl|exact ul3 rfl rfl rfl))
  have hs := sort_sorted T i
  obtain ⟨B, hB⟩ : ∃ B, sortF T i = B := ⟨_, rfl⟩
  have hB1 : sortF T (i + 1) = insF B i := by rw [← hB]; rfl
  rw [hB] at hs ⊢
  repeat((conv=>whnf);first|((with_reducible refine qS ?_ ?_ ?_);exact rfl;exact rfl)|with_reducible refine qB ?_|((with_reducible refine qI ?_ ?_);omega)|((with_reducible refine qDT ?_ ?_);omega)|((with_reducible refine qDF ?_ ?_);omega)|((with_reducible refine qNT ?_ ?_);omega)|((with_reducible refine qNF ?_ ?_);omega)|((with_reducible refine qU8 ?_ ?_);omega)|((with_reducible refine qU32 ?_ ?_);omega)|((with_reducible refine qU64 ?_ ?_);omega)|((with_reducible refine qU16 ?_ ?_);omega))
  conv => whnf
  refine cD (fun h5 => ?_) (fun h5 => ?_)
  rotate_left
  · have eB : B = sortF T n := by
      rcases hi with h | h
      · rw [← hB, show i = n by omega]
      · subst h
        rcases (show n = 0 ∨ n = 1 by omega) with e | e
        · rw [← hB, e, sort_1]; rfl
        · rw [← hB, e]
    subst eB
    repeat((conv=>whnf);first|((with_reducible refine qS ?_ ?_ ?_);exact rfl;exact rfl)|with_reducible refine qB ?_|((with_reducible refine qI ?_ ?_);omega)|((with_reducible refine qDT ?_ ?_);omega)|((with_reducible refine qDF ?_ ?_);omega)|((with_reducible refine qNT ?_ ?_);omega)|((with_reducible refine qNF ?_ ?_);omega)|((with_reducible refine qU8 ?_ ?_);omega)|((with_reducible refine qU32 ?_ ?_);omega)|((with_reducible refine qU64 ?_ ?_);omega)|((with_reducible refine qU16 ?_ ?_);omega))
    conv => whnf
    refine .rd (fun _ : Unit => True) (fun _ => [(6, iv .i64 20)]) (fun _ => 0) () trivial ?_ (fun _ _ => ?_)
    · conv => whnf
      refine Le.id rfl ?_ ?_
      all_goals(repeat'(first|exact leT_empty|exact trivial|exact rfl|exact .inl rfl|exact .inr rfl|exact .inr ⟨rfl,rfl⟩|exact Nat.le_refl _|exact Nat.zero_le _|exact fun _ _=>rfl|assumption|refine And.intro ?_ ?_|exact ul0|exact ul1 rfl|exact ul2 rfl rfl|exact ul3 rfl rfl rfl))
    repeat((conv=>whnf);first|((with_reducible refine qS ?_ ?_ ?_);exact rfl;exact rfl)|with_reducible refine qB ?_|((with_reducible refine qI ?_ ?_);omega)|((with_reducible refine qDT ?_ ?_);omega)|((with_reducible refine qDF ?_ ?_);omega)|((with_reducible refine qNT ?_ ?_);omega)|((with_reducible refine qNF ?_ ?_);omega)|((with_reducible refine qU8 ?_ ?_);omega)|((with_reducible refine qU32 ?_ ?_);omega)|((with_reducible refine qU64 ?_ ?_);omega)|((with_reducible refine qU16 ?_ ?_);omega))
    conv => whnf
    refine Trim.det ?_
    refine Le.id rfl ?_ ?_
    · repeat'(first|exact leT_empty|exact trivial|exact rfl|exact .inl rfl|exact .inr rfl|exact .inr ⟨rfl,rfl⟩|exact Nat.le_refl _|exact Nat.zero_le _|exact fun _ _=>rfl|assumption|refine And.intro ?_ ?_|exact ul0|exact ul1 rfl|exact ul2 rfl rfl|exact ul3 rfl rfl rfl)
    · repeat'(first|exact leT_empty|exact trivial|exact rfl|exact .inl rfl|exact .inr rfl|exact .inr ⟨rfl,rfl⟩|exact Nat.le_refl _|exact Nat.zero_le _|exact fun _ _=>rfl|assumption|refine And.intro ?_ ?_|exact ul0|exact ul1 rfl|exact ul2 rfl rfl|exact ul3 rfl rfl rfl)
  repeat((conv=>whnf);first|((with_reducible refine qS ?_ ?_ ?_);exact rfl;exact rfl)|with_reducible refine qB ?_|((with_reducible refine qI ?_ ?_);omega)|((with_reducible refine qDT ?_ ?_);omega)|((with_reducible refine qDF ?_ ?_);omega)|((with_reducible refine qNT ?_ ?_);omega)|((with_reducible refine qNF ?_ ?_);omega)|((with_reducible refine qU8 ?_ ?_);omega)|((with_reducible refine qU32 ?_ ?_);omega)|((with_reducible refine qU64 ?_ ?_);omega)|((with_reducible refine qU16 ?_ ?_);omega))
  conv => whnf
  refine .inv (fun j : Nat => j ≤ i ∧ ∀ q, j ≤ q → q < i → (B i).at_ < (B q).at_) (fun j => [(9, iv .i64 j)]) (fun j => [rowT (shF B i j) n tot]) (fun j => j) i ⟨Nat.le_refl _, fun q h1 h2 => by omega⟩ ?_ (fun j ⟨hj, hx⟩ => ?_)
  · rw [shF_same]
    conv => whnf
    refine Le.id rfl ?_ ?_
    all_goals(repeat'(first|exact leT_empty|exact trivial|exact rfl|exact .inl rfl|exact .inr rfl|exact .inr ⟨rfl,rfl⟩|exact Nat.le_refl _|exact Nat.zero_le _|exact fun _ _=>rfl|assumption|refine And.intro ?_ ?_|exact ul0|exact ul1 rfl|exact ul2 rfl rfl|exact ul3 rfl rfl rfl))
  have ej : shF B i j j = B i := by unfold shF; rw [if_neg (Nat.lt_irrefl j), if_pos rfl]
  have ej1 : 0 < j → shF B i j (j - 1) = B (j - 1) := fun h => by unfold shF; rw [if_pos (by omega)]
  repeat((conv=>whnf);first|((with_reducible refine qS ?_ ?_ ?_);exact rfl;exact rfl)|with_reducible refine qB ?_|((with_reducible refine qI ?_ ?_);omega)|((with_reducible refine qDT ?_ ?_);omega)|((with_reducible refine qDF ?_ ?_);omega)|((with_reducible refine qNT ?_ ?_);omega)|((with_reducible refine qNF ?_ ?_);omega)|((with_reducible refine qU8 ?_ ?_);omega)|((with_reducible refine qU32 ?_ ?_);omega)|((with_reducible refine qU64 ?_ ?_);omega)|((with_reducible refine qU16 ?_ ?_);omega))
  conv => whnf
  refine cD (fun h6 => ?_) (fun h6 => ?_)
  rotate_left
  · obtain rfl : j = 0 := by omega
    have ee : shF B i 0 = insF B i := ins_end hs (Nat.zero_le _) hx (.inl rfl)
    rw [ee, ← hB1]
    repeat((conv=>whnf);first|((with_reducible refine qS ?_ ?_ ?_);exact rfl;exact rfl)|with_reducible refine qB ?_|((with_reducible refine qI ?_ ?_);omega)|((with_reducible refine qDT ?_ ?_);omega)|((with_reducible refine qDF ?_ ?_);omega)|((with_reducible refine qNT ?_ ?_);omega)|((with_reducible refine qNF ?_ ?_);omega)|((with_reducible refine qU8 ?_ ?_);omega)|((with_reducible refine qU32 ?_ ?_);omega)|((with_reducible refine qU64 ?_ ?_);omega)|((with_reducible refine qU16 ?_ ?_);omega))
    conv => whnf
    refine ⟨i + 1, ⟨⟨by omega, .inl (by omega)⟩, by omega⟩, ?_⟩
    conv => whnf
    refine Le.id rfl ?_ ?_
    all_goals(repeat'(first|exact leT_empty|exact trivial|exact rfl|exact .inl rfl|exact .inr rfl|exact .inr ⟨rfl,rfl⟩|exact Nat.le_refl _|exact Nat.zero_le _|exact fun _ _=>rfl|assumption|refine And.intro ?_ ?_|exact ul0|exact ul1 rfl|exact ul2 rfl rfl|exact ul3 rfl rfl rfl))
  have ez : ((j : Int) - 1).toNat = j - 1 := by omega
  have ej1 := ej1 (by omega)
  repeat((conv=>whnf);first|((with_reducible refine qS ?_ ?_ ?_);exact rfl;exact rfl)|with_reducible refine qB ?_|((with_reducible refine qI ?_ ?_);omega)|((with_reducible refine qDT ?_ ?_);omega)|((with_reducible refine qDF ?_ ?_);omega)|((with_reducible refine qNT ?_ ?_);omega)|((with_reducible refine qNF ?_ ?_);omega)|((with_reducible refine qU8 ?_ ?_);omega)|((with_reducible refine qU32 ?_ ?_);omega)|((with_reducible refine qU64 ?_ ?_);omega)|((with_reducible refine qU16 ?_ ?_);omega))
  conv => whnf
  rw [show 0 + ((j : Int)).toNat = j by omega, show 0 + ((j : Int) - 1).toNat = j - 1 by omega, ej, ej1]
  refine cD (fun h7 => ?_) (fun h7 => ?_)
  · repeat((conv=>whnf);first|((with_reducible refine qS ?_ ?_ ?_);exact rfl;exact rfl)|with_reducible refine qB ?_|((with_reducible refine qI ?_ ?_);omega)|((with_reducible refine qDT ?_ ?_);omega)|((with_reducible refine qDF ?_ ?_);omega)|((with_reducible refine qNT ?_ ?_);omega)|((with_reducible refine qNF ?_ ?_);omega)|((with_reducible refine qU8 ?_ ?_);omega)|((with_reducible refine qU32 ?_ ?_);omega)|((with_reducible refine qU64 ?_ ?_);omega)|((with_reducible refine qU16 ?_ ?_);omega))
    conv => whnf
    refine setK_c (l' := trgL (B (j - 1))) ?_ ?_
    · show (if 0 + ((j : Int) - 1).toNat = 0 + ((j : Int)).toNat then _ else trgL (shF B i j (0 + ((j : Int) - 1).toNat))) = _
      rw [if_neg (by omega), show 0 + ((j : Int) - 1).toNat = j - 1 by omega, ej1]
    repeat((conv=>whnf);first|((with_reducible refine qS ?_ ?_ ?_);exact rfl;exact rfl)|with_reducible refine qB ?_|((with_reducible refine qI ?_ ?_);omega)|((with_reducible refine qDT ?_ ?_);omega)|((with_reducible refine qDF ?_ ?_);omega)|((with_reducible refine qNT ?_ ?_);omega)|((with_reducible refine qNF ?_ ?_);omega)|((with_reducible refine qU8 ?_ ?_);omega)|((with_reducible refine qU32 ?_ ?_);omega)|((with_reducible refine qU64 ?_ ?_);omega)|((with_reducible refine qU16 ?_ ?_);omega))
    conv => whnf
    refine ⟨j - 1, ⟨⟨by omega, fun q h1 h2 => ?_⟩, by omega⟩, ?_⟩
    · by_cases e : q = j - 1
      · rw [e]; exact h7
      · exact hx q (by omega) h2
    rw [show ((j : Int) - 1) = ((j - 1 : Nat) : Int) by omega]
    conv => whnf
    refine Le.id rfl ?_ ?_
    · refine ⟨⟨rfl, rfl, rfl, fun q hq => ?_⟩, trivial⟩
      show (if q = 0 + (((j - 1 : Nat) : Int)).toNat then trgL (shF B i j (0 + ((j : Int)).toNat)) else if q = 0 + ((j : Int)).toNat then trgL (shF B i j (0 + (((j - 1 : Nat) : Int)).toNat)) else trgL (shF B i j q)) = trgL (shF B i (j - 1) q)
      rw [shF_down B (by omega) hj q, Int.toNat_natCast, Int.toNat_natCast, Nat.zero_add, Nat.zero_add, ej, ej1]
      by_cases e1 : q = j - 1
      · rw [if_pos e1, if_pos e1]
      · rw [if_neg e1, if_neg e1]
        by_cases e2 : q = j
        · rw [if_pos e2, if_pos e2]
        · rw [if_neg e2, if_neg e2]
    · repeat'(first|exact leT_empty|exact trivial|exact rfl|exact .inl rfl|exact .inr rfl|exact .inr ⟨rfl,rfl⟩|exact Nat.le_refl _|exact Nat.zero_le _|exact fun _ _=>rfl|assumption|refine And.intro ?_ ?_|exact ul0|exact ul1 rfl|exact ul2 rfl rfl|exact ul3 rfl rfl rfl)
  have ee : shF B i j = insF B i := ins_end hs hj hx (.inr (by omega))
  rw [ee, ← hB1]
  repeat((conv=>whnf);first|((with_reducible refine qS ?_ ?_ ?_);exact rfl;exact rfl)|with_reducible refine qB ?_|((with_reducible refine qI ?_ ?_);omega)|((with_reducible refine qDT ?_ ?_);omega)|((with_reducible refine qDF ?_ ?_);omega)|((with_reducible refine qNT ?_ ?_);omega)|((with_reducible refine qNF ?_ ?_);omega)|((with_reducible refine qU8 ?_ ?_);omega)|((with_reducible refine qU32 ?_ ?_);omega)|((with_reducible refine qU64 ?_ ?_);omega)|((with_reducible refine qU16 ?_ ?_);omega))
  conv => whnf
  refine cD (fun h8 => ?_) (fun h8 => ?_)
  · repeat((conv=>whnf);first|((with_reducible refine qS ?_ ?_ ?_);exact rfl;exact rfl)|with_reducible refine qB ?_|((with_reducible refine qI ?_ ?_);omega)|((with_reducible refine qDT ?_ ?_);omega)|((with_reducible refine qDF ?_ ?_);omega)|((with_reducible refine qNT ?_ ?_);omega)|((with_reducible refine qNF ?_ ?_);omega)|((with_reducible refine qU8 ?_ ?_);omega)|((with_reducible refine qU32 ?_ ?_);omega)|((with_reducible refine qU64 ?_ ?_);omega)|((with_reducible refine qU16 ?_ ?_);omega))
    conv => whnf
    refine ⟨i + 1, ⟨⟨by omega, .inl (by omega)⟩, by omega⟩, ?_⟩
    conv => whnf
    refine Le.id rfl ?_ ?_
    all_goals(repeat'(first|exact leT_empty|exact trivial|exact rfl|exact .inl rfl|exact .inr rfl|exact .inr ⟨rfl,rfl⟩|exact Nat.le_refl _|exact Nat.zero_le _|exact fun _ _=>rfl|assumption|refine And.intro ?_ ?_|exact ul0|exact ul1 rfl|exact ul2 rfl rfl|exact ul3 rfl rfl rfl))
  · repeat((conv=>whnf);first|((with_reducible refine qS ?_ ?_ ?_);exact rfl;exact rfl)|with_reducible refine qB ?_|((with_reducible refine qI ?_ ?_);omega)|((with_reducible refine qDT ?_ ?_);omega)|((with_reducible refine qDF ?_ ?_);omega)|((with_reducible refine qNT ?_ ?_);omega)|((with_reducible refine qNF ?_ ?_);omega)|((with_reducible refine qU8 ?_ ?_);omega)|((with_reducible refine qU32 ?_ ?_);omega)|((with_reducible refine qU64 ?_ ?_);omega)|((with_reducible refine qU16 ?_ ?_);omega))
    conv => whnf
    refine ⟨i + 1, ⟨⟨by omega, .inl (by omega)⟩, by omega⟩, ?_⟩
    conv => whnf
    refine Le.id rfl ?_ ?_
    all_goals(repeat'(first|exact leT_empty|exact trivial|exact rfl|exact .inl rfl|exact .inr rfl|exact .inr ⟨rfl,rfl⟩|exact Nat.le_refl _|exact Nat.zero_le _|exact fun _ _=>rfl|assumption|refine And.intro ?_ ?_|exact ul0|exact ul1 rfl|exact ul2 rfl rfl|exact ul3 rfl rfl rfl))
abbrev sortC : Con ((Nat → Trg) × Nat × Nat × Nat × Bool) := DetCon (fun p => [slT 0 p.2.1 p.2.2.1 p.2.2.2.2, .t (.one (.fn (.func 130) []))]) (fun p => [rowT p.1 p.2.1 p.2.2.2.1]) (fun p => p.2.1 ≤ 19 ∧ p.2.1 ≤ p.2.2.1 ∧ p.2.2.1 ≤ p.2.2.2.1) (fun _ => unitR) (fun p => [rowT (sortF p.1 p.2.1) p.2.1 p.2.2.2.1])
theorem sort_run (T : Nat → Trg) (n cap tot : Nat) (nl : Bool) (hn : n ≤ 19) (hc : n ≤ cap) (ht : cap ≤ tot) : clRunX 7 tt outsNo tabSs 6 F.slices_SortStableFunc_Trigger [] [slT 0 n cap nl, .t (.one (.fn (.func 130) []))] [rowT T n tot] (fun x h => Trim 1 x h fun x h => x = unitR ∧ h = [rowT (sortF T n) n tot]) := by
  have h := sort_run1 T n cap tot nl hn hc ht
  rw [sort_1] at h
  exact h
theorem sort_ok : ConOk Try.prog F.slices_SortStableFunc_Trigger sortC := con_of_run (clRunX_ok (d := 7) ttOk outsNo_ok tabSs_ok 6) (fn_enters (ok.slices_SortStableFunc_Trigger (D := 7) u0 _ (clRunX_ok (d := 7) ttOk .nil TabOk.nil 1))) fun p hp => sort_run p.1 p.2.1 p.2.2.1 p.2.2.2.1 p.2.2.2.2 hp.1 hp.2.1 hp.2.2
end Go.Proofs.Ytbdifadabipfiaa.Co
