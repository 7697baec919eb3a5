/- BoundScales: twice as long units are twice as many bits; more masters, a longer wait make it longer until a beat comes again: true at every input; no conditions. -/
import Derived.Test.YtbdifadabipfiaaLaY
namespace Go.Proofs.Ytbdifadabipfiaa.boundScales
open Go Go.Eng Go.Proofs Go.Proofs.Ytbdifadabipfiaa.Tb Go.Proofs.Ytbdifadabipfiaa.Co Go.Proofs.Ytbdifadabipfiaa.La Go.Pu
set_option maxRecDepth 100000
set_option maxHeartbeats 4000000
noncomputable abbrev tabL : List (FuncId × Eng.Fn) := [(F.law27_BoundScales, fn.law27_BoundScales u0), (F.law27_least, fn.law27_least u0)]
theorem tabL_ok {d : Nat} : TabOk d tabL tt := .cons (ok.law27_BoundScales u0) (.cons (ok.law27_least u0) (TabOk.nil))
abbrev pas : List Pa := [.one u16, .one u8]
def mS (u i : Int) (k : Nat) : Mat := ⟨2, 3, 2, 120, 2, u, i, 16, k, fun j => if j = 0 then 0 else if j = 1 then 1 else 2, 1, fun _ => ⟨99, 2, false⟩, 0, fun _ => win0⟩
theorem ok {u i : Int} {k : Nat} (hu : I64 u) (hi : I64 i) (hk : k ≤ 3) : (mS u i k).Ok := by
  unfold I64 at hu hi
  constructor <;> simp [mS, I64, U32]
  · exact hu
  · exact hi
  · omega
  · intro j _; split
    · simp
    · split <;> simp
theorem is {i : Int} {k : Nat} (hi : 0 ≤ i ∧ i ≤ 8000) (hk : 1 ≤ k ∧ k ≤ 3) : (mS 64 i k).Is := by
  refine ⟨by unfold headP power mS; simp; omega, by unfold sizeP mS; simp; omega, fun j _ => by unfold whoP mS; simp only; split <;> (try split) <;> omega, fun i _ => by unfold msgP mS; simp, fun j hj => absurd hj (Nat.not_lt_zero j)⟩
theorem st {i : Int} {k : Nat} (hi : 0 ≤ i ∧ i ≤ 8000) (hk : 1 ≤ k ∧ k ≤ 3) : Pu.step (mS 64 i k) = 12 := by
  rw [step_of (is hi hk)]; show units 64 140 + 2 = 12; decide
theorem c2 {i : Int} (hi : 0 ≤ i ∧ i ≤ 8000) : (chk (mS 64 i 2)).2 = 0 := by
  have e2 : chkW (mS 64 i 2) = (0, 0) := rfl
  have e3 : chkO (mS 64 i 2) = (0, 0) := by
    show chkO (mS 64 20 2) = (0, 0)
    decide +kernel
  have e4 : chkT (mS 64 i 2) = (0, 0) := by
    show chkT (mS 64 20 2) = (0, 0)
    decide +kernel
  unfold Pu.chk
  rw [if_neg (by rw [isM_iff.2 (is hi (by omega))]; simp), st hi (by omega), if_neg (by show ¬ (120 : Int) < 12; omega), e3, e4, e2]
  rfl
theorem again2 {i : Int} (hi : 0 ≤ i ∧ i ≤ 8000) : again1 (mS 64 i 2) = 16 * (228 + i) + 840 := by
  have hs := st hi (k := 2) (by omega)
  unfold again1
  rw [if_pos (c2 hi)]
  have e : later (mS 64 i 2) = 228 + i := by
    unfold later watch0
    rw [hs]
    show (120 : Int) + (2 + 2) * 12 + i + (2 + 3) * 12 = 228 + i
    omega
  rw [e]
  unfold bitsM numU
  rw [show min (max (228 + i) 0) 100000 = 228 + i by omega]
  show ((228 + i) * 64 + 3).tdiv 4 + 840 = _
  rw [Int.tdiv_eq_ediv_of_nonneg (by omega)]; omega
theorem again3 : again1 (mS 64 20 3) = 16 * 272 + 840 := by decide +kernel
theorem bits64 {u : Int} (hu : 0 ≤ u ∧ u ≤ 9000) : bits1 (mS 64 20 2) u = 16 * u := by
  unfold bits1 bitsM numU
  rw [if_pos (c2 (by omega)), show min (max u 0) 100000 = u by omega]
  show (u * 64 + 3).tdiv 4 = _
  rw [Int.tdiv_eq_ediv_of_nonneg (by omega)]; omega
theorem bits32 {u : Int} (hu : 0 ≤ u ∧ u ≤ 9000) : bits1 (mS 32 20 2) u = 8 * u := by
  unfold bits1 bitsM numU
  rw [if_pos (by decide +kernel), show min (max u 0) 100000 = u by omega]
  show (u * 32 + 3).tdiv 4 = _
  rw [Int.tdiv_eq_ediv_of_nonneg (by omega)]; omega
theorem walk (uu i : Int) (hu : 0 ≤ uu ∧ uu ≤ 65535) (hi : 0 ≤ i ∧ i ≤ 255) :
    clRunX 7 tt outsL27 tabL 3 F.law27_BoundScales [] [iv .u16 uu, iv .u8 i] [] (fun x _ => x = bv true) := by
  conv => whnf
  refine true_use ?_
  have h1 : 0 ≤ uu.tmod 9000 ∧ uu.tmod 9000 ≤ 8999 := by rw [Int.tmod_eq_emod_of_nonneg hu.1]; omega
  repeat
    conv => whnf
    first
      | (with_reducible refine qS ?_ ?_ ?_
         · exact rfl
         · exact rfl)
      | with_reducible refine qB ?_
      | (with_reducible refine qI ?_ ?_
         · omega)
      | (with_reducible refine qDT ?_ ?_
         · omega)
      | (with_reducible refine qDF ?_ ?_
         · omega)
      | (with_reducible refine qNT ?_ ?_
         · omega)
      | (with_reducible refine qNF ?_ ?_
         · omega)
      | (with_reducible refine qU8 ?_ ?_
         · omega)
      | (with_reducible refine qU32 ?_ ?_
         · omega)
      | (with_reducible refine qU64 ?_ ?_
         · omega)
      | (with_reducible refine qU16 ?_ ?_
         · omega)
  conv => whnf
  generalize uu.tmod 9000 = u at *
  have hc2 : ∀ u i, capsOk (mS u i 2) ⟨2, 1, 0, false, false, true⟩ := fun _ _ => ⟨Nat.le_refl _, Nat.le_refl _, Nat.le_refl _⟩
  have hc3 : ∀ u i, capsOk (mS u i 3) ⟨3, 1, 0, false, false, true⟩ := fun _ _ => ⟨Nat.le_refl _, Nat.le_refl _, Nat.le_refl _⟩
  have i20 : I64 20 := ⟨by decide, by decide⟩
  have i64 : I64 64 := ⟨by decide, by decide⟩
  have i32 : I64 32 := ⟨by decide, by decide⟩
  have ii : I64 (20 + i + 1) := ⟨by omega, by omega⟩
  have iu : I64 u := ⟨by omega, by omega⟩
  have b20 := bits64 (u := u) (by omega)
  have b32 := bits32 (u := u) (by omega)
  have b12 : bits1 (mS 64 20 2) 120 = 1920 := bits64 (by omega)
  have aP := again2 (i := 20 + i + 1) (by omega)
  have aN : again1 (mS 64 20 2) = 4808 := again2 (by omega)
  have aQ : again1 (mS 64 20 3) = 5192 := again3
  have o2 : (mS 64 20 2).Ok := ok i64 i20 (by omega)
  have oM : (mS 32 20 2).Ok := ok i32 i20 (by omega)
  have oP : (mS 64 (20 + i + 1) 2).Ok := ok i64 ii (by omega)
  have oQ : (mS 64 20 3).Ok := ok i64 i20 (by omega)
  have i120 : I64 120 := ⟨by decide, by decide⟩
  refine AskC.useV (mS 64 20 2, ⟨2, 1, 0, false, false, true⟩, u) [5, 6, 7] (iv .i64 (16 * u)) ⟨o2, hc2 _ _, iu⟩ rfl ?_ ?_ (congrArg (iv .i64) b20) ?_
  · repeat' (first
      | exact leT_empty
      | exact trivial
      | exact rfl
      | exact .inl rfl
      | exact .inr rfl
      | exact .inr ⟨rfl, rfl⟩
      | exact Nat.le_refl _
      | exact Nat.zero_le _
      | exact (fun _ _ => rfl)
      | assumption
      | refine And.intro ?_ ?_
      | (intro i hi; exact absurd hi (Nat.not_lt_zero i))
      | (intro i hi; have hi := Nat.lt_of_lt_of_le hi (show _ ≤ 1 from Nat.le_refl 1); obtain rfl : i = 0 := (by omega); rfl)
      | (intro i hi; have hi := Nat.lt_of_lt_of_le hi (show _ ≤ 2 from Nat.le_refl 2); rcases (show i = 0 ∨ i = 1 by omega) with rfl | rfl <;> rfl)
      | (intro i hi; have hi := Nat.lt_of_lt_of_le hi (show _ ≤ 3 from Nat.le_refl 3); rcases (show i = 0 ∨ i = 1 ∨ i = 2 by omega) with rfl | rfl | rfl <;> rfl))
  · repeat' (first
      | exact leT_empty
      | exact trivial
      | exact rfl
      | exact .inl rfl
      | exact .inr rfl
      | exact .inr ⟨rfl, rfl⟩
      | exact Nat.le_refl _
      | exact Nat.zero_le _
      | exact (fun _ _ => rfl)
      | assumption
      | refine And.intro ?_ ?_
      | (intro i hi; exact absurd hi (Nat.not_lt_zero i))
      | (intro i hi; have hi := Nat.lt_of_lt_of_le hi (show _ ≤ 1 from Nat.le_refl 1); obtain rfl : i = 0 := (by omega); rfl)
      | (intro i hi; have hi := Nat.lt_of_lt_of_le hi (show _ ≤ 2 from Nat.le_refl 2); rcases (show i = 0 ∨ i = 1 by omega) with rfl | rfl <;> rfl)
      | (intro i hi; have hi := Nat.lt_of_lt_of_le hi (show _ ≤ 3 from Nat.le_refl 3); rcases (show i = 0 ∨ i = 1 ∨ i = 2 by omega) with rfl | rfl | rfl <;> rfl))
  repeat
    conv => whnf
    first
      | (with_reducible refine qS ?_ ?_ ?_
         · exact rfl
         · exact rfl)
      | with_reducible refine qB ?_
      | (with_reducible refine qI ?_ ?_
         · omega)
      | (with_reducible refine qDT ?_ ?_
         · omega)
      | (with_reducible refine qDF ?_ ?_
         · omega)
      | (with_reducible refine qNT ?_ ?_
         · omega)
      | (with_reducible refine qNF ?_ ?_
         · omega)
      | (with_reducible refine qU8 ?_ ?_
         · omega)
      | (with_reducible refine qU32 ?_ ?_
         · omega)
      | (with_reducible refine qU64 ?_ ?_
         · omega)
      | (with_reducible refine qU16 ?_ ?_
         · omega)
  conv => whnf
  refine AskC.useV (mS 32 20 2, ⟨2, 1, 0, false, false, true⟩, u) [1, 2, 3] (iv .i64 (8 * u)) ⟨oM, hc2 _ _, iu⟩ rfl ?_ ?_ (congrArg (iv .i64) b32) ?_
  · repeat' (first
      | exact leT_empty
      | exact trivial
      | exact rfl
      | exact .inl rfl
      | exact .inr rfl
      | exact .inr ⟨rfl, rfl⟩
      | exact Nat.le_refl _
      | exact Nat.zero_le _
      | exact (fun _ _ => rfl)
      | assumption
      | refine And.intro ?_ ?_
      | (intro i hi; exact absurd hi (Nat.not_lt_zero i))
      | (intro i hi; have hi := Nat.lt_of_lt_of_le hi (show _ ≤ 1 from Nat.le_refl 1); obtain rfl : i = 0 := (by omega); rfl)
      | (intro i hi; have hi := Nat.lt_of_lt_of_le hi (show _ ≤ 2 from Nat.le_refl 2); rcases (show i = 0 ∨ i = 1 by omega) with rfl | rfl <;> rfl)
      | (intro i hi; have hi := Nat.lt_of_lt_of_le hi (show _ ≤ 3 from Nat.le_refl 3); rcases (show i = 0 ∨ i = 1 ∨ i = 2 by omega) with rfl | rfl | rfl <;> rfl))
  · repeat' (first
      | exact leT_empty
      | exact trivial
      | exact rfl
      | exact .inl rfl
      | exact .inr rfl
      | exact .inr ⟨rfl, rfl⟩
      | exact Nat.le_refl _
      | exact Nat.zero_le _
      | exact (fun _ _ => rfl)
      | assumption
      | refine And.intro ?_ ?_
      | (intro i hi; exact absurd hi (Nat.not_lt_zero i))
      | (intro i hi; have hi := Nat.lt_of_lt_of_le hi (show _ ≤ 1 from Nat.le_refl 1); obtain rfl : i = 0 := (by omega); rfl)
      | (intro i hi; have hi := Nat.lt_of_lt_of_le hi (show _ ≤ 2 from Nat.le_refl 2); rcases (show i = 0 ∨ i = 1 by omega) with rfl | rfl <;> rfl)
      | (intro i hi; have hi := Nat.lt_of_lt_of_le hi (show _ ≤ 3 from Nat.le_refl 3); rcases (show i = 0 ∨ i = 1 ∨ i = 2 by omega) with rfl | rfl | rfl <;> rfl))
  repeat
    conv => whnf
    first
      | (with_reducible refine qS ?_ ?_ ?_
         · exact rfl
         · exact rfl)
      | with_reducible refine qB ?_
      | (with_reducible refine qI ?_ ?_
         · omega)
      | (with_reducible refine qDT ?_ ?_
         · omega)
      | (with_reducible refine qDF ?_ ?_
         · omega)
      | (with_reducible refine qNT ?_ ?_
         · omega)
      | (with_reducible refine qNF ?_ ?_
         · omega)
      | (with_reducible refine qU8 ?_ ?_
         · omega)
      | (with_reducible refine qU32 ?_ ?_
         · omega)
      | (with_reducible refine qU64 ?_ ?_
         · omega)
      | (with_reducible refine qU16 ?_ ?_
         · omega)
  conv => whnf
  refine AskC.useV (mS 64 (20 + i + 1) 2, ⟨2, 1, 0, false, false, true⟩) [5, 6, 7] (iv .i64 (16 * (228 + (20 + i + 1)) + 840)) ⟨oP, hc2 _ _⟩ rfl ?_ ?_ (congrArg (iv .i64) aP) ?_
  · repeat' (first
      | exact leT_empty
      | exact trivial
      | exact rfl
      | exact .inl rfl
      | exact .inr rfl
      | exact .inr ⟨rfl, rfl⟩
      | exact Nat.le_refl _
      | exact Nat.zero_le _
      | exact (fun _ _ => rfl)
      | assumption
      | refine And.intro ?_ ?_
      | (intro i hi; exact absurd hi (Nat.not_lt_zero i))
      | (intro i hi; have hi := Nat.lt_of_lt_of_le hi (show _ ≤ 1 from Nat.le_refl 1); obtain rfl : i = 0 := (by omega); rfl)
      | (intro i hi; have hi := Nat.lt_of_lt_of_le hi (show _ ≤ 2 from Nat.le_refl 2); rcases (show i = 0 ∨ i = 1 by omega) with rfl | rfl <;> rfl)
      | (intro i hi; have hi := Nat.lt_of_lt_of_le hi (show _ ≤ 3 from Nat.le_refl 3); rcases (show i = 0 ∨ i = 1 ∨ i = 2 by omega) with rfl | rfl | rfl <;> rfl))
  · repeat' (first
      | exact leT_empty
      | exact trivial
      | exact rfl
      | exact .inl rfl
      | exact .inr rfl
      | exact .inr ⟨rfl, rfl⟩
      | exact Nat.le_refl _
      | exact Nat.zero_le _
      | exact (fun _ _ => rfl)
      | assumption
      | refine And.intro ?_ ?_
      | (intro i hi; exact absurd hi (Nat.not_lt_zero i))
      | (intro i hi; have hi := Nat.lt_of_lt_of_le hi (show _ ≤ 1 from Nat.le_refl 1); obtain rfl : i = 0 := (by omega); rfl)
      | (intro i hi; have hi := Nat.lt_of_lt_of_le hi (show _ ≤ 2 from Nat.le_refl 2); rcases (show i = 0 ∨ i = 1 by omega) with rfl | rfl <;> rfl)
      | (intro i hi; have hi := Nat.lt_of_lt_of_le hi (show _ ≤ 3 from Nat.le_refl 3); rcases (show i = 0 ∨ i = 1 ∨ i = 2 by omega) with rfl | rfl | rfl <;> rfl))
  repeat
    conv => whnf
    first
      | (with_reducible refine qS ?_ ?_ ?_
         · exact rfl
         · exact rfl)
      | with_reducible refine qB ?_
      | (with_reducible refine qI ?_ ?_
         · omega)
      | (with_reducible refine qDT ?_ ?_
         · omega)
      | (with_reducible refine qDF ?_ ?_
         · omega)
      | (with_reducible refine qNT ?_ ?_
         · omega)
      | (with_reducible refine qNF ?_ ?_
         · omega)
      | (with_reducible refine qU8 ?_ ?_
         · omega)
      | (with_reducible refine qU32 ?_ ?_
         · omega)
      | (with_reducible refine qU64 ?_ ?_
         · omega)
      | (with_reducible refine qU16 ?_ ?_
         · omega)
  conv => whnf
  refine AskC.useV (mS 64 20 2, ⟨2, 1, 0, false, false, true⟩) [5, 6, 7] (iv .i64 4808) ⟨o2, hc2 _ _⟩ rfl ?_ ?_ (congrArg (iv .i64) aN) ?_
  · repeat' (first
      | exact leT_empty
      | exact trivial
      | exact rfl
      | exact .inl rfl
      | exact .inr rfl
      | exact .inr ⟨rfl, rfl⟩
      | exact Nat.le_refl _
      | exact Nat.zero_le _
      | exact (fun _ _ => rfl)
      | assumption
      | refine And.intro ?_ ?_
      | (intro i hi; exact absurd hi (Nat.not_lt_zero i))
      | (intro i hi; have hi := Nat.lt_of_lt_of_le hi (show _ ≤ 1 from Nat.le_refl 1); obtain rfl : i = 0 := (by omega); rfl)
      | (intro i hi; have hi := Nat.lt_of_lt_of_le hi (show _ ≤ 2 from Nat.le_refl 2); rcases (show i = 0 ∨ i = 1 by omega) with rfl | rfl <;> rfl)
      | (intro i hi; have hi := Nat.lt_of_lt_of_le hi (show _ ≤ 3 from Nat.le_refl 3); rcases (show i = 0 ∨ i = 1 ∨ i = 2 by omega) with rfl | rfl | rfl <;> rfl))
  · repeat' (first
      | exact leT_empty
      | exact trivial
      | exact rfl
      | exact .inl rfl
      | exact .inr rfl
      | exact .inr ⟨rfl, rfl⟩
      | exact Nat.le_refl _
      | exact Nat.zero_le _
      | exact (fun _ _ => rfl)
      | assumption
      | refine And.intro ?_ ?_
      | (intro i hi; exact absurd hi (Nat.not_lt_zero i))
      | (intro i hi; have hi := Nat.lt_of_lt_of_le hi (show _ ≤ 1 from Nat.le_refl 1); obtain rfl : i = 0 := (by omega); rfl)
      | (intro i hi; have hi := Nat.lt_of_lt_of_le hi (show _ ≤ 2 from Nat.le_refl 2); rcases (show i = 0 ∨ i = 1 by omega) with rfl | rfl <;> rfl)
      | (intro i hi; have hi := Nat.lt_of_lt_of_le hi (show _ ≤ 3 from Nat.le_refl 3); rcases (show i = 0 ∨ i = 1 ∨ i = 2 by omega) with rfl | rfl | rfl <;> rfl))
  repeat
    conv => whnf
    first
      | (with_reducible refine qS ?_ ?_ ?_
         · exact rfl
         · exact rfl)
      | with_reducible refine qB ?_
      | (with_reducible refine qI ?_ ?_
         · omega)
      | (with_reducible refine qDT ?_ ?_
         · omega)
      | (with_reducible refine qDF ?_ ?_
         · omega)
      | (with_reducible refine qNT ?_ ?_
         · omega)
      | (with_reducible refine qNF ?_ ?_
         · omega)
      | (with_reducible refine qU8 ?_ ?_
         · omega)
      | (with_reducible refine qU32 ?_ ?_
         · omega)
      | (with_reducible refine qU64 ?_ ?_
         · omega)
      | (with_reducible refine qU16 ?_ ?_
         · omega)
  conv => whnf
  refine AskC.useV (mS 64 20 3, ⟨3, 1, 0, false, false, true⟩) [12, 6, 7] (iv .i64 5192) ⟨oQ, hc3 _ _⟩ rfl ?_ ?_ (congrArg (iv .i64) aQ) ?_
  · repeat' (first
      | exact leT_empty
      | exact trivial
      | exact rfl
      | exact .inl rfl
      | exact .inr rfl
      | exact .inr ⟨rfl, rfl⟩
      | exact Nat.le_refl _
      | exact Nat.zero_le _
      | exact (fun _ _ => rfl)
      | assumption
      | refine And.intro ?_ ?_
      | (intro i hi; exact absurd hi (Nat.not_lt_zero i))
      | (intro i hi; have hi := Nat.lt_of_lt_of_le hi (show _ ≤ 1 from Nat.le_refl 1); obtain rfl : i = 0 := (by omega); rfl)
      | (intro i hi; have hi := Nat.lt_of_lt_of_le hi (show _ ≤ 2 from Nat.le_refl 2); rcases (show i = 0 ∨ i = 1 by omega) with rfl | rfl <;> rfl)
      | (intro i hi; have hi := Nat.lt_of_lt_of_le hi (show _ ≤ 3 from Nat.le_refl 3); rcases (show i = 0 ∨ i = 1 ∨ i = 2 by omega) with rfl | rfl | rfl <;> rfl))
  · repeat' (first
      | exact leT_empty
      | exact trivial
      | exact rfl
      | exact .inl rfl
      | exact .inr rfl
      | exact .inr ⟨rfl, rfl⟩
      | exact Nat.le_refl _
      | exact Nat.zero_le _
      | exact (fun _ _ => rfl)
      | assumption
      | refine And.intro ?_ ?_
      | (intro i hi; exact absurd hi (Nat.not_lt_zero i))
      | (intro i hi; have hi := Nat.lt_of_lt_of_le hi (show _ ≤ 1 from Nat.le_refl 1); obtain rfl : i = 0 := (by omega); rfl)
      | (intro i hi; have hi := Nat.lt_of_lt_of_le hi (show _ ≤ 2 from Nat.le_refl 2); rcases (show i = 0 ∨ i = 1 by omega) with rfl | rfl <;> rfl)
      | (intro i hi; have hi := Nat.lt_of_lt_of_le hi (show _ ≤ 3 from Nat.le_refl 3); rcases (show i = 0 ∨ i = 1 ∨ i = 2 by omega) with rfl | rfl | rfl <;> rfl))
  repeat
    conv => whnf
    first
      | (with_reducible refine qS ?_ ?_ ?_
         · exact rfl
         · exact rfl)
      | with_reducible refine qB ?_
      | (with_reducible refine qI ?_ ?_
         · omega)
      | (with_reducible refine qDT ?_ ?_
         · omega)
      | (with_reducible refine qDF ?_ ?_
         · omega)
      | (with_reducible refine qNT ?_ ?_
         · omega)
      | (with_reducible refine qNF ?_ ?_
         · omega)
      | (with_reducible refine qU8 ?_ ?_
         · omega)
      | (with_reducible refine qU32 ?_ ?_
         · omega)
      | (with_reducible refine qU64 ?_ ?_
         · omega)
      | (with_reducible refine qU16 ?_ ?_
         · omega)
  conv => whnf
  refine AskC.useV (mS 64 20 2, ⟨2, 1, 0, false, false, true⟩) [5, 6, 7] (iv .i64 4808) ⟨o2, hc2 _ _⟩ rfl ?_ ?_ (congrArg (iv .i64) aN) ?_
  · repeat' (first
      | exact leT_empty
      | exact trivial
      | exact rfl
      | exact .inl rfl
      | exact .inr rfl
      | exact .inr ⟨rfl, rfl⟩
      | exact Nat.le_refl _
      | exact Nat.zero_le _
      | exact (fun _ _ => rfl)
      | assumption
      | refine And.intro ?_ ?_
      | (intro i hi; exact absurd hi (Nat.not_lt_zero i))
      | (intro i hi; have hi := Nat.lt_of_lt_of_le hi (show _ ≤ 1 from Nat.le_refl 1); obtain rfl : i = 0 := (by omega); rfl)
      | (intro i hi; have hi := Nat.lt_of_lt_of_le hi (show _ ≤ 2 from Nat.le_refl 2); rcases (show i = 0 ∨ i = 1 by omega) with rfl | rfl <;> rfl)
      | (intro i hi; have hi := Nat.lt_of_lt_of_le hi (show _ ≤ 3 from Nat.le_refl 3); rcases (show i = 0 ∨ i = 1 ∨ i = 2 by omega) with rfl | rfl | rfl <;> rfl))
  · repeat' (first
      | exact leT_empty
      | exact trivial
      | exact rfl
      | exact .inl rfl
      | exact .inr rfl
      | exact .inr ⟨rfl, rfl⟩
      | exact Nat.le_refl _
      | exact Nat.zero_le _
      | exact (fun _ _ => rfl)
      | assumption
      | refine And.intro ?_ ?_
      | (intro i hi; exact absurd hi (Nat.not_lt_zero i))
      | (intro i hi; have hi := Nat.lt_of_lt_of_le hi (show _ ≤ 1 from Nat.le_refl 1); obtain rfl : i = 0 := (by omega); rfl)
      | (intro i hi; have hi := Nat.lt_of_lt_of_le hi (show _ ≤ 2 from Nat.le_refl 2); rcases (show i = 0 ∨ i = 1 by omega) with rfl | rfl <;> rfl)
      | (intro i hi; have hi := Nat.lt_of_lt_of_le hi (show _ ≤ 3 from Nat.le_refl 3); rcases (show i = 0 ∨ i = 1 ∨ i = 2 by omega) with rfl | rfl | rfl <;> rfl))
  repeat
    conv => whnf
    first
      | (with_reducible refine qS ?_ ?_ ?_
         · exact rfl
         · exact rfl)
      | with_reducible refine qB ?_
      | (with_reducible refine qI ?_ ?_
         · omega)
      | (with_reducible refine qDT ?_ ?_
         · omega)
      | (with_reducible refine qDF ?_ ?_
         · omega)
      | (with_reducible refine qNT ?_ ?_
         · omega)
      | (with_reducible refine qNF ?_ ?_
         · omega)
      | (with_reducible refine qU8 ?_ ?_
         · omega)
      | (with_reducible refine qU32 ?_ ?_
         · omega)
      | (with_reducible refine qU64 ?_ ?_
         · omega)
      | (with_reducible refine qU16 ?_ ?_
         · omega)
  conv => whnf
  refine AskC.useV (mS 64 20 2, ⟨2, 1, 0, false, false, true⟩) [5, 6, 7] (iv .i64 1920) ⟨o2, hc2 _ _⟩ rfl ?_ ?_ (congrArg (iv .i64) b12) ?_
  · repeat' (first
      | exact leT_empty
      | exact trivial
      | exact rfl
      | exact .inl rfl
      | exact .inr rfl
      | exact .inr ⟨rfl, rfl⟩
      | exact Nat.le_refl _
      | exact Nat.zero_le _
      | exact (fun _ _ => rfl)
      | assumption
      | refine And.intro ?_ ?_
      | (intro i hi; exact absurd hi (Nat.not_lt_zero i))
      | (intro i hi; have hi := Nat.lt_of_lt_of_le hi (show _ ≤ 1 from Nat.le_refl 1); obtain rfl : i = 0 := (by omega); rfl)
      | (intro i hi; have hi := Nat.lt_of_lt_of_le hi (show _ ≤ 2 from Nat.le_refl 2); rcases (show i = 0 ∨ i = 1 by omega) with rfl | rfl <;> rfl)
      | (intro i hi; have hi := Nat.lt_of_lt_of_le hi (show _ ≤ 3 from Nat.le_refl 3); rcases (show i = 0 ∨ i = 1 ∨ i = 2 by omega) with rfl | rfl | rfl <;> rfl))
  · repeat' (first
      | exact leT_empty
      | exact trivial
      | exact rfl
      | exact .inl rfl
      | exact .inr rfl
      | exact .inr ⟨rfl, rfl⟩
      | exact Nat.le_refl _
      | exact Nat.zero_le _
      | exact (fun _ _ => rfl)
      | assumption
      | refine And.intro ?_ ?_
      | (intro i hi; exact absurd hi (Nat.not_lt_zero i))
      | (intro i hi; have hi := Nat.lt_of_lt_of_le hi (show _ ≤ 1 from Nat.le_refl 1); obtain rfl : i = 0 := (by omega); rfl)
      | (intro i hi; have hi := Nat.lt_of_lt_of_le hi (show _ ≤ 2 from Nat.le_refl 2); rcases (show i = 0 ∨ i = 1 by omega) with rfl | rfl <;> rfl)
      | (intro i hi; have hi := Nat.lt_of_lt_of_le hi (show _ ≤ 3 from Nat.le_refl 3); rcases (show i = 0 ∨ i = 1 ∨ i = 2 by omega) with rfl | rfl | rfl <;> rfl))
  repeat
    conv => whnf
    first
      | (with_reducible refine qS ?_ ?_ ?_
         · exact rfl
         · exact rfl)
      | with_reducible refine qB ?_
      | (with_reducible refine qI ?_ ?_
         · omega)
      | (with_reducible refine qDT ?_ ?_
         · omega)
      | (with_reducible refine qDF ?_ ?_
         · omega)
      | (with_reducible refine qNT ?_ ?_
         · omega)
      | (with_reducible refine qNF ?_ ?_
         · omega)
      | (with_reducible refine qU8 ?_ ?_
         · omega)
      | (with_reducible refine qU32 ?_ ?_
         · omega)
      | (with_reducible refine qU64 ?_ ?_
         · omega)
      | (with_reducible refine qU16 ?_ ?_
         · omega)
  conv => whnf
  refine AskC.useV (mS 64 20 2, ⟨2, 1, 0, false, false, true⟩, 120) [5, 6, 7] (iv .i64 1920) ⟨o2, hc2 _ _, i120⟩ rfl ?_ ?_ (congrArg (iv .i64) b12) ?_
  · repeat' (first
      | exact leT_empty
      | exact trivial
      | exact rfl
      | exact .inl rfl
      | exact .inr rfl
      | exact .inr ⟨rfl, rfl⟩
      | exact Nat.le_refl _
      | exact Nat.zero_le _
      | exact (fun _ _ => rfl)
      | assumption
      | refine And.intro ?_ ?_
      | (intro i hi; exact absurd hi (Nat.not_lt_zero i))
      | (intro i hi; have hi := Nat.lt_of_lt_of_le hi (show _ ≤ 1 from Nat.le_refl 1); obtain rfl : i = 0 := (by omega); rfl)
      | (intro i hi; have hi := Nat.lt_of_lt_of_le hi (show _ ≤ 2 from Nat.le_refl 2); rcases (show i = 0 ∨ i = 1 by omega) with rfl | rfl <;> rfl)
      | (intro i hi; have hi := Nat.lt_of_lt_of_le hi (show _ ≤ 3 from Nat.le_refl 3); rcases (show i = 0 ∨ i = 1 ∨ i = 2 by omega) with rfl | rfl | rfl <;> rfl))
  · repeat' (first
      | exact leT_empty
      | exact trivial
      | exact rfl
      | exact .inl rfl
      | exact .inr rfl
      | exact .inr ⟨rfl, rfl⟩
      | exact Nat.le_refl _
      | exact Nat.zero_le _
      | exact (fun _ _ => rfl)
      | assumption
      | refine And.intro ?_ ?_
      | (intro i hi; exact absurd hi (Nat.not_lt_zero i))
      | (intro i hi; have hi := Nat.lt_of_lt_of_le hi (show _ ≤ 1 from Nat.le_refl 1); obtain rfl : i = 0 := (by omega); rfl)
      | (intro i hi; have hi := Nat.lt_of_lt_of_le hi (show _ ≤ 2 from Nat.le_refl 2); rcases (show i = 0 ∨ i = 1 by omega) with rfl | rfl <;> rfl)
      | (intro i hi; have hi := Nat.lt_of_lt_of_le hi (show _ ≤ 3 from Nat.le_refl 3); rcases (show i = 0 ∨ i = 1 ∨ i = 2 by omega) with rfl | rfl | rfl <;> rfl))
  repeat
    conv => whnf
    first
      | (with_reducible refine qS ?_ ?_ ?_
         · exact rfl
         · exact rfl)
      | with_reducible refine qB ?_
      | (with_reducible refine qI ?_ ?_
         · omega)
      | (with_reducible refine qDT ?_ ?_
         · omega)
      | (with_reducible refine qDF ?_ ?_
         · omega)
      | (with_reducible refine qNT ?_ ?_
         · omega)
      | (with_reducible refine qNF ?_ ?_
         · omega)
      | (with_reducible refine qU8 ?_ ?_
         · omega)
      | (with_reducible refine qU32 ?_ ?_
         · omega)
      | (with_reducible refine qU64 ?_ ?_
         · omega)
      | (with_reducible refine qU16 ?_ ?_
         · omega)
  conv => whnf
  exact rfl
theorem cl_ok : ∃ cl : Cl, ClOk Try.prog cl ∧ ∀ D, OkAll pas D → cl F.law27_BoundScales [] (xsP 0 pas D) (hsP pas D) fun x _ => x = bv true := by
  refine ⟨clRunX 7 tt outsL27 tabL 3, clRunX_ok (d := 7) ttOk outsL27_ok tabL_ok 3, fun D hD => ?_⟩
  match D, hD with
  | [d0, d1], hD =>
    obtain ⟨h0, h1, _⟩ := hD
    obtain ⟨a, rfl, ha⟩ := one_u16 h0
    obtain ⟨b, rfl, hb⟩ := one_u8 h1
    exact walk a b ha hb
theorem own' : ownKnob Try.prog.godebug = none := own
theorem lifted (os : Os) (started : os.Started) (H : Type) (enc : TypeId × Value → H) :
    ReturnsInHanded {} Try.checked os 23 .any (Rows.boundScalesSpec.pre6 enc Try.prog Try.f23 Rows.boundScalesRow.domain false) (Rows.boundScalesSpec.post enc Try.prog Try.f23 false true false false) := by
  refine returnsInHanded_of_change (C := Try.checked) own started (by kernel_rfl) Try.func23
    (ChangeSpec.witness6 (enc := enc) (C := Try.checked) false ⟨#[], #[.int .u16 0, .int .u8 0], []⟩ 8 (by kernel_rfl) (by kernel_rfl) (by kernel_rfl) (by kernel_rfl)) ?_
  intro W base args ds gs before hval hW _ _
  obtain ⟨cl, hc, hw⟩ := cl_ok
  exact row_of (ps := pas) (by kernel_rfl) (by kernel_rfl) rfl rfl (fun ds h => by
    match ds, h with
    | [_, _], _ => rfl) hval hW hc hw
theorem closed : joinedFacts Try.prog 23 Try.f23 Rows.boundScalesSpec Rows.boundScalesRow = true := by
  simp only [joinedFacts, Bool.and_eq_true]
  repeat' apply And.intro
  all_goals first
    | with_reducible exact mayEnter_ok
    | with_reducible exact laid_ok
    | with_reducible exact rowed_ok
    | ((with_reducible refine beq_r lifts_ok ?_); rfl)
    | ((with_reducible refine beq_l make_ok ?_); kernel_rfl)
    | (as_aux_lemma => kernel_rfl)
theorem named : Try.prog.funcNamed Rows.boundScalesRow.func = some 23 := by kernel_rfl
theorem inst : Try.f23.isInstance Try.prog Rows.boundScalesRow.origin Rows.boundScalesRow.targs := of_decide_eq_true (by kernel_rfl)
theorem wrap : Try.f23.isWrapper Try.prog Rows.boundScalesRow.wrapper Rows.boundScalesRow.mainSum := by
  unfold Func.isWrapper; first | (rw [if_pos (by decide +kernel)]; kernel_rfl) | (rw [if_neg (by decide +kernel)]; exact ⟨rfl, rfl⟩)
theorem over : Rows.boundScalesRow.holds Try.pinned (OpenSpec.ofChange Rows.boundScalesSpec) :=
  OpenClaim.holds_of_wide 23 Try.f23 rfl rfl rfl rfl rfl rfl rfl ⟨rfl, rfl, rfl, rfl, rfl⟩ rfl rfl rfl rfl rfl named Try.func23 closed inst wrap
    (fun os started H enc _ => lifted os started H enc)
/-- The statement. -/
theorem proved : Rows.BoundScalesSaid := over
#print axioms proved
end Go.Proofs.Ytbdifadabipfiaa.boundScales
