/- WindowEdges: a window has its first unit and its last one, and neither the one ahead nor the one behind: true at every input; no conditions. -/
import Derived.Test.YtbdifadabipfiaaLaU
import Derived.Test.YtbdifadabipfiaaPuC
namespace Go.Proofs.Ytbdifadabipfiaa.windowEdges
open Go Go.Eng Go.Proofs Go.Proofs.Ytbdifadabipfiaa.Tb Go.Proofs.Ytbdifadabipfiaa.Co Go.Proofs.Ytbdifadabipfiaa.La Go.Pu
set_option maxRecDepth 100000
set_option maxHeartbeats 4000000
noncomputable abbrev tabL : List (FuncId × Eng.Fn) := [(F.law16_WindowEdges, fn.law16_WindowEdges u0), (F.law16_least, fn.law16_least u0)]
theorem tabL_ok {d : Nat} : TabOk d tabL tt := .cons (ok.law16_WindowEdges u0) (.cons (ok.law16_least u0) (TabOk.nil))
abbrev pas : List Pa := [.one u8, .one u8, .one u8, .one u8, .one u8]
def mE (k s n y r : Int) : Mat := ⟨1, 2, 8, 600, 2, 64, 0, 8, 1, fun _ => 0, 1, fun _ => ⟨99, 1, false⟩, 1, fun _ => ⟨k, s, s + n, y, r, 0⟩⟩
structure In (k s n y r : Int) : Prop where
  hk : 1 ≤ k ∧ k ≤ 3
  hs : 40 ≤ s ∧ s ≤ 295
  hn : 40 ≤ n ∧ n ≤ 139
  hr : power r
  hy : 0 ≤ y ∧ y < r
theorem In.ok {k s n y r : Int} (h : In k s n y r) : (mE k s n y r).Ok := by
  obtain ⟨h1, h2, h3, h4, h5⟩ := h
  unfold power at h4
  constructor <;> simp [mE, I64, U32]
  omega
theorem In.is {k s n y r : Int} (h : In k s n y r) : (mE k s n y r).Is := by
  obtain ⟨h1, h2, h3, h4, h5⟩ := h
  have h6 := h4
  unfold power at h6
  refine ⟨by unfold headP power mE; simp, by unfold sizeP mE; simp, fun i _ => by unfold whoP mE; simp, fun i _ => by unfold msgP mE; simp, fun i _ => ?_⟩
  unfold winP mE
  simp only
  exact ⟨by omega, by omega, by omega, by omega, by omega, by omega, by omega, h4, by omega, by omega, by omega, by omega, by omega, .inl trivial⟩
theorem In.step {k s n y r : Int} (h : In k s n y r) : Pu.step (mE k s n y r) = 12 := by
  rw [step_of h.is]; show units 64 140 + 2 = 12; decide
theorem In.chk {k s n y r : Int} (h : In k s n y r) : (Pu.chk (mE k s n y r)).2 = 0 := by
  have hs := h.step
  have e1 : winErr (mE k s n y r) 0 = 0 := by
    obtain ⟨h1, h2, h3, h4, h5⟩ := h
    unfold winErr
    rw [hs, if_neg (by simp [mE]), if_neg (by simp only [mE]; omega)]
    rfl
  have e2 : chkW (mE k s n y r) = (0, 0) := by
    unfold chkW
    rw [first_none fun i hi => ?_]
    · rfl
    · obtain rfl : i = 0 := by have hi : i < 1 := hi; omega
      rw [e1]; rfl
  have e3 : chkO (mE k s n y r) = (0, 0) := by
    show Pu.pick (first 1 fun _ => decide ((2 : Int) ≤ 0)) 141 (Pu.pick (first 1 fun _ => decide ((2 : Int) ≤ 1)) 141 (0, 0)) = (0, 0)
    decide
  have e4 : chkT (mE k s n y r) = (0, 0) := by
    unfold chkT
    rw [first_none fun i hi => ?_, first_none fun i hi => ?_]
    · rfl
    · obtain rfl : i = 0 := by have hi : i < 1 := hi; omega
      rfl
    · obtain rfl : i = 0 := by have hi : i < 1 := hi; omega
      rfl
  unfold Pu.chk
  rw [if_neg (by rw [isM_iff.2 h.is]; simp), hs, if_neg (by show ¬ (600 : Int) < 12; omega), e3, e4, e2]
  rfl
theorem In.at {k s n y r : Int} (h : In k s n y r) {c u : Int} (hc : 0 ≤ c) : at1 (mE k s n y r) c u = if c.tmod r = y ∧ s ≤ u ∧ u < s + n then 0 else -1 := by
  unfold at1
  rw [if_pos h.chk]
  have e := comes_w (h.is.W 0 (by show 0 < 1; omega)) hc
  have e : comes y r c = decide (c.tmod r = y) := e
  unfold at0
  by_cases g : c.tmod r = y ∧ s ≤ u ∧ u < s + n
  · rw [if_pos g]
    refine first_some (j := 0) (by show 0 < 1; omega) (fun q hq => absurd hq (Nat.not_lt_zero q)) ?_
    show (comes y r c && decide (s ≤ u ∧ u < s + n)) = true
    rw [e, decide_eq_true g.1, decide_eq_true g.2]; rfl
  · rw [if_neg g]
    refine first_none fun i hi => ?_
    show (comes y r c && decide (s ≤ u ∧ u < s + n)) = false
    rw [e, ← Bool.decide_and]
    exact decide_eq_false g
theorem In.free {k s n y r : Int} (h : In k s n y r) {c : Int} (hc : 0 ≤ c ∧ c < 8) : free1 (mE k s n y r) c = if c.tmod r = y ∧ k ≠ 3 then 600 - n else 600 := by
  have hP := pass_of h.chk
  have h1 := free_cnt hP (n := c) hc 600
  have h2 := sumW_cnt hP (n := c) hc (L := 600) rfl 1 (Nat.le_refl 1)
  have h3 : sumW (mE k s n y r) c 1 = if c.tmod r = y ∧ k ≠ 3 then 0 + (s + n) - s else 0 := rfl
  have h4 : free1 (mE k s n y r) c = (freeN (fun u => sgn (kindAt (mE k s n y r) c u)) 600 : Nat) := if_pos h.chk
  have h5 : (cnt (fun u => anyB (mE k s n y r).nW fun i => busyB (mE k s n y r) c i u) 600 : Int) = sumW (mE k s n y r) c 1 := h2.symm
  rw [h4]
  rw [h3] at h5
  split at h5
  · rename_i g; rw [if_pos g]; omega
  · rename_i g; rw [if_neg g]; omega
theorem In.owner {k s n y r : Int} (h : In k s n y r) {c : Int} (hc : 0 ≤ c) : owner1 (mE k s n y r) c s = if c.tmod r = y ∧ k = 1 then 1 else -1 := by
  have e := h.at hc (u := s)
  have hn := h.hn
  have e0 : owner1 (mE k s n y r) c s = if at1 (mE k s n y r) c s < 0 ∨ k ≠ 1 then -1 else 1 := by
    unfold owner1
    by_cases g : c.tmod r = y
    · rw [if_pos ⟨g, by omega, by omega⟩] at e
      rw [e]; rfl
    · rw [if_neg (fun hh => g hh.1)] at e
      rw [e, if_pos (.inl (by omega)), if_pos (.inl (by omega))]
  by_cases g : c.tmod r = y
  · rw [if_pos ⟨g, by omega, by omega⟩] at e
    rw [e0, e]
    by_cases g2 : k = 1
    · rw [if_pos (show c.tmod r = y ∧ k = 1 from ⟨g, g2⟩), if_neg (by omega)]
    · rw [if_neg (fun hh : c.tmod r = y ∧ k = 1 => g2 hh.2), if_pos (.inr g2)]
  · rw [if_neg (fun hh => g hh.1)] at e
    rw [e0, e, if_pos (.inl (by omega)), if_neg (fun hh => g hh.1)]
theorem walk (a b kk yy rr : Int) (ha : 0 ≤ a ∧ a ≤ 255) (hb : 0 ≤ b ∧ b ≤ 255) (hk : 0 ≤ kk ∧ kk ≤ 255) (hy : 0 ≤ yy ∧ yy ≤ 255) (hr : 0 ≤ rr ∧ rr ≤ 255) :
    clRunX 7 tt outsL16 tabL 3 F.law16_WindowEdges [] [iv .u8 a, iv .u8 b, iv .u8 kk, iv .u8 yy, iv .u8 rr] [] (fun x _ => x = bv true) := by
  conv => whnf
  refine true_use ?_
  have h1 : 0 ≤ rr.tmod 4 ∧ rr.tmod 4 ≤ 3 := by rw [Int.tmod_eq_emod_of_nonneg hr.1]; omega
  have h2 : 0 ≤ kk.tmod 3 ∧ kk.tmod 3 ≤ 2 := by rw [Int.tmod_eq_emod_of_nonneg hk.1]; omega
  have h3 : 0 ≤ b.tmod 100 ∧ b.tmod 100 ≤ 99 := by rw [Int.tmod_eq_emod_of_nonneg hb.1]; omega
  obtain ⟨r, er, hpw⟩ : ∃ r : Int, 1 * 2 ^ min (rr.tmod 4).toNat IntKind.i64.bits = r ∧ power r := by
    refine ⟨_, rfl, ?_⟩
    rcases (show rr.tmod 4 = 0 ∨ rr.tmod 4 = 1 ∨ rr.tmod 4 = 2 ∨ rr.tmod 4 = 3 by omega) with e | e | e | e <;> rw [e] <;> decide
  repeat
    conv => whnf
    first
      | (with_reducible refine qS ?_ ?_ ?_
         · exact rfl
         · exact rfl)
      | with_reducible refine qB ?_
      | (with_reducible refine qI ?_ ?_
         · omega)
      | (with_reducible refine qDT ?_ ?_
         · omega)
      | (with_reducible refine qDF ?_ ?_
         · omega)
      | (with_reducible refine qNT ?_ ?_
         · omega)
      | (with_reducible refine qNF ?_ ?_
         · omega)
      | (with_reducible refine qU8 ?_ ?_
         · omega)
      | (with_reducible refine qU32 ?_ ?_
         · omega)
      | (with_reducible refine qU64 ?_ ?_
         · omega)
      | (with_reducible refine qU16 ?_ ?_
         · omega)
  conv => whnf
  rw [er]
  have hr8 : 1 ≤ r ∧ r ≤ 8 := by unfold power at hpw; omega
  have h4 : 0 ≤ yy.tmod r ∧ yy.tmod r < r := by rw [Int.tmod_eq_emod_of_nonneg hy.1]; exact ⟨Int.emod_nonneg _ (by omega), Int.emod_lt_of_pos _ (by omega)⟩
  repeat
    conv => whnf
    first
      | (with_reducible refine qS ?_ ?_ ?_
         · exact rfl
         · exact rfl)
      | with_reducible refine qB ?_
      | (with_reducible refine qI ?_ ?_
         · omega)
      | (with_reducible refine qDT ?_ ?_
         · omega)
      | (with_reducible refine qDF ?_ ?_
         · omega)
      | (with_reducible refine qNT ?_ ?_
         · omega)
      | (with_reducible refine qNF ?_ ?_
         · omega)
      | (with_reducible refine qU8 ?_ ?_
         · omega)
      | (with_reducible refine qU32 ?_ ?_
         · omega)
      | (with_reducible refine qU64 ?_ ?_
         · omega)
      | (with_reducible refine qU16 ?_ ?_
         · omega)
  conv => whnf
  have hI : In (kk.tmod 3 + 1) (a + 40) (b.tmod 100 + 40) (yy.tmod r) r := ⟨by omega, by omega, by omega, hpw, h4⟩
  generalize kk.tmod 3 + 1 = k at *
  generalize a + 40 = s at *
  generalize b.tmod 100 + 40 = n at *
  generalize hyr : yy.tmod r = y at *
  have hcap : capsOk (mE k s n y r) ⟨1, 1, 1, false, false, false⟩ := ⟨Nat.le_refl _, Nat.le_refl _, Nat.le_refl _⟩
  have hk3 := hI.hk
  have hs3 := hI.hs
  have hn3 := hI.hn
  refine .rd (fun i : Nat => i ≤ 8) (fun i => [(16, iv .i64 i)]) (fun i => 8 - i) 0 (Nat.zero_le _) ?_ (fun i hi => ?_)
  · conv => whnf
    refine Le.id rfl ?_ ?_
    all_goals (repeat' (first
       | exact leT_empty
       | exact trivial
       | exact rfl
       | exact .inl rfl
       | exact .inr rfl
       | exact .inr ⟨rfl, rfl⟩
       | exact Nat.le_refl _
       | exact Nat.zero_le _
       | exact (fun _ _ => rfl)
       | assumption
       | refine And.intro ?_ ?_
       | (intro i hi; exact absurd hi (Nat.not_lt_zero i))
       | (intro i hi; have hi := Nat.lt_of_lt_of_le hi (show _ ≤ 1 from Nat.le_refl 1); obtain rfl : i = 0 := (by omega); rfl)
       | (intro i hi; have hi := Nat.lt_of_lt_of_le hi (show _ ≤ 2 from Nat.le_refl 2); rcases (show i = 0 ∨ i = 1 by omega) with rfl | rfl <;> rfl)
       | (intro i hi; have hi := Nat.lt_of_lt_of_le hi (show _ ≤ 3 from Nat.le_refl 3); rcases (show i = 0 ∨ i = 1 ∨ i = 2 by omega) with rfl | rfl | rfl <;> rfl)))
  conv => whnf
  refine cD (fun h5 => ?_) (fun h5 => ?_)
  · have ic : I64 (i : Int) := ⟨by omega, by omega⟩
    have hcase : ((i : Int).tmod r = y ∧ k = 3) ∨ ((i : Int).tmod r = y ∧ k = 1) ∨ ((i : Int).tmod r = y ∧ k = 2) ∨ ¬ (i : Int).tmod r = y := by omega
    rcases hcase with ⟨g, g2⟩ | ⟨g, g2⟩ | ⟨g, g2⟩ | g
    · have eg : decide ((i : Int).tmod r = y) = true := decide_eq_true g
      have e1 : at1 (mE k s n y r) i s = 0 := by rw [hI.at (by omega)]; exact if_pos ⟨g, by omega, by omega⟩
      have e2 : at1 (mE k s n y r) i (s + n - 1) = 0 := by rw [hI.at (by omega)]; exact if_pos ⟨g, by omega, by omega⟩
      have e3 : at1 (mE k s n y r) i (s - 1) = -1 := by rw [hI.at (by omega)]; exact if_neg (by omega)
      have e4 : at1 (mE k s n y r) i (s + n) = -1 := by rw [hI.at (by omega)]; exact if_neg (by omega)
      have e5 : free1 (mE k s n y r) i = 600 := by rw [hI.free ⟨by omega, by omega⟩]; exact if_neg (by omega)
      have e6 : owner1 (mE k s n y r) i s = -1 := by rw [hI.owner (by omega)]; exact if_neg (by omega)
      repeat
        conv => whnf
        first
          | (with_reducible refine qS ?_ ?_ ?_
             · exact rfl
             · exact rfl)
          | with_reducible refine qB ?_
          | (with_reducible refine qI ?_ ?_
             · omega)
          | (with_reducible refine qDT ?_ ?_
             · omega)
          | (with_reducible refine qDF ?_ ?_
             · omega)
          | (with_reducible refine qNT ?_ ?_
             · omega)
          | (with_reducible refine qNF ?_ ?_
             · omega)
          | (with_reducible refine qU8 ?_ ?_
             · omega)
          | (with_reducible refine qU32 ?_ ?_
             · omega)
          | (with_reducible refine qU64 ?_ ?_
             · omega)
          | (with_reducible refine qU16 ?_ ?_
             · omega)
      conv => whnf
      try rw [hyr]
      try rw [eg]
      repeat
        conv => whnf
        first
          | (with_reducible refine qS ?_ ?_ ?_
             · exact rfl
             · exact rfl)
          | with_reducible refine qB ?_
          | (with_reducible refine qI ?_ ?_
             · omega)
          | (with_reducible refine qDT ?_ ?_
             · omega)
          | (with_reducible refine qDF ?_ ?_
             · omega)
          | (with_reducible refine qNT ?_ ?_
             · omega)
          | (with_reducible refine qNF ?_ ?_
             · omega)
          | (with_reducible refine qU8 ?_ ?_
             · omega)
          | (with_reducible refine qU32 ?_ ?_
             · omega)
          | (with_reducible refine qU64 ?_ ?_
             · omega)
          | (with_reducible refine qU16 ?_ ?_
             · omega)
      conv => whnf
      refine AskC.useV (mE k s n y r, ⟨1, 1, 1, false, false, false⟩, (i : Int), s) [1, 2, 5] (iv .i64 (0)) ⟨hI.ok, hcap, ic⟩ rfl ?_ ?_ (congrArg (iv .i64) e1) ?_
      · repeat' (first
          | exact leT_empty
          | exact trivial
          | exact rfl
          | exact .inl rfl
          | exact .inr rfl
          | exact .inr ⟨rfl, rfl⟩
          | exact Nat.le_refl _
          | exact Nat.zero_le _
          | exact (fun _ _ => rfl)
          | assumption
          | refine And.intro ?_ ?_
          | (intro i hi; exact absurd hi (Nat.not_lt_zero i))
          | (intro i hi; have hi := Nat.lt_of_lt_of_le hi (show _ ≤ 1 from Nat.le_refl 1); obtain rfl : i = 0 := (by omega); rfl)
          | (intro i hi; have hi := Nat.lt_of_lt_of_le hi (show _ ≤ 2 from Nat.le_refl 2); rcases (show i = 0 ∨ i = 1 by omega) with rfl | rfl <;> rfl)
          | (intro i hi; have hi := Nat.lt_of_lt_of_le hi (show _ ≤ 3 from Nat.le_refl 3); rcases (show i = 0 ∨ i = 1 ∨ i = 2 by omega) with rfl | rfl | rfl <;> rfl))
      · repeat' (first
          | exact leT_empty
          | exact trivial
          | exact rfl
          | exact .inl rfl
          | exact .inr rfl
          | exact .inr ⟨rfl, rfl⟩
          | exact Nat.le_refl _
          | exact Nat.zero_le _
          | exact (fun _ _ => rfl)
          | assumption
          | refine And.intro ?_ ?_
          | (intro i hi; exact absurd hi (Nat.not_lt_zero i))
          | (intro i hi; have hi := Nat.lt_of_lt_of_le hi (show _ ≤ 1 from Nat.le_refl 1); obtain rfl : i = 0 := (by omega); rfl)
          | (intro i hi; have hi := Nat.lt_of_lt_of_le hi (show _ ≤ 2 from Nat.le_refl 2); rcases (show i = 0 ∨ i = 1 by omega) with rfl | rfl <;> rfl)
          | (intro i hi; have hi := Nat.lt_of_lt_of_le hi (show _ ≤ 3 from Nat.le_refl 3); rcases (show i = 0 ∨ i = 1 ∨ i = 2 by omega) with rfl | rfl | rfl <;> rfl))
      repeat
        conv => whnf
        first
          | (with_reducible refine qS ?_ ?_ ?_
             · exact rfl
             · exact rfl)
          | with_reducible refine qB ?_
          | (with_reducible refine qI ?_ ?_
             · omega)
          | (with_reducible refine qDT ?_ ?_
             · omega)
          | (with_reducible refine qDF ?_ ?_
             · omega)
          | (with_reducible refine qNT ?_ ?_
             · omega)
          | (with_reducible refine qNF ?_ ?_
             · omega)
          | (with_reducible refine qU8 ?_ ?_
             · omega)
          | (with_reducible refine qU32 ?_ ?_
             · omega)
          | (with_reducible refine qU64 ?_ ?_
             · omega)
          | (with_reducible refine qU16 ?_ ?_
             · omega)
      conv => whnf
      refine AskC.useV (mE k s n y r, ⟨1, 1, 1, false, false, false⟩, (i : Int), s + n - 1) [1, 2, 5] (iv .i64 (0)) ⟨hI.ok, hcap, ic⟩ rfl ?_ ?_ (congrArg (iv .i64) e2) ?_
      · repeat' (first
          | exact leT_empty
          | exact trivial
          | exact rfl
          | exact .inl rfl
          | exact .inr rfl
          | exact .inr ⟨rfl, rfl⟩
          | exact Nat.le_refl _
          | exact Nat.zero_le _
          | exact (fun _ _ => rfl)
          | assumption
          | refine And.intro ?_ ?_
          | (intro i hi; exact absurd hi (Nat.not_lt_zero i))
          | (intro i hi; have hi := Nat.lt_of_lt_of_le hi (show _ ≤ 1 from Nat.le_refl 1); obtain rfl : i = 0 := (by omega); rfl)
          | (intro i hi; have hi := Nat.lt_of_lt_of_le hi (show _ ≤ 2 from Nat.le_refl 2); rcases (show i = 0 ∨ i = 1 by omega) with rfl | rfl <;> rfl)
          | (intro i hi; have hi := Nat.lt_of_lt_of_le hi (show _ ≤ 3 from Nat.le_refl 3); rcases (show i = 0 ∨ i = 1 ∨ i = 2 by omega) with rfl | rfl | rfl <;> rfl))
      · repeat' (first
          | exact leT_empty
          | exact trivial
          | exact rfl
          | exact .inl rfl
          | exact .inr rfl
          | exact .inr ⟨rfl, rfl⟩
          | exact Nat.le_refl _
          | exact Nat.zero_le _
          | exact (fun _ _ => rfl)
          | assumption
          | refine And.intro ?_ ?_
          | (intro i hi; exact absurd hi (Nat.not_lt_zero i))
          | (intro i hi; have hi := Nat.lt_of_lt_of_le hi (show _ ≤ 1 from Nat.le_refl 1); obtain rfl : i = 0 := (by omega); rfl)
          | (intro i hi; have hi := Nat.lt_of_lt_of_le hi (show _ ≤ 2 from Nat.le_refl 2); rcases (show i = 0 ∨ i = 1 by omega) with rfl | rfl <;> rfl)
          | (intro i hi; have hi := Nat.lt_of_lt_of_le hi (show _ ≤ 3 from Nat.le_refl 3); rcases (show i = 0 ∨ i = 1 ∨ i = 2 by omega) with rfl | rfl | rfl <;> rfl))
      repeat
        conv => whnf
        first
          | (with_reducible refine qS ?_ ?_ ?_
             · exact rfl
             · exact rfl)
          | with_reducible refine qB ?_
          | (with_reducible refine qI ?_ ?_
             · omega)
          | (with_reducible refine qDT ?_ ?_
             · omega)
          | (with_reducible refine qDF ?_ ?_
             · omega)
          | (with_reducible refine qNT ?_ ?_
             · omega)
          | (with_reducible refine qNF ?_ ?_
             · omega)
          | (with_reducible refine qU8 ?_ ?_
             · omega)
          | (with_reducible refine qU32 ?_ ?_
             · omega)
          | (with_reducible refine qU64 ?_ ?_
             · omega)
          | (with_reducible refine qU16 ?_ ?_
             · omega)
      conv => whnf
      refine AskC.useV (mE k s n y r, ⟨1, 1, 1, false, false, false⟩, (i : Int), s - 1) [1, 2, 5] (iv .i64 (-1)) ⟨hI.ok, hcap, ic⟩ rfl ?_ ?_ (congrArg (iv .i64) e3) ?_
      · repeat' (first
          | exact leT_empty
          | exact trivial
          | exact rfl
          | exact .inl rfl
          | exact .inr rfl
          | exact .inr ⟨rfl, rfl⟩
          | exact Nat.le_refl _
          | exact Nat.zero_le _
          | exact (fun _ _ => rfl)
          | assumption
          | refine And.intro ?_ ?_
          | (intro i hi; exact absurd hi (Nat.not_lt_zero i))
          | (intro i hi; have hi := Nat.lt_of_lt_of_le hi (show _ ≤ 1 from Nat.le_refl 1); obtain rfl : i = 0 := (by omega); rfl)
          | (intro i hi; have hi := Nat.lt_of_lt_of_le hi (show _ ≤ 2 from Nat.le_refl 2); rcases (show i = 0 ∨ i = 1 by omega) with rfl | rfl <;> rfl)
          | (intro i hi; have hi := Nat.lt_of_lt_of_le hi (show _ ≤ 3 from Nat.le_refl 3); rcases (show i = 0 ∨ i = 1 ∨ i = 2 by omega) with rfl | rfl | rfl <;> rfl))
      · repeat' (first
          | exact leT_empty
          | exact trivial
          | exact rfl
          | exact .inl rfl
          | exact .inr rfl
          | exact .inr ⟨rfl, rfl⟩
          | exact Nat.le_refl _
          | exact Nat.zero_le _
          | exact (fun _ _ => rfl)
          | assumption
          | refine And.intro ?_ ?_
          | (intro i hi; exact absurd hi (Nat.not_lt_zero i))
          | (intro i hi; have hi := Nat.lt_of_lt_of_le hi (show _ ≤ 1 from Nat.le_refl 1); obtain rfl : i = 0 := (by omega); rfl)
          | (intro i hi; have hi := Nat.lt_of_lt_of_le hi (show _ ≤ 2 from Nat.le_refl 2); rcases (show i = 0 ∨ i = 1 by omega) with rfl | rfl <;> rfl)
          | (intro i hi; have hi := Nat.lt_of_lt_of_le hi (show _ ≤ 3 from Nat.le_refl 3); rcases (show i = 0 ∨ i = 1 ∨ i = 2 by omega) with rfl | rfl | rfl <;> rfl))
      repeat
        conv => whnf
        first
          | (with_reducible refine qS ?_ ?_ ?_
             · exact rfl
             · exact rfl)
          | with_reducible refine qB ?_
          | (with_reducible refine qI ?_ ?_
             · omega)
          | (with_reducible refine qDT ?_ ?_
             · omega)
          | (with_reducible refine qDF ?_ ?_
             · omega)
          | (with_reducible refine qNT ?_ ?_
             · omega)
          | (with_reducible refine qNF ?_ ?_
             · omega)
          | (with_reducible refine qU8 ?_ ?_
             · omega)
          | (with_reducible refine qU32 ?_ ?_
             · omega)
          | (with_reducible refine qU64 ?_ ?_
             · omega)
          | (with_reducible refine qU16 ?_ ?_
             · omega)
      conv => whnf
      refine AskC.useV (mE k s n y r, ⟨1, 1, 1, false, false, false⟩, (i : Int), s + n) [1, 2, 5] (iv .i64 (-1)) ⟨hI.ok, hcap, ic⟩ rfl ?_ ?_ (congrArg (iv .i64) e4) ?_
      · repeat' (first
          | exact leT_empty
          | exact trivial
          | exact rfl
          | exact .inl rfl
          | exact .inr rfl
          | exact .inr ⟨rfl, rfl⟩
          | exact Nat.le_refl _
          | exact Nat.zero_le _
          | exact (fun _ _ => rfl)
          | assumption
          | refine And.intro ?_ ?_
          | (intro i hi; exact absurd hi (Nat.not_lt_zero i))
          | (intro i hi; have hi := Nat.lt_of_lt_of_le hi (show _ ≤ 1 from Nat.le_refl 1); obtain rfl : i = 0 := (by omega); rfl)
          | (intro i hi; have hi := Nat.lt_of_lt_of_le hi (show _ ≤ 2 from Nat.le_refl 2); rcases (show i = 0 ∨ i = 1 by omega) with rfl | rfl <;> rfl)
          | (intro i hi; have hi := Nat.lt_of_lt_of_le hi (show _ ≤ 3 from Nat.le_refl 3); rcases (show i = 0 ∨ i = 1 ∨ i = 2 by omega) with rfl | rfl | rfl <;> rfl))
      · repeat' (first
          | exact leT_empty
          | exact trivial
          | exact rfl
          | exact .inl rfl
          | exact .inr rfl
          | exact .inr ⟨rfl, rfl⟩
          | exact Nat.le_refl _
          | exact Nat.zero_le _
          | exact (fun _ _ => rfl)
          | assumption
          | refine And.intro ?_ ?_
          | (intro i hi; exact absurd hi (Nat.not_lt_zero i))
          | (intro i hi; have hi := Nat.lt_of_lt_of_le hi (show _ ≤ 1 from Nat.le_refl 1); obtain rfl : i = 0 := (by omega); rfl)
          | (intro i hi; have hi := Nat.lt_of_lt_of_le hi (show _ ≤ 2 from Nat.le_refl 2); rcases (show i = 0 ∨ i = 1 by omega) with rfl | rfl <;> rfl)
          | (intro i hi; have hi := Nat.lt_of_lt_of_le hi (show _ ≤ 3 from Nat.le_refl 3); rcases (show i = 0 ∨ i = 1 ∨ i = 2 by omega) with rfl | rfl | rfl <;> rfl))
      repeat
        conv => whnf
        first
          | (with_reducible refine qS ?_ ?_ ?_
             · exact rfl
             · exact rfl)
          | with_reducible refine qB ?_
          | (with_reducible refine qI ?_ ?_
             · omega)
          | (with_reducible refine qDT ?_ ?_
             · omega)
          | (with_reducible refine qDF ?_ ?_
             · omega)
          | (with_reducible refine qNT ?_ ?_
             · omega)
          | (with_reducible refine qNF ?_ ?_
             · omega)
          | (with_reducible refine qU8 ?_ ?_
             · omega)
          | (with_reducible refine qU32 ?_ ?_
             · omega)
          | (with_reducible refine qU64 ?_ ?_
             · omega)
          | (with_reducible refine qU16 ?_ ?_
             · omega)
      conv => whnf
      refine AskC.useV (mE k s n y r, ⟨1, 1, 1, false, false, false⟩, (i : Int)) [1, 2, 5] (iv .i64 (600)) ⟨hI.ok, hcap, ic⟩ rfl ?_ ?_ (congrArg (iv .i64) e5) ?_
      · repeat' (first
          | exact leT_empty
          | exact trivial
          | exact rfl
          | exact .inl rfl
          | exact .inr rfl
          | exact .inr ⟨rfl, rfl⟩
          | exact Nat.le_refl _
          | exact Nat.zero_le _
          | exact (fun _ _ => rfl)
          | assumption
          | refine And.intro ?_ ?_
          | (intro i hi; exact absurd hi (Nat.not_lt_zero i))
          | (intro i hi; have hi := Nat.lt_of_lt_of_le hi (show _ ≤ 1 from Nat.le_refl 1); obtain rfl : i = 0 := (by omega); rfl)
          | (intro i hi; have hi := Nat.lt_of_lt_of_le hi (show _ ≤ 2 from Nat.le_refl 2); rcases (show i = 0 ∨ i = 1 by omega) with rfl | rfl <;> rfl)
          | (intro i hi; have hi := Nat.lt_of_lt_of_le hi (show _ ≤ 3 from Nat.le_refl 3); rcases (show i = 0 ∨ i = 1 ∨ i = 2 by omega) with rfl | rfl | rfl <;> rfl))
      · repeat' (first
          | exact leT_empty
          | exact trivial
          | exact rfl
          | exact .inl rfl
          | exact .inr rfl
          | exact .inr ⟨rfl, rfl⟩
          | exact Nat.le_refl _
          | exact Nat.zero_le _
          | exact (fun _ _ => rfl)
          | assumption
          | refine And.intro ?_ ?_
          | (intro i hi; exact absurd hi (Nat.not_lt_zero i))
          | (intro i hi; have hi := Nat.lt_of_lt_of_le hi (show _ ≤ 1 from Nat.le_refl 1); obtain rfl : i = 0 := (by omega); rfl)
          | (intro i hi; have hi := Nat.lt_of_lt_of_le hi (show _ ≤ 2 from Nat.le_refl 2); rcases (show i = 0 ∨ i = 1 by omega) with rfl | rfl <;> rfl)
          | (intro i hi; have hi := Nat.lt_of_lt_of_le hi (show _ ≤ 3 from Nat.le_refl 3); rcases (show i = 0 ∨ i = 1 ∨ i = 2 by omega) with rfl | rfl | rfl <;> rfl))
      repeat
        conv => whnf
        first
          | (with_reducible refine qS ?_ ?_ ?_
             · exact rfl
             · exact rfl)
          | with_reducible refine qB ?_
          | (with_reducible refine qI ?_ ?_
             · omega)
          | (with_reducible refine qDT ?_ ?_
             · omega)
          | (with_reducible refine qDF ?_ ?_
             · omega)
          | (with_reducible refine qNT ?_ ?_
             · omega)
          | (with_reducible refine qNF ?_ ?_
             · omega)
          | (with_reducible refine qU8 ?_ ?_
             · omega)
          | (with_reducible refine qU32 ?_ ?_
             · omega)
          | (with_reducible refine qU64 ?_ ?_
             · omega)
          | (with_reducible refine qU16 ?_ ?_
             · omega)
      conv => whnf
      refine AskC.useV (mE k s n y r, ⟨1, 1, 1, false, false, false⟩, (i : Int), s) [1, 2, 5] (iv .i64 (-1)) ⟨hI.ok, hcap, ic⟩ rfl ?_ ?_ (congrArg (iv .i64) e6) ?_
      · repeat' (first
          | exact leT_empty
          | exact trivial
          | exact rfl
          | exact .inl rfl
          | exact .inr rfl
          | exact .inr ⟨rfl, rfl⟩
          | exact Nat.le_refl _
          | exact Nat.zero_le _
          | exact (fun _ _ => rfl)
          | assumption
          | refine And.intro ?_ ?_
          | (intro i hi; exact absurd hi (Nat.not_lt_zero i))
          | (intro i hi; have hi := Nat.lt_of_lt_of_le hi (show _ ≤ 1 from Nat.le_refl 1); obtain rfl : i = 0 := (by omega); rfl)
          | (intro i hi; have hi := Nat.lt_of_lt_of_le hi (show _ ≤ 2 from Nat.le_refl 2); rcases (show i = 0 ∨ i = 1 by omega) with rfl | rfl <;> rfl)
          | (intro i hi; have hi := Nat.lt_of_lt_of_le hi (show _ ≤ 3 from Nat.le_refl 3); rcases (show i = 0 ∨ i = 1 ∨ i = 2 by omega) with rfl | rfl | rfl <;> rfl))
      · repeat' (first
          | exact leT_empty
          | exact trivial
          | exact rfl
          | exact .inl rfl
          | exact .inr rfl
          | exact .inr ⟨rfl, rfl⟩
          | exact Nat.le_refl _
          | exact Nat.zero_le _
          | exact (fun _ _ => rfl)
          | assumption
          | refine And.intro ?_ ?_
          | (intro i hi; exact absurd hi (Nat.not_lt_zero i))
          | (intro i hi; have hi := Nat.lt_of_lt_of_le hi (show _ ≤ 1 from Nat.le_refl 1); obtain rfl : i = 0 := (by omega); rfl)
          | (intro i hi; have hi := Nat.lt_of_lt_of_le hi (show _ ≤ 2 from Nat.le_refl 2); rcases (show i = 0 ∨ i = 1 by omega) with rfl | rfl <;> rfl)
          | (intro i hi; have hi := Nat.lt_of_lt_of_le hi (show _ ≤ 3 from Nat.le_refl 3); rcases (show i = 0 ∨ i = 1 ∨ i = 2 by omega) with rfl | rfl | rfl <;> rfl))
      repeat
        conv => whnf
        first
          | (with_reducible refine qS ?_ ?_ ?_
             · exact rfl
             · exact rfl)
          | with_reducible refine qB ?_
          | (with_reducible refine qI ?_ ?_
             · omega)
          | (with_reducible refine qDT ?_ ?_
             · omega)
          | (with_reducible refine qDF ?_ ?_
             · omega)
          | (with_reducible refine qNT ?_ ?_
             · omega)
          | (with_reducible refine qNF ?_ ?_
             · omega)
          | (with_reducible refine qU8 ?_ ?_
             · omega)
          | (with_reducible refine qU32 ?_ ?_
             · omega)
          | (with_reducible refine qU64 ?_ ?_
             · omega)
          | (with_reducible refine qU16 ?_ ?_
             · omega)
      conv => whnf
      rw [show decide (k = 1) = false from decide_eq_false (by omega)]
      repeat
        conv => whnf
        first
          | (with_reducible refine qS ?_ ?_ ?_
             · exact rfl
             · exact rfl)
          | with_reducible refine qB ?_
          | (with_reducible refine qI ?_ ?_
             · omega)
          | (with_reducible refine qDT ?_ ?_
             · omega)
          | (with_reducible refine qDF ?_ ?_
             · omega)
          | (with_reducible refine qNT ?_ ?_
             · omega)
          | (with_reducible refine qNF ?_ ?_
             · omega)
          | (with_reducible refine qU8 ?_ ?_
             · omega)
          | (with_reducible refine qU32 ?_ ?_
             · omega)
          | (with_reducible refine qU64 ?_ ?_
             · omega)
          | (with_reducible refine qU16 ?_ ?_
             · omega)
      conv => whnf
      refine ⟨i + 1, ⟨by omega, by omega⟩, ?_⟩
      conv => whnf
      refine Le.id rfl ?_ ?_
      all_goals (repeat' (first
         | exact leT_empty
         | exact trivial
         | exact rfl
         | exact .inl rfl
         | exact .inr rfl
         | exact .inr ⟨rfl, rfl⟩
         | exact Nat.le_refl _
         | exact Nat.zero_le _
         | exact (fun _ _ => rfl)
         | assumption
         | refine And.intro ?_ ?_
         | (intro i hi; exact absurd hi (Nat.not_lt_zero i))
         | (intro i hi; have hi := Nat.lt_of_lt_of_le hi (show _ ≤ 1 from Nat.le_refl 1); obtain rfl : i = 0 := (by omega); rfl)
         | (intro i hi; have hi := Nat.lt_of_lt_of_le hi (show _ ≤ 2 from Nat.le_refl 2); rcases (show i = 0 ∨ i = 1 by omega) with rfl | rfl <;> rfl)
         | (intro i hi; have hi := Nat.lt_of_lt_of_le hi (show _ ≤ 3 from Nat.le_refl 3); rcases (show i = 0 ∨ i = 1 ∨ i = 2 by omega) with rfl | rfl | rfl <;> rfl)))
    · have eg : decide ((i : Int).tmod r = y) = true := decide_eq_true g
      have e1 : at1 (mE k s n y r) i s = 0 := by rw [hI.at (by omega)]; exact if_pos ⟨g, by omega, by omega⟩
      have e2 : at1 (mE k s n y r) i (s + n - 1) = 0 := by rw [hI.at (by omega)]; exact if_pos ⟨g, by omega, by omega⟩
      have e3 : at1 (mE k s n y r) i (s - 1) = -1 := by rw [hI.at (by omega)]; exact if_neg (by omega)
      have e4 : at1 (mE k s n y r) i (s + n) = -1 := by rw [hI.at (by omega)]; exact if_neg (by omega)
      have e5 : free1 (mE k s n y r) i = 600 - n := by rw [hI.free ⟨by omega, by omega⟩]; exact if_pos ⟨g, by omega⟩
      have e6 : owner1 (mE k s n y r) i s = 1 := by rw [hI.owner (by omega)]; exact if_pos ⟨g, g2⟩
      repeat
        conv => whnf
        first
          | (with_reducible refine qS ?_ ?_ ?_
             · exact rfl
             · exact rfl)
          | with_reducible refine qB ?_
          | (with_reducible refine qI ?_ ?_
             · omega)
          | (with_reducible refine qDT ?_ ?_
             · omega)
          | (with_reducible refine qDF ?_ ?_
             · omega)
          | (with_reducible refine qNT ?_ ?_
             · omega)
          | (with_reducible refine qNF ?_ ?_
             · omega)
          | (with_reducible refine qU8 ?_ ?_
             · omega)
          | (with_reducible refine qU32 ?_ ?_
             · omega)
          | (with_reducible refine qU64 ?_ ?_
             · omega)
          | (with_reducible refine qU16 ?_ ?_
             · omega)
      conv => whnf
      try rw [hyr]
      try rw [eg]
      repeat
        conv => whnf
        first
          | (with_reducible refine qS ?_ ?_ ?_
             · exact rfl
             · exact rfl)
          | with_reducible refine qB ?_
          | (with_reducible refine qI ?_ ?_
             · omega)
          | (with_reducible refine qDT ?_ ?_
             · omega)
          | (with_reducible refine qDF ?_ ?_
             · omega)
          | (with_reducible refine qNT ?_ ?_
             · omega)
          | (with_reducible refine qNF ?_ ?_
             · omega)
          | (with_reducible refine qU8 ?_ ?_
             · omega)
          | (with_reducible refine qU32 ?_ ?_
             · omega)
          | (with_reducible refine qU64 ?_ ?_
             · omega)
          | (with_reducible refine qU16 ?_ ?_
             · omega)
      conv => whnf
      refine AskC.useV (mE k s n y r, ⟨1, 1, 1, false, false, false⟩, (i : Int), s) [1, 2, 5] (iv .i64 (0)) ⟨hI.ok, hcap, ic⟩ rfl ?_ ?_ (congrArg (iv .i64) e1) ?_
      · repeat' (first
          | exact leT_empty
          | exact trivial
          | exact rfl
          | exact .inl rfl
          | exact .inr rfl
          | exact .inr ⟨rfl, rfl⟩
          | exact Nat.le_refl _
          | exact Nat.zero_le _
          | exact (fun _ _ => rfl)
          | assumption
          | refine And.intro ?_ ?_
          | (intro i hi; exact absurd hi (Nat.not_lt_zero i))
          | (intro i hi; have hi := Nat.lt_of_lt_of_le hi (show _ ≤ 1 from Nat.le_refl 1); obtain rfl : i = 0 := (by omega); rfl)
          | (intro i hi; have hi := Nat.lt_of_lt_of_le hi (show _ ≤ 2 from Nat.le_refl 2); rcases (show i = 0 ∨ i = 1 by omega) with rfl | rfl <;> rfl)
          | (intro i hi; have hi := Nat.lt_of_lt_of_le hi (show _ ≤ 3 from Nat.le_refl 3); rcases (show i = 0 ∨ i = 1 ∨ i = 2 by omega) with rfl | rfl | rfl <;> rfl))
      · repeat' (first
          | exact leT_empty
          | exact trivial
          | exact rfl
          | exact .inl rfl
          | exact .inr rfl
          | exact .inr ⟨rfl, rfl⟩
          | exact Nat.le_refl _
          | exact Nat.zero_le _
          | exact (fun _ _ => rfl)
          | assumption
          | refine And.intro ?_ ?_
          | (intro i hi; exact absurd hi (Nat.not_lt_zero i))
          | (intro i hi; have hi := Nat.lt_of_lt_of_le hi (show _ ≤ 1 from Nat.le_refl 1); obtain rfl : i = 0 := (by omega); rfl)
          | (intro i hi; have hi := Nat.lt_of_lt_of_le hi (show _ ≤ 2 from Nat.le_refl 2); rcases (show i = 0 ∨ i = 1 by omega) with rfl | rfl <;> rfl)
          | (intro i hi; have hi := Nat.lt_of_lt_of_le hi (show _ ≤ 3 from Nat.le_refl 3); rcases (show i = 0 ∨ i = 1 ∨ i = 2 by omega) with rfl | rfl | rfl <;> rfl))
      repeat
        conv => whnf
        first
          | (with_reducible refine qS ?_ ?_ ?_
             · exact rfl
             · exact rfl)
          | with_reducible refine qB ?_
          | (with_reducible refine qI ?_ ?_
             · omega)
          | (with_reducible refine qDT ?_ ?_
             · omega)
          | (with_reducible refine qDF ?_ ?_
             · omega)
          | (with_reducible refine qNT ?_ ?_
             · omega)
          | (with_reducible refine qNF ?_ ?_
             · omega)
          | (with_reducible refine qU8 ?_ ?_
             · omega)
          | (with_reducible refine qU32 ?_ ?_
             · omega)
          | (with_reducible refine qU64 ?_ ?_
             · omega)
          | (with_reducible refine qU16 ?_ ?_
             · omega)
      conv => whnf
      refine AskC.useV (mE k s n y r, ⟨1, 1, 1, false, false, false⟩, (i : Int), s + n - 1) [1, 2, 5] (iv .i64 (0)) ⟨hI.ok, hcap, ic⟩ rfl ?_ ?_ (congrArg (iv .i64) e2) ?_
      · repeat' (first
          | exact leT_empty
          | exact trivial
          | exact rfl
          | exact .inl rfl
          | exact .inr rfl
          | exact .inr ⟨rfl, rfl⟩
          | exact Nat.le_refl _
          | exact Nat.zero_le _
          | exact (fun _ _ => rfl)
          | assumption
          | refine And.intro ?_ ?_
          | (intro i hi; exact absurd hi (Nat.not_lt_zero i))
          | (intro i hi; have hi := Nat.lt_of_lt_of_le hi (show _ ≤ 1 from Nat.le_refl 1); obtain rfl : i = 0 := (by omega); rfl)
          | (intro i hi; have hi := Nat.lt_of_lt_of_le hi (show _ ≤ 2 from Nat.le_refl 2); rcases (show i = 0 ∨ i = 1 by omega) with rfl | rfl <;> rfl)
          | (intro i hi; have hi := Nat.lt_of_lt_of_le hi (show _ ≤ 3 from Nat.le_refl 3); rcases (show i = 0 ∨ i = 1 ∨ i = 2 by omega) with rfl | rfl | rfl <;> rfl))
      · repeat' (first
          | exact leT_empty
          | exact trivial
          | exact rfl
          | exact .inl rfl
          | exact .inr rfl
          | exact .inr ⟨rfl, rfl⟩
          | exact Nat.le_refl _
          | exact Nat.zero_le _
          | exact (fun _ _ => rfl)
          | assumption
          | refine And.intro ?_ ?_
          | (intro i hi; exact absurd hi (Nat.not_lt_zero i))
          | (intro i hi; have hi := Nat.lt_of_lt_of_le hi (show _ ≤ 1 from Nat.le_refl 1); obtain rfl : i = 0 := (by omega); rfl)
          | (intro i hi; have hi := Nat.lt_of_lt_of_le hi (show _ ≤ 2 from Nat.le_refl 2); rcases (show i = 0 ∨ i = 1 by omega) with rfl | rfl <;> rfl)
          | (intro i hi; have hi := Nat.lt_of_lt_of_le hi (show _ ≤ 3 from Nat.le_refl 3); rcases (show i = 0 ∨ i = 1 ∨ i = 2 by omega) with rfl | rfl | rfl <;> rfl))
      repeat
        conv => whnf
        first
          | (with_reducible refine qS ?_ ?_ ?_
             · exact rfl
             · exact rfl)
          | with_reducible refine qB ?_
          | (with_reducible refine qI ?_ ?_
             · omega)
          | (with_reducible refine qDT ?_ ?_
             · omega)
          | (with_reducible refine qDF ?_ ?_
             · omega)
          | (with_reducible refine qNT ?_ ?_
             · omega)
          | (with_reducible refine qNF ?_ ?_
             · omega)
          | (with_reducible refine qU8 ?_ ?_
             · omega)
          | (with_reducible refine qU32 ?_ ?_
             · omega)
          | (with_reducible refine qU64 ?_ ?_
             · omega)
          | (with_reducible refine qU16 ?_ ?_
             · omega)
      conv => whnf
      refine AskC.useV (mE k s n y r, ⟨1, 1, 1, false, false, false⟩, (i : Int), s - 1) [1, 2, 5] (iv .i64 (-1)) ⟨hI.ok, hcap, ic⟩ rfl ?_ ?_ (congrArg (iv .i64) e3) ?_
      · repeat' (first
          | exact leT_empty
          | exact trivial
          | exact rfl
          | exact .inl rfl
          | exact .inr rfl
          | exact .inr ⟨rfl, rfl⟩
          | exact Nat.le_refl _
          | exact Nat.zero_le _
          | exact (fun _ _ => rfl)
          | assumption
          | refine And.intro ?_ ?_
          | (intro i hi; exact absurd hi (Nat.not_lt_zero i))
          | (intro i hi; have hi := Nat.lt_of_lt_of_le hi (show _ ≤ 1 from Nat.le_refl 1); obtain rfl : i = 0 := (by omega); rfl)
          | (intro i hi; have hi := Nat.lt_of_lt_of_le hi (show _ ≤ 2 from Nat.le_refl 2); rcases (show i = 0 ∨ i = 1 by omega) with rfl | rfl <;> rfl)
          | (intro i hi; have hi := Nat.lt_of_lt_of_le hi (show _ ≤ 3 from Nat.le_refl 3); rcases (show i = 0 ∨ i = 1 ∨ i = 2 by omega) with rfl | rfl | rfl <;> rfl))
      · repeat' (first
          | exact leT_empty
          | exact trivial
          | exact rfl
          | exact .inl rfl
          | exact .inr rfl
          | exact .inr ⟨rfl, rfl⟩
          | exact Nat.le_refl _
          | exact Nat.zero_le _
          | exact (fun _ _ => rfl)
          | assumption
          | refine And.intro ?_ ?_
          | (intro i hi; exact absurd hi (Nat.not_lt_zero i))
          | (intro i hi; have hi := Nat.lt_of_lt_of_le hi (show _ ≤ 1 from Nat.le_refl 1); obtain rfl : i = 0 := (by omega); rfl)
          | (intro i hi; have hi := Nat.lt_of_lt_of_le hi (show _ ≤ 2 from Nat.le_refl 2); rcases (show i = 0 ∨ i = 1 by omega) with rfl | rfl <;> rfl)
          | (intro i hi; have hi := Nat.lt_of_lt_of_le hi (show _ ≤ 3 from Nat.le_refl 3); rcases (show i = 0 ∨ i = 1 ∨ i = 2 by omega) with rfl | rfl | rfl <;> rfl))
      repeat
        conv => whnf
        first
          | (with_reducible refine qS ?_ ?_ ?_
             · exact rfl
             · exact rfl)
          | with_reducible refine qB ?_
          | (with_reducible refine qI ?_ ?_
             · omega)
          | (with_reducible refine qDT ?_ ?_
             · omega)
          | (with_reducible refine qDF ?_ ?_
             · omega)
          | (with_reducible refine qNT ?_ ?_
             · omega)
          | (with_reducible refine qNF ?_ ?_
             · omega)
          | (with_reducible refine qU8 ?_ ?_
             · omega)
          | (with_reducible refine qU32 ?_ ?_
             · omega)
          | (with_reducible refine qU64 ?_ ?_
             · omega)
          | (with_reducible refine qU16 ?_ ?_
             · omega)
      conv => whnf
      refine AskC.useV (mE k s n y r, ⟨1, 1, 1, false, false, false⟩, (i : Int), s + n) [1, 2, 5] (iv .i64 (-1)) ⟨hI.ok, hcap, ic⟩ rfl ?_ ?_ (congrArg (iv .i64) e4) ?_
      · repeat' (first
          | exact leT_empty
          | exact trivial
          | exact rfl
          | exact .inl rfl
          | exact .inr rfl
          | exact .inr ⟨rfl, rfl⟩
          | exact Nat.le_refl _
          | exact Nat.zero_le _
          | exact (fun _ _ => rfl)
          | assumption
          | refine And.intro ?_ ?_
          | (intro i hi; exact absurd hi (Nat.not_lt_zero i))
          | (intro i hi; have hi := Nat.lt_of_lt_of_le hi (show _ ≤ 1 from Nat.le_refl 1); obtain rfl : i = 0 := (by omega); rfl)
          | (intro i hi; have hi := Nat.lt_of_lt_of_le hi (show _ ≤ 2 from Nat.le_refl 2); rcases (show i = 0 ∨ i = 1 by omega) with rfl | rfl <;> rfl)
          | (intro i hi; have hi := Nat.lt_of_lt_of_le hi (show _ ≤ 3 from Nat.le_refl 3); rcases (show i = 0 ∨ i = 1 ∨ i = 2 by omega) with rfl | rfl | rfl <;> rfl))
      · repeat' (first
          | exact leT_empty
          | exact trivial
          | exact rfl
          | exact .inl rfl
          | exact .inr rfl
          | exact .inr ⟨rfl, rfl⟩
          | exact Nat.le_refl _
          | exact Nat.zero_le _
          | exact (fun _ _ => rfl)
          | assumption
          | refine And.intro ?_ ?_
          | (intro i hi; exact absurd hi (Nat.not_lt_zero i))
          | (intro i hi; have hi := Nat.lt_of_lt_of_le hi (show _ ≤ 1 from Nat.le_refl 1); obtain rfl : i = 0 := (by omega); rfl)
          | (intro i hi; have hi := Nat.lt_of_lt_of_le hi (show _ ≤ 2 from Nat.le_refl 2); rcases (show i = 0 ∨ i = 1 by omega) with rfl | rfl <;> rfl)
          | (intro i hi; have hi := Nat.lt_of_lt_of_le hi (show _ ≤ 3 from Nat.le_refl 3); rcases (show i = 0 ∨ i = 1 ∨ i = 2 by omega) with rfl | rfl | rfl <;> rfl))
      repeat
        conv => whnf
        first
          | (with_reducible refine qS ?_ ?_ ?_
             · exact rfl
             · exact rfl)
          | with_reducible refine qB ?_
          | (with_reducible refine qI ?_ ?_
             · omega)
          | (with_reducible refine qDT ?_ ?_
             · omega)
          | (with_reducible refine qDF ?_ ?_
             · omega)
          | (with_reducible refine qNT ?_ ?_
             · omega)
          | (with_reducible refine qNF ?_ ?_
             · omega)
          | (with_reducible refine qU8 ?_ ?_
             · omega)
          | (with_reducible refine qU32 ?_ ?_
             · omega)
          | (with_reducible refine qU64 ?_ ?_
             · omega)
          | (with_reducible refine qU16 ?_ ?_
             · omega)
      conv => whnf
      refine AskC.useV (mE k s n y r, ⟨1, 1, 1, false, false, false⟩, (i : Int)) [1, 2, 5] (iv .i64 (600 - n)) ⟨hI.ok, hcap, ic⟩ rfl ?_ ?_ (congrArg (iv .i64) e5) ?_
      · repeat' (first
          | exact leT_empty
          | exact trivial
          | exact rfl
          | exact .inl rfl
          | exact .inr rfl
          | exact .inr ⟨rfl, rfl⟩
          | exact Nat.le_refl _
          | exact Nat.zero_le _
          | exact (fun _ _ => rfl)
          | assumption
          | refine And.intro ?_ ?_
          | (intro i hi; exact absurd hi (Nat.not_lt_zero i))
          | (intro i hi; have hi := Nat.lt_of_lt_of_le hi (show _ ≤ 1 from Nat.le_refl 1); obtain rfl : i = 0 := (by omega); rfl)
          | (intro i hi; have hi := Nat.lt_of_lt_of_le hi (show _ ≤ 2 from Nat.le_refl 2); rcases (show i = 0 ∨ i = 1 by omega) with rfl | rfl <;> rfl)
          | (intro i hi; have hi := Nat.lt_of_lt_of_le hi (show _ ≤ 3 from Nat.le_refl 3); rcases (show i = 0 ∨ i = 1 ∨ i = 2 by omega) with rfl | rfl | rfl <;> rfl))
      · repeat' (first
          | exact leT_empty
          | exact trivial
          | exact rfl
          | exact .inl rfl
          | exact .inr rfl
          | exact .inr ⟨rfl, rfl⟩
          | exact Nat.le_refl _
          | exact Nat.zero_le _
          | exact (fun _ _ => rfl)
          | assumption
          | refine And.intro ?_ ?_
          | (intro i hi; exact absurd hi (Nat.not_lt_zero i))
          | (intro i hi; have hi := Nat.lt_of_lt_of_le hi (show _ ≤ 1 from Nat.le_refl 1); obtain rfl : i = 0 := (by omega); rfl)
          | (intro i hi; have hi := Nat.lt_of_lt_of_le hi (show _ ≤ 2 from Nat.le_refl 2); rcases (show i = 0 ∨ i = 1 by omega) with rfl | rfl <;> rfl)
          | (intro i hi; have hi := Nat.lt_of_lt_of_le hi (show _ ≤ 3 from Nat.le_refl 3); rcases (show i = 0 ∨ i = 1 ∨ i = 2 by omega) with rfl | rfl | rfl <;> rfl))
      repeat
        conv => whnf
        first
          | (with_reducible refine qS ?_ ?_ ?_
             · exact rfl
             · exact rfl)
          | with_reducible refine qB ?_
          | (with_reducible refine qI ?_ ?_
             · omega)
          | (with_reducible refine qDT ?_ ?_
             · omega)
          | (with_reducible refine qDF ?_ ?_
             · omega)
          | (with_reducible refine qNT ?_ ?_
             · omega)
          | (with_reducible refine qNF ?_ ?_
             · omega)
          | (with_reducible refine qU8 ?_ ?_
             · omega)
          | (with_reducible refine qU32 ?_ ?_
             · omega)
          | (with_reducible refine qU64 ?_ ?_
             · omega)
          | (with_reducible refine qU16 ?_ ?_
             · omega)
      conv => whnf
      refine AskC.useV (mE k s n y r, ⟨1, 1, 1, false, false, false⟩, (i : Int), s) [1, 2, 5] (iv .i64 (1)) ⟨hI.ok, hcap, ic⟩ rfl ?_ ?_ (congrArg (iv .i64) e6) ?_
      · repeat' (first
          | exact leT_empty
          | exact trivial
          | exact rfl
          | exact .inl rfl
          | exact .inr rfl
          | exact .inr ⟨rfl, rfl⟩
          | exact Nat.le_refl _
          | exact Nat.zero_le _
          | exact (fun _ _ => rfl)
          | assumption
          | refine And.intro ?_ ?_
          | (intro i hi; exact absurd hi (Nat.not_lt_zero i))
          | (intro i hi; have hi := Nat.lt_of_lt_of_le hi (show _ ≤ 1 from Nat.le_refl 1); obtain rfl : i = 0 := (by omega); rfl)
          | (intro i hi; have hi := Nat.lt_of_lt_of_le hi (show _ ≤ 2 from Nat.le_refl 2); rcases (show i = 0 ∨ i = 1 by omega) with rfl | rfl <;> rfl)
          | (intro i hi; have hi := Nat.lt_of_lt_of_le hi (show _ ≤ 3 from Nat.le_refl 3); rcases (show i = 0 ∨ i = 1 ∨ i = 2 by omega) with rfl | rfl | rfl <;> rfl))
      · repeat' (first
          | exact leT_empty
          | exact trivial
          | exact rfl
          | exact .inl rfl
          | exact .inr rfl
          | exact .inr ⟨rfl, rfl⟩
          | exact Nat.le_refl _
          | exact Nat.zero_le _
          | exact (fun _ _ => rfl)
          | assumption
          | refine And.intro ?_ ?_
          | (intro i hi; exact absurd hi (Nat.not_lt_zero i))
          | (intro i hi; have hi := Nat.lt_of_lt_of_le hi (show _ ≤ 1 from Nat.le_refl 1); obtain rfl : i = 0 := (by omega); rfl)
          | (intro i hi; have hi := Nat.lt_of_lt_of_le hi (show _ ≤ 2 from Nat.le_refl 2); rcases (show i = 0 ∨ i = 1 by omega) with rfl | rfl <;> rfl)
          | (intro i hi; have hi := Nat.lt_of_lt_of_le hi (show _ ≤ 3 from Nat.le_refl 3); rcases (show i = 0 ∨ i = 1 ∨ i = 2 by omega) with rfl | rfl | rfl <;> rfl))
      repeat
        conv => whnf
        first
          | (with_reducible refine qS ?_ ?_ ?_
             · exact rfl
             · exact rfl)
          | with_reducible refine qB ?_
          | (with_reducible refine qI ?_ ?_
             · omega)
          | (with_reducible refine qDT ?_ ?_
             · omega)
          | (with_reducible refine qDF ?_ ?_
             · omega)
          | (with_reducible refine qNT ?_ ?_
             · omega)
          | (with_reducible refine qNF ?_ ?_
             · omega)
          | (with_reducible refine qU8 ?_ ?_
             · omega)
          | (with_reducible refine qU32 ?_ ?_
             · omega)
          | (with_reducible refine qU64 ?_ ?_
             · omega)
          | (with_reducible refine qU16 ?_ ?_
             · omega)
      conv => whnf
      rw [show decide (k = 1) = true from decide_eq_true g2]
      repeat
        conv => whnf
        first
          | (with_reducible refine qS ?_ ?_ ?_
             · exact rfl
             · exact rfl)
          | with_reducible refine qB ?_
          | (with_reducible refine qI ?_ ?_
             · omega)
          | (with_reducible refine qDT ?_ ?_
             · omega)
          | (with_reducible refine qDF ?_ ?_
             · omega)
          | (with_reducible refine qNT ?_ ?_
             · omega)
          | (with_reducible refine qNF ?_ ?_
             · omega)
          | (with_reducible refine qU8 ?_ ?_
             · omega)
          | (with_reducible refine qU32 ?_ ?_
             · omega)
          | (with_reducible refine qU64 ?_ ?_
             · omega)
          | (with_reducible refine qU16 ?_ ?_
             · omega)
      conv => whnf
      refine ⟨i + 1, ⟨by omega, by omega⟩, ?_⟩
      conv => whnf
      refine Le.id rfl ?_ ?_
      all_goals (repeat' (first
         | exact leT_empty
         | exact trivial
         | exact rfl
         | exact .inl rfl
         | exact .inr rfl
         | exact .inr ⟨rfl, rfl⟩
         | exact Nat.le_refl _
         | exact Nat.zero_le _
         | exact (fun _ _ => rfl)
         | assumption
         | refine And.intro ?_ ?_
         | (intro i hi; exact absurd hi (Nat.not_lt_zero i))
         | (intro i hi; have hi := Nat.lt_of_lt_of_le hi (show _ ≤ 1 from Nat.le_refl 1); obtain rfl : i = 0 := (by omega); rfl)
         | (intro i hi; have hi := Nat.lt_of_lt_of_le hi (show _ ≤ 2 from Nat.le_refl 2); rcases (show i = 0 ∨ i = 1 by omega) with rfl | rfl <;> rfl)
         | (intro i hi; have hi := Nat.lt_of_lt_of_le hi (show _ ≤ 3 from Nat.le_refl 3); rcases (show i = 0 ∨ i = 1 ∨ i = 2 by omega) with rfl | rfl | rfl <;> rfl)))
    · have eg : decide ((i : Int).tmod r = y) = true := decide_eq_true g
      have e1 : at1 (mE k s n y r) i s = 0 := by rw [hI.at (by omega)]; exact if_pos ⟨g, by omega, by omega⟩
      have e2 : at1 (mE k s n y r) i (s + n - 1) = 0 := by rw [hI.at (by omega)]; exact if_pos ⟨g, by omega, by omega⟩
      have e3 : at1 (mE k s n y r) i (s - 1) = -1 := by rw [hI.at (by omega)]; exact if_neg (by omega)
      have e4 : at1 (mE k s n y r) i (s + n) = -1 := by rw [hI.at (by omega)]; exact if_neg (by omega)
      have e5 : free1 (mE k s n y r) i = 600 - n := by rw [hI.free ⟨by omega, by omega⟩]; exact if_pos ⟨g, by omega⟩
      have e6 : owner1 (mE k s n y r) i s = -1 := by rw [hI.owner (by omega)]; exact if_neg (by omega)
      repeat
        conv => whnf
        first
          | (with_reducible refine qS ?_ ?_ ?_
             · exact rfl
             · exact rfl)
          | with_reducible refine qB ?_
          | (with_reducible refine qI ?_ ?_
             · omega)
          | (with_reducible refine qDT ?_ ?_
             · omega)
          | (with_reducible refine qDF ?_ ?_
             · omega)
          | (with_reducible refine qNT ?_ ?_
             · omega)
          | (with_reducible refine qNF ?_ ?_
             · omega)
          | (with_reducible refine qU8 ?_ ?_
             · omega)
          | (with_reducible refine qU32 ?_ ?_
             · omega)
          | (with_reducible refine qU64 ?_ ?_
             · omega)
          | (with_reducible refine qU16 ?_ ?_
             · omega)
      conv => whnf
      try rw [hyr]
      try rw [eg]
      repeat
        conv => whnf
        first
          | (with_reducible refine qS ?_ ?_ ?_
             · exact rfl
             · exact rfl)
          | with_reducible refine qB ?_
          | (with_reducible refine qI ?_ ?_
             · omega)
          | (with_reducible refine qDT ?_ ?_
             · omega)
          | (with_reducible refine qDF ?_ ?_
             · omega)
          | (with_reducible refine qNT ?_ ?_
             · omega)
          | (with_reducible refine qNF ?_ ?_
             · omega)
          | (with_reducible refine qU8 ?_ ?_
             · omega)
          | (with_reducible refine qU32 ?_ ?_
             · omega)
          | (with_reducible refine qU64 ?_ ?_
             · omega)
          | (with_reducible refine qU16 ?_ ?_
             · omega)
      conv => whnf
      refine AskC.useV (mE k s n y r, ⟨1, 1, 1, false, false, false⟩, (i : Int), s) [1, 2, 5] (iv .i64 (0)) ⟨hI.ok, hcap, ic⟩ rfl ?_ ?_ (congrArg (iv .i64) e1) ?_
      · repeat' (first
          | exact leT_empty
          | exact trivial
          | exact rfl
          | exact .inl rfl
          | exact .inr rfl
          | exact .inr ⟨rfl, rfl⟩
          | exact Nat.le_refl _
          | exact Nat.zero_le _
          | exact (fun _ _ => rfl)
          | assumption
          | refine And.intro ?_ ?_
          | (intro i hi; exact absurd hi (Nat.not_lt_zero i))
          | (intro i hi; have hi := Nat.lt_of_lt_of_le hi (show _ ≤ 1 from Nat.le_refl 1); obtain rfl : i = 0 := (by omega); rfl)
          | (intro i hi; have hi := Nat.lt_of_lt_of_le hi (show _ ≤ 2 from Nat.le_refl 2); rcases (show i = 0 ∨ i = 1 by omega) with rfl | rfl <;> rfl)
          | (intro i hi; have hi := Nat.lt_of_lt_of_le hi (show _ ≤ 3 from Nat.le_refl 3); rcases (show i = 0 ∨ i = 1 ∨ i = 2 by omega) with rfl | rfl | rfl <;> rfl))
      · repeat' (first
          | exact leT_empty
          | exact trivial
          | exact rfl
          | exact .inl rfl
          | exact .inr rfl
          | exact .inr ⟨rfl, rfl⟩
          | exact Nat.le_refl _
          | exact Nat.zero_le _
          | exact (fun _ _ => rfl)
          | assumption
          | refine And.intro ?_ ?_
          | (intro i hi; exact absurd hi (Nat.not_lt_zero i))
          | (intro i hi; have hi := Nat.lt_of_lt_of_le hi (show _ ≤ 1 from Nat.le_refl 1); obtain rfl : i = 0 := (by omega); rfl)
          | (intro i hi; have hi := Nat.lt_of_lt_of_le hi (show _ ≤ 2 from Nat.le_refl 2); rcases (show i = 0 ∨ i = 1 by omega) with rfl | rfl <;> rfl)
          | (intro i hi; have hi := Nat.lt_of_lt_of_le hi (show _ ≤ 3 from Nat.le_refl 3); rcases (show i = 0 ∨ i = 1 ∨ i = 2 by omega) with rfl | rfl | rfl <;> rfl))
      repeat
        conv => whnf
        first
          | (with_reducible refine qS ?_ ?_ ?_
             · exact rfl
             · exact rfl)
          | with_reducible refine qB ?_
          | (with_reducible refine qI ?_ ?_
             · omega)
          | (with_reducible refine qDT ?_ ?_
             · omega)
          | (with_reducible refine qDF ?_ ?_
             · omega)
          | (with_reducible refine qNT ?_ ?_
             · omega)
          | (with_reducible refine qNF ?_ ?_
             · omega)
          | (with_reducible refine qU8 ?_ ?_
             · omega)
          | (with_reducible refine qU32 ?_ ?_
             · omega)
          | (with_reducible refine qU64 ?_ ?_
             · omega)
          | (with_reducible refine qU16 ?_ ?_
             · omega)
      conv => whnf
      refine AskC.useV (mE k s n y r, ⟨1, 1, 1, false, false, false⟩, (i : Int), s + n - 1) [1, 2, 5] (iv .i64 (0)) ⟨hI.ok, hcap, ic⟩ rfl ?_ ?_ (congrArg (iv .i64) e2) ?_
      · repeat' (first
          | exact leT_empty
          | exact trivial
          | exact rfl
          | exact .inl rfl
          | exact .inr rfl
          | exact .inr ⟨rfl, rfl⟩
          | exact Nat.le_refl _
          | exact Nat.zero_le _
          | exact (fun _ _ => rfl)
          | assumption
          | refine And.intro ?_ ?_
          | (intro i hi; exact absurd hi (Nat.not_lt_zero i))
          | (intro i hi; have hi := Nat.lt_of_lt_of_le hi (show _ ≤ 1 from Nat.le_refl 1); obtain rfl : i = 0 := (by omega); rfl)
          | (intro i hi; have hi := Nat.lt_of_lt_of_le hi (show _ ≤ 2 from Nat.le_refl 2); rcases (show i = 0 ∨ i = 1 by omega) with rfl | rfl <;> rfl)
          | (intro i hi; have hi := Nat.lt_of_lt_of_le hi (show _ ≤ 3 from Nat.le_refl 3); rcases (show i = 0 ∨ i = 1 ∨ i = 2 by omega) with rfl | rfl | rfl <;> rfl))
      · repeat' (first
          | exact leT_empty
          | exact trivial
          | exact rfl
          | exact .inl rfl
          | exact .inr rfl
          | exact .inr ⟨rfl, rfl⟩
          | exact Nat.le_refl _
          | exact Nat.zero_le _
          | exact (fun _ _ => rfl)
          | assumption
          | refine And.intro ?_ ?_
          | (intro i hi; exact absurd hi (Nat.not_lt_zero i))
          | (intro i hi; have hi := Nat.lt_of_lt_of_le hi (show _ ≤ 1 from Nat.le_refl 1); obtain rfl : i = 0 := (by omega); rfl)
          | (intro i hi; have hi := Nat.lt_of_lt_of_le hi (show _ ≤ 2 from Nat.le_refl 2); rcases (show i = 0 ∨ i = 1 by omega) with rfl | rfl <;> rfl)
          | (intro i hi; have hi := Nat.lt_of_lt_of_le hi (show _ ≤ 3 from Nat.le_refl 3); rcases (show i = 0 ∨ i = 1 ∨ i = 2 by omega) with rfl | rfl | rfl <;> rfl))
      repeat
        conv => whnf
        first
          | (with_reducible refine qS ?_ ?_ ?_
             · exact rfl
             · exact rfl)
          | with_reducible refine qB ?_
          | (with_reducible refine qI ?_ ?_
             · omega)
          | (with_reducible refine qDT ?_ ?_
             · omega)
          | (with_reducible refine qDF ?_ ?_
             · omega)
          | (with_reducible refine qNT ?_ ?_
             · omega)
          | (with_reducible refine qNF ?_ ?_
             · omega)
          | (with_reducible refine qU8 ?_ ?_
             · omega)
          | (with_reducible refine qU32 ?_ ?_
             · omega)
          | (with_reducible refine qU64 ?_ ?_
             · omega)
          | (with_reducible refine qU16 ?_ ?_
             · omega)
      conv => whnf
      refine AskC.useV (mE k s n y r, ⟨1, 1, 1, false, false, false⟩, (i : Int), s - 1) [1, 2, 5] (iv .i64 (-1)) ⟨hI.ok, hcap, ic⟩ rfl ?_ ?_ (congrArg (iv .i64) e3) ?_
      · repeat' (first
          | exact leT_empty
          | exact trivial
          | exact rfl
          | exact .inl rfl
          | exact .inr rfl
          | exact .inr ⟨rfl, rfl⟩
          | exact Nat.le_refl _
          | exact Nat.zero_le _
          | exact (fun _ _ => rfl)
          | assumption
          | refine And.intro ?_ ?_
          | (intro i hi; exact absurd hi (Nat.not_lt_zero i))
          | (intro i hi; have hi := Nat.lt_of_lt_of_le hi (show _ ≤ 1 from Nat.le_refl 1); obtain rfl : i = 0 := (by omega); rfl)
          | (intro i hi; have hi := Nat.lt_of_lt_of_le hi (show _ ≤ 2 from Nat.le_refl 2); rcases (show i = 0 ∨ i = 1 by omega) with rfl | rfl <;> rfl)
          | (intro i hi; have hi := Nat.lt_of_lt_of_le hi (show _ ≤ 3 from Nat.le_refl 3); rcases (show i = 0 ∨ i = 1 ∨ i = 2 by omega) with rfl | rfl | rfl <;> rfl))
      · repeat' (first
          | exact leT_empty
          | exact trivial
          | exact rfl
          | exact .inl rfl
          | exact .inr rfl
          | exact .inr ⟨rfl, rfl⟩
          | exact Nat.le_refl _
          | exact Nat.zero_le _
          | exact (fun _ _ => rfl)
          | assumption
          | refine And.intro ?_ ?_
          | (intro i hi; exact absurd hi (Nat.not_lt_zero i))
          | (intro i hi; have hi := Nat.lt_of_lt_of_le hi (show _ ≤ 1 from Nat.le_refl 1); obtain rfl : i = 0 := (by omega); rfl)
          | (intro i hi; have hi := Nat.lt_of_lt_of_le hi (show _ ≤ 2 from Nat.le_refl 2); rcases (show i = 0 ∨ i = 1 by omega) with rfl | rfl <;> rfl)
          | (intro i hi; have hi := Nat.lt_of_lt_of_le hi (show _ ≤ 3 from Nat.le_refl 3); rcases (show i = 0 ∨ i = 1 ∨ i = 2 by omega) with rfl | rfl | rfl <;> rfl))
      repeat
        conv => whnf
        first
          | (with_reducible refine qS ?_ ?_ ?_
             · exact rfl
             · exact rfl)
          | with_reducible refine qB ?_
          | (with_reducible refine qI ?_ ?_
             · omega)
          | (with_reducible refine qDT ?_ ?_
             · omega)
          | (with_reducible refine qDF ?_ ?_
             · omega)
          | (with_reducible refine qNT ?_ ?_
             · omega)
          | (with_reducible refine qNF ?_ ?_
             · omega)
          | (with_reducible refine qU8 ?_ ?_
             · omega)
          | (with_reducible refine qU32 ?_ ?_
             · omega)
          | (with_reducible refine qU64 ?_ ?_
             · omega)
          | (with_reducible refine qU16 ?_ ?_
             · omega)
      conv => whnf
      refine AskC.useV (mE k s n y r, ⟨1, 1, 1, false, false, false⟩, (i : Int), s + n) [1, 2, 5] (iv .i64 (-1)) ⟨hI.ok, hcap, ic⟩ rfl ?_ ?_ (congrArg (iv .i64) e4) ?_
      · repeat' (first
          | exact leT_empty
          | exact trivial
          | exact rfl
          | exact .inl rfl
          | exact .inr rfl
          | exact .inr ⟨rfl, rfl⟩
          | exact Nat.le_refl _
          | exact Nat.zero_le _
          | exact (fun _ _ => rfl)
          | assumption
          | refine And.intro ?_ ?_
          | (intro i hi; exact absurd hi (Nat.not_lt_zero i))
          | (intro i hi; have hi := Nat.lt_of_lt_of_le hi (show _ ≤ 1 from Nat.le_refl 1); obtain rfl : i = 0 := (by omega); rfl)
          | (intro i hi; have hi := Nat.lt_of_lt_of_le hi (show _ ≤ 2 from Nat.le_refl 2); rcases (show i = 0 ∨ i = 1 by omega) with rfl | rfl <;> rfl)
          | (intro i hi; have hi := Nat.lt_of_lt_of_le hi (show _ ≤ 3 from Nat.le_refl 3); rcases (show i = 0 ∨ i = 1 ∨ i = 2 by omega) with rfl | rfl | rfl <;> rfl))
      · repeat' (first
          | exact leT_empty
          | exact trivial
          | exact rfl
          | exact .inl rfl
          | exact .inr rfl
          | exact .inr ⟨rfl, rfl⟩
          | exact Nat.le_refl _
          | exact Nat.zero_le _
          | exact (fun _ _ => rfl)
          | assumption
          | refine And.intro ?_ ?_
          | (intro i hi; exact absurd hi (Nat.not_lt_zero i))
          | (intro i hi; have hi := Nat.lt_of_lt_of_le hi (show _ ≤ 1 from Nat.le_refl 1); obtain rfl : i = 0 := (by omega); rfl)
          | (intro i hi; have hi := Nat.lt_of_lt_of_le hi (show _ ≤ 2 from Nat.le_refl 2); rcases (show i = 0 ∨ i = 1 by omega) with rfl | rfl <;> rfl)
          | (intro i hi; have hi := Nat.lt_of_lt_of_le hi (show _ ≤ 3 from Nat.le_refl 3); rcases (show i = 0 ∨ i = 1 ∨ i = 2 by omega) with rfl | rfl | rfl <;> rfl))
      repeat
        conv => whnf
        first
          | (with_reducible refine qS ?_ ?_ ?_
             · exact rfl
             · exact rfl)
          | with_reducible refine qB ?_
          | (with_reducible refine qI ?_ ?_
             · omega)
          | (with_reducible refine qDT ?_ ?_
             · omega)
          | (with_reducible refine qDF ?_ ?_
             · omega)
          | (with_reducible refine qNT ?_ ?_
             · omega)
          | (with_reducible refine qNF ?_ ?_
             · omega)
          | (with_reducible refine qU8 ?_ ?_
             · omega)
          | (with_reducible refine qU32 ?_ ?_
             · omega)
          | (with_reducible refine qU64 ?_ ?_
             · omega)
          | (with_reducible refine qU16 ?_ ?_
             · omega)
      conv => whnf
      refine AskC.useV (mE k s n y r, ⟨1, 1, 1, false, false, false⟩, (i : Int)) [1, 2, 5] (iv .i64 (600 - n)) ⟨hI.ok, hcap, ic⟩ rfl ?_ ?_ (congrArg (iv .i64) e5) ?_
      · repeat' (first
          | exact leT_empty
          | exact trivial
          | exact rfl
          | exact .inl rfl
          | exact .inr rfl
          | exact .inr ⟨rfl, rfl⟩
          | exact Nat.le_refl _
          | exact Nat.zero_le _
          | exact (fun _ _ => rfl)
          | assumption
          | refine And.intro ?_ ?_
          | (intro i hi; exact absurd hi (Nat.not_lt_zero i))
          | (intro i hi; have hi := Nat.lt_of_lt_of_le hi (show _ ≤ 1 from Nat.le_refl 1); obtain rfl : i = 0 := (by omega); rfl)
          | (intro i hi; have hi := Nat.lt_of_lt_of_le hi (show _ ≤ 2 from Nat.le_refl 2); rcases (show i = 0 ∨ i = 1 by omega) with rfl | rfl <;> rfl)
          | (intro i hi; have hi := Nat.lt_of_lt_of_le hi (show _ ≤ 3 from Nat.le_refl 3); rcases (show i = 0 ∨ i = 1 ∨ i = 2 by omega) with rfl | rfl | rfl <;> rfl))
      · repeat' (first
          | exact leT_empty
          | exact trivial
          | exact rfl
          | exact .inl rfl
          | exact .inr rfl
          | exact .inr ⟨rfl, rfl⟩
          | exact Nat.le_refl _
          | exact Nat.zero_le _
          | exact (fun _ _ => rfl)
          | assumption
          | refine And.intro ?_ ?_
          | (intro i hi; exact absurd hi (Nat.not_lt_zero i))
          | (intro i hi; have hi := Nat.lt_of_lt_of_le hi (show _ ≤ 1 from Nat.le_refl 1); obtain rfl : i = 0 := (by omega); rfl)
          | (intro i hi; have hi := Nat.lt_of_lt_of_le hi (show _ ≤ 2 from Nat.le_refl 2); rcases (show i = 0 ∨ i = 1 by omega) with rfl | rfl <;> rfl)
          | (intro i hi; have hi := Nat.lt_of_lt_of_le hi (show _ ≤ 3 from Nat.le_refl 3); rcases (show i = 0 ∨ i = 1 ∨ i = 2 by omega) with rfl | rfl | rfl <;> rfl))
      repeat
        conv => whnf
        first
          | (with_reducible refine qS ?_ ?_ ?_
             · exact rfl
             · exact rfl)
          | with_reducible refine qB ?_
          | (with_reducible refine qI ?_ ?_
             · omega)
          | (with_reducible refine qDT ?_ ?_
             · omega)
          | (with_reducible refine qDF ?_ ?_
             · omega)
          | (with_reducible refine qNT ?_ ?_
             · omega)
          | (with_reducible refine qNF ?_ ?_
             · omega)
          | (with_reducible refine qU8 ?_ ?_
             · omega)
          | (with_reducible refine qU32 ?_ ?_
             · omega)
          | (with_reducible refine qU64 ?_ ?_
             · omega)
          | (with_reducible refine qU16 ?_ ?_
             · omega)
      conv => whnf
      refine AskC.useV (mE k s n y r, ⟨1, 1, 1, false, false, false⟩, (i : Int), s) [1, 2, 5] (iv .i64 (-1)) ⟨hI.ok, hcap, ic⟩ rfl ?_ ?_ (congrArg (iv .i64) e6) ?_
      · repeat' (first
          | exact leT_empty
          | exact trivial
          | exact rfl
          | exact .inl rfl
          | exact .inr rfl
          | exact .inr ⟨rfl, rfl⟩
          | exact Nat.le_refl _
          | exact Nat.zero_le _
          | exact (fun _ _ => rfl)
          | assumption
          | refine And.intro ?_ ?_
          | (intro i hi; exact absurd hi (Nat.not_lt_zero i))
          | (intro i hi; have hi := Nat.lt_of_lt_of_le hi (show _ ≤ 1 from Nat.le_refl 1); obtain rfl : i = 0 := (by omega); rfl)
          | (intro i hi; have hi := Nat.lt_of_lt_of_le hi (show _ ≤ 2 from Nat.le_refl 2); rcases (show i = 0 ∨ i = 1 by omega) with rfl | rfl <;> rfl)
          | (intro i hi; have hi := Nat.lt_of_lt_of_le hi (show _ ≤ 3 from Nat.le_refl 3); rcases (show i = 0 ∨ i = 1 ∨ i = 2 by omega) with rfl | rfl | rfl <;> rfl))
      · repeat' (first
          | exact leT_empty
          | exact trivial
          | exact rfl
          | exact .inl rfl
          | exact .inr rfl
          | exact .inr ⟨rfl, rfl⟩
          | exact Nat.le_refl _
          | exact Nat.zero_le _
          | exact (fun _ _ => rfl)
          | assumption
          | refine And.intro ?_ ?_
          | (intro i hi; exact absurd hi (Nat.not_lt_zero i))
          | (intro i hi; have hi := Nat.lt_of_lt_of_le hi (show _ ≤ 1 from Nat.le_refl 1); obtain rfl : i = 0 := (by omega); rfl)
          | (intro i hi; have hi := Nat.lt_of_lt_of_le hi (show _ ≤ 2 from Nat.le_refl 2); rcases (show i = 0 ∨ i = 1 by omega) with rfl | rfl <;> rfl)
          | (intro i hi; have hi := Nat.lt_of_lt_of_le hi (show _ ≤ 3 from Nat.le_refl 3); rcases (show i = 0 ∨ i = 1 ∨ i = 2 by omega) with rfl | rfl | rfl <;> rfl))
      repeat
        conv => whnf
        first
          | (with_reducible refine qS ?_ ?_ ?_
             · exact rfl
             · exact rfl)
          | with_reducible refine qB ?_
          | (with_reducible refine qI ?_ ?_
             · omega)
          | (with_reducible refine qDT ?_ ?_
             · omega)
          | (with_reducible refine qDF ?_ ?_
             · omega)
          | (with_reducible refine qNT ?_ ?_
             · omega)
          | (with_reducible refine qNF ?_ ?_
             · omega)
          | (with_reducible refine qU8 ?_ ?_
             · omega)
          | (with_reducible refine qU32 ?_ ?_
             · omega)
          | (with_reducible refine qU64 ?_ ?_
             · omega)
          | (with_reducible refine qU16 ?_ ?_
             · omega)
      conv => whnf
      rw [show decide (k = 1) = false from decide_eq_false (by omega)]
      repeat
        conv => whnf
        first
          | (with_reducible refine qS ?_ ?_ ?_
             · exact rfl
             · exact rfl)
          | with_reducible refine qB ?_
          | (with_reducible refine qI ?_ ?_
             · omega)
          | (with_reducible refine qDT ?_ ?_
             · omega)
          | (with_reducible refine qDF ?_ ?_
             · omega)
          | (with_reducible refine qNT ?_ ?_
             · omega)
          | (with_reducible refine qNF ?_ ?_
             · omega)
          | (with_reducible refine qU8 ?_ ?_
             · omega)
          | (with_reducible refine qU32 ?_ ?_
             · omega)
          | (with_reducible refine qU64 ?_ ?_
             · omega)
          | (with_reducible refine qU16 ?_ ?_
             · omega)
      conv => whnf
      refine ⟨i + 1, ⟨by omega, by omega⟩, ?_⟩
      conv => whnf
      refine Le.id rfl ?_ ?_
      all_goals (repeat' (first
         | exact leT_empty
         | exact trivial
         | exact rfl
         | exact .inl rfl
         | exact .inr rfl
         | exact .inr ⟨rfl, rfl⟩
         | exact Nat.le_refl _
         | exact Nat.zero_le _
         | exact (fun _ _ => rfl)
         | assumption
         | refine And.intro ?_ ?_
         | (intro i hi; exact absurd hi (Nat.not_lt_zero i))
         | (intro i hi; have hi := Nat.lt_of_lt_of_le hi (show _ ≤ 1 from Nat.le_refl 1); obtain rfl : i = 0 := (by omega); rfl)
         | (intro i hi; have hi := Nat.lt_of_lt_of_le hi (show _ ≤ 2 from Nat.le_refl 2); rcases (show i = 0 ∨ i = 1 by omega) with rfl | rfl <;> rfl)
         | (intro i hi; have hi := Nat.lt_of_lt_of_le hi (show _ ≤ 3 from Nat.le_refl 3); rcases (show i = 0 ∨ i = 1 ∨ i = 2 by omega) with rfl | rfl | rfl <;> rfl)))
    · have eg : decide ((i : Int).tmod r = y) = false := decide_eq_false g
      have e1 : at1 (mE k s n y r) i s = -1 := by rw [hI.at (by omega)]; exact if_neg (by omega)
      have e2 : at1 (mE k s n y r) i (s + n - 1) = -1 := by rw [hI.at (by omega)]; exact if_neg (by omega)
      have e3 : at1 (mE k s n y r) i (s - 1) = -1 := by rw [hI.at (by omega)]; exact if_neg (by omega)
      have e4 : at1 (mE k s n y r) i (s + n) = -1 := by rw [hI.at (by omega)]; exact if_neg (by omega)
      have e5 : free1 (mE k s n y r) i = 600 := by rw [hI.free ⟨by omega, by omega⟩]; exact if_neg (by omega)
      have e6 : owner1 (mE k s n y r) i s = -1 := by rw [hI.owner (by omega)]; exact if_neg (by omega)
      repeat
        conv => whnf
        first
          | (with_reducible refine qS ?_ ?_ ?_
             · exact rfl
             · exact rfl)
          | with_reducible refine qB ?_
          | (with_reducible refine qI ?_ ?_
             · omega)
          | (with_reducible refine qDT ?_ ?_
             · omega)
          | (with_reducible refine qDF ?_ ?_
             · omega)
          | (with_reducible refine qNT ?_ ?_
             · omega)
          | (with_reducible refine qNF ?_ ?_
             · omega)
          | (with_reducible refine qU8 ?_ ?_
             · omega)
          | (with_reducible refine qU32 ?_ ?_
             · omega)
          | (with_reducible refine qU64 ?_ ?_
             · omega)
          | (with_reducible refine qU16 ?_ ?_
             · omega)
      conv => whnf
      try rw [hyr]
      try rw [eg]
      repeat
        conv => whnf
        first
          | (with_reducible refine qS ?_ ?_ ?_
             · exact rfl
             · exact rfl)
          | with_reducible refine qB ?_
          | (with_reducible refine qI ?_ ?_
             · omega)
          | (with_reducible refine qDT ?_ ?_
             · omega)
          | (with_reducible refine qDF ?_ ?_
             · omega)
          | (with_reducible refine qNT ?_ ?_
             · omega)
          | (with_reducible refine qNF ?_ ?_
             · omega)
          | (with_reducible refine qU8 ?_ ?_
             · omega)
          | (with_reducible refine qU32 ?_ ?_
             · omega)
          | (with_reducible refine qU64 ?_ ?_
             · omega)
          | (with_reducible refine qU16 ?_ ?_
             · omega)
      conv => whnf
      refine AskC.useV (mE k s n y r, ⟨1, 1, 1, false, false, false⟩, (i : Int), s) [1, 2, 5] (iv .i64 (-1)) ⟨hI.ok, hcap, ic⟩ rfl ?_ ?_ (congrArg (iv .i64) e1) ?_
      · repeat' (first
          | exact leT_empty
          | exact trivial
          | exact rfl
          | exact .inl rfl
          | exact .inr rfl
          | exact .inr ⟨rfl, rfl⟩
          | exact Nat.le_refl _
          | exact Nat.zero_le _
          | exact (fun _ _ => rfl)
          | assumption
          | refine And.intro ?_ ?_
          | (intro i hi; exact absurd hi (Nat.not_lt_zero i))
          | (intro i hi; have hi := Nat.lt_of_lt_of_le hi (show _ ≤ 1 from Nat.le_refl 1); obtain rfl : i = 0 := (by omega); rfl)
          | (intro i hi; have hi := Nat.lt_of_lt_of_le hi (show _ ≤ 2 from Nat.le_refl 2); rcases (show i = 0 ∨ i = 1 by omega) with rfl | rfl <;> rfl)
          | (intro i hi; have hi := Nat.lt_of_lt_of_le hi (show _ ≤ 3 from Nat.le_refl 3); rcases (show i = 0 ∨ i = 1 ∨ i = 2 by omega) with rfl | rfl | rfl <;> rfl))
      · repeat' (first
          | exact leT_empty
          | exact trivial
          | exact rfl
          | exact .inl rfl
          | exact .inr rfl
          | exact .inr ⟨rfl, rfl⟩
          | exact Nat.le_refl _
          | exact Nat.zero_le _
          | exact (fun _ _ => rfl)
          | assumption
          | refine And.intro ?_ ?_
          | (intro i hi; exact absurd hi (Nat.not_lt_zero i))
          | (intro i hi; have hi := Nat.lt_of_lt_of_le hi (show _ ≤ 1 from Nat.le_refl 1); obtain rfl : i = 0 := (by omega); rfl)
          | (intro i hi; have hi := Nat.lt_of_lt_of_le hi (show _ ≤ 2 from Nat.le_refl 2); rcases (show i = 0 ∨ i = 1 by omega) with rfl | rfl <;> rfl)
          | (intro i hi; have hi := Nat.lt_of_lt_of_le hi (show _ ≤ 3 from Nat.le_refl 3); rcases (show i = 0 ∨ i = 1 ∨ i = 2 by omega) with rfl | rfl | rfl <;> rfl))
      repeat
        conv => whnf
        first
          | (with_reducible refine qS ?_ ?_ ?_
             · exact rfl
             · exact rfl)
          | with_reducible refine qB ?_
          | (with_reducible refine qI ?_ ?_
             · omega)
          | (with_reducible refine qDT ?_ ?_
             · omega)
          | (with_reducible refine qDF ?_ ?_
             · omega)
          | (with_reducible refine qNT ?_ ?_
             · omega)
          | (with_reducible refine qNF ?_ ?_
             · omega)
          | (with_reducible refine qU8 ?_ ?_
             · omega)
          | (with_reducible refine qU32 ?_ ?_
             · omega)
          | (with_reducible refine qU64 ?_ ?_
             · omega)
          | (with_reducible refine qU16 ?_ ?_
             · omega)
      conv => whnf
      refine AskC.useV (mE k s n y r, ⟨1, 1, 1, false, false, false⟩, (i : Int), s + n - 1) [1, 2, 5] (iv .i64 (-1)) ⟨hI.ok, hcap, ic⟩ rfl ?_ ?_ (congrArg (iv .i64) e2) ?_
      · repeat' (first
          | exact leT_empty
          | exact trivial
          | exact rfl
          | exact .inl rfl
          | exact .inr rfl
          | exact .inr ⟨rfl, rfl⟩
          | exact Nat.le_refl _
          | exact Nat.zero_le _
          | exact (fun _ _ => rfl)
          | assumption
          | refine And.intro ?_ ?_
          | (intro i hi; exact absurd hi (Nat.not_lt_zero i))
          | (intro i hi; have hi := Nat.lt_of_lt_of_le hi (show _ ≤ 1 from Nat.le_refl 1); obtain rfl : i = 0 := (by omega); rfl)
          | (intro i hi; have hi := Nat.lt_of_lt_of_le hi (show _ ≤ 2 from Nat.le_refl 2); rcases (show i = 0 ∨ i = 1 by omega) with rfl | rfl <;> rfl)
          | (intro i hi; have hi := Nat.lt_of_lt_of_le hi (show _ ≤ 3 from Nat.le_refl 3); rcases (show i = 0 ∨ i = 1 ∨ i = 2 by omega) with rfl | rfl | rfl <;> rfl))
      · repeat' (first
          | exact leT_empty
          | exact trivial
          | exact rfl
          | exact .inl rfl
          | exact .inr rfl
          | exact .inr ⟨rfl, rfl⟩
          | exact Nat.le_refl _
          | exact Nat.zero_le _
          | exact (fun _ _ => rfl)
          | assumption
          | refine And.intro ?_ ?_
          | (intro i hi; exact absurd hi (Nat.not_lt_zero i))
          | (intro i hi; have hi := Nat.lt_of_lt_of_le hi (show _ ≤ 1 from Nat.le_refl 1); obtain rfl : i = 0 := (by omega); rfl)
          | (intro i hi; have hi := Nat.lt_of_lt_of_le hi (show _ ≤ 2 from Nat.le_refl 2); rcases (show i = 0 ∨ i = 1 by omega) with rfl | rfl <;> rfl)
          | (intro i hi; have hi := Nat.lt_of_lt_of_le hi (show _ ≤ 3 from Nat.le_refl 3); rcases (show i = 0 ∨ i = 1 ∨ i = 2 by omega) with rfl | rfl | rfl <;> rfl))
      repeat
        conv => whnf
        first
          | (with_reducible refine qS ?_ ?_ ?_
             · exact rfl
             · exact rfl)
          | with_reducible refine qB ?_
          | (with_reducible refine qI ?_ ?_
             · omega)
          | (with_reducible refine qDT ?_ ?_
             · omega)
          | (with_reducible refine qDF ?_ ?_
             · omega)
          | (with_reducible refine qNT ?_ ?_
             · omega)
          | (with_reducible refine qNF ?_ ?_
             · omega)
          | (with_reducible refine qU8 ?_ ?_
             · omega)
          | (with_reducible refine qU32 ?_ ?_
             · omega)
          | (with_reducible refine qU64 ?_ ?_
             · omega)
          | (with_reducible refine qU16 ?_ ?_
             · omega)
      conv => whnf
      refine AskC.useV (mE k s n y r, ⟨1, 1, 1, false, false, false⟩, (i : Int), s - 1) [1, 2, 5] (iv .i64 (-1)) ⟨hI.ok, hcap, ic⟩ rfl ?_ ?_ (congrArg (iv .i64) e3) ?_
      · repeat' (first
          | exact leT_empty
          | exact trivial
          | exact rfl
          | exact .inl rfl
          | exact .inr rfl
          | exact .inr ⟨rfl, rfl⟩
          | exact Nat.le_refl _
          | exact Nat.zero_le _
          | exact (fun _ _ => rfl)
          | assumption
          | refine And.intro ?_ ?_
          | (intro i hi; exact absurd hi (Nat.not_lt_zero i))
          | (intro i hi; have hi := Nat.lt_of_lt_of_le hi (show _ ≤ 1 from Nat.le_refl 1); obtain rfl : i = 0 := (by omega); rfl)
          | (intro i hi; have hi := Nat.lt_of_lt_of_le hi (show _ ≤ 2 from Nat.le_refl 2); rcases (show i = 0 ∨ i = 1 by omega) with rfl | rfl <;> rfl)
          | (intro i hi; have hi := Nat.lt_of_lt_of_le hi (show _ ≤ 3 from Nat.le_refl 3); rcases (show i = 0 ∨ i = 1 ∨ i = 2 by omega) with rfl | rfl | rfl <;> rfl))
      · repeat' (first
          | exact leT_empty
          | exact trivial
          | exact rfl
          | exact .inl rfl
          | exact .inr rfl
          | exact .inr ⟨rfl, rfl⟩
          | exact Nat.le_refl _
          | exact Nat.zero_le _
          | exact (fun _ _ => rfl)
          | assumption
          | refine And.intro ?_ ?_
          | (intro i hi; exact absurd hi (Nat.not_lt_zero i))
          | (intro i hi; have hi := Nat.lt_of_lt_of_le hi (show _ ≤ 1 from Nat.le_refl 1); obtain rfl : i = 0 := (by omega); rfl)
          | (intro i hi; have hi := Nat.lt_of_lt_of_le hi (show _ ≤ 2 from Nat.le_refl 2); rcases (show i = 0 ∨ i = 1 by omega) with rfl | rfl <;> rfl)
          | (intro i hi; have hi := Nat.lt_of_lt_of_le hi (show _ ≤ 3 from Nat.le_refl 3); rcases (show i = 0 ∨ i = 1 ∨ i = 2 by omega) with rfl | rfl | rfl <;> rfl))
      repeat
        conv => whnf
        first
          | (with_reducible refine qS ?_ ?_ ?_
             · exact rfl
             · exact rfl)
          | with_reducible refine qB ?_
          | (with_reducible refine qI ?_ ?_
             · omega)
          | (with_reducible refine qDT ?_ ?_
             · omega)
          | (with_reducible refine qDF ?_ ?_
             · omega)
          | (with_reducible refine qNT ?_ ?_
             · omega)
          | (with_reducible refine qNF ?_ ?_
             · omega)
          | (with_reducible refine qU8 ?_ ?_
             · omega)
          | (with_reducible refine qU32 ?_ ?_
             · omega)
          | (with_reducible refine qU64 ?_ ?_
             · omega)
          | (with_reducible refine qU16 ?_ ?_
             · omega)
      conv => whnf
      refine AskC.useV (mE k s n y r, ⟨1, 1, 1, false, false, false⟩, (i : Int), s + n) [1, 2, 5] (iv .i64 (-1)) ⟨hI.ok, hcap, ic⟩ rfl ?_ ?_ (congrArg (iv .i64) e4) ?_
      · repeat' (first
          | exact leT_empty
          | exact trivial
          | exact rfl
          | exact .inl rfl
          | exact .inr rfl
          | exact .inr ⟨rfl, rfl⟩
          | exact Nat.le_refl _
          | exact Nat.zero_le _
          | exact (fun _ _ => rfl)
          | assumption
          | refine And.intro ?_ ?_
          | (intro i hi; exact absurd hi (Nat.not_lt_zero i))
          | (intro i hi; have hi := Nat.lt_of_lt_of_le hi (show _ ≤ 1 from Nat.le_refl 1); obtain rfl : i = 0 := (by omega); rfl)
          | (intro i hi; have hi := Nat.lt_of_lt_of_le hi (show _ ≤ 2 from Nat.le_refl 2); rcases (show i = 0 ∨ i = 1 by omega) with rfl | rfl <;> rfl)
          | (intro i hi; have hi := Nat.lt_of_lt_of_le hi (show _ ≤ 3 from Nat.le_refl 3); rcases (show i = 0 ∨ i = 1 ∨ i = 2 by omega) with rfl | rfl | rfl <;> rfl))
      · repeat' (first
          | exact leT_empty
          | exact trivial
          | exact rfl
          | exact .inl rfl
          | exact .inr rfl
          | exact .inr ⟨rfl, rfl⟩
          | exact Nat.le_refl _
          | exact Nat.zero_le _
          | exact (fun _ _ => rfl)
          | assumption
          | refine And.intro ?_ ?_
          | (intro i hi; exact absurd hi (Nat.not_lt_zero i))
          | (intro i hi; have hi := Nat.lt_of_lt_of_le hi (show _ ≤ 1 from Nat.le_refl 1); obtain rfl : i = 0 := (by omega); rfl)
          | (intro i hi; have hi := Nat.lt_of_lt_of_le hi (show _ ≤ 2 from Nat.le_refl 2); rcases (show i = 0 ∨ i = 1 by omega) with rfl | rfl <;> rfl)
          | (intro i hi; have hi := Nat.lt_of_lt_of_le hi (show _ ≤ 3 from Nat.le_refl 3); rcases (show i = 0 ∨ i = 1 ∨ i = 2 by omega) with rfl | rfl | rfl <;> rfl))
      repeat
        conv => whnf
        first
          | (with_reducible refine qS ?_ ?_ ?_
             · exact rfl
             · exact rfl)
          | with_reducible refine qB ?_
          | (with_reducible refine qI ?_ ?_
             · omega)
          | (with_reducible refine qDT ?_ ?_
             · omega)
          | (with_reducible refine qDF ?_ ?_
             · omega)
          | (with_reducible refine qNT ?_ ?_
             · omega)
          | (with_reducible refine qNF ?_ ?_
             · omega)
          | (with_reducible refine qU8 ?_ ?_
             · omega)
          | (with_reducible refine qU32 ?_ ?_
             · omega)
          | (with_reducible refine qU64 ?_ ?_
             · omega)
          | (with_reducible refine qU16 ?_ ?_
             · omega)
      conv => whnf
      refine AskC.useV (mE k s n y r, ⟨1, 1, 1, false, false, false⟩, (i : Int)) [1, 2, 5] (iv .i64 (600)) ⟨hI.ok, hcap, ic⟩ rfl ?_ ?_ (congrArg (iv .i64) e5) ?_
      · repeat' (first
          | exact leT_empty
          | exact trivial
          | exact rfl
          | exact .inl rfl
          | exact .inr rfl
          | exact .inr ⟨rfl, rfl⟩
          | exact Nat.le_refl _
          | exact Nat.zero_le _
          | exact (fun _ _ => rfl)
          | assumption
          | refine And.intro ?_ ?_
          | (intro i hi; exact absurd hi (Nat.not_lt_zero i))
          | (intro i hi; have hi := Nat.lt_of_lt_of_le hi (show _ ≤ 1 from Nat.le_refl 1); obtain rfl : i = 0 := (by omega); rfl)
          | (intro i hi; have hi := Nat.lt_of_lt_of_le hi (show _ ≤ 2 from Nat.le_refl 2); rcases (show i = 0 ∨ i = 1 by omega) with rfl | rfl <;> rfl)
          | (intro i hi; have hi := Nat.lt_of_lt_of_le hi (show _ ≤ 3 from Nat.le_refl 3); rcases (show i = 0 ∨ i = 1 ∨ i = 2 by omega) with rfl | rfl | rfl <;> rfl))
      · repeat' (first
          | exact leT_empty
          | exact trivial
          | exact rfl
          | exact .inl rfl
          | exact .inr rfl
          | exact .inr ⟨rfl, rfl⟩
          | exact Nat.le_refl _
          | exact Nat.zero_le _
          | exact (fun _ _ => rfl)
          | assumption
          | refine And.intro ?_ ?_
          | (intro i hi; exact absurd hi (Nat.not_lt_zero i))
          | (intro i hi; have hi := Nat.lt_of_lt_of_le hi (show _ ≤ 1 from Nat.le_refl 1); obtain rfl : i = 0 := (by omega); rfl)
          | (intro i hi; have hi := Nat.lt_of_lt_of_le hi (show _ ≤ 2 from Nat.le_refl 2); rcases (show i = 0 ∨ i = 1 by omega) with rfl | rfl <;> rfl)
          | (intro i hi; have hi := Nat.lt_of_lt_of_le hi (show _ ≤ 3 from Nat.le_refl 3); rcases (show i = 0 ∨ i = 1 ∨ i = 2 by omega) with rfl | rfl | rfl <;> rfl))
      repeat
        conv => whnf
        first
          | (with_reducible refine qS ?_ ?_ ?_
             · exact rfl
             · exact rfl)
          | with_reducible refine qB ?_
          | (with_reducible refine qI ?_ ?_
             · omega)
          | (with_reducible refine qDT ?_ ?_
             · omega)
          | (with_reducible refine qDF ?_ ?_
             · omega)
          | (with_reducible refine qNT ?_ ?_
             · omega)
          | (with_reducible refine qNF ?_ ?_
             · omega)
          | (with_reducible refine qU8 ?_ ?_
             · omega)
          | (with_reducible refine qU32 ?_ ?_
             · omega)
          | (with_reducible refine qU64 ?_ ?_
             · omega)
          | (with_reducible refine qU16 ?_ ?_
             · omega)
      conv => whnf
      refine AskC.useV (mE k s n y r, ⟨1, 1, 1, false, false, false⟩, (i : Int), s) [1, 2, 5] (iv .i64 (-1)) ⟨hI.ok, hcap, ic⟩ rfl ?_ ?_ (congrArg (iv .i64) e6) ?_
      · repeat' (first
          | exact leT_empty
          | exact trivial
          | exact rfl
          | exact .inl rfl
          | exact .inr rfl
          | exact .inr ⟨rfl, rfl⟩
          | exact Nat.le_refl _
          | exact Nat.zero_le _
          | exact (fun _ _ => rfl)
          | assumption
          | refine And.intro ?_ ?_
          | (intro i hi; exact absurd hi (Nat.not_lt_zero i))
          | (intro i hi; have hi := Nat.lt_of_lt_of_le hi (show _ ≤ 1 from Nat.le_refl 1); obtain rfl : i = 0 := (by omega); rfl)
          | (intro i hi; have hi := Nat.lt_of_lt_of_le hi (show _ ≤ 2 from Nat.le_refl 2); rcases (show i = 0 ∨ i = 1 by omega) with rfl | rfl <;> rfl)
          | (intro i hi; have hi := Nat.lt_of_lt_of_le hi (show _ ≤ 3 from Nat.le_refl 3); rcases (show i = 0 ∨ i = 1 ∨ i = 2 by omega) with rfl | rfl | rfl <;> rfl))
      · repeat' (first
          | exact leT_empty
          | exact trivial
          | exact rfl
          | exact .inl rfl
          | exact .inr rfl
          | exact .inr ⟨rfl, rfl⟩
          | exact Nat.le_refl _
          | exact Nat.zero_le _
          | exact (fun _ _ => rfl)
          | assumption
          | refine And.intro ?_ ?_
          | (intro i hi; exact absurd hi (Nat.not_lt_zero i))
          | (intro i hi; have hi := Nat.lt_of_lt_of_le hi (show _ ≤ 1 from Nat.le_refl 1); obtain rfl : i = 0 := (by omega); rfl)
          | (intro i hi; have hi := Nat.lt_of_lt_of_le hi (show _ ≤ 2 from Nat.le_refl 2); rcases (show i = 0 ∨ i = 1 by omega) with rfl | rfl <;> rfl)
          | (intro i hi; have hi := Nat.lt_of_lt_of_le hi (show _ ≤ 3 from Nat.le_refl 3); rcases (show i = 0 ∨ i = 1 ∨ i = 2 by omega) with rfl | rfl | rfl <;> rfl))
      repeat
        conv => whnf
        first
          | (with_reducible refine qS ?_ ?_ ?_
             · exact rfl
             · exact rfl)
          | with_reducible refine qB ?_
          | (with_reducible refine qI ?_ ?_
             · omega)
          | (with_reducible refine qDT ?_ ?_
             · omega)
          | (with_reducible refine qDF ?_ ?_
             · omega)
          | (with_reducible refine qNT ?_ ?_
             · omega)
          | (with_reducible refine qNF ?_ ?_
             · omega)
          | (with_reducible refine qU8 ?_ ?_
             · omega)
          | (with_reducible refine qU32 ?_ ?_
             · omega)
          | (with_reducible refine qU64 ?_ ?_
             · omega)
          | (with_reducible refine qU16 ?_ ?_
             · omega)
      conv => whnf
      refine ⟨i + 1, ⟨by omega, by omega⟩, ?_⟩
      conv => whnf
      refine Le.id rfl ?_ ?_
      all_goals (repeat' (first
         | exact leT_empty
         | exact trivial
         | exact rfl
         | exact .inl rfl
         | exact .inr rfl
         | exact .inr ⟨rfl, rfl⟩
         | exact Nat.le_refl _
         | exact Nat.zero_le _
         | exact (fun _ _ => rfl)
         | assumption
         | refine And.intro ?_ ?_
         | (intro i hi; exact absurd hi (Nat.not_lt_zero i))
         | (intro i hi; have hi := Nat.lt_of_lt_of_le hi (show _ ≤ 1 from Nat.le_refl 1); obtain rfl : i = 0 := (by omega); rfl)
         | (intro i hi; have hi := Nat.lt_of_lt_of_le hi (show _ ≤ 2 from Nat.le_refl 2); rcases (show i = 0 ∨ i = 1 by omega) with rfl | rfl <;> rfl)
         | (intro i hi; have hi := Nat.lt_of_lt_of_le hi (show _ ≤ 3 from Nat.le_refl 3); rcases (show i = 0 ∨ i = 1 ∨ i = 2 by omega) with rfl | rfl | rfl <;> rfl)))
  repeat
    conv => whnf
    first
      | (with_reducible refine qS ?_ ?_ ?_
         · exact rfl
         · exact rfl)
      | with_reducible refine qB ?_
      | (with_reducible refine qI ?_ ?_
         · omega)
      | (with_reducible refine qDT ?_ ?_
         · omega)
      | (with_reducible refine qDF ?_ ?_
         · omega)
      | (with_reducible refine qNT ?_ ?_
         · omega)
      | (with_reducible refine qNF ?_ ?_
         · omega)
      | (with_reducible refine qU8 ?_ ?_
         · omega)
      | (with_reducible refine qU32 ?_ ?_
         · omega)
      | (with_reducible refine qU64 ?_ ?_
         · omega)
      | (with_reducible refine qU16 ?_ ?_
         · omega)
  conv => whnf
  refine AskC.useV (mE k s n y r, ⟨1, 1, 1, false, false, false⟩) [1, 2, 5] (bv true) hI.ok rfl ?_ ?_ (congrArg bv (isM_iff.2 hI.is)) ?_
  · repeat' (first
      | exact leT_empty
      | exact trivial
      | exact rfl
      | exact .inl rfl
      | exact .inr rfl
      | exact .inr ⟨rfl, rfl⟩
      | exact Nat.le_refl _
      | exact Nat.zero_le _
      | exact (fun _ _ => rfl)
      | assumption
      | refine And.intro ?_ ?_
      | (intro i hi; exact absurd hi (Nat.not_lt_zero i))
      | (intro i hi; have hi := Nat.lt_of_lt_of_le hi (show _ ≤ 1 from Nat.le_refl 1); obtain rfl : i = 0 := (by omega); rfl)
      | (intro i hi; have hi := Nat.lt_of_lt_of_le hi (show _ ≤ 2 from Nat.le_refl 2); rcases (show i = 0 ∨ i = 1 by omega) with rfl | rfl <;> rfl)
      | (intro i hi; have hi := Nat.lt_of_lt_of_le hi (show _ ≤ 3 from Nat.le_refl 3); rcases (show i = 0 ∨ i = 1 ∨ i = 2 by omega) with rfl | rfl | rfl <;> rfl))
  · repeat' (first
      | exact leT_empty
      | exact trivial
      | exact rfl
      | exact .inl rfl
      | exact .inr rfl
      | exact .inr ⟨rfl, rfl⟩
      | exact Nat.le_refl _
      | exact Nat.zero_le _
      | exact (fun _ _ => rfl)
      | assumption
      | refine And.intro ?_ ?_
      | (intro i hi; exact absurd hi (Nat.not_lt_zero i))
      | (intro i hi; have hi := Nat.lt_of_lt_of_le hi (show _ ≤ 1 from Nat.le_refl 1); obtain rfl : i = 0 := (by omega); rfl)
      | (intro i hi; have hi := Nat.lt_of_lt_of_le hi (show _ ≤ 2 from Nat.le_refl 2); rcases (show i = 0 ∨ i = 1 by omega) with rfl | rfl <;> rfl)
      | (intro i hi; have hi := Nat.lt_of_lt_of_le hi (show _ ≤ 3 from Nat.le_refl 3); rcases (show i = 0 ∨ i = 1 ∨ i = 2 by omega) with rfl | rfl | rfl <;> rfl))
  exact rfl
theorem cl_ok : ∃ cl : Cl, ClOk Try.prog cl ∧ ∀ D, OkAll pas D → cl F.law16_WindowEdges [] (xsP 0 pas D) (hsP pas D) fun x _ => x = bv true := by
  refine ⟨clRunX 7 tt outsL16 tabL 3, clRunX_ok (d := 7) ttOk outsL16_ok tabL_ok 3, fun D hD => ?_⟩
  match D, hD with
  | [d0, d1, d2, d3, d4], hD =>
    obtain ⟨h0, h1, h2, h3, h4, _⟩ := hD
    obtain ⟨a, rfl, ha⟩ := one_u8 h0
    obtain ⟨b, rfl, hb⟩ := one_u8 h1
    obtain ⟨k, rfl, hk⟩ := one_u8 h2
    obtain ⟨y, rfl, hy⟩ := one_u8 h3
    obtain ⟨r, rfl, hr⟩ := one_u8 h4
    exact walk a b k y r ha hb hk hy hr
theorem own' : ownKnob Try.prog.godebug = none := own
theorem lifted (os : Os) (started : os.Started) (H : Type) (enc : TypeId × Value → H) :
    ReturnsInHanded {} Try.checked os 18 .any (Rows.windowEdgesSpec.pre6 enc Try.prog Try.f18 Rows.windowEdgesRow.domain false) (Rows.windowEdgesSpec.post enc Try.prog Try.f18 false true false false) := by
  refine returnsInHanded_of_change (C := Try.checked) own started (by kernel_rfl) Try.func18
    (ChangeSpec.witness6 (enc := enc) (C := Try.checked) false ⟨#[], #[.int .u8 0, .int .u8 0, .int .u8 0, .int .u8 0, .int .u8 0], []⟩ 8 (by kernel_rfl) (by kernel_rfl) (by kernel_rfl) (by kernel_rfl)) ?_
  intro W base args ds gs before hval hW _ _
  obtain ⟨cl, hc, hw⟩ := cl_ok
  exact row_of (ps := pas) (by kernel_rfl) (by kernel_rfl) rfl rfl (fun ds h => by
    match ds, h with
    | [_, _, _, _, _], _ => rfl) hval hW hc hw
theorem closed : joinedFacts Try.prog 18 Try.f18 Rows.windowEdgesSpec Rows.windowEdgesRow = true := by
  simp only [joinedFacts, Bool.and_eq_true]
  repeat' apply And.intro
  all_goals first
    | with_reducible exact mayEnter_ok
    | with_reducible exact laid_ok
    | with_reducible exact rowed_ok
    | ((with_reducible refine beq_r lifts_ok ?_); rfl)
    | ((with_reducible refine beq_l make_ok ?_); kernel_rfl)
    | (as_aux_lemma => kernel_rfl)
theorem named : Try.prog.funcNamed Rows.windowEdgesRow.func = some 18 := by kernel_rfl
theorem inst : Try.f18.isInstance Try.prog Rows.windowEdgesRow.origin Rows.windowEdgesRow.targs := of_decide_eq_true (by kernel_rfl)
theorem wrap : Try.f18.isWrapper Try.prog Rows.windowEdgesRow.wrapper Rows.windowEdgesRow.mainSum := by
  unfold Func.isWrapper; first | (rw [if_pos (by decide +kernel)]; kernel_rfl) | (rw [if_neg (by decide +kernel)]; exact ⟨rfl, rfl⟩)
theorem over : Rows.windowEdgesRow.holds Try.pinned (OpenSpec.ofChange Rows.windowEdgesSpec) :=
  OpenClaim.holds_of_wide 18 Try.f18 rfl rfl rfl rfl rfl rfl rfl ⟨rfl, rfl, rfl, rfl, rfl⟩ rfl rfl rfl rfl rfl named Try.func18 closed inst wrap
    (fun os started H enc _ => lifted os started H enc)
/-- The statement. -/
theorem proved : Rows.WindowEdgesSaid := over
#print axioms proved
end Go.Proofs.Ytbdifadabipfiaa.windowEdges
