/- LevelSteps: how bad it is by the greatest and the least counter: true at every input; no conditions. -/
import Derived.Test.YtbdifadabipfiaaLaM
namespace Go.Proofs.Ytbdifadabipfiaa.levelSteps
open Go Go.Eng Go.Proofs Go.Proofs.Ytbdifadabipfiaa.Tb Go.Proofs.Ytbdifadabipfiaa.Co Go.Proofs.Ytbdifadabipfiaa.La Go.Pu
set_option maxRecDepth 100000
set_option maxHeartbeats 8000000
noncomputable abbrev tabL : List (FuncId × Eng.Fn) := [(F.law20_LevelSteps, fn.law20_LevelSteps u0), (F.status_Table_Bad, fn.status_Table_Bad u0), (F.status_Table_change, fn.status_Table_change u0), (F.level_Of, fn.level_Of u0), (F.level_May, fn.level_May u0), (F.level_Beats, fn.level_Beats u0), (F.level_of, fn.level_of u0), (F.level_levels, fn.level_levels u0), (F.status_New, fn.status_New u0), (F.status_Table_All, fn.status_Table_All u0), (F.status_Table_Spread, fn.status_Table_Spread u0)]
theorem tabL_ok {d : Nat} : TabOk d tabL tt := .cons (ok.law20_LevelSteps u0) (.cons (ok.status_Table_Bad u0) (.cons (ok.status_Table_change u0) (.cons (ok.level_Of u0) (.cons (ok.level_May u0) (.cons (ok.level_Beats u0) (.cons (ok.level_of u0) (.cons (ok.level_levels u0) (.cons (ok.status_New u0) (.cons (ok.status_Table_All u0) (.cons (ok.status_Table_Spread u0) (TabOk.nil)))))))))))
abbrev pas : List Pa := [.one u8, .one u8]
def at2 (u v : Int) (q : Nat) : Int := match q with | 0 => u | _ => v
theorem any2 (u v : Int) : anyB 2 (fun i => decide ((7 : Int) = at2 u v i)) = (decide (7 = u) || decide (7 = v)) := by
  simp [anyB, List.range_succ, at2]
def two (u v : Int) : Heap := [.ob (.row 1 2 (fun q => [iC (at2 u v q)]) 2), .ob (.own [.c (.slc 0 0 1 0 2 2 false)])]
theorem walk (a b : Int) (ha : 0 ≤ a ∧ a ≤ 255) (hb : 0 ≤ b ∧ b ≤ 255) : clRunC 7 tt outsL20 tabL 6 F.law20_LevelSteps [] [iv .u8 a, iv .u8 b] [] (fun x _ => x = bv true) := by
  obtain ⟨x, hx, hx7⟩ : ∃ x : Nat, a.tmod 8 = x ∧ x ≤ 7 := ⟨(a.tmod 8).toNat, by rw [Int.tmod_eq_emod_of_nonneg ha.1]; omega, by rw [Int.tmod_eq_emod_of_nonneg ha.1]; omega⟩
  obtain ⟨y, hy, hy7⟩ : ∃ y : Nat, b.tmod 8 = y ∧ y ≤ 7 := ⟨(b.tmod 8).toNat, by rw [Int.tmod_eq_emod_of_nonneg hb.1]; omega, by rw [Int.tmod_eq_emod_of_nonneg hb.1]; omega⟩
  conv => whnf
  refine true_use ?_
  repeat
    conv => whnf
    first
      | refine cS rfl rfl ?_
      | refine cT (beq_self_eq_true _) ?_
      | refine bI (by omega) ?_
      | refine cDT (by omega) ?_
      | refine cDF (by omega) ?_
      | refine cNT (by omega) ?_
      | refine cNF (by omega) ?_
      | refine bU8 (by omega) ?_
      | refine bU32 (by omega) ?_
  try rw [hx]
  repeat
    conv => whnf
    first
      | refine cS rfl rfl ?_
      | refine cT (beq_self_eq_true _) ?_
      | refine bI (by omega) ?_
      | refine cDT (by omega) ?_
      | refine cDF (by omega) ?_
      | refine cNT (by omega) ?_
      | refine cNF (by omega) ?_
      | refine bU8 (by omega) ?_
      | refine bU32 (by omega) ?_
  try rw [hy]
  repeat
    conv => whnf
    first
      | refine cS rfl rfl ?_
      | refine cT (beq_self_eq_true _) ?_
      | refine bI (by omega) ?_
      | refine cDT (by omega) ?_
      | refine cDF (by omega) ?_
      | refine cNT (by omega) ?_
      | refine cNF (by omega) ?_
      | refine bU8 (by omega) ?_
      | refine bU32 (by omega) ?_
  conv => whnf
  refine .inv (fun i : Nat => i ≤ x) (fun i => [(8, iv .i64 i)]) (fun i => two i 0) (fun i => x - i) 0 (Nat.zero_le _) ?_ (fun i hi => ?_)
  · conv => whnf
    refine Le.id rfl ?_ ?_
    all_goals (repeat' (first
       | exact leT_empty
       | exact trivial
       | exact rfl
       | exact .inl rfl
       | exact .inr rfl
       | exact .inr ⟨rfl, rfl⟩
       | exact Nat.le_refl _
       | exact Nat.zero_le _
       | exact (fun _ _ => rfl)
       | refine And.intro ?_ ?_
       | (intro i hi; exact absurd hi (Nat.not_lt_zero i))
       | (intro i hi; have hi := Nat.lt_of_lt_of_le hi (show _ ≤ 1 from Nat.le_refl 1); obtain rfl : i = 0 := (by omega); rfl)
       | (intro i hi; have hi := Nat.lt_of_lt_of_le hi (show _ ≤ 2 from Nat.le_refl 2); rcases (show i = 0 ∨ i = 1 by omega) with rfl | rfl <;> rfl)
       | (intro i hi; have hi := Nat.lt_of_lt_of_le hi (show _ ≤ 3 from Nat.le_refl 3); rcases (show i = 0 ∨ i = 1 ∨ i = 2 by omega) with rfl | rfl | rfl <;> rfl)))
  conv => whnf
  refine cD (fun h5 => ?_) (fun h5 => ?_)
  · repeat
      conv => whnf
      first
        | refine cS rfl rfl ?_
        | refine cT (beq_self_eq_true _) ?_
        | refine bI (by omega) ?_
        | refine cDT (by omega) ?_
        | refine cDF (by omega) ?_
        | refine cNT (by omega) ?_
        | refine cNF (by omega) ?_
        | refine bU8 (by omega) ?_
        | refine bU32 (by omega) ?_
    conv => whnf
    rw [show at2 (i : Int) 0 (0 + Int.toNat 0) = i from rfl]
    repeat
      conv => whnf
      first
        | refine cS rfl rfl ?_
        | refine cT (beq_self_eq_true _) ?_
        | refine bI (by omega) ?_
        | refine cDT (by omega) ?_
        | refine cDF (by omega) ?_
        | refine cNT (by omega) ?_
        | refine cNF (by omega) ?_
        | refine bU8 (by omega) ?_
        | refine bU32 (by omega) ?_
    conv => whnf
    rw [show min (max ((i : Int) + 1) 0) 7 = ((i + 1 : Nat) : Int) by omega]
    refine ⟨i + 1, ⟨by omega, by omega⟩, ?_⟩
    conv => whnf
    refine Le.id rfl ?_ ?_
    all_goals (repeat' (first
       | exact leT_empty
       | exact trivial
       | exact rfl
       | exact .inl rfl
       | exact .inr rfl
       | exact .inr ⟨rfl, rfl⟩
       | exact Nat.le_refl _
       | exact Nat.zero_le _
       | exact (fun _ _ => rfl)
       | refine And.intro ?_ ?_
       | (intro i hi; exact absurd hi (Nat.not_lt_zero i))
       | (intro i hi; have hi := Nat.lt_of_lt_of_le hi (show _ ≤ 1 from Nat.le_refl 1); obtain rfl : i = 0 := (by omega); rfl)
       | (intro i hi; have hi := Nat.lt_of_lt_of_le hi (show _ ≤ 2 from Nat.le_refl 2); rcases (show i = 0 ∨ i = 1 by omega) with rfl | rfl <;> rfl)
       | (intro i hi; have hi := Nat.lt_of_lt_of_le hi (show _ ≤ 3 from Nat.le_refl 3); rcases (show i = 0 ∨ i = 1 ∨ i = 2 by omega) with rfl | rfl | rfl <;> rfl)))
  obtain rfl : i = x := by omega
  repeat
    conv => whnf
    first
      | refine cS rfl rfl ?_
      | refine cT (beq_self_eq_true _) ?_
      | refine bI (by omega) ?_
      | refine cDT (by omega) ?_
      | refine cDF (by omega) ?_
      | refine cNT (by omega) ?_
      | refine cNF (by omega) ?_
      | refine bU8 (by omega) ?_
      | refine bU32 (by omega) ?_
  conv => whnf
  refine .inv (fun j : Nat => j ≤ y) (fun j => [(9, iv .i64 j)]) (fun j => two i j) (fun j => y - j) 0 (Nat.zero_le _) ?_ (fun j hj => ?_)
  · conv => whnf
    refine Le.id rfl ?_ ?_
    all_goals (repeat' (first
       | exact leT_empty
       | exact trivial
       | exact rfl
       | exact .inl rfl
       | exact .inr rfl
       | exact .inr ⟨rfl, rfl⟩
       | exact Nat.le_refl _
       | exact Nat.zero_le _
       | exact (fun _ _ => rfl)
       | refine And.intro ?_ ?_
       | (intro i hi; exact absurd hi (Nat.not_lt_zero i))
       | (intro i hi; have hi := Nat.lt_of_lt_of_le hi (show _ ≤ 1 from Nat.le_refl 1); obtain rfl : i = 0 := (by omega); rfl)
       | (intro i hi; have hi := Nat.lt_of_lt_of_le hi (show _ ≤ 2 from Nat.le_refl 2); rcases (show i = 0 ∨ i = 1 by omega) with rfl | rfl <;> rfl)
       | (intro i hi; have hi := Nat.lt_of_lt_of_le hi (show _ ≤ 3 from Nat.le_refl 3); rcases (show i = 0 ∨ i = 1 ∨ i = 2 by omega) with rfl | rfl | rfl <;> rfl)))
  conv => whnf
  refine cD (fun h6 => ?_) (fun h6 => ?_)
  · repeat
      conv => whnf
      first
        | refine cS rfl rfl ?_
        | refine cT (beq_self_eq_true _) ?_
        | refine bI (by omega) ?_
        | refine cDT (by omega) ?_
        | refine cDF (by omega) ?_
        | refine cNT (by omega) ?_
        | refine cNF (by omega) ?_
        | refine bU8 (by omega) ?_
        | refine bU32 (by omega) ?_
    conv => whnf
    rw [show at2 (i : Int) (j : Int) (0 + Int.toNat 1) = j from rfl]
    repeat
      conv => whnf
      first
        | refine cS rfl rfl ?_
        | refine cT (beq_self_eq_true _) ?_
        | refine bI (by omega) ?_
        | refine cDT (by omega) ?_
        | refine cDF (by omega) ?_
        | refine cNT (by omega) ?_
        | refine cNF (by omega) ?_
        | refine bU8 (by omega) ?_
        | refine bU32 (by omega) ?_
    conv => whnf
    rw [show min (max ((j : Int) + 1) 0) 7 = ((j + 1 : Nat) : Int) by omega]
    refine ⟨j + 1, ⟨by omega, by omega⟩, ?_⟩
    conv => whnf
    refine Le.id rfl ?_ ?_
    all_goals (repeat' (first
       | exact leT_empty
       | exact trivial
       | exact rfl
       | exact .inl rfl
       | exact .inr rfl
       | exact .inr ⟨rfl, rfl⟩
       | exact Nat.le_refl _
       | exact Nat.zero_le _
       | exact (fun _ _ => rfl)
       | refine And.intro ?_ ?_
       | (intro i hi; exact absurd hi (Nat.not_lt_zero i))
       | (intro i hi; have hi := Nat.lt_of_lt_of_le hi (show _ ≤ 1 from Nat.le_refl 1); obtain rfl : i = 0 := (by omega); rfl)
       | (intro i hi; have hi := Nat.lt_of_lt_of_le hi (show _ ≤ 2 from Nat.le_refl 2); rcases (show i = 0 ∨ i = 1 by omega) with rfl | rfl <;> rfl)
       | (intro i hi; have hi := Nat.lt_of_lt_of_le hi (show _ ≤ 3 from Nat.le_refl 3); rcases (show i = 0 ∨ i = 1 ∨ i = 2 by omega) with rfl | rfl | rfl <;> rfl)))
  obtain rfl : j = y := by omega
  generalize hi' : (i : Int) = u at *
  generalize hj' : (j : Int) = v at *
  repeat
    conv => whnf
    first
      | refine cS rfl rfl ?_
      | refine cT (beq_self_eq_true _) ?_
      | refine bI (by omega) ?_
      | refine cDT (by omega) ?_
      | refine cDF (by omega) ?_
      | refine cNT (by omega) ?_
      | refine cNF (by omega) ?_
      | refine bU8 (by omega) ?_
      | refine bU32 (by omega) ?_
  conv => whnf
  have hu : 0 ≤ u ∧ u ≤ 7 := by omega
  have hv : 0 ≤ v ∧ v ≤ 7 := by omega
  have hA := any2 u v
  rcases (show (max u v = 7 ∧ 2 < max u v - min u v) ∨ (max u v = 7 ∧ ¬ 2 < max u v - min u v) ∨ (¬ max u v = 7 ∧ 2 < max u v - min u v) ∨ (¬ max u v = 7 ∧ ¬ 2 < max u v - min u v) by omega) with ⟨g1, g2⟩ | ⟨g1, g2⟩ | ⟨g1, g2⟩ | ⟨g1, g2⟩
  · rw [show (decide (7 = u) || decide (7 = v)) = true by simp; omega] at hA
    repeat
      conv => whnf
      first
        | refine cS rfl rfl ?_
        | refine cT (beq_self_eq_true _) ?_
        | refine bI (by omega) ?_
        | refine cDT (by omega) ?_
        | refine cDF (by omega) ?_
        | refine cNT (by omega) ?_
        | refine cNF (by omega) ?_
        | refine bU8 (by omega) ?_
        | refine bU32 (by omega) ?_
    conv => whnf
    refine contains_use (N := 2) (f := at2 u v) ⟨by decide, by decide⟩ ?_ ?_
    · repeat' (first
        | exact leT_empty
        | exact trivial
        | exact rfl
        | exact .inl rfl
        | exact .inr rfl
        | exact .inr ⟨rfl, rfl⟩
        | exact Nat.le_refl _
        | exact Nat.zero_le _
        | exact (fun _ _ => rfl)
        | refine And.intro ?_ ?_
        | (intro i hi; exact absurd hi (Nat.not_lt_zero i))
        | (intro i hi; have hi := Nat.lt_of_lt_of_le hi (show _ ≤ 1 from Nat.le_refl 1); obtain rfl : i = 0 := (by omega); rfl)
        | (intro i hi; have hi := Nat.lt_of_lt_of_le hi (show _ ≤ 2 from Nat.le_refl 2); rcases (show i = 0 ∨ i = 1 by omega) with rfl | rfl <;> rfl)
        | (intro i hi; have hi := Nat.lt_of_lt_of_le hi (show _ ≤ 3 from Nat.le_refl 3); rcases (show i = 0 ∨ i = 1 ∨ i = 2 by omega) with rfl | rfl | rfl <;> rfl))
    rw [show anyB (((2 : Nat) : Int).toNat) (fun i => decide ((7 : Int) = at2 u v i)) = true from hA]
    repeat
      conv => whnf
      first
        | refine cS rfl rfl ?_
        | refine cT (beq_self_eq_true _) ?_
        | refine bI (by omega) ?_
        | refine cDT (by omega) ?_
        | refine cDF (by omega) ?_
        | refine cNT (by omega) ?_
        | refine cNF (by omega) ?_
        | refine bU8 (by omega) ?_
        | refine bU32 (by omega) ?_
    conv => whnf
    exact rfl
  · rw [show (decide (7 = u) || decide (7 = v)) = true by simp; omega] at hA
    repeat
      conv => whnf
      first
        | refine cS rfl rfl ?_
        | refine cT (beq_self_eq_true _) ?_
        | refine bI (by omega) ?_
        | refine cDT (by omega) ?_
        | refine cDF (by omega) ?_
        | refine cNT (by omega) ?_
        | refine cNF (by omega) ?_
        | refine bU8 (by omega) ?_
        | refine bU32 (by omega) ?_
    conv => whnf
    refine contains_use (N := 2) (f := at2 u v) ⟨by decide, by decide⟩ ?_ ?_
    · repeat' (first
        | exact leT_empty
        | exact trivial
        | exact rfl
        | exact .inl rfl
        | exact .inr rfl
        | exact .inr ⟨rfl, rfl⟩
        | exact Nat.le_refl _
        | exact Nat.zero_le _
        | exact (fun _ _ => rfl)
        | refine And.intro ?_ ?_
        | (intro i hi; exact absurd hi (Nat.not_lt_zero i))
        | (intro i hi; have hi := Nat.lt_of_lt_of_le hi (show _ ≤ 1 from Nat.le_refl 1); obtain rfl : i = 0 := (by omega); rfl)
        | (intro i hi; have hi := Nat.lt_of_lt_of_le hi (show _ ≤ 2 from Nat.le_refl 2); rcases (show i = 0 ∨ i = 1 by omega) with rfl | rfl <;> rfl)
        | (intro i hi; have hi := Nat.lt_of_lt_of_le hi (show _ ≤ 3 from Nat.le_refl 3); rcases (show i = 0 ∨ i = 1 ∨ i = 2 by omega) with rfl | rfl | rfl <;> rfl))
    rw [show anyB (((2 : Nat) : Int).toNat) (fun i => decide ((7 : Int) = at2 u v i)) = true from hA]
    repeat
      conv => whnf
      first
        | refine cS rfl rfl ?_
        | refine cT (beq_self_eq_true _) ?_
        | refine bI (by omega) ?_
        | refine cDT (by omega) ?_
        | refine cDF (by omega) ?_
        | refine cNT (by omega) ?_
        | refine cNF (by omega) ?_
        | refine bU8 (by omega) ?_
        | refine bU32 (by omega) ?_
    conv => whnf
    exact rfl
  · rw [show (decide (7 = u) || decide (7 = v)) = false by simp; omega] at hA
    repeat
      conv => whnf
      first
        | refine cS rfl rfl ?_
        | refine cT (beq_self_eq_true _) ?_
        | refine bI (by omega) ?_
        | refine cDT (by omega) ?_
        | refine cDF (by omega) ?_
        | refine cNT (by omega) ?_
        | refine cNF (by omega) ?_
        | refine bU8 (by omega) ?_
        | refine bU32 (by omega) ?_
    conv => whnf
    refine contains_use (N := 2) (f := at2 u v) ⟨by decide, by decide⟩ ?_ ?_
    · repeat' (first
        | exact leT_empty
        | exact trivial
        | exact rfl
        | exact .inl rfl
        | exact .inr rfl
        | exact .inr ⟨rfl, rfl⟩
        | exact Nat.le_refl _
        | exact Nat.zero_le _
        | exact (fun _ _ => rfl)
        | refine And.intro ?_ ?_
        | (intro i hi; exact absurd hi (Nat.not_lt_zero i))
        | (intro i hi; have hi := Nat.lt_of_lt_of_le hi (show _ ≤ 1 from Nat.le_refl 1); obtain rfl : i = 0 := (by omega); rfl)
        | (intro i hi; have hi := Nat.lt_of_lt_of_le hi (show _ ≤ 2 from Nat.le_refl 2); rcases (show i = 0 ∨ i = 1 by omega) with rfl | rfl <;> rfl)
        | (intro i hi; have hi := Nat.lt_of_lt_of_le hi (show _ ≤ 3 from Nat.le_refl 3); rcases (show i = 0 ∨ i = 1 ∨ i = 2 by omega) with rfl | rfl | rfl <;> rfl))
    rw [show anyB (((2 : Nat) : Int).toNat) (fun i => decide ((7 : Int) = at2 u v i)) = false from hA]
    repeat
      conv => whnf
      first
        | refine cS rfl rfl ?_
        | refine cT (beq_self_eq_true _) ?_
        | refine bI (by omega) ?_
        | refine cDT (by omega) ?_
        | refine cDF (by omega) ?_
        | refine cNT (by omega) ?_
        | refine cNF (by omega) ?_
        | refine bU8 (by omega) ?_
        | refine bU32 (by omega) ?_
    conv => whnf
    refine max_use (N := 2) (f := at2 u v) ⟨by decide, by decide, by decide⟩ ?_ ?_
    · repeat' (first
        | exact leT_empty
        | exact trivial
        | exact rfl
        | exact .inl rfl
        | exact .inr rfl
        | exact .inr ⟨rfl, rfl⟩
        | exact Nat.le_refl _
        | exact Nat.zero_le _
        | exact (fun _ _ => rfl)
        | refine And.intro ?_ ?_
        | (intro i hi; exact absurd hi (Nat.not_lt_zero i))
        | (intro i hi; have hi := Nat.lt_of_lt_of_le hi (show _ ≤ 1 from Nat.le_refl 1); obtain rfl : i = 0 := (by omega); rfl)
        | (intro i hi; have hi := Nat.lt_of_lt_of_le hi (show _ ≤ 2 from Nat.le_refl 2); rcases (show i = 0 ∨ i = 1 by omega) with rfl | rfl <;> rfl)
        | (intro i hi; have hi := Nat.lt_of_lt_of_le hi (show _ ≤ 3 from Nat.le_refl 3); rcases (show i = 0 ∨ i = 1 ∨ i = 2 by omega) with rfl | rfl | rfl <;> rfl))
    rw [show maxN (at2 u v) (2 - 1) = max u v from rfl]
    repeat
      conv => whnf
      first
        | refine cS rfl rfl ?_
        | refine cT (beq_self_eq_true _) ?_
        | refine bI (by omega) ?_
        | refine cDT (by omega) ?_
        | refine cDF (by omega) ?_
        | refine cNT (by omega) ?_
        | refine cNF (by omega) ?_
        | refine bU8 (by omega) ?_
        | refine bU32 (by omega) ?_
    conv => whnf
    refine min_use (N := 2) (f := at2 u v) ⟨by decide, by decide, by decide⟩ ?_ ?_
    · repeat' (first
        | exact leT_empty
        | exact trivial
        | exact rfl
        | exact .inl rfl
        | exact .inr rfl
        | exact .inr ⟨rfl, rfl⟩
        | exact Nat.le_refl _
        | exact Nat.zero_le _
        | exact (fun _ _ => rfl)
        | refine And.intro ?_ ?_
        | (intro i hi; exact absurd hi (Nat.not_lt_zero i))
        | (intro i hi; have hi := Nat.lt_of_lt_of_le hi (show _ ≤ 1 from Nat.le_refl 1); obtain rfl : i = 0 := (by omega); rfl)
        | (intro i hi; have hi := Nat.lt_of_lt_of_le hi (show _ ≤ 2 from Nat.le_refl 2); rcases (show i = 0 ∨ i = 1 by omega) with rfl | rfl <;> rfl)
        | (intro i hi; have hi := Nat.lt_of_lt_of_le hi (show _ ≤ 3 from Nat.le_refl 3); rcases (show i = 0 ∨ i = 1 ∨ i = 2 by omega) with rfl | rfl | rfl <;> rfl))
    rw [show minN (at2 u v) (2 - 1) = min u v from rfl]
    repeat
      conv => whnf
      first
        | refine cS rfl rfl ?_
        | refine cT (beq_self_eq_true _) ?_
        | refine bI (by omega) ?_
        | refine cDT (by omega) ?_
        | refine cDF (by omega) ?_
        | refine cNT (by omega) ?_
        | refine cNF (by omega) ?_
        | refine bU8 (by omega) ?_
        | refine bU32 (by omega) ?_
    conv => whnf
    exact rfl
  · rw [show (decide (7 = u) || decide (7 = v)) = false by simp; omega] at hA
    repeat
      conv => whnf
      first
        | refine cS rfl rfl ?_
        | refine cT (beq_self_eq_true _) ?_
        | refine bI (by omega) ?_
        | refine cDT (by omega) ?_
        | refine cDF (by omega) ?_
        | refine cNT (by omega) ?_
        | refine cNF (by omega) ?_
        | refine bU8 (by omega) ?_
        | refine bU32 (by omega) ?_
    conv => whnf
    refine contains_use (N := 2) (f := at2 u v) ⟨by decide, by decide⟩ ?_ ?_
    · repeat' (first
        | exact leT_empty
        | exact trivial
        | exact rfl
        | exact .inl rfl
        | exact .inr rfl
        | exact .inr ⟨rfl, rfl⟩
        | exact Nat.le_refl _
        | exact Nat.zero_le _
        | exact (fun _ _ => rfl)
        | refine And.intro ?_ ?_
        | (intro i hi; exact absurd hi (Nat.not_lt_zero i))
        | (intro i hi; have hi := Nat.lt_of_lt_of_le hi (show _ ≤ 1 from Nat.le_refl 1); obtain rfl : i = 0 := (by omega); rfl)
        | (intro i hi; have hi := Nat.lt_of_lt_of_le hi (show _ ≤ 2 from Nat.le_refl 2); rcases (show i = 0 ∨ i = 1 by omega) with rfl | rfl <;> rfl)
        | (intro i hi; have hi := Nat.lt_of_lt_of_le hi (show _ ≤ 3 from Nat.le_refl 3); rcases (show i = 0 ∨ i = 1 ∨ i = 2 by omega) with rfl | rfl | rfl <;> rfl))
    rw [show anyB (((2 : Nat) : Int).toNat) (fun i => decide ((7 : Int) = at2 u v i)) = false from hA]
    repeat
      conv => whnf
      first
        | refine cS rfl rfl ?_
        | refine cT (beq_self_eq_true _) ?_
        | refine bI (by omega) ?_
        | refine cDT (by omega) ?_
        | refine cDF (by omega) ?_
        | refine cNT (by omega) ?_
        | refine cNF (by omega) ?_
        | refine bU8 (by omega) ?_
        | refine bU32 (by omega) ?_
    conv => whnf
    refine max_use (N := 2) (f := at2 u v) ⟨by decide, by decide, by decide⟩ ?_ ?_
    · repeat' (first
        | exact leT_empty
        | exact trivial
        | exact rfl
        | exact .inl rfl
        | exact .inr rfl
        | exact .inr ⟨rfl, rfl⟩
        | exact Nat.le_refl _
        | exact Nat.zero_le _
        | exact (fun _ _ => rfl)
        | refine And.intro ?_ ?_
        | (intro i hi; exact absurd hi (Nat.not_lt_zero i))
        | (intro i hi; have hi := Nat.lt_of_lt_of_le hi (show _ ≤ 1 from Nat.le_refl 1); obtain rfl : i = 0 := (by omega); rfl)
        | (intro i hi; have hi := Nat.lt_of_lt_of_le hi (show _ ≤ 2 from Nat.le_refl 2); rcases (show i = 0 ∨ i = 1 by omega) with rfl | rfl <;> rfl)
        | (intro i hi; have hi := Nat.lt_of_lt_of_le hi (show _ ≤ 3 from Nat.le_refl 3); rcases (show i = 0 ∨ i = 1 ∨ i = 2 by omega) with rfl | rfl | rfl <;> rfl))
    rw [show maxN (at2 u v) (2 - 1) = max u v from rfl]
    repeat
      conv => whnf
      first
        | refine cS rfl rfl ?_
        | refine cT (beq_self_eq_true _) ?_
        | refine bI (by omega) ?_
        | refine cDT (by omega) ?_
        | refine cDF (by omega) ?_
        | refine cNT (by omega) ?_
        | refine cNF (by omega) ?_
        | refine bU8 (by omega) ?_
        | refine bU32 (by omega) ?_
    conv => whnf
    refine min_use (N := 2) (f := at2 u v) ⟨by decide, by decide, by decide⟩ ?_ ?_
    · repeat' (first
        | exact leT_empty
        | exact trivial
        | exact rfl
        | exact .inl rfl
        | exact .inr rfl
        | exact .inr ⟨rfl, rfl⟩
        | exact Nat.le_refl _
        | exact Nat.zero_le _
        | exact (fun _ _ => rfl)
        | refine And.intro ?_ ?_
        | (intro i hi; exact absurd hi (Nat.not_lt_zero i))
        | (intro i hi; have hi := Nat.lt_of_lt_of_le hi (show _ ≤ 1 from Nat.le_refl 1); obtain rfl : i = 0 := (by omega); rfl)
        | (intro i hi; have hi := Nat.lt_of_lt_of_le hi (show _ ≤ 2 from Nat.le_refl 2); rcases (show i = 0 ∨ i = 1 by omega) with rfl | rfl <;> rfl)
        | (intro i hi; have hi := Nat.lt_of_lt_of_le hi (show _ ≤ 3 from Nat.le_refl 3); rcases (show i = 0 ∨ i = 1 ∨ i = 2 by omega) with rfl | rfl | rfl <;> rfl))
    rw [show minN (at2 u v) (2 - 1) = min u v from rfl]
    repeat
      conv => whnf
      first
        | refine cS rfl rfl ?_
        | refine cT (beq_self_eq_true _) ?_
        | refine bI (by omega) ?_
        | refine cDT (by omega) ?_
        | refine cDF (by omega) ?_
        | refine cNT (by omega) ?_
        | refine cNF (by omega) ?_
        | refine bU8 (by omega) ?_
        | refine bU32 (by omega) ?_
    conv => whnf
    exact rfl
theorem cl_ok : ∃ cl : Cl, ClOk Try.prog cl ∧ ∀ D, OkAll pas D → cl F.law20_LevelSteps [] (xsP 0 pas D) (hsP pas D) fun x _ => x = bv true := by
  refine ⟨clRunC 7 tt outsL20 tabL 6, clRunC_ok (d := 7) ttOk outsL20_ok tabL_ok 6, fun D hD => ?_⟩
  match D, hD with
  | [d0, d1], hD =>
    obtain ⟨h0, h1, _⟩ := hD
    obtain ⟨a, rfl, ha⟩ := one_u8 h0
    obtain ⟨b, rfl, hb⟩ := one_u8 h1
    exact walk a b ha hb
theorem own' : ownKnob Try.prog.godebug = none := own
theorem lifted (os : Os) (started : os.Started) (H : Type) (enc : TypeId × Value → H) :
    ReturnsInHanded {} Try.checked os 8 .any (Rows.levelStepsSpec.pre6 enc Try.prog Try.f8 Rows.levelStepsRow.domain false) (Rows.levelStepsSpec.post enc Try.prog Try.f8 false true false false) := by
  refine returnsInHanded_of_change (C := Try.checked) own started (by kernel_rfl) Try.func8
    (ChangeSpec.witness6 (enc := enc) (C := Try.checked) false ⟨#[], #[.int .u8 0, .int .u8 0], []⟩ 8 (by kernel_rfl) (by kernel_rfl) (by kernel_rfl) (by kernel_rfl)) ?_
  intro W base args ds gs before hval hW _ _
  obtain ⟨cl, hc, hw⟩ := cl_ok
  exact row_of (ps := pas) (by kernel_rfl) (by kernel_rfl) rfl rfl (fun ds h => by
    match ds, h with
    | [_, _], _ => rfl) hval hW hc hw
theorem closed : joinedFacts Try.prog 8 Try.f8 Rows.levelStepsSpec Rows.levelStepsRow = true := by
  simp only [joinedFacts, Bool.and_eq_true]
  repeat' apply And.intro
  all_goals first
    | with_reducible exact mayEnter_ok
    | with_reducible exact laid_ok
    | with_reducible exact rowed_ok
    | ((with_reducible refine beq_r lifts_ok ?_); rfl)
    | ((with_reducible refine beq_l make_ok ?_); kernel_rfl)
    | (as_aux_lemma => kernel_rfl)
theorem named : Try.prog.funcNamed Rows.levelStepsRow.func = some 8 := by kernel_rfl
theorem inst : Try.f8.isInstance Try.prog Rows.levelStepsRow.origin Rows.levelStepsRow.targs := of_decide_eq_true (by kernel_rfl)
theorem wrap : Try.f8.isWrapper Try.prog Rows.levelStepsRow.wrapper Rows.levelStepsRow.mainSum := by
  unfold Func.isWrapper; first | (rw [if_pos (by decide +kernel)]; kernel_rfl) | (rw [if_neg (by decide +kernel)]; exact ⟨rfl, rfl⟩)
theorem over : Rows.levelStepsRow.holds Try.pinned (OpenSpec.ofChange Rows.levelStepsSpec) :=
  OpenClaim.holds_of_wide 8 Try.f8 rfl rfl rfl rfl rfl rfl rfl ⟨rfl, rfl, rfl, rfl, rfl⟩ rfl rfl rfl rfl rfl named Try.func8 closed inst wrap
    (fun os started H enc _ => lifted os started H enc)
/-- The statement. -/
theorem proved : Rows.LevelStepsSaid := over
#print axioms proved
end Go.Proofs.Ytbdifadabipfiaa.levelSteps
