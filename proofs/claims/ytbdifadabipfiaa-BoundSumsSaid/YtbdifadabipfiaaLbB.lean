/- BoundSums: all kinds' windows together are each window as often as it comes; sends; busy units fit: true at every input; no conditions. -/
import Derived.Test.YtbdifadabipfiaaLaY
import Derived.Test.YtbdifadabipfiaaPuE
namespace Go.Proofs.Ytbdifadabipfiaa.boundSums
open Go Go.Eng Go.Proofs Go.Proofs.Ytbdifadabipfiaa.Tb Go.Proofs.Ytbdifadabipfiaa.Co Go.Proofs.Ytbdifadabipfiaa.La Go.Pu
set_option maxRecDepth 100000
set_option maxHeartbeats 4000000
noncomputable abbrev tabL : List (FuncId × Eng.Fn) := [(F.law27_BoundSums, fn.law27_BoundSums u0), (F.law27_few, fn.law27_few u0)]
theorem tabL_ok {d : Nat} : TabOk d tabL tt := .cons (ok.law27_BoundSums u0) (.cons (ok.law27_few u0) (TabOk.nil))
abbrev pas : List Pa := [.agg matSh]
theorem walk (m : Mat) (c : Caps) (hm : m.Ok) (hc : capsOk m c) : clRunX 7 tt outsL27 tabL 3 F.law27_BoundSums [] [matT m c 0 1 2] (matH m []) (fun x _ => x = bv true) := by
  have hnW := hm.nW
  have hnG := hm.nG
  conv => whnf
  refine true_use ?_
  repeat
    conv => whnf
    first
      | (with_reducible refine qS ?_ ?_ ?_
         · exact rfl
         · exact rfl)
      | with_reducible refine qB ?_
      | (with_reducible refine qI ?_ ?_
         · omega)
      | (with_reducible refine qDT ?_ ?_
         · omega)
      | (with_reducible refine qDF ?_ ?_
         · omega)
      | (with_reducible refine qNT ?_ ?_
         · omega)
      | (with_reducible refine qNF ?_ ?_
         · omega)
      | (with_reducible refine qU8 ?_ ?_
         · omega)
      | (with_reducible refine qU32 ?_ ?_
         · omega)
      | (with_reducible refine qU64 ?_ ?_
         · omega)
      | (with_reducible refine qU16 ?_ ?_
         · omega)
  conv => whnf
  refine checkR_use (m := m) (c := c) hm ?_
  repeat
    conv => whnf
    first
      | (with_reducible refine qS ?_ ?_ ?_
         · exact rfl
         · exact rfl)
      | with_reducible refine qB ?_
      | (with_reducible refine qI ?_ ?_
         · omega)
      | (with_reducible refine qDT ?_ ?_
         · omega)
      | (with_reducible refine qDF ?_ ?_
         · omega)
      | (with_reducible refine qNT ?_ ?_
         · omega)
      | (with_reducible refine qNF ?_ ?_
         · omega)
      | (with_reducible refine qU8 ?_ ?_
         · omega)
      | (with_reducible refine qU32 ?_ ?_
         · omega)
      | (with_reducible refine qU64 ?_ ?_
         · omega)
      | (with_reducible refine qU16 ?_ ?_
         · omega)
  conv => whnf
  refine cD (fun h1 => ?_) (fun h1 => ?_)
  rotate_left
  · repeat
      conv => whnf
      first
        | (with_reducible refine qS ?_ ?_ ?_
           · exact rfl
           · exact rfl)
        | with_reducible refine qB ?_
        | (with_reducible refine qI ?_ ?_
           · omega)
        | (with_reducible refine qDT ?_ ?_
           · omega)
        | (with_reducible refine qDF ?_ ?_
           · omega)
        | (with_reducible refine qNT ?_ ?_
           · omega)
        | (with_reducible refine qNF ?_ ?_
           · omega)
        | (with_reducible refine qU8 ?_ ?_
           · omega)
        | (with_reducible refine qU32 ?_ ?_
           · omega)
        | (with_reducible refine qU64 ?_ ?_
           · omega)
        | (with_reducible refine qU16 ?_ ?_
           · omega)
    conv => whnf
    exact rfl
  conv => whnf
  refine cD (fun h2 => ?_) (fun h2 => ?_)
  rotate_left
  · repeat
      conv => whnf
      first
        | (with_reducible refine qS ?_ ?_ ?_
           · exact rfl
           · exact rfl)
        | with_reducible refine qB ?_
        | (with_reducible refine qI ?_ ?_
           · omega)
        | (with_reducible refine qDT ?_ ?_
           · omega)
        | (with_reducible refine qDF ?_ ?_
           · omega)
        | (with_reducible refine qNT ?_ ?_
           · omega)
        | (with_reducible refine qNF ?_ ?_
           · omega)
        | (with_reducible refine qU8 ?_ ?_
           · omega)
        | (with_reducible refine qU32 ?_ ?_
           · omega)
        | (with_reducible refine qU64 ?_ ?_
           · omega)
        | (with_reducible refine qU16 ?_ ?_
           · omega)
    conv => whnf
    exact rfl
  conv => whnf
  refine cN (fun h3 => ?_) (fun h3 => ?_)
  · repeat
      conv => whnf
      first
        | (with_reducible refine qS ?_ ?_ ?_
           · exact rfl
           · exact rfl)
        | with_reducible refine qB ?_
        | (with_reducible refine qI ?_ ?_
           · omega)
        | (with_reducible refine qDT ?_ ?_
           · omega)
        | (with_reducible refine qDF ?_ ?_
           · omega)
        | (with_reducible refine qNT ?_ ?_
           · omega)
        | (with_reducible refine qNF ?_ ?_
           · omega)
        | (with_reducible refine qU8 ?_ ?_
           · omega)
        | (with_reducible refine qU32 ?_ ?_
           · omega)
        | (with_reducible refine qU64 ?_ ?_
           · omega)
        | (with_reducible refine qU16 ?_ ?_
           · omega)
    conv => whnf
    exact rfl
  by_cases h : (chk m).2 = 0
  rotate_left
  · repeat
      conv => whnf
      first
        | (with_reducible refine qS ?_ ?_ ?_
           · exact rfl
           · exact rfl)
        | with_reducible refine qB ?_
        | (with_reducible refine qI ?_ ?_
           · omega)
        | (with_reducible refine qDT ?_ ?_
           · omega)
        | (with_reducible refine qDF ?_ ?_
           · omega)
        | (with_reducible refine qNT ?_ ?_
           · omega)
        | (with_reducible refine qNF ?_ ?_
           · omega)
        | (with_reducible refine qU8 ?_ ?_
           · omega)
        | (with_reducible refine qU32 ?_ ?_
           · omega)
        | (with_reducible refine qU64 ?_ ?_
           · omega)
        | (with_reducible refine qU16 ?_ ?_
           · omega)
    conv => whnf
    exact rfl
  have hP := pass_of h
  have hi := hP.is
  have hcy : 1 ≤ m.cycles ∧ m.cycles ≤ 8 := hP.cyc8
  have hl := hi.head
  have hn := hi.size
  obtain ⟨C, hC⟩ : ∃ C : Nat, m.cycles = C := ⟨m.cycles.toNat, by omega⟩
  have hCN : m.cycles.toNat = C := by omega
  have aA : ∀ f, all1 m f = totS m f C := fun f => by unfold all1; rw [if_pos h, hCN]
  have k3 := kinds_sum hi hC
  have k0 := kind_no hi (k := 0) (.inl (by decide)) C
  have k4 := kind_no hi (k := 4) (.inr (by decide)) C
  have sN := sends_no hP C
  have sA := sends_all hP C
  have bL := busy_le hP hC C (Nat.le_refl _)
  rw [← hC] at bL
  have sS : ∀ n : Nat, n ≤ m.nG → 0 ≤ sumS m C n ∧ sumS m C n ≤ n * 128 := fun n _ => sumF_bd fun g _ => by
    have := totS_bd (m := m) (f := fS g) (B := 1) (fun i _ => fS_bd g (m.W i)) (by omega) C
    have g1 : (C : Int) * (m.nW * 1) ≤ 8 * (16 * 1) := Int.mul_le_mul (by omega) (by have := hn.2.2.2; omega) (by omega) (by omega)
    omega
  have sg : ∀ g : Int, 0 ≤ totS m (fS g) C ∧ totS m (fS g) C ≤ 128 := fun g => by
    have := totS_bd (m := m) (f := fS g) (B := 1) (fun i _ => fS_bd g (m.W i)) (by omega) C
    have g1 : (C : Int) * (m.nW * 1) ≤ 8 * (16 * 1) := Int.mul_le_mul (by omega) (by have := hn.2.2.2; omega) (by omega) (by omega)
    omega
  have sk : ∀ g : Int, 0 ≤ totS m (fK g) C ∧ totS m (fK g) C ≤ 512000 := fun g => by
    have := sums_sm hi (fK_sm m g) (c := C) (i := 0) (by omega) (Nat.zero_le _)
    omega
  have hlen : 1 ≤ m.length ∧ m.length ≤ 4000 := ⟨hl.2.2.2.2.2.1, hl.2.2.2.2.2.2.1⟩
  have hmul : 0 ≤ m.cycles * m.length ∧ m.cycles * m.length ≤ 8 * 4000 := ⟨Int.mul_nonneg (by omega) (by omega), Int.mul_le_mul (by omega) (by omega) (by omega) (by omega)⟩
  have hnW16 : m.nW ≤ 16 := hn.2.2.2
  have hnG12 : m.nG ≤ 12 := hn.2.2.1
  repeat
    conv => whnf
    first
      | (with_reducible refine qS ?_ ?_ ?_
         · exact rfl
         · exact rfl)
      | with_reducible refine qB ?_
      | (with_reducible refine qI ?_ ?_
         · omega)
      | (with_reducible refine qDT ?_ ?_
         · omega)
      | (with_reducible refine qDF ?_ ?_
         · omega)
      | (with_reducible refine qNT ?_ ?_
         · omega)
      | (with_reducible refine qNF ?_ ?_
         · omega)
      | (with_reducible refine qU8 ?_ ?_
         · omega)
      | (with_reducible refine qU32 ?_ ?_
         · omega)
      | (with_reducible refine qU64 ?_ ?_
         · omega)
      | (with_reducible refine qU16 ?_ ?_
         · omega)
  conv => whnf
  refine .rd (fun q : Nat => q ≤ m.nW) (fun q => [(5, iv .i64 (sumQ m q)), (7, iv .i64 q)]) (fun q => m.nW - q) 0 (Nat.zero_le _) ?_ (fun q hq => ?_)
  · conv => whnf
    refine Le.id rfl ?_ ?_
    all_goals (repeat' (first
       | exact leT_empty
       | exact trivial
       | exact rfl
       | exact .inl rfl
       | exact .inr rfl
       | exact .inr ⟨rfl, rfl⟩
       | exact Nat.le_refl _
       | exact Nat.zero_le _
       | exact (fun _ _ => rfl)
       | assumption
       | refine And.intro ?_ ?_
       | (intro i hi; exact absurd hi (Nat.not_lt_zero i))
       | (intro i hi; have hi := Nat.lt_of_lt_of_le hi (show _ ≤ 1 from Nat.le_refl 1); obtain rfl : i = 0 := (by omega); rfl)
       | (intro i hi; have hi := Nat.lt_of_lt_of_le hi (show _ ≤ 2 from Nat.le_refl 2); rcases (show i = 0 ∨ i = 1 by omega) with rfl | rfl <;> rfl)
       | (intro i hi; have hi := Nat.lt_of_lt_of_le hi (show _ ≤ 3 from Nat.le_refl 3); rcases (show i = 0 ∨ i = 1 ∨ i = 2 by omega) with rfl | rfl | rfl <;> rfl)))
  have q1 := sumQ_bd hi hq
  conv => whnf
  refine cD (fun h5 => ?_) (fun h5 => ?_)
  · have q2 := quo_bd hi.head (hi.W q (by omega))
    have q3 : sumQ m (q + 1) = sumQ m q + m.cycles.tdiv (m.W q).rep := rfl
    repeat
      conv => whnf
      first
        | (with_reducible refine qS ?_ ?_ ?_
           · exact rfl
           · exact rfl)
        | with_reducible refine qB ?_
        | (with_reducible refine qI ?_ ?_
           · omega)
        | (with_reducible refine qDT ?_ ?_
           · omega)
        | (with_reducible refine qDF ?_ ?_
           · omega)
        | (with_reducible refine qNT ?_ ?_
           · omega)
        | (with_reducible refine qNF ?_ ?_
           · omega)
        | (with_reducible refine qU8 ?_ ?_
           · omega)
        | (with_reducible refine qU32 ?_ ?_
           · omega)
        | (with_reducible refine qU64 ?_ ?_
           · omega)
        | (with_reducible refine qU16 ?_ ?_
           · omega)
    conv => whnf
    try rw [zi q]
    repeat
      conv => whnf
      first
        | (with_reducible refine qS ?_ ?_ ?_
           · exact rfl
           · exact rfl)
        | with_reducible refine qB ?_
        | (with_reducible refine qI ?_ ?_
           · omega)
        | (with_reducible refine qDT ?_ ?_
           · omega)
        | (with_reducible refine qDF ?_ ?_
           · omega)
        | (with_reducible refine qNT ?_ ?_
           · omega)
        | (with_reducible refine qNF ?_ ?_
           · omega)
        | (with_reducible refine qU8 ?_ ?_
           · omega)
        | (with_reducible refine qU32 ?_ ?_
           · omega)
        | (with_reducible refine qU64 ?_ ?_
           · omega)
        | (with_reducible refine qU16 ?_ ?_
           · omega)
    conv => whnf
    refine ⟨q + 1, ⟨by omega, by omega⟩, ?_⟩
    conv => whnf
    refine Le.id rfl ?_ ?_
    all_goals (repeat' (first
       | exact leT_empty
       | exact trivial
       | exact rfl
       | exact .inl rfl
       | exact .inr rfl
       | exact .inr ⟨rfl, rfl⟩
       | exact Nat.le_refl _
       | exact Nat.zero_le _
       | exact (fun _ _ => rfl)
       | assumption
       | refine And.intro ?_ ?_
       | (intro i hi; exact absurd hi (Nat.not_lt_zero i))
       | (intro i hi; have hi := Nat.lt_of_lt_of_le hi (show _ ≤ 1 from Nat.le_refl 1); obtain rfl : i = 0 := (by omega); rfl)
       | (intro i hi; have hi := Nat.lt_of_lt_of_le hi (show _ ≤ 2 from Nat.le_refl 2); rcases (show i = 0 ∨ i = 1 by omega) with rfl | rfl <;> rfl)
       | (intro i hi; have hi := Nat.lt_of_lt_of_le hi (show _ ≤ 3 from Nat.le_refl 3); rcases (show i = 0 ∨ i = 1 ∨ i = 2 by omega) with rfl | rfl | rfl <;> rfl)))
  obtain rfl : q = m.nW := by omega
  repeat
    conv => whnf
    first
      | (with_reducible refine qS ?_ ?_ ?_
         · exact rfl
         · exact rfl)
      | with_reducible refine qB ?_
      | (with_reducible refine qI ?_ ?_
         · omega)
      | (with_reducible refine qDT ?_ ?_
         · omega)
      | (with_reducible refine qDF ?_ ?_
         · omega)
      | (with_reducible refine qNT ?_ ?_
         · omega)
      | (with_reducible refine qNF ?_ ?_
         · omega)
      | (with_reducible refine qU8 ?_ ?_
         · omega)
      | (with_reducible refine qU32 ?_ ?_
         · omega)
      | (with_reducible refine qU64 ?_ ?_
         · omega)
      | (with_reducible refine qU16 ?_ ?_
         · omega)
  conv => whnf
  refine .rd (fun g : Nat => g ≤ m.nG) (fun g => [(6, iv .i64 (sumS m C g)), (8, iv .i64 g)]) (fun g => m.nG - g) 0 (Nat.zero_le _) ?_ (fun g hg => ?_)
  · conv => whnf
    refine Le.id rfl ?_ ?_
    all_goals (repeat' (first
       | exact leT_empty
       | exact trivial
       | exact rfl
       | exact .inl rfl
       | exact .inr rfl
       | exact .inr ⟨rfl, rfl⟩
       | exact Nat.le_refl _
       | exact Nat.zero_le _
       | exact (fun _ _ => rfl)
       | assumption
       | refine And.intro ?_ ?_
       | (intro i hi; exact absurd hi (Nat.not_lt_zero i))
       | (intro i hi; have hi := Nat.lt_of_lt_of_le hi (show _ ≤ 1 from Nat.le_refl 1); obtain rfl : i = 0 := (by omega); rfl)
       | (intro i hi; have hi := Nat.lt_of_lt_of_le hi (show _ ≤ 2 from Nat.le_refl 2); rcases (show i = 0 ∨ i = 1 by omega) with rfl | rfl <;> rfl)
       | (intro i hi; have hi := Nat.lt_of_lt_of_le hi (show _ ≤ 3 from Nat.le_refl 3); rcases (show i = 0 ∨ i = 1 ∨ i = 2 by omega) with rfl | rfl | rfl <;> rfl)))
  have g1 := sS g hg
  have g2 := sg g
  conv => whnf
  refine cD (fun h6 => ?_) (fun h6 => ?_)
  · repeat
      conv => whnf
      first
        | (with_reducible refine qS ?_ ?_ ?_
           · exact rfl
           · exact rfl)
        | with_reducible refine qB ?_
        | (with_reducible refine qI ?_ ?_
           · omega)
        | (with_reducible refine qDT ?_ ?_
           · omega)
        | (with_reducible refine qDF ?_ ?_
           · omega)
        | (with_reducible refine qNT ?_ ?_
           · omega)
        | (with_reducible refine qNF ?_ ?_
           · omega)
        | (with_reducible refine qU8 ?_ ?_
           · omega)
        | (with_reducible refine qU32 ?_ ?_
           · omega)
        | (with_reducible refine qU64 ?_ ?_
           · omega)
        | (with_reducible refine qU16 ?_ ?_
           · omega)
    conv => whnf
    refine sends_use (m := m) (c := c) hm hc ?_
    rw [aA]
    repeat
      conv => whnf
      first
        | (with_reducible refine qS ?_ ?_ ?_
           · exact rfl
           · exact rfl)
        | with_reducible refine qB ?_
        | (with_reducible refine qI ?_ ?_
           · omega)
        | (with_reducible refine qDT ?_ ?_
           · omega)
        | (with_reducible refine qDF ?_ ?_
           · omega)
        | (with_reducible refine qNT ?_ ?_
           · omega)
        | (with_reducible refine qNF ?_ ?_
           · omega)
        | (with_reducible refine qU8 ?_ ?_
           · omega)
        | (with_reducible refine qU32 ?_ ?_
           · omega)
        | (with_reducible refine qU64 ?_ ?_
           · omega)
        | (with_reducible refine qU16 ?_ ?_
           · omega)
    conv => whnf
    refine ⟨g + 1, ⟨by omega, by omega⟩, ?_⟩
    conv => whnf
    refine Le.id rfl ?_ ?_
    all_goals (repeat' (first
       | exact leT_empty
       | exact trivial
       | exact rfl
       | exact .inl rfl
       | exact .inr rfl
       | exact .inr ⟨rfl, rfl⟩
       | exact Nat.le_refl _
       | exact Nat.zero_le _
       | exact (fun _ _ => rfl)
       | assumption
       | refine And.intro ?_ ?_
       | (intro i hi; exact absurd hi (Nat.not_lt_zero i))
       | (intro i hi; have hi := Nat.lt_of_lt_of_le hi (show _ ≤ 1 from Nat.le_refl 1); obtain rfl : i = 0 := (by omega); rfl)
       | (intro i hi; have hi := Nat.lt_of_lt_of_le hi (show _ ≤ 2 from Nat.le_refl 2); rcases (show i = 0 ∨ i = 1 by omega) with rfl | rfl <;> rfl)
       | (intro i hi; have hi := Nat.lt_of_lt_of_le hi (show _ ≤ 3 from Nat.le_refl 3); rcases (show i = 0 ∨ i = 1 ∨ i = 2 by omega) with rfl | rfl | rfl <;> rfl)))
  obtain rfl : g = m.nG := by omega
  have w1 := sk 1
  have w2 := sk 2
  have w3 := sk 3
  repeat
    conv => whnf
    first
      | (with_reducible refine qS ?_ ?_ ?_
         · exact rfl
         · exact rfl)
      | with_reducible refine qB ?_
      | (with_reducible refine qI ?_ ?_
         · omega)
      | (with_reducible refine qDT ?_ ?_
         · omega)
      | (with_reducible refine qDF ?_ ?_
         · omega)
      | (with_reducible refine qNT ?_ ?_
         · omega)
      | (with_reducible refine qNF ?_ ?_
         · omega)
      | (with_reducible refine qU8 ?_ ?_
         · omega)
      | (with_reducible refine qU32 ?_ ?_
         · omega)
      | (with_reducible refine qU64 ?_ ?_
         · omega)
      | (with_reducible refine qU16 ?_ ?_
         · omega)
  conv => whnf
  refine wins_use (m := m) (c := c) hm hc ?_
  repeat
    conv => whnf
    first
      | (with_reducible refine qS ?_ ?_ ?_
         · exact rfl
         · exact rfl)
      | with_reducible refine qB ?_
      | (with_reducible refine qI ?_ ?_
         · omega)
      | (with_reducible refine qDT ?_ ?_
         · omega)
      | (with_reducible refine qDF ?_ ?_
         · omega)
      | (with_reducible refine qNT ?_ ?_
         · omega)
      | (with_reducible refine qNF ?_ ?_
         · omega)
      | (with_reducible refine qU8 ?_ ?_
         · omega)
      | (with_reducible refine qU32 ?_ ?_
         · omega)
      | (with_reducible refine qU64 ?_ ?_
         · omega)
      | (with_reducible refine qU16 ?_ ?_
         · omega)
  conv => whnf
  refine wins_use (m := m) (c := c) hm hc ?_
  rw [aA, aA]
  repeat
    conv => whnf
    first
      | (with_reducible refine qS ?_ ?_ ?_
         · exact rfl
         · exact rfl)
      | with_reducible refine qB ?_
      | (with_reducible refine qI ?_ ?_
         · omega)
      | (with_reducible refine qDT ?_ ?_
         · omega)
      | (with_reducible refine qDF ?_ ?_
         · omega)
      | (with_reducible refine qNT ?_ ?_
         · omega)
      | (with_reducible refine qNF ?_ ?_
         · omega)
      | (with_reducible refine qU8 ?_ ?_
         · omega)
      | (with_reducible refine qU32 ?_ ?_
         · omega)
      | (with_reducible refine qU64 ?_ ?_
         · omega)
      | (with_reducible refine qU16 ?_ ?_
         · omega)
  conv => whnf
  refine wins_use (m := m) (c := c) hm hc ?_
  rw [aA]
  repeat
    conv => whnf
    first
      | (with_reducible refine qS ?_ ?_ ?_
         · exact rfl
         · exact rfl)
      | with_reducible refine qB ?_
      | (with_reducible refine qI ?_ ?_
         · omega)
      | (with_reducible refine qDT ?_ ?_
         · omega)
      | (with_reducible refine qDF ?_ ?_
         · omega)
      | (with_reducible refine qNT ?_ ?_
         · omega)
      | (with_reducible refine qNF ?_ ?_
         · omega)
      | (with_reducible refine qU8 ?_ ?_
         · omega)
      | (with_reducible refine qU32 ?_ ?_
         · omega)
      | (with_reducible refine qU64 ?_ ?_
         · omega)
      | (with_reducible refine qU16 ?_ ?_
         · omega)
  conv => whnf
  refine wins_use (m := m) (c := c) hm hc ?_
  rw [aA]
  repeat
    conv => whnf
    first
      | (with_reducible refine qS ?_ ?_ ?_
         · exact rfl
         · exact rfl)
      | with_reducible refine qB ?_
      | (with_reducible refine qI ?_ ?_
         · omega)
      | (with_reducible refine qDT ?_ ?_
         · omega)
      | (with_reducible refine qDF ?_ ?_
         · omega)
      | (with_reducible refine qNT ?_ ?_
         · omega)
      | (with_reducible refine qNF ?_ ?_
         · omega)
      | (with_reducible refine qU8 ?_ ?_
         · omega)
      | (with_reducible refine qU32 ?_ ?_
         · omega)
      | (with_reducible refine qU64 ?_ ?_
         · omega)
      | (with_reducible refine qU16 ?_ ?_
         · omega)
  conv => whnf
  refine busy_use (m := m) (c := c) hm hc ?_
  rw [aA]
  repeat
    conv => whnf
    first
      | (with_reducible refine qS ?_ ?_ ?_
         · exact rfl
         · exact rfl)
      | with_reducible refine qB ?_
      | (with_reducible refine qI ?_ ?_
         · omega)
      | (with_reducible refine qDT ?_ ?_
         · omega)
      | (with_reducible refine qDF ?_ ?_
         · omega)
      | (with_reducible refine qNT ?_ ?_
         · omega)
      | (with_reducible refine qNF ?_ ?_
         · omega)
      | (with_reducible refine qU8 ?_ ?_
         · omega)
      | (with_reducible refine qU32 ?_ ?_
         · omega)
      | (with_reducible refine qU64 ?_ ?_
         · omega)
      | (with_reducible refine qU16 ?_ ?_
         · omega)
  conv => whnf
  refine wins_use (m := m) (c := c) hm hc ?_
  rw [aA, k0]
  repeat
    conv => whnf
    first
      | (with_reducible refine qS ?_ ?_ ?_
         · exact rfl
         · exact rfl)
      | with_reducible refine qB ?_
      | (with_reducible refine qI ?_ ?_
         · omega)
      | (with_reducible refine qDT ?_ ?_
         · omega)
      | (with_reducible refine qDF ?_ ?_
         · omega)
      | (with_reducible refine qNT ?_ ?_
         · omega)
      | (with_reducible refine qNF ?_ ?_
         · omega)
      | (with_reducible refine qU8 ?_ ?_
         · omega)
      | (with_reducible refine qU32 ?_ ?_
         · omega)
      | (with_reducible refine qU64 ?_ ?_
         · omega)
      | (with_reducible refine qU16 ?_ ?_
         · omega)
  conv => whnf
  refine wins_use (m := m) (c := c) hm hc ?_
  rw [aA, k4]
  repeat
    conv => whnf
    first
      | (with_reducible refine qS ?_ ?_ ?_
         · exact rfl
         · exact rfl)
      | with_reducible refine qB ?_
      | (with_reducible refine qI ?_ ?_
         · omega)
      | (with_reducible refine qDT ?_ ?_
         · omega)
      | (with_reducible refine qDF ?_ ?_
         · omega)
      | (with_reducible refine qNT ?_ ?_
         · omega)
      | (with_reducible refine qNF ?_ ?_
         · omega)
      | (with_reducible refine qU8 ?_ ?_
         · omega)
      | (with_reducible refine qU32 ?_ ?_
         · omega)
      | (with_reducible refine qU64 ?_ ?_
         · omega)
      | (with_reducible refine qU16 ?_ ?_
         · omega)
  conv => whnf
  refine sends_use (m := m) (c := c) hm hc ?_
  rw [aA, sN]
  repeat
    conv => whnf
    first
      | (with_reducible refine qS ?_ ?_ ?_
         · exact rfl
         · exact rfl)
      | with_reducible refine qB ?_
      | (with_reducible refine qI ?_ ?_
         · omega)
      | (with_reducible refine qDT ?_ ?_
         · omega)
      | (with_reducible refine qDF ?_ ?_
         · omega)
      | (with_reducible refine qNT ?_ ?_
         · omega)
      | (with_reducible refine qNF ?_ ?_
         · omega)
      | (with_reducible refine qU8 ?_ ?_
         · omega)
      | (with_reducible refine qU32 ?_ ?_
         · omega)
      | (with_reducible refine qU64 ?_ ?_
         · omega)
      | (with_reducible refine qU16 ?_ ?_
         · omega)
  conv => whnf
  exact rfl
theorem cl_ok : ∃ cl : Cl, ClOk Try.prog cl ∧ ∀ D, OkAll pas D → cl F.law27_BoundSums [] (xsP 0 pas D) (hsP pas D) fun x _ => x = bv true := by
  refine ⟨clRunX 7 tt outsL27 tabL 3, clRunX_ok (d := 7) ttOk outsL27_ok tabL_ok 3, fun D hD => ?_⟩
  match D, hD with
  | [d0], hD =>
    obtain ⟨h0, _⟩ := hD
    obtain ⟨m, c, hm, hc, e0, e1⟩ := open_mat h0
    have hw := walk m c hm hc
    show clRunX 7 tt outsL27 tabL 3 20 [] (xP 0 (.agg matSh) d0 :: _) (hs matSh d0 ++ _) _
    rw [e0, e1]
    exact hw
theorem own' : ownKnob Try.prog.godebug = none := own
theorem lifted (os : Os) (started : os.Started) (H : Type) (enc : TypeId × Value → H) :
    ReturnsInHanded {} Try.checked os 20 .any (Rows.boundSumsSpec.pre6 enc Try.prog Try.f20 Rows.boundSumsRow.domain false) (Rows.boundSumsSpec.post enc Try.prog Try.f20 false true false false) := by
  refine returnsInHanded_of_change (C := Try.checked) own started (by kernel_rfl) Try.func20
    (ChangeSpec.witness6 (enc := enc) (C := Try.checked) false ⟨#[], #[.agg #[.int .i64 0, .int .i64 0, .int .i64 0, .int .i64 0, .int .i64 0, .int .i64 0, .int .i64 0, .int .u32 0, .slice none 0 0, .slice none 0 0, .slice none 0 0]], []⟩ 8 (by kernel_rfl) (by kernel_rfl) (by kernel_rfl) (by kernel_rfl)) ?_
  intro W base args ds gs before hval hW _ _
  obtain ⟨cl, hc, hw⟩ := cl_ok
  exact row_of (ps := pas) (by kernel_rfl) (by kernel_rfl) rfl rfl (fun ds h => by
    match ds, h with
    | [_], _ => rfl) hval hW hc hw
theorem closed : joinedFacts Try.prog 20 Try.f20 Rows.boundSumsSpec Rows.boundSumsRow = true := by
  simp only [joinedFacts, Bool.and_eq_true]
  repeat' apply And.intro
  all_goals first
    | with_reducible exact mayEnter_ok
    | with_reducible exact laid_ok
    | with_reducible exact rowed_ok
    | ((with_reducible refine beq_r lifts_ok ?_); rfl)
    | ((with_reducible refine beq_l make_ok ?_); kernel_rfl)
    | (as_aux_lemma => kernel_rfl)
theorem named : Try.prog.funcNamed Rows.boundSumsRow.func = some 20 := by kernel_rfl
theorem inst : Try.f20.isInstance Try.prog Rows.boundSumsRow.origin Rows.boundSumsRow.targs := of_decide_eq_true (by kernel_rfl)
theorem wrap : Try.f20.isWrapper Try.prog Rows.boundSumsRow.wrapper Rows.boundSumsRow.mainSum := by
  unfold Func.isWrapper; first | (rw [if_pos (by decide +kernel)]; kernel_rfl) | (rw [if_neg (by decide +kernel)]; exact ⟨rfl, rfl⟩)
theorem over : Rows.boundSumsRow.holds Try.pinned (OpenSpec.ofChange Rows.boundSumsSpec) :=
  OpenClaim.holds_of_wide 20 Try.f20 rfl rfl rfl rfl rfl rfl rfl ⟨rfl, rfl, rfl, rfl, rfl⟩ rfl rfl rfl rfl rfl named Try.func20 closed inst wrap
    (fun os started H enc _ => lifted os started H enc)
/-- The statement. -/
theorem proved : Rows.BoundSumsSaid := over
#print axioms proved
end Go.Proofs.Ytbdifadabipfiaa.boundSums
