/- PlanEnds: who may send may begin no later than a Step ahead of a window's end: true at every input; no conditions. -/
import Derived.Test.YtbdifadabipfiaaLaZ
import Derived.Test.YtbdifadabipfiaaCoY
namespace Go.Proofs.Ytbdifadabipfiaa.planEnds
open Go Go.Eng Go.Proofs Go.Proofs.Ytbdifadabipfiaa.Tb Go.Proofs.Ytbdifadabipfiaa.Co Go.Proofs.Ytbdifadabipfiaa.La Go.Pu
set_option maxRecDepth 100000
set_option maxHeartbeats 4000000
noncomputable abbrev tabL : List (FuncId × Eng.Fn) := [(F.law15_PlanEnds, fn.law15_PlanEnds u0), (F.law15_few, fn.law15_few u0)]
theorem tabL_ok {d : Nat} : TabOk d tabL tt := .cons (ok.law15_PlanEnds u0) (.cons (ok.law15_few u0) (TabOk.nil))
abbrev pas : List Pa := [.agg matSh, .one u8]
theorem walk (m : Mat) (c : Caps) (a : Int) (hm : m.Ok) (hc : capsOk m c) (ha : 0 ≤ a ∧ a ≤ 255) : clRunX 8 tt outsL15 tabL 3 F.law15_PlanEnds [] [matT m c 0 1 2, iv .u8 a] (matH m []) (fun x _ => x = bv true) := by
  have hnW := hm.nW
  have hnG := hm.nG
  conv => whnf
  refine true_use ?_
  repeat
    conv => whnf
    first
      | (with_reducible refine qS ?_ ?_ ?_
         · exact rfl
         · exact rfl)
      | with_reducible refine qB ?_
      | (with_reducible refine qI ?_ ?_
         · omega)
      | (with_reducible refine qDT ?_ ?_
         · omega)
      | (with_reducible refine qDF ?_ ?_
         · omega)
      | (with_reducible refine qNT ?_ ?_
         · omega)
      | (with_reducible refine qNF ?_ ?_
         · omega)
      | (with_reducible refine qU8 ?_ ?_
         · omega)
      | (with_reducible refine qU32 ?_ ?_
         · omega)
      | (with_reducible refine qU64 ?_ ?_
         · omega)
      | (with_reducible refine qU16 ?_ ?_
         · omega)
  conv => whnf
  refine checkR_use (m := m) (c := c) hm ?_
  repeat
    conv => whnf
    first
      | (with_reducible refine qS ?_ ?_ ?_
         · exact rfl
         · exact rfl)
      | with_reducible refine qB ?_
      | (with_reducible refine qI ?_ ?_
         · omega)
      | (with_reducible refine qDT ?_ ?_
         · omega)
      | (with_reducible refine qDF ?_ ?_
         · omega)
      | (with_reducible refine qNT ?_ ?_
         · omega)
      | (with_reducible refine qNF ?_ ?_
         · omega)
      | (with_reducible refine qU8 ?_ ?_
         · omega)
      | (with_reducible refine qU32 ?_ ?_
         · omega)
      | (with_reducible refine qU64 ?_ ?_
         · omega)
      | (with_reducible refine qU16 ?_ ?_
         · omega)
  conv => whnf
  refine cD (fun h1 => ?_) (fun h1 => ?_)
  rotate_left
  · repeat
      conv => whnf
      first
        | (with_reducible refine qS ?_ ?_ ?_
           · exact rfl
           · exact rfl)
        | with_reducible refine qB ?_
        | (with_reducible refine qI ?_ ?_
           · omega)
        | (with_reducible refine qDT ?_ ?_
           · omega)
        | (with_reducible refine qDF ?_ ?_
           · omega)
        | (with_reducible refine qNT ?_ ?_
           · omega)
        | (with_reducible refine qNF ?_ ?_
           · omega)
        | (with_reducible refine qU8 ?_ ?_
           · omega)
        | (with_reducible refine qU32 ?_ ?_
           · omega)
        | (with_reducible refine qU64 ?_ ?_
           · omega)
        | (with_reducible refine qU16 ?_ ?_
           · omega)
    conv => whnf
    exact rfl
  conv => whnf
  refine cD (fun h2 => ?_) (fun h2 => ?_)
  rotate_left
  · repeat
      conv => whnf
      first
        | (with_reducible refine qS ?_ ?_ ?_
           · exact rfl
           · exact rfl)
        | with_reducible refine qB ?_
        | (with_reducible refine qI ?_ ?_
           · omega)
        | (with_reducible refine qDT ?_ ?_
           · omega)
        | (with_reducible refine qDF ?_ ?_
           · omega)
        | (with_reducible refine qNT ?_ ?_
           · omega)
        | (with_reducible refine qNF ?_ ?_
           · omega)
        | (with_reducible refine qU8 ?_ ?_
           · omega)
        | (with_reducible refine qU32 ?_ ?_
           · omega)
        | (with_reducible refine qU64 ?_ ?_
           · omega)
        | (with_reducible refine qU16 ?_ ?_
           · omega)
    conv => whnf
    exact rfl
  conv => whnf
  refine cN (fun h3 => ?_) (fun h3 => ?_)
  · repeat
      conv => whnf
      first
        | (with_reducible refine qS ?_ ?_ ?_
           · exact rfl
           · exact rfl)
        | with_reducible refine qB ?_
        | (with_reducible refine qI ?_ ?_
           · omega)
        | (with_reducible refine qDT ?_ ?_
           · omega)
        | (with_reducible refine qDF ?_ ?_
           · omega)
        | (with_reducible refine qNT ?_ ?_
           · omega)
        | (with_reducible refine qNF ?_ ?_
           · omega)
        | (with_reducible refine qU8 ?_ ?_
           · omega)
        | (with_reducible refine qU32 ?_ ?_
           · omega)
        | (with_reducible refine qU64 ?_ ?_
           · omega)
        | (with_reducible refine qU16 ?_ ?_
           · omega)
    conv => whnf
    exact rfl
  by_cases h : (chk m).2 = 0
  rotate_left
  · repeat
      conv => whnf
      first
        | (with_reducible refine qS ?_ ?_ ?_
           · exact rfl
           · exact rfl)
        | with_reducible refine qB ?_
        | (with_reducible refine qI ?_ ?_
           · omega)
        | (with_reducible refine qDT ?_ ?_
           · omega)
        | (with_reducible refine qDF ?_ ?_
           · omega)
        | (with_reducible refine qNT ?_ ?_
           · omega)
        | (with_reducible refine qNF ?_ ?_
           · omega)
        | (with_reducible refine qU8 ?_ ?_
           · omega)
        | (with_reducible refine qU32 ?_ ?_
           · omega)
        | (with_reducible refine qU64 ?_ ?_
           · omega)
        | (with_reducible refine qU16 ?_ ?_
           · omega)
    conv => whnf
    exact rfl
  have hP := pass_of h
  have hi := hP.is
  have hl := hi.head
  have hn := hi.size
  unfold headP at hl
  unfold sizeP at hn
  have hcy := hP.cyc8
  have hx : 0 ≤ a.tmod m.nodes ∧ a.tmod m.nodes ≤ 255 := by
    rw [Int.tmod_eq_emod_of_nonneg ha.1]
    have := Int.emod_lt_of_pos a (show 0 < m.nodes by omega)
    have := Int.emod_nonneg a (show m.nodes ≠ 0 by omega)
    omega
  repeat
    conv => whnf
    first
      | (with_reducible refine qS ?_ ?_ ?_
         · exact rfl
         · exact rfl)
      | with_reducible refine qB ?_
      | (with_reducible refine qI ?_ ?_
         · omega)
      | (with_reducible refine qDT ?_ ?_
         · omega)
      | (with_reducible refine qDF ?_ ?_
         · omega)
      | (with_reducible refine qNT ?_ ?_
         · omega)
      | (with_reducible refine qNF ?_ ?_
         · omega)
      | (with_reducible refine qU8 ?_ ?_
         · omega)
      | (with_reducible refine qU32 ?_ ?_
         · omega)
      | (with_reducible refine qU64 ?_ ?_
         · omega)
      | (with_reducible refine qU16 ?_ ?_
         · omega)
  conv => whnf
  generalize a.tmod m.nodes = who at *
  obtain ⟨P, hPF⟩ : ∃ P, planF m who = P := ⟨_, rfl⟩
  obtain ⟨n, hLn⟩ : ∃ n, (rowL0 m who).length = n := ⟨_, rfl⟩
  have hn19 := rowL0_len m who
  rw [hLn] at hn19
  have mem : ∀ q, q < n → P q ∈ rowL0 m who := fun q hq => by rw [← hPF]; exact plan_mem (by omega)
  refine plan_at2 (m := m) (c := c) (who := who) [0, 1, 2] n P (fun cap => slT 5 n cap false) (fun cap => matH m [boxM m c, boxM m c, rowT P n cap]) hm hc ⟨by omega, by omega⟩ h hLn hPF rfl ?_ ?_ (fun _ => rfl) (fun _ => rfl) (fun cap hcap => ?_)
  · repeat' (first
      | exact leT_empty
      | exact trivial
      | exact rfl
      | exact .inl rfl
      | exact .inr rfl
      | exact .inr ⟨rfl, rfl⟩
      | exact Nat.le_refl _
      | exact Nat.zero_le _
      | exact (fun _ _ => rfl)
      | assumption
      | refine And.intro ?_ ?_
      | (intro i hi; exact absurd hi (Nat.not_lt_zero i))
      | (intro i hi; have hi := Nat.lt_of_lt_of_le hi (show _ ≤ 1 from Nat.le_refl 1); obtain rfl : i = 0 := (by omega); rfl)
      | (intro i hi; have hi := Nat.lt_of_lt_of_le hi (show _ ≤ 2 from Nat.le_refl 2); rcases (show i = 0 ∨ i = 1 by omega) with rfl | rfl <;> rfl)
      | (intro i hi; have hi := Nat.lt_of_lt_of_le hi (show _ ≤ 3 from Nat.le_refl 3); rcases (show i = 0 ∨ i = 1 ∨ i = 2 by omega) with rfl | rfl | rfl <;> rfl))
  · repeat' (first
      | exact leT_empty
      | exact trivial
      | exact rfl
      | exact .inl rfl
      | exact .inr rfl
      | exact .inr ⟨rfl, rfl⟩
      | exact Nat.le_refl _
      | exact Nat.zero_le _
      | exact (fun _ _ => rfl)
      | assumption
      | refine And.intro ?_ ?_
      | (intro i hi; exact absurd hi (Nat.not_lt_zero i))
      | (intro i hi; have hi := Nat.lt_of_lt_of_le hi (show _ ≤ 1 from Nat.le_refl 1); obtain rfl : i = 0 := (by omega); rfl)
      | (intro i hi; have hi := Nat.lt_of_lt_of_le hi (show _ ≤ 2 from Nat.le_refl 2); rcases (show i = 0 ∨ i = 1 by omega) with rfl | rfl <;> rfl)
      | (intro i hi; have hi := Nat.lt_of_lt_of_le hi (show _ ≤ 3 from Nat.le_refl 3); rcases (show i = 0 ∨ i = 1 ∨ i = 2 by omega) with rfl | rfl | rfl <;> rfl))
  repeat
    conv => whnf
    first
      | (with_reducible refine qS ?_ ?_ ?_
         · exact rfl
         · exact rfl)
      | with_reducible refine qB ?_
      | (with_reducible refine qI ?_ ?_
         · omega)
      | (with_reducible refine qDT ?_ ?_
         · omega)
      | (with_reducible refine qDF ?_ ?_
         · omega)
      | (with_reducible refine qNT ?_ ?_
         · omega)
      | (with_reducible refine qNF ?_ ?_
         · omega)
      | (with_reducible refine qU8 ?_ ?_
         · omega)
      | (with_reducible refine qU32 ?_ ?_
         · omega)
      | (with_reducible refine qU64 ?_ ?_
         · omega)
      | (with_reducible refine qU16 ?_ ?_
         · omega)
  conv => whnf
  have hs := step_bd (m := m)
  refine step_use (m := m) (c := c) hm ?_
  repeat
    conv => whnf
    first
      | (with_reducible refine qS ?_ ?_ ?_
         · exact rfl
         · exact rfl)
      | with_reducible refine qB ?_
      | (with_reducible refine qI ?_ ?_
         · omega)
      | (with_reducible refine qDT ?_ ?_
         · omega)
      | (with_reducible refine qDF ?_ ?_
         · omega)
      | (with_reducible refine qNT ?_ ?_
         · omega)
      | (with_reducible refine qNF ?_ ?_
         · omega)
      | (with_reducible refine qU8 ?_ ?_
         · omega)
      | (with_reducible refine qU32 ?_ ?_
         · omega)
      | (with_reducible refine qU64 ?_ ?_
         · omega)
      | (with_reducible refine qU16 ?_ ?_
         · omega)
  conv => whnf
  refine .rd (fun i : Nat => i ≤ n) (fun i => [(9, iv .i64 i)]) (fun i => n - i) 0 (Nat.zero_le _) ?_ (fun i hin => ?_)
  · conv => whnf
    refine Le.id rfl ?_ ?_
    all_goals (repeat' (first
       | exact leT_empty
       | exact trivial
       | exact rfl
       | exact .inl rfl
       | exact .inr rfl
       | exact .inr ⟨rfl, rfl⟩
       | exact Nat.le_refl _
       | exact Nat.zero_le _
       | exact (fun _ _ => rfl)
       | assumption
       | refine And.intro ?_ ?_
       | (intro i hi; exact absurd hi (Nat.not_lt_zero i))
       | (intro i hi; have hi := Nat.lt_of_lt_of_le hi (show _ ≤ 1 from Nat.le_refl 1); obtain rfl : i = 0 := (by omega); rfl)
       | (intro i hi; have hi := Nat.lt_of_lt_of_le hi (show _ ≤ 2 from Nat.le_refl 2); rcases (show i = 0 ∨ i = 1 by omega) with rfl | rfl <;> rfl)
       | (intro i hi; have hi := Nat.lt_of_lt_of_le hi (show _ ≤ 3 from Nat.le_refl 3); rcases (show i = 0 ∨ i = 1 ∨ i = 2 by omega) with rfl | rfl | rfl <;> rfl)))
  conv => whnf
  refine cD (fun h5 => ?_) (fun h5 => ?_)
  rotate_left
  · repeat
      conv => whnf
      first
        | (with_reducible refine qS ?_ ?_ ?_
           · exact rfl
           · exact rfl)
        | with_reducible refine qB ?_
        | (with_reducible refine qI ?_ ?_
           · omega)
        | (with_reducible refine qDT ?_ ?_
           · omega)
        | (with_reducible refine qDF ?_ ?_
           · omega)
        | (with_reducible refine qNT ?_ ?_
           · omega)
        | (with_reducible refine qNF ?_ ?_
           · omega)
        | (with_reducible refine qU8 ?_ ?_
           · omega)
        | (with_reducible refine qU32 ?_ ?_
           · omega)
        | (with_reducible refine qU64 ?_ ?_
           · omega)
        | (with_reducible refine qU16 ?_ ?_
           · omega)
    conv => whnf
    exact rfl
  have hmem := mem_row (mem i (by omega))
  repeat
    conv => whnf
    first
      | (with_reducible refine qS ?_ ?_ ?_
         · exact rfl
         · exact rfl)
      | with_reducible refine qB ?_
      | (with_reducible refine qI ?_ ?_
         · omega)
      | (with_reducible refine qDT ?_ ?_
         · omega)
      | (with_reducible refine qDF ?_ ?_
         · omega)
      | (with_reducible refine qNT ?_ ?_
         · omega)
      | (with_reducible refine qNF ?_ ?_
         · omega)
      | (with_reducible refine qU8 ?_ ?_
         · omega)
      | (with_reducible refine qU32 ?_ ?_
         · omega)
      | (with_reducible refine qU64 ?_ ?_
         · omega)
      | (with_reducible refine qU16 ?_ ?_
         · omega)
  conv => whnf
  rw [show 0 + ((i : Int)).toNat = i by omega]
  rcases hmem with ⟨i0, hi0, hk3, et⟩ | ⟨_, et⟩ | ⟨_, et⟩ | et
  rotate_left
  · rw [et]
    repeat
      conv => whnf
      first
        | (with_reducible refine qS ?_ ?_ ?_
           · exact rfl
           · exact rfl)
        | with_reducible refine qB ?_
        | (with_reducible refine qI ?_ ?_
           · omega)
        | (with_reducible refine qDT ?_ ?_
           · omega)
        | (with_reducible refine qDF ?_ ?_
           · omega)
        | (with_reducible refine qNT ?_ ?_
           · omega)
        | (with_reducible refine qNF ?_ ?_
           · omega)
        | (with_reducible refine qU8 ?_ ?_
           · omega)
        | (with_reducible refine qU32 ?_ ?_
           · omega)
        | (with_reducible refine qU64 ?_ ?_
           · omega)
        | (with_reducible refine qU16 ?_ ?_
           · omega)
    conv => whnf
    refine ⟨i + 1, ⟨by omega, by omega⟩, ?_⟩
    conv => whnf
    refine Le.id rfl ?_ ?_
    all_goals (repeat' (first
       | exact leT_empty
       | exact trivial
       | exact rfl
       | exact .inl rfl
       | exact .inr rfl
       | exact .inr ⟨rfl, rfl⟩
       | exact Nat.le_refl _
       | exact Nat.zero_le _
       | exact (fun _ _ => rfl)
       | assumption
       | refine And.intro ?_ ?_
       | (intro i hi; exact absurd hi (Nat.not_lt_zero i))
       | (intro i hi; have hi := Nat.lt_of_lt_of_le hi (show _ ≤ 1 from Nat.le_refl 1); obtain rfl : i = 0 := (by omega); rfl)
       | (intro i hi; have hi := Nat.lt_of_lt_of_le hi (show _ ≤ 2 from Nat.le_refl 2); rcases (show i = 0 ∨ i = 1 by omega) with rfl | rfl <;> rfl)
       | (intro i hi; have hi := Nat.lt_of_lt_of_le hi (show _ ≤ 3 from Nat.le_refl 3); rcases (show i = 0 ∨ i = 1 ∨ i = 2 by omega) with rfl | rfl | rfl <;> rfl)))
  · rw [et]
    repeat
      conv => whnf
      first
        | (with_reducible refine qS ?_ ?_ ?_
           · exact rfl
           · exact rfl)
        | with_reducible refine qB ?_
        | (with_reducible refine qI ?_ ?_
           · omega)
        | (with_reducible refine qDT ?_ ?_
           · omega)
        | (with_reducible refine qDF ?_ ?_
           · omega)
        | (with_reducible refine qNT ?_ ?_
           · omega)
        | (with_reducible refine qNF ?_ ?_
           · omega)
        | (with_reducible refine qU8 ?_ ?_
           · omega)
        | (with_reducible refine qU32 ?_ ?_
           · omega)
        | (with_reducible refine qU64 ?_ ?_
           · omega)
        | (with_reducible refine qU16 ?_ ?_
           · omega)
    conv => whnf
    refine ⟨i + 1, ⟨by omega, by omega⟩, ?_⟩
    conv => whnf
    refine Le.id rfl ?_ ?_
    all_goals (repeat' (first
       | exact leT_empty
       | exact trivial
       | exact rfl
       | exact .inl rfl
       | exact .inr rfl
       | exact .inr ⟨rfl, rfl⟩
       | exact Nat.le_refl _
       | exact Nat.zero_le _
       | exact (fun _ _ => rfl)
       | assumption
       | refine And.intro ?_ ?_
       | (intro i hi; exact absurd hi (Nat.not_lt_zero i))
       | (intro i hi; have hi := Nat.lt_of_lt_of_le hi (show _ ≤ 1 from Nat.le_refl 1); obtain rfl : i = 0 := (by omega); rfl)
       | (intro i hi; have hi := Nat.lt_of_lt_of_le hi (show _ ≤ 2 from Nat.le_refl 2); rcases (show i = 0 ∨ i = 1 by omega) with rfl | rfl <;> rfl)
       | (intro i hi; have hi := Nat.lt_of_lt_of_le hi (show _ ≤ 3 from Nat.le_refl 3); rcases (show i = 0 ∨ i = 1 ∨ i = 2 by omega) with rfl | rfl | rfl <;> rfl)))
  · rw [et]
    repeat
      conv => whnf
      first
        | (with_reducible refine qS ?_ ?_ ?_
           · exact rfl
           · exact rfl)
        | with_reducible refine qB ?_
        | (with_reducible refine qI ?_ ?_
           · omega)
        | (with_reducible refine qDT ?_ ?_
           · omega)
        | (with_reducible refine qDF ?_ ?_
           · omega)
        | (with_reducible refine qNT ?_ ?_
           · omega)
        | (with_reducible refine qNF ?_ ?_
           · omega)
        | (with_reducible refine qU8 ?_ ?_
           · omega)
        | (with_reducible refine qU32 ?_ ?_
           · omega)
        | (with_reducible refine qU64 ?_ ?_
           · omega)
        | (with_reducible refine qU16 ?_ ?_
           · omega)
    conv => whnf
    refine ⟨i + 1, ⟨by omega, by omega⟩, ?_⟩
    conv => whnf
    refine Le.id rfl ?_ ?_
    all_goals (repeat' (first
       | exact leT_empty
       | exact trivial
       | exact rfl
       | exact .inl rfl
       | exact .inr rfl
       | exact .inr ⟨rfl, rfl⟩
       | exact Nat.le_refl _
       | exact Nat.zero_le _
       | exact (fun _ _ => rfl)
       | assumption
       | refine And.intro ?_ ?_
       | (intro i hi; exact absurd hi (Nat.not_lt_zero i))
       | (intro i hi; have hi := Nat.lt_of_lt_of_le hi (show _ ≤ 1 from Nat.le_refl 1); obtain rfl : i = 0 := (by omega); rfl)
       | (intro i hi; have hi := Nat.lt_of_lt_of_le hi (show _ ≤ 2 from Nat.le_refl 2); rcases (show i = 0 ∨ i = 1 by omega) with rfl | rfl <;> rfl)
       | (intro i hi; have hi := Nat.lt_of_lt_of_le hi (show _ ≤ 3 from Nat.le_refl 3); rcases (show i = 0 ∨ i = 1 ∨ i = 2 by omega) with rfl | rfl | rfl <;> rfl)))
  have hpw := hP.w hi0
  have hw0 := hpw.1
  have hen := hpw.2.2.2.1 hk3
  unfold winP at hw0
  by_cases c2 : (m.W i0).kind = 2
  · have et : P i = ⟨2, (m.W i0).st, (m.W i0).cyc, (m.W i0).rep, (m.W i0).msg, (m.W i0).en - Pu.step m⟩ := by rw [et]; unfold trgW; rw [if_pos c2]
    have f1 : (P i).kind = 2 := by rw [et]
    have f2 : (P i).at_ = (m.W i0).st := by rw [et]
    have f3 : (P i).cyc = (m.W i0).cyc := by rw [et]
    have f4 : (P i).rep = (m.W i0).rep := by rw [et]
    have f5 : (P i).til = (m.W i0).en - Pu.step m := by rw [et]
    generalize P i = t at *
    repeat
      conv => whnf
      first
        | (with_reducible refine qS ?_ ?_ ?_
           · exact rfl
           · exact rfl)
        | with_reducible refine qB ?_
        | (with_reducible refine qI ?_ ?_
           · omega)
        | (with_reducible refine qDT ?_ ?_
           · omega)
        | (with_reducible refine qDF ?_ ?_
           · omega)
        | (with_reducible refine qNT ?_ ?_
           · omega)
        | (with_reducible refine qNF ?_ ?_
           · omega)
        | (with_reducible refine qU8 ?_ ?_
           · omega)
        | (with_reducible refine qU32 ?_ ?_
           · omega)
        | (with_reducible refine qU64 ?_ ?_
           · omega)
        | (with_reducible refine qU16 ?_ ?_
           · omega)
    conv => whnf
    refine .rd (fun p : Nat × Bool => p.1 ≤ m.nW ∧ (i0 < p.1 → p.2 = true)) (fun p => [(11, bv p.2), (12, iv .i64 p.1)]) (fun p => m.nW - p.1) (0, false) ⟨Nat.zero_le _, fun h => absurd h (Nat.not_lt_zero _)⟩ ?_ (fun p ⟨hk, hb⟩ => ?_)
    · conv => whnf
      refine Le.id rfl ?_ ?_
      all_goals (repeat' (first
         | exact leT_empty
         | exact trivial
         | exact rfl
         | exact .inl rfl
         | exact .inr rfl
         | exact .inr ⟨rfl, rfl⟩
         | exact Nat.le_refl _
         | exact Nat.zero_le _
         | exact (fun _ _ => rfl)
         | assumption
         | refine And.intro ?_ ?_
         | (intro i hi; exact absurd hi (Nat.not_lt_zero i))
         | (intro i hi; have hi := Nat.lt_of_lt_of_le hi (show _ ≤ 1 from Nat.le_refl 1); obtain rfl : i = 0 := (by omega); rfl)
         | (intro i hi; have hi := Nat.lt_of_lt_of_le hi (show _ ≤ 2 from Nat.le_refl 2); rcases (show i = 0 ∨ i = 1 by omega) with rfl | rfl <;> rfl)
         | (intro i hi; have hi := Nat.lt_of_lt_of_le hi (show _ ≤ 3 from Nat.le_refl 3); rcases (show i = 0 ∨ i = 1 ∨ i = 2 by omega) with rfl | rfl | rfl <;> rfl)))
    generalize p.1 = k at *
    generalize p.2 = fb at *
    conv => whnf
    refine cD (fun h6 => ?_) (fun h6 => ?_)
    rotate_left
    · obtain rfl := hb (by omega)
      repeat
        conv => whnf
        first
          | (with_reducible refine qS ?_ ?_ ?_
             · exact rfl
             · exact rfl)
          | with_reducible refine qB ?_
          | (with_reducible refine qI ?_ ?_
             · omega)
          | (with_reducible refine qDT ?_ ?_
             · omega)
          | (with_reducible refine qDF ?_ ?_
             · omega)
          | (with_reducible refine qNT ?_ ?_
             · omega)
          | (with_reducible refine qNF ?_ ?_
             · omega)
          | (with_reducible refine qU8 ?_ ?_
             · omega)
          | (with_reducible refine qU32 ?_ ?_
             · omega)
          | (with_reducible refine qU64 ?_ ?_
             · omega)
          | (with_reducible refine qU16 ?_ ?_
             · omega)
      conv => whnf
      refine ⟨i + 1, ⟨by omega, by omega⟩, ?_⟩
      conv => whnf
      refine Le.id rfl ?_ ?_
      all_goals (repeat' (first
         | exact leT_empty
         | exact trivial
         | exact rfl
         | exact .inl rfl
         | exact .inr rfl
         | exact .inr ⟨rfl, rfl⟩
         | exact Nat.le_refl _
         | exact Nat.zero_le _
         | exact (fun _ _ => rfl)
         | assumption
         | refine And.intro ?_ ?_
         | (intro i hi; exact absurd hi (Nat.not_lt_zero i))
         | (intro i hi; have hi := Nat.lt_of_lt_of_le hi (show _ ≤ 1 from Nat.le_refl 1); obtain rfl : i = 0 := (by omega); rfl)
         | (intro i hi; have hi := Nat.lt_of_lt_of_le hi (show _ ≤ 2 from Nat.le_refl 2); rcases (show i = 0 ∨ i = 1 by omega) with rfl | rfl <;> rfl)
         | (intro i hi; have hi := Nat.lt_of_lt_of_le hi (show _ ≤ 3 from Nat.le_refl 3); rcases (show i = 0 ∨ i = 1 ∨ i = 2 by omega) with rfl | rfl | rfl <;> rfl)))
    cases fb with
    | true =>
      repeat
        conv => whnf
        first
          | (with_reducible refine qS ?_ ?_ ?_
             · exact rfl
             · exact rfl)
          | with_reducible refine qB ?_
          | (with_reducible refine qI ?_ ?_
             · omega)
          | (with_reducible refine qDT ?_ ?_
             · omega)
          | (with_reducible refine qDF ?_ ?_
             · omega)
          | (with_reducible refine qNT ?_ ?_
             · omega)
          | (with_reducible refine qNF ?_ ?_
             · omega)
          | (with_reducible refine qU8 ?_ ?_
             · omega)
          | (with_reducible refine qU32 ?_ ?_
             · omega)
          | (with_reducible refine qU64 ?_ ?_
             · omega)
          | (with_reducible refine qU16 ?_ ?_
             · omega)
      conv => whnf
      try rw [zi k]
      repeat
        conv => whnf
        first
          | (with_reducible refine qS ?_ ?_ ?_
             · exact rfl
             · exact rfl)
          | with_reducible refine qB ?_
          | (with_reducible refine qI ?_ ?_
             · omega)
          | (with_reducible refine qDT ?_ ?_
             · omega)
          | (with_reducible refine qDF ?_ ?_
             · omega)
          | (with_reducible refine qNT ?_ ?_
             · omega)
          | (with_reducible refine qNF ?_ ?_
             · omega)
          | (with_reducible refine qU8 ?_ ?_
             · omega)
          | (with_reducible refine qU32 ?_ ?_
             · omega)
          | (with_reducible refine qU64 ?_ ?_
             · omega)
          | (with_reducible refine qU16 ?_ ?_
             · omega)
      conv => whnf
      refine ⟨(k + 1, true), ⟨⟨by show k + 1 ≤ m.nW; omega, fun _ => rfl⟩, by show m.nW - (k + 1) < m.nW - k; omega⟩, ?_⟩
      conv => whnf
      refine Le.id rfl ?_ ?_
      all_goals (repeat' (first
         | exact leT_empty
         | exact trivial
         | exact rfl
         | exact .inl rfl
         | exact .inr rfl
         | exact .inr ⟨rfl, rfl⟩
         | exact Nat.le_refl _
         | exact Nat.zero_le _
         | exact (fun _ _ => rfl)
         | assumption
         | refine And.intro ?_ ?_
         | (intro i hi; exact absurd hi (Nat.not_lt_zero i))
         | (intro i hi; have hi := Nat.lt_of_lt_of_le hi (show _ ≤ 1 from Nat.le_refl 1); obtain rfl : i = 0 := (by omega); rfl)
         | (intro i hi; have hi := Nat.lt_of_lt_of_le hi (show _ ≤ 2 from Nat.le_refl 2); rcases (show i = 0 ∨ i = 1 by omega) with rfl | rfl <;> rfl)
         | (intro i hi; have hi := Nat.lt_of_lt_of_le hi (show _ ≤ 3 from Nat.le_refl 3); rcases (show i = 0 ∨ i = 1 ∨ i = 2 by omega) with rfl | rfl | rfl <;> rfl)))
    | false =>
      have hk0 : ¬ i0 < k := fun h => by have := hb h; cases this
      by_cases hki : k = i0
      · subst hki
        repeat
          conv => whnf
          first
            | (with_reducible refine qS ?_ ?_ ?_
               · exact rfl
               · exact rfl)
            | with_reducible refine qB ?_
            | (with_reducible refine qI ?_ ?_
               · omega)
            | (with_reducible refine qDT ?_ ?_
               · omega)
            | (with_reducible refine qDF ?_ ?_
               · omega)
            | (with_reducible refine qNT ?_ ?_
               · omega)
            | (with_reducible refine qNF ?_ ?_
               · omega)
            | (with_reducible refine qU8 ?_ ?_
               · omega)
            | (with_reducible refine qU32 ?_ ?_
               · omega)
            | (with_reducible refine qU64 ?_ ?_
               · omega)
            | (with_reducible refine qU16 ?_ ?_
               · omega)
        conv => whnf
        try rw [zi k]
        repeat
          conv => whnf
          first
            | (with_reducible refine qS ?_ ?_ ?_
               · exact rfl
               · exact rfl)
            | with_reducible refine qB ?_
            | (with_reducible refine qI ?_ ?_
               · omega)
            | (with_reducible refine qDT ?_ ?_
               · omega)
            | (with_reducible refine qDF ?_ ?_
               · omega)
            | (with_reducible refine qNT ?_ ?_
               · omega)
            | (with_reducible refine qNF ?_ ?_
               · omega)
            | (with_reducible refine qU8 ?_ ?_
               · omega)
            | (with_reducible refine qU32 ?_ ?_
               · omega)
            | (with_reducible refine qU64 ?_ ?_
               · omega)
            | (with_reducible refine qU16 ?_ ?_
               · omega)
        conv => whnf
        rw [show decide (t.til + Pu.step m = (m.W k).en) = true from decide_eq_true (by omega)]
        refine ⟨(k + 1, true), ⟨⟨by show k + 1 ≤ m.nW; omega, fun _ => rfl⟩, by show m.nW - (k + 1) < m.nW - k; omega⟩, ?_⟩
        conv => whnf
        refine Le.id rfl ?_ ?_
        all_goals (repeat' (first
           | exact leT_empty
           | exact trivial
           | exact rfl
           | exact .inl rfl
           | exact .inr rfl
           | exact .inr ⟨rfl, rfl⟩
           | exact Nat.le_refl _
           | exact Nat.zero_le _
           | exact (fun _ _ => rfl)
           | assumption
           | refine And.intro ?_ ?_
           | (intro i hi; exact absurd hi (Nat.not_lt_zero i))
           | (intro i hi; have hi := Nat.lt_of_lt_of_le hi (show _ ≤ 1 from Nat.le_refl 1); obtain rfl : i = 0 := (by omega); rfl)
           | (intro i hi; have hi := Nat.lt_of_lt_of_le hi (show _ ≤ 2 from Nat.le_refl 2); rcases (show i = 0 ∨ i = 1 by omega) with rfl | rfl <;> rfl)
           | (intro i hi; have hi := Nat.lt_of_lt_of_le hi (show _ ≤ 3 from Nat.le_refl 3); rcases (show i = 0 ∨ i = 1 ∨ i = 2 by omega) with rfl | rfl | rfl <;> rfl)))
      have nx : ∀ b : Bool, i0 < k + 1 → b = true := fun _ h => by omega
      repeat
        conv => whnf
        first
          | (with_reducible refine qS ?_ ?_ ?_
             · exact rfl
             · exact rfl)
          | with_reducible refine qB ?_
          | (with_reducible refine qI ?_ ?_
             · omega)
          | (with_reducible refine qDT ?_ ?_
             · omega)
          | (with_reducible refine qDF ?_ ?_
             · omega)
          | (with_reducible refine qNT ?_ ?_
             · omega)
          | (with_reducible refine qNF ?_ ?_
             · omega)
          | (with_reducible refine qU8 ?_ ?_
             · omega)
          | (with_reducible refine qU32 ?_ ?_
             · omega)
          | (with_reducible refine qU64 ?_ ?_
             · omega)
          | (with_reducible refine qU16 ?_ ?_
             · omega)
      conv => whnf
      try rw [zi k]
      repeat
        conv => whnf
        first
          | (with_reducible refine qS ?_ ?_ ?_
             · exact rfl
             · exact rfl)
          | with_reducible refine qB ?_
          | (with_reducible refine qI ?_ ?_
             · omega)
          | (with_reducible refine qDT ?_ ?_
             · omega)
          | (with_reducible refine qDF ?_ ?_
             · omega)
          | (with_reducible refine qNT ?_ ?_
             · omega)
          | (with_reducible refine qNF ?_ ?_
             · omega)
          | (with_reducible refine qU8 ?_ ?_
             · omega)
          | (with_reducible refine qU32 ?_ ?_
             · omega)
          | (with_reducible refine qU64 ?_ ?_
             · omega)
          | (with_reducible refine qU16 ?_ ?_
             · omega)
      conv => whnf
      refine cD (fun g1 => ?_) (fun g1 => ?_)
      rotate_left
      · repeat
          conv => whnf
          first
            | (with_reducible refine qS ?_ ?_ ?_
               · exact rfl
               · exact rfl)
            | with_reducible refine qB ?_
            | (with_reducible refine qI ?_ ?_
               · omega)
            | (with_reducible refine qDT ?_ ?_
               · omega)
            | (with_reducible refine qDF ?_ ?_
               · omega)
            | (with_reducible refine qNT ?_ ?_
               · omega)
            | (with_reducible refine qNF ?_ ?_
               · omega)
            | (with_reducible refine qU8 ?_ ?_
               · omega)
            | (with_reducible refine qU32 ?_ ?_
               · omega)
            | (with_reducible refine qU64 ?_ ?_
               · omega)
            | (with_reducible refine qU16 ?_ ?_
               · omega)
        conv => whnf
        refine ⟨(k + 1, false), ⟨⟨by show k + 1 ≤ m.nW; omega, nx false⟩, by show m.nW - (k + 1) < m.nW - k; omega⟩, ?_⟩
        conv => whnf
        refine Le.id rfl ?_ ?_
        all_goals (repeat' (first
           | exact leT_empty
           | exact trivial
           | exact rfl
           | exact .inl rfl
           | exact .inr rfl
           | exact .inr ⟨rfl, rfl⟩
           | exact Nat.le_refl _
           | exact Nat.zero_le _
           | exact (fun _ _ => rfl)
           | assumption
           | refine And.intro ?_ ?_
           | (intro i hi; exact absurd hi (Nat.not_lt_zero i))
           | (intro i hi; have hi := Nat.lt_of_lt_of_le hi (show _ ≤ 1 from Nat.le_refl 1); obtain rfl : i = 0 := (by omega); rfl)
           | (intro i hi; have hi := Nat.lt_of_lt_of_le hi (show _ ≤ 2 from Nat.le_refl 2); rcases (show i = 0 ∨ i = 1 by omega) with rfl | rfl <;> rfl)
           | (intro i hi; have hi := Nat.lt_of_lt_of_le hi (show _ ≤ 3 from Nat.le_refl 3); rcases (show i = 0 ∨ i = 1 ∨ i = 2 by omega) with rfl | rfl | rfl <;> rfl)))
      repeat
        conv => whnf
        first
          | (with_reducible refine qS ?_ ?_ ?_
             · exact rfl
             · exact rfl)
          | with_reducible refine qB ?_
          | (with_reducible refine qI ?_ ?_
             · omega)
          | (with_reducible refine qDT ?_ ?_
             · omega)
          | (with_reducible refine qDF ?_ ?_
             · omega)
          | (with_reducible refine qNT ?_ ?_
             · omega)
          | (with_reducible refine qNF ?_ ?_
             · omega)
          | (with_reducible refine qU8 ?_ ?_
             · omega)
          | (with_reducible refine qU32 ?_ ?_
             · omega)
          | (with_reducible refine qU64 ?_ ?_
             · omega)
          | (with_reducible refine qU16 ?_ ?_
             · omega)
      conv => whnf
      refine cD (fun g2 => ?_) (fun g2 => ?_)
      rotate_left
      · repeat
          conv => whnf
          first
            | (with_reducible refine qS ?_ ?_ ?_
               · exact rfl
               · exact rfl)
            | with_reducible refine qB ?_
            | (with_reducible refine qI ?_ ?_
               · omega)
            | (with_reducible refine qDT ?_ ?_
               · omega)
            | (with_reducible refine qDF ?_ ?_
               · omega)
            | (with_reducible refine qNT ?_ ?_
               · omega)
            | (with_reducible refine qNF ?_ ?_
               · omega)
            | (with_reducible refine qU8 ?_ ?_
               · omega)
            | (with_reducible refine qU32 ?_ ?_
               · omega)
            | (with_reducible refine qU64 ?_ ?_
               · omega)
            | (with_reducible refine qU16 ?_ ?_
               · omega)
        conv => whnf
        refine ⟨(k + 1, false), ⟨⟨by show k + 1 ≤ m.nW; omega, nx false⟩, by show m.nW - (k + 1) < m.nW - k; omega⟩, ?_⟩
        conv => whnf
        refine Le.id rfl ?_ ?_
        all_goals (repeat' (first
           | exact leT_empty
           | exact trivial
           | exact rfl
           | exact .inl rfl
           | exact .inr rfl
           | exact .inr ⟨rfl, rfl⟩
           | exact Nat.le_refl _
           | exact Nat.zero_le _
           | exact (fun _ _ => rfl)
           | assumption
           | refine And.intro ?_ ?_
           | (intro i hi; exact absurd hi (Nat.not_lt_zero i))
           | (intro i hi; have hi := Nat.lt_of_lt_of_le hi (show _ ≤ 1 from Nat.le_refl 1); obtain rfl : i = 0 := (by omega); rfl)
           | (intro i hi; have hi := Nat.lt_of_lt_of_le hi (show _ ≤ 2 from Nat.le_refl 2); rcases (show i = 0 ∨ i = 1 by omega) with rfl | rfl <;> rfl)
           | (intro i hi; have hi := Nat.lt_of_lt_of_le hi (show _ ≤ 3 from Nat.le_refl 3); rcases (show i = 0 ∨ i = 1 ∨ i = 2 by omega) with rfl | rfl | rfl <;> rfl)))
      repeat
        conv => whnf
        first
          | (with_reducible refine qS ?_ ?_ ?_
             · exact rfl
             · exact rfl)
          | with_reducible refine qB ?_
          | (with_reducible refine qI ?_ ?_
             · omega)
          | (with_reducible refine qDT ?_ ?_
             · omega)
          | (with_reducible refine qDF ?_ ?_
             · omega)
          | (with_reducible refine qNT ?_ ?_
             · omega)
          | (with_reducible refine qNF ?_ ?_
             · omega)
          | (with_reducible refine qU8 ?_ ?_
             · omega)
          | (with_reducible refine qU32 ?_ ?_
             · omega)
          | (with_reducible refine qU64 ?_ ?_
             · omega)
          | (with_reducible refine qU16 ?_ ?_
             · omega)
      conv => whnf
      refine cD (fun g3 => ?_) (fun g3 => ?_)
      rotate_left
      · repeat
          conv => whnf
          first
            | (with_reducible refine qS ?_ ?_ ?_
               · exact rfl
               · exact rfl)
            | with_reducible refine qB ?_
            | (with_reducible refine qI ?_ ?_
               · omega)
            | (with_reducible refine qDT ?_ ?_
               · omega)
            | (with_reducible refine qDF ?_ ?_
               · omega)
            | (with_reducible refine qNT ?_ ?_
               · omega)
            | (with_reducible refine qNF ?_ ?_
               · omega)
            | (with_reducible refine qU8 ?_ ?_
               · omega)
            | (with_reducible refine qU32 ?_ ?_
               · omega)
            | (with_reducible refine qU64 ?_ ?_
               · omega)
            | (with_reducible refine qU16 ?_ ?_
               · omega)
        conv => whnf
        refine ⟨(k + 1, false), ⟨⟨by show k + 1 ≤ m.nW; omega, nx false⟩, by show m.nW - (k + 1) < m.nW - k; omega⟩, ?_⟩
        conv => whnf
        refine Le.id rfl ?_ ?_
        all_goals (repeat' (first
           | exact leT_empty
           | exact trivial
           | exact rfl
           | exact .inl rfl
           | exact .inr rfl
           | exact .inr ⟨rfl, rfl⟩
           | exact Nat.le_refl _
           | exact Nat.zero_le _
           | exact (fun _ _ => rfl)
           | assumption
           | refine And.intro ?_ ?_
           | (intro i hi; exact absurd hi (Nat.not_lt_zero i))
           | (intro i hi; have hi := Nat.lt_of_lt_of_le hi (show _ ≤ 1 from Nat.le_refl 1); obtain rfl : i = 0 := (by omega); rfl)
           | (intro i hi; have hi := Nat.lt_of_lt_of_le hi (show _ ≤ 2 from Nat.le_refl 2); rcases (show i = 0 ∨ i = 1 by omega) with rfl | rfl <;> rfl)
           | (intro i hi; have hi := Nat.lt_of_lt_of_le hi (show _ ≤ 3 from Nat.le_refl 3); rcases (show i = 0 ∨ i = 1 ∨ i = 2 by omega) with rfl | rfl | rfl <;> rfl)))
      repeat
        conv => whnf
        first
          | (with_reducible refine qS ?_ ?_ ?_
             · exact rfl
             · exact rfl)
          | with_reducible refine qB ?_
          | (with_reducible refine qI ?_ ?_
             · omega)
          | (with_reducible refine qDT ?_ ?_
             · omega)
          | (with_reducible refine qDF ?_ ?_
             · omega)
          | (with_reducible refine qNT ?_ ?_
             · omega)
          | (with_reducible refine qNF ?_ ?_
             · omega)
          | (with_reducible refine qU8 ?_ ?_
             · omega)
          | (with_reducible refine qU32 ?_ ?_
             · omega)
          | (with_reducible refine qU64 ?_ ?_
             · omega)
          | (with_reducible refine qU16 ?_ ?_
             · omega)
      conv => whnf
      refine ⟨(k + 1, decide (t.til + Pu.step m = (m.W k).en)), ⟨⟨by show k + 1 ≤ m.nW; omega, nx _⟩, by show m.nW - (k + 1) < m.nW - k; omega⟩, ?_⟩
      conv => whnf
      refine Le.id rfl ?_ ?_
      all_goals (repeat' (first
         | exact leT_empty
         | exact trivial
         | exact rfl
         | exact .inl rfl
         | exact .inr rfl
         | exact .inr ⟨rfl, rfl⟩
         | exact Nat.le_refl _
         | exact Nat.zero_le _
         | exact (fun _ _ => rfl)
         | assumption
         | refine And.intro ?_ ?_
         | (intro i hi; exact absurd hi (Nat.not_lt_zero i))
         | (intro i hi; have hi := Nat.lt_of_lt_of_le hi (show _ ≤ 1 from Nat.le_refl 1); obtain rfl : i = 0 := (by omega); rfl)
         | (intro i hi; have hi := Nat.lt_of_lt_of_le hi (show _ ≤ 2 from Nat.le_refl 2); rcases (show i = 0 ∨ i = 1 by omega) with rfl | rfl <;> rfl)
         | (intro i hi; have hi := Nat.lt_of_lt_of_le hi (show _ ≤ 3 from Nat.le_refl 3); rcases (show i = 0 ∨ i = 1 ∨ i = 2 by omega) with rfl | rfl | rfl <;> rfl)))
  by_cases c3 : (m.G (m.W i0).msg.toNat).ow = who
  · have et : P i = ⟨1, (m.W i0).st, (m.W i0).cyc, (m.W i0).rep, (m.W i0).msg, (m.W i0).st + m.enable⟩ := by rw [et]; unfold trgW; rw [if_neg c2, if_pos c3]
    have f1 : (P i).kind = 1 := by rw [et]
    have f2 : (P i).at_ = (m.W i0).st := by rw [et]
    have f3 : (P i).cyc = (m.W i0).cyc := by rw [et]
    have f4 : (P i).rep = (m.W i0).rep := by rw [et]
    have f5 : (P i).til = (m.W i0).st + m.enable := by rw [et]
    generalize P i = t at *
    repeat
      conv => whnf
      first
        | (with_reducible refine qS ?_ ?_ ?_
           · exact rfl
           · exact rfl)
        | with_reducible refine qB ?_
        | (with_reducible refine qI ?_ ?_
           · omega)
        | (with_reducible refine qDT ?_ ?_
           · omega)
        | (with_reducible refine qDF ?_ ?_
           · omega)
        | (with_reducible refine qNT ?_ ?_
           · omega)
        | (with_reducible refine qNF ?_ ?_
           · omega)
        | (with_reducible refine qU8 ?_ ?_
           · omega)
        | (with_reducible refine qU32 ?_ ?_
           · omega)
        | (with_reducible refine qU64 ?_ ?_
           · omega)
        | (with_reducible refine qU16 ?_ ?_
           · omega)
    conv => whnf
    refine .rd (fun p : Nat × Bool => p.1 ≤ m.nW ∧ (i0 < p.1 → p.2 = true)) (fun p => [(11, bv p.2), (12, iv .i64 p.1)]) (fun p => m.nW - p.1) (0, false) ⟨Nat.zero_le _, fun h => absurd h (Nat.not_lt_zero _)⟩ ?_ (fun p ⟨hk, hb⟩ => ?_)
    · conv => whnf
      refine Le.id rfl ?_ ?_
      all_goals (repeat' (first
         | exact leT_empty
         | exact trivial
         | exact rfl
         | exact .inl rfl
         | exact .inr rfl
         | exact .inr ⟨rfl, rfl⟩
         | exact Nat.le_refl _
         | exact Nat.zero_le _
         | exact (fun _ _ => rfl)
         | assumption
         | refine And.intro ?_ ?_
         | (intro i hi; exact absurd hi (Nat.not_lt_zero i))
         | (intro i hi; have hi := Nat.lt_of_lt_of_le hi (show _ ≤ 1 from Nat.le_refl 1); obtain rfl : i = 0 := (by omega); rfl)
         | (intro i hi; have hi := Nat.lt_of_lt_of_le hi (show _ ≤ 2 from Nat.le_refl 2); rcases (show i = 0 ∨ i = 1 by omega) with rfl | rfl <;> rfl)
         | (intro i hi; have hi := Nat.lt_of_lt_of_le hi (show _ ≤ 3 from Nat.le_refl 3); rcases (show i = 0 ∨ i = 1 ∨ i = 2 by omega) with rfl | rfl | rfl <;> rfl)))
    generalize p.1 = k at *
    generalize p.2 = fb at *
    conv => whnf
    refine cD (fun h6 => ?_) (fun h6 => ?_)
    rotate_left
    · obtain rfl := hb (by omega)
      repeat
        conv => whnf
        first
          | (with_reducible refine qS ?_ ?_ ?_
             · exact rfl
             · exact rfl)
          | with_reducible refine qB ?_
          | (with_reducible refine qI ?_ ?_
             · omega)
          | (with_reducible refine qDT ?_ ?_
             · omega)
          | (with_reducible refine qDF ?_ ?_
             · omega)
          | (with_reducible refine qNT ?_ ?_
             · omega)
          | (with_reducible refine qNF ?_ ?_
             · omega)
          | (with_reducible refine qU8 ?_ ?_
             · omega)
          | (with_reducible refine qU32 ?_ ?_
             · omega)
          | (with_reducible refine qU64 ?_ ?_
             · omega)
          | (with_reducible refine qU16 ?_ ?_
             · omega)
      conv => whnf
      refine ⟨i + 1, ⟨by omega, by omega⟩, ?_⟩
      conv => whnf
      refine Le.id rfl ?_ ?_
      all_goals (repeat' (first
         | exact leT_empty
         | exact trivial
         | exact rfl
         | exact .inl rfl
         | exact .inr rfl
         | exact .inr ⟨rfl, rfl⟩
         | exact Nat.le_refl _
         | exact Nat.zero_le _
         | exact (fun _ _ => rfl)
         | assumption
         | refine And.intro ?_ ?_
         | (intro i hi; exact absurd hi (Nat.not_lt_zero i))
         | (intro i hi; have hi := Nat.lt_of_lt_of_le hi (show _ ≤ 1 from Nat.le_refl 1); obtain rfl : i = 0 := (by omega); rfl)
         | (intro i hi; have hi := Nat.lt_of_lt_of_le hi (show _ ≤ 2 from Nat.le_refl 2); rcases (show i = 0 ∨ i = 1 by omega) with rfl | rfl <;> rfl)
         | (intro i hi; have hi := Nat.lt_of_lt_of_le hi (show _ ≤ 3 from Nat.le_refl 3); rcases (show i = 0 ∨ i = 1 ∨ i = 2 by omega) with rfl | rfl | rfl <;> rfl)))
    cases fb with
    | true =>
      repeat
        conv => whnf
        first
          | (with_reducible refine qS ?_ ?_ ?_
             · exact rfl
             · exact rfl)
          | with_reducible refine qB ?_
          | (with_reducible refine qI ?_ ?_
             · omega)
          | (with_reducible refine qDT ?_ ?_
             · omega)
          | (with_reducible refine qDF ?_ ?_
             · omega)
          | (with_reducible refine qNT ?_ ?_
             · omega)
          | (with_reducible refine qNF ?_ ?_
             · omega)
          | (with_reducible refine qU8 ?_ ?_
             · omega)
          | (with_reducible refine qU32 ?_ ?_
             · omega)
          | (with_reducible refine qU64 ?_ ?_
             · omega)
          | (with_reducible refine qU16 ?_ ?_
             · omega)
      conv => whnf
      try rw [zi k]
      repeat
        conv => whnf
        first
          | (with_reducible refine qS ?_ ?_ ?_
             · exact rfl
             · exact rfl)
          | with_reducible refine qB ?_
          | (with_reducible refine qI ?_ ?_
             · omega)
          | (with_reducible refine qDT ?_ ?_
             · omega)
          | (with_reducible refine qDF ?_ ?_
             · omega)
          | (with_reducible refine qNT ?_ ?_
             · omega)
          | (with_reducible refine qNF ?_ ?_
             · omega)
          | (with_reducible refine qU8 ?_ ?_
             · omega)
          | (with_reducible refine qU32 ?_ ?_
             · omega)
          | (with_reducible refine qU64 ?_ ?_
             · omega)
          | (with_reducible refine qU16 ?_ ?_
             · omega)
      conv => whnf
      refine ⟨(k + 1, true), ⟨⟨by show k + 1 ≤ m.nW; omega, fun _ => rfl⟩, by show m.nW - (k + 1) < m.nW - k; omega⟩, ?_⟩
      conv => whnf
      refine Le.id rfl ?_ ?_
      all_goals (repeat' (first
         | exact leT_empty
         | exact trivial
         | exact rfl
         | exact .inl rfl
         | exact .inr rfl
         | exact .inr ⟨rfl, rfl⟩
         | exact Nat.le_refl _
         | exact Nat.zero_le _
         | exact (fun _ _ => rfl)
         | assumption
         | refine And.intro ?_ ?_
         | (intro i hi; exact absurd hi (Nat.not_lt_zero i))
         | (intro i hi; have hi := Nat.lt_of_lt_of_le hi (show _ ≤ 1 from Nat.le_refl 1); obtain rfl : i = 0 := (by omega); rfl)
         | (intro i hi; have hi := Nat.lt_of_lt_of_le hi (show _ ≤ 2 from Nat.le_refl 2); rcases (show i = 0 ∨ i = 1 by omega) with rfl | rfl <;> rfl)
         | (intro i hi; have hi := Nat.lt_of_lt_of_le hi (show _ ≤ 3 from Nat.le_refl 3); rcases (show i = 0 ∨ i = 1 ∨ i = 2 by omega) with rfl | rfl | rfl <;> rfl)))
    | false =>
      have hk0 : ¬ i0 < k := fun h => by have := hb h; cases this
      by_cases hki : k = i0
      · subst hki
        repeat
          conv => whnf
          first
            | (with_reducible refine qS ?_ ?_ ?_
               · exact rfl
               · exact rfl)
            | with_reducible refine qB ?_
            | (with_reducible refine qI ?_ ?_
               · omega)
            | (with_reducible refine qDT ?_ ?_
               · omega)
            | (with_reducible refine qDF ?_ ?_
               · omega)
            | (with_reducible refine qNT ?_ ?_
               · omega)
            | (with_reducible refine qNF ?_ ?_
               · omega)
            | (with_reducible refine qU8 ?_ ?_
               · omega)
            | (with_reducible refine qU32 ?_ ?_
               · omega)
            | (with_reducible refine qU64 ?_ ?_
               · omega)
            | (with_reducible refine qU16 ?_ ?_
               · omega)
        conv => whnf
        try rw [zi k]
        repeat
          conv => whnf
          first
            | (with_reducible refine qS ?_ ?_ ?_
               · exact rfl
               · exact rfl)
            | with_reducible refine qB ?_
            | (with_reducible refine qI ?_ ?_
               · omega)
            | (with_reducible refine qDT ?_ ?_
               · omega)
            | (with_reducible refine qDF ?_ ?_
               · omega)
            | (with_reducible refine qNT ?_ ?_
               · omega)
            | (with_reducible refine qNF ?_ ?_
               · omega)
            | (with_reducible refine qU8 ?_ ?_
               · omega)
            | (with_reducible refine qU32 ?_ ?_
               · omega)
            | (with_reducible refine qU64 ?_ ?_
               · omega)
            | (with_reducible refine qU16 ?_ ?_
               · omega)
        conv => whnf
        refine ⟨(k + 1, true), ⟨⟨by show k + 1 ≤ m.nW; omega, fun _ => rfl⟩, by show m.nW - (k + 1) < m.nW - k; omega⟩, ?_⟩
        conv => whnf
        refine Le.id rfl ?_ ?_
        all_goals (repeat' (first
           | exact leT_empty
           | exact trivial
           | exact rfl
           | exact .inl rfl
           | exact .inr rfl
           | exact .inr ⟨rfl, rfl⟩
           | exact Nat.le_refl _
           | exact Nat.zero_le _
           | exact (fun _ _ => rfl)
           | assumption
           | refine And.intro ?_ ?_
           | (intro i hi; exact absurd hi (Nat.not_lt_zero i))
           | (intro i hi; have hi := Nat.lt_of_lt_of_le hi (show _ ≤ 1 from Nat.le_refl 1); obtain rfl : i = 0 := (by omega); rfl)
           | (intro i hi; have hi := Nat.lt_of_lt_of_le hi (show _ ≤ 2 from Nat.le_refl 2); rcases (show i = 0 ∨ i = 1 by omega) with rfl | rfl <;> rfl)
           | (intro i hi; have hi := Nat.lt_of_lt_of_le hi (show _ ≤ 3 from Nat.le_refl 3); rcases (show i = 0 ∨ i = 1 ∨ i = 2 by omega) with rfl | rfl | rfl <;> rfl)))
      have nx : ∀ b : Bool, i0 < k + 1 → b = true := fun _ h => by omega
      repeat
        conv => whnf
        first
          | (with_reducible refine qS ?_ ?_ ?_
             · exact rfl
             · exact rfl)
          | with_reducible refine qB ?_
          | (with_reducible refine qI ?_ ?_
             · omega)
          | (with_reducible refine qDT ?_ ?_
             · omega)
          | (with_reducible refine qDF ?_ ?_
             · omega)
          | (with_reducible refine qNT ?_ ?_
             · omega)
          | (with_reducible refine qNF ?_ ?_
             · omega)
          | (with_reducible refine qU8 ?_ ?_
             · omega)
          | (with_reducible refine qU32 ?_ ?_
             · omega)
          | (with_reducible refine qU64 ?_ ?_
             · omega)
          | (with_reducible refine qU16 ?_ ?_
             · omega)
      conv => whnf
      try rw [zi k]
      repeat
        conv => whnf
        first
          | (with_reducible refine qS ?_ ?_ ?_
             · exact rfl
             · exact rfl)
          | with_reducible refine qB ?_
          | (with_reducible refine qI ?_ ?_
             · omega)
          | (with_reducible refine qDT ?_ ?_
             · omega)
          | (with_reducible refine qDF ?_ ?_
             · omega)
          | (with_reducible refine qNT ?_ ?_
             · omega)
          | (with_reducible refine qNF ?_ ?_
             · omega)
          | (with_reducible refine qU8 ?_ ?_
             · omega)
          | (with_reducible refine qU32 ?_ ?_
             · omega)
          | (with_reducible refine qU64 ?_ ?_
             · omega)
          | (with_reducible refine qU16 ?_ ?_
             · omega)
      conv => whnf
      refine cD (fun g1 => ?_) (fun g1 => ?_)
      rotate_left
      · repeat
          conv => whnf
          first
            | (with_reducible refine qS ?_ ?_ ?_
               · exact rfl
               · exact rfl)
            | with_reducible refine qB ?_
            | (with_reducible refine qI ?_ ?_
               · omega)
            | (with_reducible refine qDT ?_ ?_
               · omega)
            | (with_reducible refine qDF ?_ ?_
               · omega)
            | (with_reducible refine qNT ?_ ?_
               · omega)
            | (with_reducible refine qNF ?_ ?_
               · omega)
            | (with_reducible refine qU8 ?_ ?_
               · omega)
            | (with_reducible refine qU32 ?_ ?_
               · omega)
            | (with_reducible refine qU64 ?_ ?_
               · omega)
            | (with_reducible refine qU16 ?_ ?_
               · omega)
        conv => whnf
        refine ⟨(k + 1, false), ⟨⟨by show k + 1 ≤ m.nW; omega, nx false⟩, by show m.nW - (k + 1) < m.nW - k; omega⟩, ?_⟩
        conv => whnf
        refine Le.id rfl ?_ ?_
        all_goals (repeat' (first
           | exact leT_empty
           | exact trivial
           | exact rfl
           | exact .inl rfl
           | exact .inr rfl
           | exact .inr ⟨rfl, rfl⟩
           | exact Nat.le_refl _
           | exact Nat.zero_le _
           | exact (fun _ _ => rfl)
           | assumption
           | refine And.intro ?_ ?_
           | (intro i hi; exact absurd hi (Nat.not_lt_zero i))
           | (intro i hi; have hi := Nat.lt_of_lt_of_le hi (show _ ≤ 1 from Nat.le_refl 1); obtain rfl : i = 0 := (by omega); rfl)
           | (intro i hi; have hi := Nat.lt_of_lt_of_le hi (show _ ≤ 2 from Nat.le_refl 2); rcases (show i = 0 ∨ i = 1 by omega) with rfl | rfl <;> rfl)
           | (intro i hi; have hi := Nat.lt_of_lt_of_le hi (show _ ≤ 3 from Nat.le_refl 3); rcases (show i = 0 ∨ i = 1 ∨ i = 2 by omega) with rfl | rfl | rfl <;> rfl)))
      repeat
        conv => whnf
        first
          | (with_reducible refine qS ?_ ?_ ?_
             · exact rfl
             · exact rfl)
          | with_reducible refine qB ?_
          | (with_reducible refine qI ?_ ?_
             · omega)
          | (with_reducible refine qDT ?_ ?_
             · omega)
          | (with_reducible refine qDF ?_ ?_
             · omega)
          | (with_reducible refine qNT ?_ ?_
             · omega)
          | (with_reducible refine qNF ?_ ?_
             · omega)
          | (with_reducible refine qU8 ?_ ?_
             · omega)
          | (with_reducible refine qU32 ?_ ?_
             · omega)
          | (with_reducible refine qU64 ?_ ?_
             · omega)
          | (with_reducible refine qU16 ?_ ?_
             · omega)
      conv => whnf
      refine cD (fun g2 => ?_) (fun g2 => ?_)
      rotate_left
      · repeat
          conv => whnf
          first
            | (with_reducible refine qS ?_ ?_ ?_
               · exact rfl
               · exact rfl)
            | with_reducible refine qB ?_
            | (with_reducible refine qI ?_ ?_
               · omega)
            | (with_reducible refine qDT ?_ ?_
               · omega)
            | (with_reducible refine qDF ?_ ?_
               · omega)
            | (with_reducible refine qNT ?_ ?_
               · omega)
            | (with_reducible refine qNF ?_ ?_
               · omega)
            | (with_reducible refine qU8 ?_ ?_
               · omega)
            | (with_reducible refine qU32 ?_ ?_
               · omega)
            | (with_reducible refine qU64 ?_ ?_
               · omega)
            | (with_reducible refine qU16 ?_ ?_
               · omega)
        conv => whnf
        refine ⟨(k + 1, false), ⟨⟨by show k + 1 ≤ m.nW; omega, nx false⟩, by show m.nW - (k + 1) < m.nW - k; omega⟩, ?_⟩
        conv => whnf
        refine Le.id rfl ?_ ?_
        all_goals (repeat' (first
           | exact leT_empty
           | exact trivial
           | exact rfl
           | exact .inl rfl
           | exact .inr rfl
           | exact .inr ⟨rfl, rfl⟩
           | exact Nat.le_refl _
           | exact Nat.zero_le _
           | exact (fun _ _ => rfl)
           | assumption
           | refine And.intro ?_ ?_
           | (intro i hi; exact absurd hi (Nat.not_lt_zero i))
           | (intro i hi; have hi := Nat.lt_of_lt_of_le hi (show _ ≤ 1 from Nat.le_refl 1); obtain rfl : i = 0 := (by omega); rfl)
           | (intro i hi; have hi := Nat.lt_of_lt_of_le hi (show _ ≤ 2 from Nat.le_refl 2); rcases (show i = 0 ∨ i = 1 by omega) with rfl | rfl <;> rfl)
           | (intro i hi; have hi := Nat.lt_of_lt_of_le hi (show _ ≤ 3 from Nat.le_refl 3); rcases (show i = 0 ∨ i = 1 ∨ i = 2 by omega) with rfl | rfl | rfl <;> rfl)))
      repeat
        conv => whnf
        first
          | (with_reducible refine qS ?_ ?_ ?_
             · exact rfl
             · exact rfl)
          | with_reducible refine qB ?_
          | (with_reducible refine qI ?_ ?_
             · omega)
          | (with_reducible refine qDT ?_ ?_
             · omega)
          | (with_reducible refine qDF ?_ ?_
             · omega)
          | (with_reducible refine qNT ?_ ?_
             · omega)
          | (with_reducible refine qNF ?_ ?_
             · omega)
          | (with_reducible refine qU8 ?_ ?_
             · omega)
          | (with_reducible refine qU32 ?_ ?_
             · omega)
          | (with_reducible refine qU64 ?_ ?_
             · omega)
          | (with_reducible refine qU16 ?_ ?_
             · omega)
      conv => whnf
      refine cD (fun g3 => ?_) (fun g3 => ?_)
      rotate_left
      · repeat
          conv => whnf
          first
            | (with_reducible refine qS ?_ ?_ ?_
               · exact rfl
               · exact rfl)
            | with_reducible refine qB ?_
            | (with_reducible refine qI ?_ ?_
               · omega)
            | (with_reducible refine qDT ?_ ?_
               · omega)
            | (with_reducible refine qDF ?_ ?_
               · omega)
            | (with_reducible refine qNT ?_ ?_
               · omega)
            | (with_reducible refine qNF ?_ ?_
               · omega)
            | (with_reducible refine qU8 ?_ ?_
               · omega)
            | (with_reducible refine qU32 ?_ ?_
               · omega)
            | (with_reducible refine qU64 ?_ ?_
               · omega)
            | (with_reducible refine qU16 ?_ ?_
               · omega)
        conv => whnf
        refine ⟨(k + 1, false), ⟨⟨by show k + 1 ≤ m.nW; omega, nx false⟩, by show m.nW - (k + 1) < m.nW - k; omega⟩, ?_⟩
        conv => whnf
        refine Le.id rfl ?_ ?_
        all_goals (repeat' (first
           | exact leT_empty
           | exact trivial
           | exact rfl
           | exact .inl rfl
           | exact .inr rfl
           | exact .inr ⟨rfl, rfl⟩
           | exact Nat.le_refl _
           | exact Nat.zero_le _
           | exact (fun _ _ => rfl)
           | assumption
           | refine And.intro ?_ ?_
           | (intro i hi; exact absurd hi (Nat.not_lt_zero i))
           | (intro i hi; have hi := Nat.lt_of_lt_of_le hi (show _ ≤ 1 from Nat.le_refl 1); obtain rfl : i = 0 := (by omega); rfl)
           | (intro i hi; have hi := Nat.lt_of_lt_of_le hi (show _ ≤ 2 from Nat.le_refl 2); rcases (show i = 0 ∨ i = 1 by omega) with rfl | rfl <;> rfl)
           | (intro i hi; have hi := Nat.lt_of_lt_of_le hi (show _ ≤ 3 from Nat.le_refl 3); rcases (show i = 0 ∨ i = 1 ∨ i = 2 by omega) with rfl | rfl | rfl <;> rfl)))
      repeat
        conv => whnf
        first
          | (with_reducible refine qS ?_ ?_ ?_
             · exact rfl
             · exact rfl)
          | with_reducible refine qB ?_
          | (with_reducible refine qI ?_ ?_
             · omega)
          | (with_reducible refine qDT ?_ ?_
             · omega)
          | (with_reducible refine qDF ?_ ?_
             · omega)
          | (with_reducible refine qNT ?_ ?_
             · omega)
          | (with_reducible refine qNF ?_ ?_
             · omega)
          | (with_reducible refine qU8 ?_ ?_
             · omega)
          | (with_reducible refine qU32 ?_ ?_
             · omega)
          | (with_reducible refine qU64 ?_ ?_
             · omega)
          | (with_reducible refine qU16 ?_ ?_
             · omega)
      conv => whnf
      refine cD (fun g5 => ?_) (fun g5 => ?_)
      rotate_left
      · repeat
          conv => whnf
          first
            | (with_reducible refine qS ?_ ?_ ?_
               · exact rfl
               · exact rfl)
            | with_reducible refine qB ?_
            | (with_reducible refine qI ?_ ?_
               · omega)
            | (with_reducible refine qDT ?_ ?_
               · omega)
            | (with_reducible refine qDF ?_ ?_
               · omega)
            | (with_reducible refine qNT ?_ ?_
               · omega)
            | (with_reducible refine qNF ?_ ?_
               · omega)
            | (with_reducible refine qU8 ?_ ?_
               · omega)
            | (with_reducible refine qU32 ?_ ?_
               · omega)
            | (with_reducible refine qU64 ?_ ?_
               · omega)
            | (with_reducible refine qU16 ?_ ?_
               · omega)
        conv => whnf
        refine ⟨(k + 1, false), ⟨⟨by show k + 1 ≤ m.nW; omega, nx false⟩, by show m.nW - (k + 1) < m.nW - k; omega⟩, ?_⟩
        conv => whnf
        refine Le.id rfl ?_ ?_
        all_goals (repeat' (first
           | exact leT_empty
           | exact trivial
           | exact rfl
           | exact .inl rfl
           | exact .inr rfl
           | exact .inr ⟨rfl, rfl⟩
           | exact Nat.le_refl _
           | exact Nat.zero_le _
           | exact (fun _ _ => rfl)
           | assumption
           | refine And.intro ?_ ?_
           | (intro i hi; exact absurd hi (Nat.not_lt_zero i))
           | (intro i hi; have hi := Nat.lt_of_lt_of_le hi (show _ ≤ 1 from Nat.le_refl 1); obtain rfl : i = 0 := (by omega); rfl)
           | (intro i hi; have hi := Nat.lt_of_lt_of_le hi (show _ ≤ 2 from Nat.le_refl 2); rcases (show i = 0 ∨ i = 1 by omega) with rfl | rfl <;> rfl)
           | (intro i hi; have hi := Nat.lt_of_lt_of_le hi (show _ ≤ 3 from Nat.le_refl 3); rcases (show i = 0 ∨ i = 1 ∨ i = 2 by omega) with rfl | rfl | rfl <;> rfl)))
      repeat
        conv => whnf
        first
          | (with_reducible refine qS ?_ ?_ ?_
             · exact rfl
             · exact rfl)
          | with_reducible refine qB ?_
          | (with_reducible refine qI ?_ ?_
             · omega)
          | (with_reducible refine qDT ?_ ?_
             · omega)
          | (with_reducible refine qDF ?_ ?_
             · omega)
          | (with_reducible refine qNT ?_ ?_
             · omega)
          | (with_reducible refine qNF ?_ ?_
             · omega)
          | (with_reducible refine qU8 ?_ ?_
             · omega)
          | (with_reducible refine qU32 ?_ ?_
             · omega)
          | (with_reducible refine qU64 ?_ ?_
             · omega)
          | (with_reducible refine qU16 ?_ ?_
             · omega)
      conv => whnf
      refine ⟨(k + 1, true), ⟨⟨by show k + 1 ≤ m.nW; omega, nx true⟩, by show m.nW - (k + 1) < m.nW - k; omega⟩, ?_⟩
      conv => whnf
      refine Le.id rfl ?_ ?_
      all_goals (repeat' (first
         | exact leT_empty
         | exact trivial
         | exact rfl
         | exact .inl rfl
         | exact .inr rfl
         | exact .inr ⟨rfl, rfl⟩
         | exact Nat.le_refl _
         | exact Nat.zero_le _
         | exact (fun _ _ => rfl)
         | assumption
         | refine And.intro ?_ ?_
         | (intro i hi; exact absurd hi (Nat.not_lt_zero i))
         | (intro i hi; have hi := Nat.lt_of_lt_of_le hi (show _ ≤ 1 from Nat.le_refl 1); obtain rfl : i = 0 := (by omega); rfl)
         | (intro i hi; have hi := Nat.lt_of_lt_of_le hi (show _ ≤ 2 from Nat.le_refl 2); rcases (show i = 0 ∨ i = 1 by omega) with rfl | rfl <;> rfl)
         | (intro i hi; have hi := Nat.lt_of_lt_of_le hi (show _ ≤ 3 from Nat.le_refl 3); rcases (show i = 0 ∨ i = 1 ∨ i = 2 by omega) with rfl | rfl | rfl <;> rfl)))
  · have et : P i = ⟨3, (m.W i0).en - 1, (m.W i0).cyc, (m.W i0).rep, (m.W i0).msg, 0⟩ := by rw [et]; unfold trgW; rw [if_neg c2, if_neg c3]
    rw [et]
    repeat
      conv => whnf
      first
        | (with_reducible refine qS ?_ ?_ ?_
           · exact rfl
           · exact rfl)
        | with_reducible refine qB ?_
        | (with_reducible refine qI ?_ ?_
           · omega)
        | (with_reducible refine qDT ?_ ?_
           · omega)
        | (with_reducible refine qDF ?_ ?_
           · omega)
        | (with_reducible refine qNT ?_ ?_
           · omega)
        | (with_reducible refine qNF ?_ ?_
           · omega)
        | (with_reducible refine qU8 ?_ ?_
           · omega)
        | (with_reducible refine qU32 ?_ ?_
           · omega)
        | (with_reducible refine qU64 ?_ ?_
           · omega)
        | (with_reducible refine qU16 ?_ ?_
           · omega)
    conv => whnf
    refine ⟨i + 1, ⟨by omega, by omega⟩, ?_⟩
    conv => whnf
    refine Le.id rfl ?_ ?_
    all_goals (repeat' (first
       | exact leT_empty
       | exact trivial
       | exact rfl
       | exact .inl rfl
       | exact .inr rfl
       | exact .inr ⟨rfl, rfl⟩
       | exact Nat.le_refl _
       | exact Nat.zero_le _
       | exact (fun _ _ => rfl)
       | assumption
       | refine And.intro ?_ ?_
       | (intro i hi; exact absurd hi (Nat.not_lt_zero i))
       | (intro i hi; have hi := Nat.lt_of_lt_of_le hi (show _ ≤ 1 from Nat.le_refl 1); obtain rfl : i = 0 := (by omega); rfl)
       | (intro i hi; have hi := Nat.lt_of_lt_of_le hi (show _ ≤ 2 from Nat.le_refl 2); rcases (show i = 0 ∨ i = 1 by omega) with rfl | rfl <;> rfl)
       | (intro i hi; have hi := Nat.lt_of_lt_of_le hi (show _ ≤ 3 from Nat.le_refl 3); rcases (show i = 0 ∨ i = 1 ∨ i = 2 by omega) with rfl | rfl | rfl <;> rfl)))
theorem cl_ok : ∃ cl : Cl, ClOk Try.prog cl ∧ ∀ D, OkAll pas D → cl F.law15_PlanEnds [] (xsP 0 pas D) (hsP pas D) fun x _ => x = bv true := by
  refine ⟨clRunX 8 tt outsL15 tabL 3, clRunX_ok (d := 8) ttOk outsL15_ok tabL_ok 3, fun D hD => ?_⟩
  match D, hD with
  | [d0, d1], hD =>
    obtain ⟨h0, h1, _⟩ := hD
    obtain ⟨m, c, hm, hc, e0, e1⟩ := open_mat h0
    obtain ⟨a, rfl, ha⟩ := one_u8 h1
    have hw := walk m c a hm hc ha
    show clRunX 8 tt outsL15 tabL 3 29 [] (xP 0 (.agg matSh) d0 :: _) (hs matSh d0 ++ _) _
    rw [e0, e1]
    exact hw
theorem own' : ownKnob Try.prog.godebug = none := own
theorem lifted (os : Os) (started : os.Started) (H : Type) (enc : TypeId × Value → H) :
    ReturnsInHanded {} Try.checked os 29 .any (Rows.planEndsSpec.pre6 enc Try.prog Try.f29 Rows.planEndsRow.domain false) (Rows.planEndsSpec.post enc Try.prog Try.f29 false true false false) := by
  refine returnsInHanded_of_change (C := Try.checked) own started (by kernel_rfl) Try.func29
    (ChangeSpec.witness6 (enc := enc) (C := Try.checked) false ⟨#[], #[.agg #[.int .i64 0, .int .i64 0, .int .i64 0, .int .i64 0, .int .i64 0, .int .i64 0, .int .i64 0, .int .u32 0, .slice none 0 0, .slice none 0 0, .slice none 0 0], .int .u8 0], []⟩ 8 (by kernel_rfl) (by kernel_rfl) (by kernel_rfl) (by kernel_rfl)) ?_
  intro W base args ds gs before hval hW _ _
  obtain ⟨cl, hc, hw⟩ := cl_ok
  exact row_of (ps := pas) (by kernel_rfl) (by kernel_rfl) rfl rfl (fun ds h => by
    match ds, h with
    | [_, _], _ => rfl) hval hW hc hw
theorem closed : joinedFacts Try.prog 29 Try.f29 Rows.planEndsSpec Rows.planEndsRow = true := by
  simp only [joinedFacts, Bool.and_eq_true]
  repeat' apply And.intro
  all_goals first
    | with_reducible exact mayEnter_ok
    | with_reducible exact laid_ok
    | with_reducible exact rowed_ok
    | ((with_reducible refine beq_r lifts_ok ?_); rfl)
    | ((with_reducible refine beq_l make_ok ?_); kernel_rfl)
    | (as_aux_lemma => kernel_rfl)
theorem named : Try.prog.funcNamed Rows.planEndsRow.func = some 29 := by kernel_rfl
theorem inst : Try.f29.isInstance Try.prog Rows.planEndsRow.origin Rows.planEndsRow.targs := of_decide_eq_true (by kernel_rfl)
theorem wrap : Try.f29.isWrapper Try.prog Rows.planEndsRow.wrapper Rows.planEndsRow.mainSum := by
  unfold Func.isWrapper; first | (rw [if_pos (by decide +kernel)]; kernel_rfl) | (rw [if_neg (by decide +kernel)]; exact ⟨rfl, rfl⟩)
theorem over : Rows.planEndsRow.holds Try.pinned (OpenSpec.ofChange Rows.planEndsSpec) :=
  OpenClaim.holds_of_wide 29 Try.f29 rfl rfl rfl rfl rfl rfl rfl ⟨rfl, rfl, rfl, rfl, rfl⟩ rfl rfl rfl rfl rfl named Try.func29 closed inst wrap
    (fun os started H enc _ => lifted os started H enc)
/-- The statement. -/
theorem proved : Rows.PlanEndsSaid := over
#print axioms proved
end Go.Proofs.Ytbdifadabipfiaa.planEnds
