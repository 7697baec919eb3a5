/- PlanCycles: what is due in a cycle is due again after all Cycles: true at every input; no conditions. -/
import Derived.Test.YtbdifadabipfiaaLaZ
import Derived.Test.YtbdifadabipfiaaCoY
namespace Go.Proofs.Ytbdifadabipfiaa.planCycles
open Go Go.Eng Go.Proofs Go.Proofs.Ytbdifadabipfiaa.Tb Go.Proofs.Ytbdifadabipfiaa.Co Go.Proofs.Ytbdifadabipfiaa.La Go.Pu
set_option maxRecDepth 100000
set_option maxHeartbeats 4000000
abbrev outsD : List (FuncId × Cx) := (F.law15_same, AskC sameC) :: outsL15
theorem outsD_ok : OutsOk Try.prog outsD := .cons (ask_ok same_ok) outsL15_ok
noncomputable abbrev tabL : List (FuncId × Eng.Fn) := [(F.law15_PlanCycles, fn.law15_PlanCycles u0), (F.law15_few, fn.law15_few u0)]
theorem tabL_ok {d : Nat} : TabOk d tabL tt := .cons (ok.law15_PlanCycles u0) (.cons (ok.law15_few u0) (TabOk.nil))
abbrev pas : List Pa := [.agg matSh, .one u8, .one u8]
theorem walk (m : Mat) (c : Caps) (a b : Int) (hm : m.Ok) (hc : capsOk m c) (ha : 0 ≤ a ∧ a ≤ 255) (hb : 0 ≤ b ∧ b ≤ 255) : clRunX 7 tt outsD tabL 3 F.law15_PlanCycles [] [matT m c 0 1 2, iv .u8 a, iv .u8 b] (matH m []) (fun x _ => x = bv true) := by
  have hnW := hm.nW
  have hnG := hm.nG
  conv => whnf
  refine true_use ?_
  repeat
    conv => whnf
    first
      | (with_reducible refine qS ?_ ?_ ?_
         · exact rfl
         · exact rfl)
      | with_reducible refine qB ?_
      | (with_reducible refine qI ?_ ?_
         · omega)
      | (with_reducible refine qDT ?_ ?_
         · omega)
      | (with_reducible refine qDF ?_ ?_
         · omega)
      | (with_reducible refine qNT ?_ ?_
         · omega)
      | (with_reducible refine qNF ?_ ?_
         · omega)
      | (with_reducible refine qU8 ?_ ?_
         · omega)
      | (with_reducible refine qU32 ?_ ?_
         · omega)
      | (with_reducible refine qU64 ?_ ?_
         · omega)
      | (with_reducible refine qU16 ?_ ?_
         · omega)
  conv => whnf
  refine checkR_use (m := m) (c := c) hm ?_
  repeat
    conv => whnf
    first
      | (with_reducible refine qS ?_ ?_ ?_
         · exact rfl
         · exact rfl)
      | with_reducible refine qB ?_
      | (with_reducible refine qI ?_ ?_
         · omega)
      | (with_reducible refine qDT ?_ ?_
         · omega)
      | (with_reducible refine qDF ?_ ?_
         · omega)
      | (with_reducible refine qNT ?_ ?_
         · omega)
      | (with_reducible refine qNF ?_ ?_
         · omega)
      | (with_reducible refine qU8 ?_ ?_
         · omega)
      | (with_reducible refine qU32 ?_ ?_
         · omega)
      | (with_reducible refine qU64 ?_ ?_
         · omega)
      | (with_reducible refine qU16 ?_ ?_
         · omega)
  conv => whnf
  refine cD (fun h1 => ?_) (fun h1 => ?_)
  rotate_left
  · repeat
      conv => whnf
      first
        | (with_reducible refine qS ?_ ?_ ?_
           · exact rfl
           · exact rfl)
        | with_reducible refine qB ?_
        | (with_reducible refine qI ?_ ?_
           · omega)
        | (with_reducible refine qDT ?_ ?_
           · omega)
        | (with_reducible refine qDF ?_ ?_
           · omega)
        | (with_reducible refine qNT ?_ ?_
           · omega)
        | (with_reducible refine qNF ?_ ?_
           · omega)
        | (with_reducible refine qU8 ?_ ?_
           · omega)
        | (with_reducible refine qU32 ?_ ?_
           · omega)
        | (with_reducible refine qU64 ?_ ?_
           · omega)
        | (with_reducible refine qU16 ?_ ?_
           · omega)
    conv => whnf
    exact rfl
  conv => whnf
  refine cD (fun h2 => ?_) (fun h2 => ?_)
  rotate_left
  · repeat
      conv => whnf
      first
        | (with_reducible refine qS ?_ ?_ ?_
           · exact rfl
           · exact rfl)
        | with_reducible refine qB ?_
        | (with_reducible refine qI ?_ ?_
           · omega)
        | (with_reducible refine qDT ?_ ?_
           · omega)
        | (with_reducible refine qDF ?_ ?_
           · omega)
        | (with_reducible refine qNT ?_ ?_
           · omega)
        | (with_reducible refine qNF ?_ ?_
           · omega)
        | (with_reducible refine qU8 ?_ ?_
           · omega)
        | (with_reducible refine qU32 ?_ ?_
           · omega)
        | (with_reducible refine qU64 ?_ ?_
           · omega)
        | (with_reducible refine qU16 ?_ ?_
           · omega)
    conv => whnf
    exact rfl
  conv => whnf
  refine cN (fun h3 => ?_) (fun h3 => ?_)
  · repeat
      conv => whnf
      first
        | (with_reducible refine qS ?_ ?_ ?_
           · exact rfl
           · exact rfl)
        | with_reducible refine qB ?_
        | (with_reducible refine qI ?_ ?_
           · omega)
        | (with_reducible refine qDT ?_ ?_
           · omega)
        | (with_reducible refine qDF ?_ ?_
           · omega)
        | (with_reducible refine qNT ?_ ?_
           · omega)
        | (with_reducible refine qNF ?_ ?_
           · omega)
        | (with_reducible refine qU8 ?_ ?_
           · omega)
        | (with_reducible refine qU32 ?_ ?_
           · omega)
        | (with_reducible refine qU64 ?_ ?_
           · omega)
        | (with_reducible refine qU16 ?_ ?_
           · omega)
    conv => whnf
    exact rfl
  by_cases h : (chk m).2 = 0
  rotate_left
  · repeat
      conv => whnf
      first
        | (with_reducible refine qS ?_ ?_ ?_
           · exact rfl
           · exact rfl)
        | with_reducible refine qB ?_
        | (with_reducible refine qI ?_ ?_
           · omega)
        | (with_reducible refine qDT ?_ ?_
           · omega)
        | (with_reducible refine qDF ?_ ?_
           · omega)
        | (with_reducible refine qNT ?_ ?_
           · omega)
        | (with_reducible refine qNF ?_ ?_
           · omega)
        | (with_reducible refine qU8 ?_ ?_
           · omega)
        | (with_reducible refine qU32 ?_ ?_
           · omega)
        | (with_reducible refine qU64 ?_ ?_
           · omega)
        | (with_reducible refine qU16 ?_ ?_
           · omega)
    conv => whnf
    exact rfl
  have hP := pass_of h
  have hi := hP.is
  have hl := hi.head
  have hn := hi.size
  unfold headP at hl
  unfold sizeP at hn
  have hcy := hP.cyc8
  have hx : 0 ≤ a.tmod m.nodes ∧ a.tmod m.nodes ≤ 255 := by
    rw [Int.tmod_eq_emod_of_nonneg ha.1]
    have := Int.emod_lt_of_pos a (show 0 < m.nodes by omega)
    have := Int.emod_nonneg a (show m.nodes ≠ 0 by omega)
    omega
  have hy : 0 ≤ b.tmod 8 ∧ b.tmod 8 ≤ 7 := by rw [Int.tmod_eq_emod_of_nonneg hb.1]; omega
  repeat
    conv => whnf
    first
      | (with_reducible refine qS ?_ ?_ ?_
         · exact rfl
         · exact rfl)
      | with_reducible refine qB ?_
      | (with_reducible refine qI ?_ ?_
         · omega)
      | (with_reducible refine qDT ?_ ?_
         · omega)
      | (with_reducible refine qDF ?_ ?_
         · omega)
      | (with_reducible refine qNT ?_ ?_
         · omega)
      | (with_reducible refine qNF ?_ ?_
         · omega)
      | (with_reducible refine qU8 ?_ ?_
         · omega)
      | (with_reducible refine qU32 ?_ ?_
         · omega)
      | (with_reducible refine qU64 ?_ ?_
         · omega)
      | (with_reducible refine qU16 ?_ ?_
         · omega)
  conv => whnf
  generalize a.tmod m.nodes = who at *
  obtain ⟨P, hPF⟩ : ∃ P, planF m who = P := ⟨_, rfl⟩
  obtain ⟨n, hLn⟩ : ∃ n, (rowL0 m who).length = n := ⟨_, rfl⟩
  have hn19 := rowL0_len m who
  rw [hLn] at hn19
  have mem : ∀ q, q < n → P q ∈ rowL0 m who := fun q hq => by rw [← hPF]; exact plan_mem (by omega)
  refine plan_at2 (m := m) (c := c) (who := who) [0, 1, 2] n P (fun cap => slT 5 n cap false) (fun cap => matH m [boxM m c, boxM m c, rowT P n cap]) hm hc ⟨by omega, by omega⟩ h hLn hPF rfl ?_ ?_ (fun _ => rfl) (fun _ => rfl) (fun cap hcap => ?_)
  · repeat' (first
      | exact leT_empty
      | exact trivial
      | exact rfl
      | exact .inl rfl
      | exact .inr rfl
      | exact .inr ⟨rfl, rfl⟩
      | exact Nat.le_refl _
      | exact Nat.zero_le _
      | exact (fun _ _ => rfl)
      | assumption
      | refine And.intro ?_ ?_
      | (intro i hi; exact absurd hi (Nat.not_lt_zero i))
      | (intro i hi; have hi := Nat.lt_of_lt_of_le hi (show _ ≤ 1 from Nat.le_refl 1); obtain rfl : i = 0 := (by omega); rfl)
      | (intro i hi; have hi := Nat.lt_of_lt_of_le hi (show _ ≤ 2 from Nat.le_refl 2); rcases (show i = 0 ∨ i = 1 by omega) with rfl | rfl <;> rfl)
      | (intro i hi; have hi := Nat.lt_of_lt_of_le hi (show _ ≤ 3 from Nat.le_refl 3); rcases (show i = 0 ∨ i = 1 ∨ i = 2 by omega) with rfl | rfl | rfl <;> rfl))
  · repeat' (first
      | exact leT_empty
      | exact trivial
      | exact rfl
      | exact .inl rfl
      | exact .inr rfl
      | exact .inr ⟨rfl, rfl⟩
      | exact Nat.le_refl _
      | exact Nat.zero_le _
      | exact (fun _ _ => rfl)
      | assumption
      | refine And.intro ?_ ?_
      | (intro i hi; exact absurd hi (Nat.not_lt_zero i))
      | (intro i hi; have hi := Nat.lt_of_lt_of_le hi (show _ ≤ 1 from Nat.le_refl 1); obtain rfl : i = 0 := (by omega); rfl)
      | (intro i hi; have hi := Nat.lt_of_lt_of_le hi (show _ ≤ 2 from Nat.le_refl 2); rcases (show i = 0 ∨ i = 1 by omega) with rfl | rfl <;> rfl)
      | (intro i hi; have hi := Nat.lt_of_lt_of_le hi (show _ ≤ 3 from Nat.le_refl 3); rcases (show i = 0 ∨ i = 1 ∨ i = 2 by omega) with rfl | rfl | rfl <;> rfl))
  repeat
    conv => whnf
    first
      | (with_reducible refine qS ?_ ?_ ?_
         · exact rfl
         · exact rfl)
      | with_reducible refine qB ?_
      | (with_reducible refine qI ?_ ?_
         · omega)
      | (with_reducible refine qDT ?_ ?_
         · omega)
      | (with_reducible refine qDF ?_ ?_
         · omega)
      | (with_reducible refine qNT ?_ ?_
         · omega)
      | (with_reducible refine qNF ?_ ?_
         · omega)
      | (with_reducible refine qU8 ?_ ?_
         · omega)
      | (with_reducible refine qU32 ?_ ?_
         · omega)
      | (with_reducible refine qU64 ?_ ?_
         · omega)
      | (with_reducible refine qU16 ?_ ?_
         · omega)
  conv => whnf
  generalize b.tmod 8 = cy at *
  have hw := watch_bd hi
  have ew : watch1 m = m.length + ((m.nM : Int) + 2) * Pu.step m := by unfold watch1; rw [if_pos (isM_iff.2 hi)]; rfl
  have hat : ∀ q, q < n → (P q).at_ ≤ watch1 m := fun q hq => plan_at hP (mem q hq)
  obtain ⟨qw, hqw, eqw⟩ := mem_plan (watch_mem m who)
  rw [hPF] at eqw
  rw [hLn] at hqw
  refine watch_use (m := m) (c := c) hm ?_
  have htop : 0 ≤ watch1 m ∧ watch1 m ≤ 40000 := by omega
  have dC : dueL P cy (watch1 m) (watch1 m + 1) n = [] := due_none hat
  have dE : 1 ≤ (dueL P cy (watch1 m - 1) (watch1 m) n).length := due_some hqw (by
    rw [eqw]
    unfold dueB
    rw [comes_1 hy.1, decide_eq_true (show watch1 m - 1 < watch1 m ∧ watch1 m ≤ watch1 m by omega)]; rfl)
  have dB : dueL P (cy + m.cycles) 0 (watch1 m) n = dueL P cy 0 (watch1 m) n := due_congr fun i hi => plan_comes hP (mem i hi) hy.1
  have l0 := dueL_len P cy 0 (watch1 m) n
  have lE := dueL_len P cy (watch1 m - 1) (watch1 m) n
  obtain ⟨D, hD⟩ : ∃ D, dueL P cy 0 (watch1 m) n = D := ⟨_, rfl⟩
  rw [hD] at l0 dB
  generalize watch1 m = top at *
  repeat
    conv => whnf
    first
      | (with_reducible refine qS ?_ ?_ ?_
         · exact rfl
         · exact rfl)
      | with_reducible refine qB ?_
      | (with_reducible refine qI ?_ ?_
         · omega)
      | (with_reducible refine qDT ?_ ?_
         · omega)
      | (with_reducible refine qDF ?_ ?_
         · omega)
      | (with_reducible refine qNT ?_ ?_
         · omega)
      | (with_reducible refine qNF ?_ ?_
         · omega)
      | (with_reducible refine qU8 ?_ ?_
         · omega)
      | (with_reducible refine qU32 ?_ ?_
         · omega)
      | (with_reducible refine qU64 ?_ ?_
         · omega)
      | (with_reducible refine qU16 ?_ ?_
         · omega)
  conv => whnf
  refine .det (P, n, cap, false, cy, 0, top) [5] (slT 6 (dueL P cy 0 top n).length n false) (matH m [boxM m c, boxM m c, rowT P n cap, rowT (at0L (dueL P cy 0 top n)) n n]) ⟨by show n ≤ 100; omega, ⟨by dsimp only; omega, by dsimp only; omega⟩⟩ rfl ?_ ?_ rfl rfl ?_
  · repeat' (first
      | exact leT_empty
      | exact trivial
      | exact rfl
      | exact .inl rfl
      | exact .inr rfl
      | exact .inr ⟨rfl, rfl⟩
      | exact Nat.le_refl _
      | exact Nat.zero_le _
      | exact (fun _ _ => rfl)
      | assumption
      | refine And.intro ?_ ?_
      | (intro i hi; exact absurd hi (Nat.not_lt_zero i))
      | (intro i hi; have hi := Nat.lt_of_lt_of_le hi (show _ ≤ 1 from Nat.le_refl 1); obtain rfl : i = 0 := (by omega); rfl)
      | (intro i hi; have hi := Nat.lt_of_lt_of_le hi (show _ ≤ 2 from Nat.le_refl 2); rcases (show i = 0 ∨ i = 1 by omega) with rfl | rfl <;> rfl)
      | (intro i hi; have hi := Nat.lt_of_lt_of_le hi (show _ ≤ 3 from Nat.le_refl 3); rcases (show i = 0 ∨ i = 1 ∨ i = 2 by omega) with rfl | rfl | rfl <;> rfl))
  · repeat' (first
      | exact leT_empty
      | exact trivial
      | exact rfl
      | exact .inl rfl
      | exact .inr rfl
      | exact .inr ⟨rfl, rfl⟩
      | exact Nat.le_refl _
      | exact Nat.zero_le _
      | exact (fun _ _ => rfl)
      | assumption
      | refine And.intro ?_ ?_
      | (intro i hi; exact absurd hi (Nat.not_lt_zero i))
      | (intro i hi; have hi := Nat.lt_of_lt_of_le hi (show _ ≤ 1 from Nat.le_refl 1); obtain rfl : i = 0 := (by omega); rfl)
      | (intro i hi; have hi := Nat.lt_of_lt_of_le hi (show _ ≤ 2 from Nat.le_refl 2); rcases (show i = 0 ∨ i = 1 by omega) with rfl | rfl <;> rfl)
      | (intro i hi; have hi := Nat.lt_of_lt_of_le hi (show _ ≤ 3 from Nat.le_refl 3); rcases (show i = 0 ∨ i = 1 ∨ i = 2 by omega) with rfl | rfl | rfl <;> rfl))
  rw [hD]
  repeat
    conv => whnf
    first
      | (with_reducible refine qS ?_ ?_ ?_
         · exact rfl
         · exact rfl)
      | with_reducible refine qB ?_
      | (with_reducible refine qI ?_ ?_
         · omega)
      | (with_reducible refine qDT ?_ ?_
         · omega)
      | (with_reducible refine qDF ?_ ?_
         · omega)
      | (with_reducible refine qNT ?_ ?_
         · omega)
      | (with_reducible refine qNF ?_ ?_
         · omega)
      | (with_reducible refine qU8 ?_ ?_
         · omega)
      | (with_reducible refine qU32 ?_ ?_
         · omega)
      | (with_reducible refine qU64 ?_ ?_
         · omega)
      | (with_reducible refine qU16 ?_ ?_
         · omega)
  conv => whnf
  refine .det (P, n, cap, false, cy + m.cycles, 0, top) [5] (slT 7 (dueL P (cy + m.cycles) 0 top n).length n false) (matH m [boxM m c, boxM m c, rowT P n cap, rowT (at0L D) n n, rowT (at0L (dueL P (cy + m.cycles) 0 top n)) n n]) ⟨by show n ≤ 100; omega, ⟨by dsimp only; omega, by dsimp only; omega⟩⟩ rfl ?_ ?_ rfl rfl ?_
  · repeat' (first
      | exact leT_empty
      | exact trivial
      | exact rfl
      | exact .inl rfl
      | exact .inr rfl
      | exact .inr ⟨rfl, rfl⟩
      | exact Nat.le_refl _
      | exact Nat.zero_le _
      | exact (fun _ _ => rfl)
      | assumption
      | refine And.intro ?_ ?_
      | (intro i hi; exact absurd hi (Nat.not_lt_zero i))
      | (intro i hi; have hi := Nat.lt_of_lt_of_le hi (show _ ≤ 1 from Nat.le_refl 1); obtain rfl : i = 0 := (by omega); rfl)
      | (intro i hi; have hi := Nat.lt_of_lt_of_le hi (show _ ≤ 2 from Nat.le_refl 2); rcases (show i = 0 ∨ i = 1 by omega) with rfl | rfl <;> rfl)
      | (intro i hi; have hi := Nat.lt_of_lt_of_le hi (show _ ≤ 3 from Nat.le_refl 3); rcases (show i = 0 ∨ i = 1 ∨ i = 2 by omega) with rfl | rfl | rfl <;> rfl))
  · repeat' (first
      | exact leT_empty
      | exact trivial
      | exact rfl
      | exact .inl rfl
      | exact .inr rfl
      | exact .inr ⟨rfl, rfl⟩
      | exact Nat.le_refl _
      | exact Nat.zero_le _
      | exact (fun _ _ => rfl)
      | assumption
      | refine And.intro ?_ ?_
      | (intro i hi; exact absurd hi (Nat.not_lt_zero i))
      | (intro i hi; have hi := Nat.lt_of_lt_of_le hi (show _ ≤ 1 from Nat.le_refl 1); obtain rfl : i = 0 := (by omega); rfl)
      | (intro i hi; have hi := Nat.lt_of_lt_of_le hi (show _ ≤ 2 from Nat.le_refl 2); rcases (show i = 0 ∨ i = 1 by omega) with rfl | rfl <;> rfl)
      | (intro i hi; have hi := Nat.lt_of_lt_of_le hi (show _ ≤ 3 from Nat.le_refl 3); rcases (show i = 0 ∨ i = 1 ∨ i = 2 by omega) with rfl | rfl | rfl <;> rfl))
  rw [dB]
  generalize hk : D.length = k at *
  repeat
    conv => whnf
    first
      | (with_reducible refine qS ?_ ?_ ?_
         · exact rfl
         · exact rfl)
      | with_reducible refine qB ?_
      | (with_reducible refine qI ?_ ?_
         · omega)
      | (with_reducible refine qDT ?_ ?_
         · omega)
      | (with_reducible refine qDF ?_ ?_
         · omega)
      | (with_reducible refine qNT ?_ ?_
         · omega)
      | (with_reducible refine qNF ?_ ?_
         · omega)
      | (with_reducible refine qU8 ?_ ?_
         · omega)
      | (with_reducible refine qU32 ?_ ?_
         · omega)
      | (with_reducible refine qU64 ?_ ?_
         · omega)
      | (with_reducible refine qU16 ?_ ?_
         · omega)
  conv => whnf
  refine .use (at0L D, k, n, false, at0L D, k, n, false) [6, 7] (by show k ≤ 9223372036854775807; omega) rfl ?_ ?_ ?_
  · refine ⟨⟨.inl rfl, l0, fun _ _ => rfl⟩, ⟨.inl rfl, l0, fun _ _ => rfl⟩, trivial⟩
  · repeat' (first
      | exact leT_empty
      | exact trivial
      | exact rfl
      | exact .inl rfl
      | exact .inr rfl
      | exact .inr ⟨rfl, rfl⟩
      | exact Nat.le_refl _
      | exact Nat.zero_le _
      | exact (fun _ _ => rfl)
      | assumption
      | refine And.intro ?_ ?_
      | (intro i hi; exact absurd hi (Nat.not_lt_zero i))
      | (intro i hi; have hi := Nat.lt_of_lt_of_le hi (show _ ≤ 1 from Nat.le_refl 1); obtain rfl : i = 0 := (by omega); rfl)
      | (intro i hi; have hi := Nat.lt_of_lt_of_le hi (show _ ≤ 2 from Nat.le_refl 2); rcases (show i = 0 ∨ i = 1 by omega) with rfl | rfl <;> rfl)
      | (intro i hi; have hi := Nat.lt_of_lt_of_le hi (show _ ≤ 3 from Nat.le_refl 3); rcases (show i = 0 ∨ i = 1 ∨ i = 2 by omega) with rfl | rfl | rfl <;> rfl))
  rw [sameB_refl]
  repeat
    conv => whnf
    first
      | (with_reducible refine qS ?_ ?_ ?_
         · exact rfl
         · exact rfl)
      | with_reducible refine qB ?_
      | (with_reducible refine qI ?_ ?_
         · omega)
      | (with_reducible refine qDT ?_ ?_
         · omega)
      | (with_reducible refine qDF ?_ ?_
         · omega)
      | (with_reducible refine qNT ?_ ?_
         · omega)
      | (with_reducible refine qNF ?_ ?_
         · omega)
      | (with_reducible refine qU8 ?_ ?_
         · omega)
      | (with_reducible refine qU32 ?_ ?_
         · omega)
      | (with_reducible refine qU64 ?_ ?_
         · omega)
      | (with_reducible refine qU16 ?_ ?_
         · omega)
  conv => whnf
  refine .det (P, n, cap, false, cy, top, top + 1) [5] (slT 8 (dueL P cy top (top + 1) n).length n false) (matH m [boxM m c, boxM m c, rowT P n cap, rowT (at0L D) n n, rowT (at0L D) n n, rowT (at0L (dueL P cy top (top + 1) n)) n n]) ⟨by show n ≤ 100; omega, ⟨by dsimp only; omega, by dsimp only; omega⟩⟩ rfl ?_ ?_ rfl rfl ?_
  · repeat' (first
      | exact leT_empty
      | exact trivial
      | exact rfl
      | exact .inl rfl
      | exact .inr rfl
      | exact .inr ⟨rfl, rfl⟩
      | exact Nat.le_refl _
      | exact Nat.zero_le _
      | exact (fun _ _ => rfl)
      | assumption
      | refine And.intro ?_ ?_
      | (intro i hi; exact absurd hi (Nat.not_lt_zero i))
      | (intro i hi; have hi := Nat.lt_of_lt_of_le hi (show _ ≤ 1 from Nat.le_refl 1); obtain rfl : i = 0 := (by omega); rfl)
      | (intro i hi; have hi := Nat.lt_of_lt_of_le hi (show _ ≤ 2 from Nat.le_refl 2); rcases (show i = 0 ∨ i = 1 by omega) with rfl | rfl <;> rfl)
      | (intro i hi; have hi := Nat.lt_of_lt_of_le hi (show _ ≤ 3 from Nat.le_refl 3); rcases (show i = 0 ∨ i = 1 ∨ i = 2 by omega) with rfl | rfl | rfl <;> rfl))
  · repeat' (first
      | exact leT_empty
      | exact trivial
      | exact rfl
      | exact .inl rfl
      | exact .inr rfl
      | exact .inr ⟨rfl, rfl⟩
      | exact Nat.le_refl _
      | exact Nat.zero_le _
      | exact (fun _ _ => rfl)
      | assumption
      | refine And.intro ?_ ?_
      | (intro i hi; exact absurd hi (Nat.not_lt_zero i))
      | (intro i hi; have hi := Nat.lt_of_lt_of_le hi (show _ ≤ 1 from Nat.le_refl 1); obtain rfl : i = 0 := (by omega); rfl)
      | (intro i hi; have hi := Nat.lt_of_lt_of_le hi (show _ ≤ 2 from Nat.le_refl 2); rcases (show i = 0 ∨ i = 1 by omega) with rfl | rfl <;> rfl)
      | (intro i hi; have hi := Nat.lt_of_lt_of_le hi (show _ ≤ 3 from Nat.le_refl 3); rcases (show i = 0 ∨ i = 1 ∨ i = 2 by omega) with rfl | rfl | rfl <;> rfl))
  rw [dC]
  repeat
    conv => whnf
    first
      | (with_reducible refine qS ?_ ?_ ?_
         · exact rfl
         · exact rfl)
      | with_reducible refine qB ?_
      | (with_reducible refine qI ?_ ?_
         · omega)
      | (with_reducible refine qDT ?_ ?_
         · omega)
      | (with_reducible refine qDF ?_ ?_
         · omega)
      | (with_reducible refine qNT ?_ ?_
         · omega)
      | (with_reducible refine qNF ?_ ?_
         · omega)
      | (with_reducible refine qU8 ?_ ?_
         · omega)
      | (with_reducible refine qU32 ?_ ?_
         · omega)
      | (with_reducible refine qU64 ?_ ?_
         · omega)
      | (with_reducible refine qU16 ?_ ?_
         · omega)
  conv => whnf
  refine .det (P, n, cap, false, cy, top - 1, top) [5] (slT 9 (dueL P cy (top - 1) top n).length n false) _ ⟨by show n ≤ 100; omega, ⟨by dsimp only; omega, by dsimp only; omega⟩⟩ rfl ?_ ?_ rfl rfl ?_
  · repeat' (first
      | exact leT_empty
      | exact trivial
      | exact rfl
      | exact .inl rfl
      | exact .inr rfl
      | exact .inr ⟨rfl, rfl⟩
      | exact Nat.le_refl _
      | exact Nat.zero_le _
      | exact (fun _ _ => rfl)
      | assumption
      | refine And.intro ?_ ?_
      | (intro i hi; exact absurd hi (Nat.not_lt_zero i))
      | (intro i hi; have hi := Nat.lt_of_lt_of_le hi (show _ ≤ 1 from Nat.le_refl 1); obtain rfl : i = 0 := (by omega); rfl)
      | (intro i hi; have hi := Nat.lt_of_lt_of_le hi (show _ ≤ 2 from Nat.le_refl 2); rcases (show i = 0 ∨ i = 1 by omega) with rfl | rfl <;> rfl)
      | (intro i hi; have hi := Nat.lt_of_lt_of_le hi (show _ ≤ 3 from Nat.le_refl 3); rcases (show i = 0 ∨ i = 1 ∨ i = 2 by omega) with rfl | rfl | rfl <;> rfl))
  · repeat' (first
      | exact leT_empty
      | exact trivial
      | exact rfl
      | exact .inl rfl
      | exact .inr rfl
      | exact .inr ⟨rfl, rfl⟩
      | exact Nat.le_refl _
      | exact Nat.zero_le _
      | exact (fun _ _ => rfl)
      | assumption
      | refine And.intro ?_ ?_
      | (intro i hi; exact absurd hi (Nat.not_lt_zero i))
      | (intro i hi; have hi := Nat.lt_of_lt_of_le hi (show _ ≤ 1 from Nat.le_refl 1); obtain rfl : i = 0 := (by omega); rfl)
      | (intro i hi; have hi := Nat.lt_of_lt_of_le hi (show _ ≤ 2 from Nat.le_refl 2); rcases (show i = 0 ∨ i = 1 by omega) with rfl | rfl <;> rfl)
      | (intro i hi; have hi := Nat.lt_of_lt_of_le hi (show _ ≤ 3 from Nat.le_refl 3); rcases (show i = 0 ∨ i = 1 ∨ i = 2 by omega) with rfl | rfl | rfl <;> rfl))
  repeat
    conv => whnf
    first
      | (with_reducible refine qS ?_ ?_ ?_
         · exact rfl
         · exact rfl)
      | with_reducible refine qB ?_
      | (with_reducible refine qI ?_ ?_
         · omega)
      | (with_reducible refine qDT ?_ ?_
         · omega)
      | (with_reducible refine qDF ?_ ?_
         · omega)
      | (with_reducible refine qNT ?_ ?_
         · omega)
      | (with_reducible refine qNF ?_ ?_
         · omega)
      | (with_reducible refine qU8 ?_ ?_
         · omega)
      | (with_reducible refine qU32 ?_ ?_
         · omega)
      | (with_reducible refine qU64 ?_ ?_
         · omega)
      | (with_reducible refine qU16 ?_ ?_
         · omega)
  conv => whnf
  exact congrArg bv (decide_eq_true (by omega))
theorem cl_ok : ∃ cl : Cl, ClOk Try.prog cl ∧ ∀ D, OkAll pas D → cl F.law15_PlanCycles [] (xsP 0 pas D) (hsP pas D) fun x _ => x = bv true := by
  refine ⟨clRunX 7 tt outsD tabL 3, clRunX_ok (d := 7) ttOk outsD_ok tabL_ok 3, fun D hD => ?_⟩
  match D, hD with
  | [d0, d1, d2], hD =>
    obtain ⟨h0, h1, h2, _⟩ := hD
    obtain ⟨m, c, hm, hc, e0, e1⟩ := open_mat h0
    obtain ⟨a, rfl, ha⟩ := one_u8 h1
    obtain ⟨b, rfl, hb⟩ := one_u8 h2
    have hw := walk m c a b hm hc ha hb
    show clRunX 7 tt outsD tabL 3 28 [] (xP 0 (.agg matSh) d0 :: _) (hs matSh d0 ++ _) _
    rw [e0, e1]
    exact hw
theorem own' : ownKnob Try.prog.godebug = none := own
theorem lifted (os : Os) (started : os.Started) (H : Type) (enc : TypeId × Value → H) :
    ReturnsInHanded {} Try.checked os 28 .any (Rows.planCyclesSpec.pre6 enc Try.prog Try.f28 Rows.planCyclesRow.domain false) (Rows.planCyclesSpec.post enc Try.prog Try.f28 false true false false) := by
  refine returnsInHanded_of_change (C := Try.checked) own started (by kernel_rfl) Try.func28
    (ChangeSpec.witness6 (enc := enc) (C := Try.checked) false ⟨#[], #[.agg #[.int .i64 0, .int .i64 0, .int .i64 0, .int .i64 0, .int .i64 0, .int .i64 0, .int .i64 0, .int .u32 0, .slice none 0 0, .slice none 0 0, .slice none 0 0], .int .u8 0, .int .u8 0], []⟩ 8 (by kernel_rfl) (by kernel_rfl) (by kernel_rfl) (by kernel_rfl)) ?_
  intro W base args ds gs before hval hW _ _
  obtain ⟨cl, hc, hw⟩ := cl_ok
  exact row_of (ps := pas) (by kernel_rfl) (by kernel_rfl) rfl rfl (fun ds h => by
    match ds, h with
    | [_, _, _], _ => rfl) hval hW hc hw
theorem closed : joinedFacts Try.prog 28 Try.f28 Rows.planCyclesSpec Rows.planCyclesRow = true := by
  simp only [joinedFacts, Bool.and_eq_true]
  repeat' apply And.intro
  all_goals first
    | with_reducible exact mayEnter_ok
    | with_reducible exact laid_ok
    | with_reducible exact rowed_ok
    | ((with_reducible refine beq_r lifts_ok ?_); rfl)
    | ((with_reducible refine beq_l make_ok ?_); kernel_rfl)
    | (as_aux_lemma => kernel_rfl)
theorem named : Try.prog.funcNamed Rows.planCyclesRow.func = some 28 := by kernel_rfl
theorem inst : Try.f28.isInstance Try.prog Rows.planCyclesRow.origin Rows.planCyclesRow.targs := of_decide_eq_true (by kernel_rfl)
theorem wrap : Try.f28.isWrapper Try.prog Rows.planCyclesRow.wrapper Rows.planCyclesRow.mainSum := by
  unfold Func.isWrapper; first | (rw [if_pos (by decide +kernel)]; kernel_rfl) | (rw [if_neg (by decide +kernel)]; exact ⟨rfl, rfl⟩)
theorem over : Rows.planCyclesRow.holds Try.pinned (OpenSpec.ofChange Rows.planCyclesSpec) :=
  OpenClaim.holds_of_wide 28 Try.f28 rfl rfl rfl rfl rfl rfl rfl ⟨rfl, rfl, rfl, rfl, rfl⟩ rfl rfl rfl rfl rfl named Try.func28 closed inst wrap
    (fun os started H enc _ => lifted os started H enc)
/-- The statement. -/
theorem proved : Rows.PlanCyclesSaid := over
#print axioms proved
end Go.Proofs.Ytbdifadabipfiaa.planCycles
