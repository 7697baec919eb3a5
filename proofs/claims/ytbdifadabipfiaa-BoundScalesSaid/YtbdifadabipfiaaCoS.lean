/- Contracts: windows, sends, busy units of all cycles. -/
import Derived.Test.YtbdifadabipfiaaCoR
namespace Go.Proofs.Ytbdifadabipfiaa.Co
open Go Go.Eng Go.Proofs Go.Proofs.Ytbdifadabipfiaa.Tb Go.Pu
set_option maxRecDepth 100000
set_option maxHeartbeats 4000000
abbrev outsBe : List (FuncId × Cx) := [(F.bound_right, AskC rightC), (F.matrix_Comes, AskC comesC)]
theorem outsBe_ok : OutsOk Try.prog outsBe := .cons (ask_ok rightB_ok) (.cons (ask_ok comes_ok) .nil)
abbrev winsC : Con (Mat × Caps × Int) := RoCon (fun p => [matT p.1 p.2.1 0 1 2, iv .i64 p.2.2]) (fun p => matH p.1 []) (fun p => p.1.Ok ∧ capsOk p.1 p.2.1) fun p => iv .i64 (all1 p.1 (fK p.2.2))
theorem wins_use {m : Mat} {c : Caps} {u : Int} {rest : Heap} {K : R → Heap → Prop} (hm : m.Ok) (hc : capsOk m c) (hk : K (iv .i64 (all1 m (fK u))) (matH m rest)) : AskC winsC [matT m c 0 1 2, iv .i64 u] (matH m rest) K :=
  .use (m, c, u) [0, 1, 2] ⟨hm, hc⟩ rfl (mat_le m rest) ⟨mat_lx m c rest, .inl rfl, trivial⟩ hk
noncomputable abbrev tabRN : List (FuncId × Eng.Fn) := [(F.bound_Windows, fn.bound_Windows u0), (F.bound_each, fn.bound_each u0), (F.bound_Windows_1, fn.bound_Windows_1 u0)]
theorem tabRN_ok {d : Nat} : TabOk d tabRN tt := .cons (ok.bound_Windows u0) (.cons (ok.bound_each u0) (.cons (ok.bound_Windows_1 u0) (TabOk.nil)))
theorem wins_run (m : Mat) (c : Caps) (u : Int) (hm : m.Ok) (hc : capsOk m c) : clRunX 6 tt outsBe tabRN 4 F.bound_Windows [] [matT m c 0 1 2, iv .i64 u] (matH m []) (fun x h => Trim 3 x h fun x h => x = iv .i64 (all1 m (fK u)) ∧ h = matH m []) := by
  repeat
    conv => whnf
    first
      | (with_reducible refine qS ?_ ?_ ?_
         · exact rfl
         · exact rfl)
      | with_reducible refine qB ?_
      | (with_reducible refine qI ?_ ?_
         · omega)
      | (with_reducible refine qDT ?_ ?_
         · omega)
      | (with_reducible refine qDF ?_ ?_
         · omega)
      | (with_reducible refine qNT ?_ ?_
         · omega)
      | (with_reducible refine qNF ?_ ?_
         · omega)
      | (with_reducible refine qU8 ?_ ?_
         · omega)
      | (with_reducible refine qU32 ?_ ?_
         · omega)
      | (with_reducible refine qU64 ?_ ?_
         · omega)
      | (with_reducible refine qU16 ?_ ?_
         · omega)
  conv => whnf
  refine right_use (m := m) (c := c) hm hc ?_
  by_cases h : (chk m).2 = 0
  rotate_left
  · rw [decide_eq_false h]
    repeat
      conv => whnf
      first
        | (with_reducible refine qS ?_ ?_ ?_
           · exact rfl
           · exact rfl)
        | with_reducible refine qB ?_
        | (with_reducible refine qI ?_ ?_
           · omega)
        | (with_reducible refine qDT ?_ ?_
           · omega)
        | (with_reducible refine qDF ?_ ?_
           · omega)
        | (with_reducible refine qNT ?_ ?_
           · omega)
        | (with_reducible refine qNF ?_ ?_
           · omega)
        | (with_reducible refine qU8 ?_ ?_
           · omega)
        | (with_reducible refine qU32 ?_ ?_
           · omega)
        | (with_reducible refine qU64 ?_ ?_
           · omega)
        | (with_reducible refine qU16 ?_ ?_
           · omega)
    conv => whnf
    exact trimM rfl (congrArg (iv .i64) (if_neg h).symm)
  rw [decide_eq_true h]
  have hi := (pass_of h).is
  have hcy : 1 ≤ m.cycles ∧ m.cycles ≤ 8 := (pass_of h).cyc8
  have hnW := hi.size.2.2.2
  obtain ⟨C, hC⟩ : ∃ C : Nat, m.cycles = C := ⟨m.cycles.toNat, by omega⟩
  have sm : ∀ {a b : Nat}, a ≤ C → b ≤ m.nW → _ := fun {a b} ha hb => sums_sm hi (fK_sm m u) (c := a) (i := b) (by omega) hb
  repeat
    conv => whnf
    first
      | (with_reducible refine qS ?_ ?_ ?_
         · exact rfl
         · exact rfl)
      | with_reducible refine qB ?_
      | (with_reducible refine qI ?_ ?_
         · omega)
      | (with_reducible refine qDT ?_ ?_
         · omega)
      | (with_reducible refine qDF ?_ ?_
         · omega)
      | (with_reducible refine qNT ?_ ?_
         · omega)
      | (with_reducible refine qNF ?_ ?_
         · omega)
      | (with_reducible refine qU8 ?_ ?_
         · omega)
      | (with_reducible refine qU32 ?_ ?_
         · omega)
      | (with_reducible refine qU64 ?_ ?_
         · omega)
      | (with_reducible refine qU16 ?_ ?_
         · omega)
  conv => whnf
  refine .inv (fun p : Nat => p ≤ C) (fun p => [(4, iv .i64 p)]) (fun p => matH m [boxM m c, .ob (.own [.c (iC u)]), .ob (.own [.c (iC (totS m (fK u) p))]), boxM m c]) (fun p => C - p) 0 (Nat.zero_le _) ?_ (fun p hp => ?_)
  · conv => whnf
    refine Le.id rfl ?_ ?_
    all_goals (repeat' (first
       | exact leT_empty
       | exact trivial
       | exact rfl
       | exact .inl rfl
       | exact .inr rfl
       | exact .inr ⟨rfl, rfl⟩
       | exact Nat.le_refl _
       | exact Nat.zero_le _
       | exact (fun _ _ => rfl)
       | assumption
       | refine And.intro ?_ ?_
       | (intro i hi; exact absurd hi (Nat.not_lt_zero i))
       | (intro i hi; have hi := Nat.lt_of_lt_of_le hi (show _ ≤ 1 from Nat.le_refl 1); obtain rfl : i = 0 := (by omega); rfl)
       | (intro i hi; have hi := Nat.lt_of_lt_of_le hi (show _ ≤ 2 from Nat.le_refl 2); rcases (show i = 0 ∨ i = 1 by omega) with rfl | rfl <;> rfl)
       | (intro i hi; have hi := Nat.lt_of_lt_of_le hi (show _ ≤ 3 from Nat.le_refl 3); rcases (show i = 0 ∨ i = 1 ∨ i = 2 by omega) with rfl | rfl | rfl <;> rfl)))
  have s1 := sm hp (Nat.zero_le _)
  repeat
    conv => whnf
    first
      | (with_reducible refine qS ?_ ?_ ?_
         · exact rfl
         · exact rfl)
      | with_reducible refine qB ?_
      | (with_reducible refine qI ?_ ?_
         · omega)
      | (with_reducible refine qDT ?_ ?_
         · omega)
      | (with_reducible refine qDF ?_ ?_
         · omega)
      | (with_reducible refine qNT ?_ ?_
         · omega)
      | (with_reducible refine qNF ?_ ?_
         · omega)
      | (with_reducible refine qU8 ?_ ?_
         · omega)
      | (with_reducible refine qU32 ?_ ?_
         · omega)
      | (with_reducible refine qU64 ?_ ?_
         · omega)
      | (with_reducible refine qU16 ?_ ?_
         · omega)
  conv => whnf
  refine cD (fun h5 => ?_) (fun h5 => ?_)
  · have e : p = C := by omega
    repeat
      conv => whnf
      first
        | (with_reducible refine qS ?_ ?_ ?_
           · exact rfl
           · exact rfl)
        | with_reducible refine qB ?_
        | (with_reducible refine qI ?_ ?_
           · omega)
        | (with_reducible refine qDT ?_ ?_
           · omega)
        | (with_reducible refine qDF ?_ ?_
           · omega)
        | (with_reducible refine qNT ?_ ?_
           · omega)
        | (with_reducible refine qNF ?_ ?_
           · omega)
        | (with_reducible refine qU8 ?_ ?_
           · omega)
        | (with_reducible refine qU32 ?_ ?_
           · omega)
        | (with_reducible refine qU64 ?_ ?_
           · omega)
        | (with_reducible refine qU16 ?_ ?_
           · omega)
    conv => whnf
    exact trimM rfl (congrArg (iv .i64) (show _ = all1 m (fK u) by unfold all1; rw [if_pos h, hC]; subst e; rfl))
  have hpC : p < C := by omega
  repeat
    conv => whnf
    first
      | (with_reducible refine qS ?_ ?_ ?_
         · exact rfl
         · exact rfl)
      | with_reducible refine qB ?_
      | (with_reducible refine qI ?_ ?_
         · omega)
      | (with_reducible refine qDT ?_ ?_
         · omega)
      | (with_reducible refine qDF ?_ ?_
         · omega)
      | (with_reducible refine qNT ?_ ?_
         · omega)
      | (with_reducible refine qNF ?_ ?_
         · omega)
      | (with_reducible refine qU8 ?_ ?_
         · omega)
      | (with_reducible refine qU32 ?_ ?_
         · omega)
      | (with_reducible refine qU64 ?_ ?_
         · omega)
      | (with_reducible refine qU16 ?_ ?_
         · omega)
  conv => whnf
  refine .inv (fun q : Nat => q ≤ m.nW) (fun q => [(19, iv .i64 q)]) (fun q => matH m [boxM m c, .ob (.own [.c (iC u)]), .ob (.own [.c (iC (rowS m (fK u) p (totS m (fK u) p) q))]), boxM m c]) (fun q => m.nW - q) 0 (Nat.zero_le _) ?_ (fun q hq => ?_)
  · conv => whnf
    refine Le.id rfl ?_ ?_
    all_goals (repeat' (first
       | exact leT_empty
       | exact trivial
       | exact rfl
       | exact .inl rfl
       | exact .inr rfl
       | exact .inr ⟨rfl, rfl⟩
       | exact Nat.le_refl _
       | exact Nat.zero_le _
       | exact (fun _ _ => rfl)
       | assumption
       | refine And.intro ?_ ?_
       | (intro i hi; exact absurd hi (Nat.not_lt_zero i))
       | (intro i hi; have hi := Nat.lt_of_lt_of_le hi (show _ ≤ 1 from Nat.le_refl 1); obtain rfl : i = 0 := (by omega); rfl)
       | (intro i hi; have hi := Nat.lt_of_lt_of_le hi (show _ ≤ 2 from Nat.le_refl 2); rcases (show i = 0 ∨ i = 1 by omega) with rfl | rfl <;> rfl)
       | (intro i hi; have hi := Nat.lt_of_lt_of_le hi (show _ ≤ 3 from Nat.le_refl 3); rcases (show i = 0 ∨ i = 1 ∨ i = 2 by omega) with rfl | rfl | rfl <;> rfl)))
  have s2 := sm hp hq
  conv => whnf
  refine cD (fun h6 => ?_) (fun h6 => ?_)
  rotate_left
  · obtain rfl : q = m.nW := by omega
    repeat
      conv => whnf
      first
        | (with_reducible refine qS ?_ ?_ ?_
           · exact rfl
           · exact rfl)
        | with_reducible refine qB ?_
        | (with_reducible refine qI ?_ ?_
           · omega)
        | (with_reducible refine qDT ?_ ?_
           · omega)
        | (with_reducible refine qDF ?_ ?_
           · omega)
        | (with_reducible refine qNT ?_ ?_
           · omega)
        | (with_reducible refine qNF ?_ ?_
           · omega)
        | (with_reducible refine qU8 ?_ ?_
           · omega)
        | (with_reducible refine qU32 ?_ ?_
           · omega)
        | (with_reducible refine qU64 ?_ ?_
           · omega)
        | (with_reducible refine qU16 ?_ ?_
           · omega)
    conv => whnf
    refine ⟨p + 1, ⟨by omega, by omega⟩, ?_⟩
    conv => whnf
    refine Le.id rfl ?_ ?_
    all_goals (repeat' (first
       | exact leT_empty
       | exact trivial
       | exact rfl
       | exact .inl rfl
       | exact .inr rfl
       | exact .inr ⟨rfl, rfl⟩
       | exact Nat.le_refl _
       | exact Nat.zero_le _
       | exact (fun _ _ => rfl)
       | assumption
       | refine And.intro ?_ ?_
       | (intro i hi; exact absurd hi (Nat.not_lt_zero i))
       | (intro i hi; have hi := Nat.lt_of_lt_of_le hi (show _ ≤ 1 from Nat.le_refl 1); obtain rfl : i = 0 := (by omega); rfl)
       | (intro i hi; have hi := Nat.lt_of_lt_of_le hi (show _ ≤ 2 from Nat.le_refl 2); rcases (show i = 0 ∨ i = 1 by omega) with rfl | rfl <;> rfl)
       | (intro i hi; have hi := Nat.lt_of_lt_of_le hi (show _ ≤ 3 from Nat.le_refl 3); rcases (show i = 0 ∨ i = 1 ∨ i = 2 by omega) with rfl | rfl | rfl <;> rfl)))
  repeat
    conv => whnf
    first
      | (with_reducible refine qS ?_ ?_ ?_
         · exact rfl
         · exact rfl)
      | with_reducible refine qB ?_
      | (with_reducible refine qI ?_ ?_
         · omega)
      | (with_reducible refine qDT ?_ ?_
         · omega)
      | (with_reducible refine qDF ?_ ?_
         · omega)
      | (with_reducible refine qNT ?_ ?_
         · omega)
      | (with_reducible refine qNF ?_ ?_
         · omega)
      | (with_reducible refine qU8 ?_ ?_
         · omega)
      | (with_reducible refine qU32 ?_ ?_
         · omega)
      | (with_reducible refine qU64 ?_ ?_
         · omega)
      | (with_reducible refine qU16 ?_ ?_
         · omega)
  conv => whnf
  try rw [zi q]
  repeat
    conv => whnf
    first
      | (with_reducible refine qS ?_ ?_ ?_
         · exact rfl
         · exact rfl)
      | with_reducible refine qB ?_
      | (with_reducible refine qI ?_ ?_
         · omega)
      | (with_reducible refine qDT ?_ ?_
         · omega)
      | (with_reducible refine qDF ?_ ?_
         · omega)
      | (with_reducible refine qNT ?_ ?_
         · omega)
      | (with_reducible refine qNF ?_ ?_
         · omega)
      | (with_reducible refine qU8 ?_ ?_
         · omega)
      | (with_reducible refine qU32 ?_ ?_
         · omega)
      | (with_reducible refine qU64 ?_ ?_
         · omega)
      | (with_reducible refine qU16 ?_ ?_
         · omega)
  conv => whnf
  refine comes_use (by unfold I64; omega) ?_
  have s3 := sm hp (show q + 1 ≤ m.nW by omega)
  have e3 : rowS m (fK u) p (totS m (fK u) p) (q + 1) = if comes (m.W q).cyc (m.W q).rep p then rowS m (fK u) p (totS m (fK u) p) q + fK u (m.W q) else rowS m (fK u) p (totS m (fK u) p) q := rfl
  rcases Bool.eq_false_or_eq_true (comes (m.W q).cyc (m.W q).rep p) with hcm | hcm <;> rw [hcm] at e3 ⊢
  rotate_left
  · rw [if_neg (by decide)] at e3
    repeat
      conv => whnf
      first
        | (with_reducible refine qS ?_ ?_ ?_
           · exact rfl
           · exact rfl)
        | with_reducible refine qB ?_
        | (with_reducible refine qI ?_ ?_
           · omega)
        | (with_reducible refine qDT ?_ ?_
           · omega)
        | (with_reducible refine qDF ?_ ?_
           · omega)
        | (with_reducible refine qNT ?_ ?_
           · omega)
        | (with_reducible refine qNF ?_ ?_
           · omega)
        | (with_reducible refine qU8 ?_ ?_
           · omega)
        | (with_reducible refine qU32 ?_ ?_
           · omega)
        | (with_reducible refine qU64 ?_ ?_
           · omega)
        | (with_reducible refine qU16 ?_ ?_
           · omega)
    conv => whnf
    refine ⟨q + 1, ⟨by omega, by omega⟩, ?_⟩
    rw [e3]
    conv => whnf
    refine Le.id rfl ?_ ?_
    all_goals (repeat' (first
       | exact leT_empty
       | exact trivial
       | exact rfl
       | exact .inl rfl
       | exact .inr rfl
       | exact .inr ⟨rfl, rfl⟩
       | exact Nat.le_refl _
       | exact Nat.zero_le _
       | exact (fun _ _ => rfl)
       | assumption
       | refine And.intro ?_ ?_
       | (intro i hi; exact absurd hi (Nat.not_lt_zero i))
       | (intro i hi; have hi := Nat.lt_of_lt_of_le hi (show _ ≤ 1 from Nat.le_refl 1); obtain rfl : i = 0 := (by omega); rfl)
       | (intro i hi; have hi := Nat.lt_of_lt_of_le hi (show _ ≤ 2 from Nat.le_refl 2); rcases (show i = 0 ∨ i = 1 by omega) with rfl | rfl <;> rfl)
       | (intro i hi; have hi := Nat.lt_of_lt_of_le hi (show _ ≤ 3 from Nat.le_refl 3); rcases (show i = 0 ∨ i = 1 ∨ i = 2 by omega) with rfl | rfl | rfl <;> rfl)))
  rw [if_pos rfl] at e3
  obtain ⟨T, hT⟩ : ∃ T, rowS m (fK u) p (totS m (fK u) p) q = T := ⟨_, rfl⟩
  rw [hT] at e3 s2 ⊢
  conv => whnf
  refine cD (fun h7 => ?_) (fun h7 => ?_)
  · rw [show fK u (m.W q) = 1 from if_pos h7] at e3
    repeat
      conv => whnf
      first
        | (with_reducible refine qS ?_ ?_ ?_
           · exact rfl
           · exact rfl)
        | with_reducible refine qB ?_
        | (with_reducible refine qI ?_ ?_
           · omega)
        | (with_reducible refine qDT ?_ ?_
           · omega)
        | (with_reducible refine qDF ?_ ?_
           · omega)
        | (with_reducible refine qNT ?_ ?_
           · omega)
        | (with_reducible refine qNF ?_ ?_
           · omega)
        | (with_reducible refine qU8 ?_ ?_
           · omega)
        | (with_reducible refine qU32 ?_ ?_
           · omega)
        | (with_reducible refine qU64 ?_ ?_
           · omega)
        | (with_reducible refine qU16 ?_ ?_
           · omega)
    conv => whnf
    refine ⟨q + 1, ⟨by omega, by omega⟩, ?_⟩
    rw [e3]
    conv => whnf
    refine Le.id rfl ?_ ?_
    all_goals (repeat' (first
       | exact leT_empty
       | exact trivial
       | exact rfl
       | exact .inl rfl
       | exact .inr rfl
       | exact .inr ⟨rfl, rfl⟩
       | exact Nat.le_refl _
       | exact Nat.zero_le _
       | exact (fun _ _ => rfl)
       | assumption
       | refine And.intro ?_ ?_
       | (intro i hi; exact absurd hi (Nat.not_lt_zero i))
       | (intro i hi; have hi := Nat.lt_of_lt_of_le hi (show _ ≤ 1 from Nat.le_refl 1); obtain rfl : i = 0 := (by omega); rfl)
       | (intro i hi; have hi := Nat.lt_of_lt_of_le hi (show _ ≤ 2 from Nat.le_refl 2); rcases (show i = 0 ∨ i = 1 by omega) with rfl | rfl <;> rfl)
       | (intro i hi; have hi := Nat.lt_of_lt_of_le hi (show _ ≤ 3 from Nat.le_refl 3); rcases (show i = 0 ∨ i = 1 ∨ i = 2 by omega) with rfl | rfl | rfl <;> rfl)))
  · rw [show fK u (m.W q) = 0 from if_neg h7, Int.add_zero] at e3
    repeat
      conv => whnf
      first
        | (with_reducible refine qS ?_ ?_ ?_
           · exact rfl
           · exact rfl)
        | with_reducible refine qB ?_
        | (with_reducible refine qI ?_ ?_
           · omega)
        | (with_reducible refine qDT ?_ ?_
           · omega)
        | (with_reducible refine qDF ?_ ?_
           · omega)
        | (with_reducible refine qNT ?_ ?_
           · omega)
        | (with_reducible refine qNF ?_ ?_
           · omega)
        | (with_reducible refine qU8 ?_ ?_
           · omega)
        | (with_reducible refine qU32 ?_ ?_
           · omega)
        | (with_reducible refine qU64 ?_ ?_
           · omega)
        | (with_reducible refine qU16 ?_ ?_
           · omega)
    conv => whnf
    refine ⟨q + 1, ⟨by omega, by omega⟩, ?_⟩
    rw [e3]
    conv => whnf
    refine Le.id rfl ?_ ?_
    all_goals (repeat' (first
       | exact leT_empty
       | exact trivial
       | exact rfl
       | exact .inl rfl
       | exact .inr rfl
       | exact .inr ⟨rfl, rfl⟩
       | exact Nat.le_refl _
       | exact Nat.zero_le _
       | exact (fun _ _ => rfl)
       | assumption
       | refine And.intro ?_ ?_
       | (intro i hi; exact absurd hi (Nat.not_lt_zero i))
       | (intro i hi; have hi := Nat.lt_of_lt_of_le hi (show _ ≤ 1 from Nat.le_refl 1); obtain rfl : i = 0 := (by omega); rfl)
       | (intro i hi; have hi := Nat.lt_of_lt_of_le hi (show _ ≤ 2 from Nat.le_refl 2); rcases (show i = 0 ∨ i = 1 by omega) with rfl | rfl <;> rfl)
       | (intro i hi; have hi := Nat.lt_of_lt_of_le hi (show _ ≤ 3 from Nat.le_refl 3); rcases (show i = 0 ∨ i = 1 ∨ i = 2 by omega) with rfl | rfl | rfl <;> rfl)))
theorem wins_ok : ConOk Try.prog F.bound_Windows winsC := con_of_run (clRunX_ok (d := 6) ttOk outsBe_ok tabRN_ok 4) (fn_enters (ok.bound_Windows (D := 6) u0 _ (clRunX_ok (d := 6) ttOk .nil TabOk.nil 1))) fun p hp => wins_run p.1 p.2.1 p.2.2 hp.1 hp.2
abbrev sendsC : Con (Mat × Caps × Int) := RoCon (fun p => [matT p.1 p.2.1 0 1 2, iv .i64 p.2.2]) (fun p => matH p.1 []) (fun p => p.1.Ok ∧ capsOk p.1 p.2.1) fun p => iv .i64 (all1 p.1 (fS p.2.2))
theorem sends_use {m : Mat} {c : Caps} {u : Int} {rest : Heap} {K : R → Heap → Prop} (hm : m.Ok) (hc : capsOk m c) (hk : K (iv .i64 (all1 m (fS u))) (matH m rest)) : AskC sendsC [matT m c 0 1 2, iv .i64 u] (matH m rest) K :=
  .use (m, c, u) [0, 1, 2] ⟨hm, hc⟩ rfl (mat_le m rest) ⟨mat_lx m c rest, .inl rfl, trivial⟩ hk
noncomputable abbrev tabRS : List (FuncId × Eng.Fn) := [(F.bound_Sends, fn.bound_Sends u0), (F.bound_each, fn.bound_each u0), (F.bound_Sends_1, fn.bound_Sends_1 u0)]
theorem tabRS_ok {d : Nat} : TabOk d tabRS tt := .cons (ok.bound_Sends u0) (.cons (ok.bound_each u0) (.cons (ok.bound_Sends_1 u0) (TabOk.nil)))
theorem sends_run (m : Mat) (c : Caps) (u : Int) (hm : m.Ok) (hc : capsOk m c) : clRunX 6 tt outsBe tabRS 4 F.bound_Sends [] [matT m c 0 1 2, iv .i64 u] (matH m []) (fun x h => Trim 3 x h fun x h => x = iv .i64 (all1 m (fS u)) ∧ h = matH m []) := by
  repeat
    conv => whnf
    first
      | (with_reducible refine qS ?_ ?_ ?_
         · exact rfl
         · exact rfl)
      | with_reducible refine qB ?_
      | (with_reducible refine qI ?_ ?_
         · omega)
      | (with_reducible refine qDT ?_ ?_
         · omega)
      | (with_reducible refine qDF ?_ ?_
         · omega)
      | (with_reducible refine qNT ?_ ?_
         · omega)
      | (with_reducible refine qNF ?_ ?_
         · omega)
      | (with_reducible refine qU8 ?_ ?_
         · omega)
      | (with_reducible refine qU32 ?_ ?_
         · omega)
      | (with_reducible refine qU64 ?_ ?_
         · omega)
      | (with_reducible refine qU16 ?_ ?_
         · omega)
  conv => whnf
  refine right_use (m := m) (c := c) hm hc ?_
  by_cases h : (chk m).2 = 0
  rotate_left
  · rw [decide_eq_false h]
    repeat
      conv => whnf
      first
        | (with_reducible refine qS ?_ ?_ ?_
           · exact rfl
           · exact rfl)
        | with_reducible refine qB ?_
        | (with_reducible refine qI ?_ ?_
           · omega)
        | (with_reducible refine qDT ?_ ?_
           · omega)
        | (with_reducible refine qDF ?_ ?_
           · omega)
        | (with_reducible refine qNT ?_ ?_
           · omega)
        | (with_reducible refine qNF ?_ ?_
           · omega)
        | (with_reducible refine qU8 ?_ ?_
           · omega)
        | (with_reducible refine qU32 ?_ ?_
           · omega)
        | (with_reducible refine qU64 ?_ ?_
           · omega)
        | (with_reducible refine qU16 ?_ ?_
           · omega)
    conv => whnf
    exact trimM rfl (congrArg (iv .i64) (if_neg h).symm)
  rw [decide_eq_true h]
  have hi := (pass_of h).is
  have hcy : 1 ≤ m.cycles ∧ m.cycles ≤ 8 := (pass_of h).cyc8
  have hnW := hi.size.2.2.2
  obtain ⟨C, hC⟩ : ∃ C : Nat, m.cycles = C := ⟨m.cycles.toNat, by omega⟩
  have sm : ∀ {a b : Nat}, a ≤ C → b ≤ m.nW → _ := fun {a b} ha hb => sums_sm hi (fS_sm m u) (c := a) (i := b) (by omega) hb
  repeat
    conv => whnf
    first
      | (with_reducible refine qS ?_ ?_ ?_
         · exact rfl
         · exact rfl)
      | with_reducible refine qB ?_
      | (with_reducible refine qI ?_ ?_
         · omega)
      | (with_reducible refine qDT ?_ ?_
         · omega)
      | (with_reducible refine qDF ?_ ?_
         · omega)
      | (with_reducible refine qNT ?_ ?_
         · omega)
      | (with_reducible refine qNF ?_ ?_
         · omega)
      | (with_reducible refine qU8 ?_ ?_
         · omega)
      | (with_reducible refine qU32 ?_ ?_
         · omega)
      | (with_reducible refine qU64 ?_ ?_
         · omega)
      | (with_reducible refine qU16 ?_ ?_
         · omega)
  conv => whnf
  refine .inv (fun p : Nat => p ≤ C) (fun p => [(4, iv .i64 p)]) (fun p => matH m [boxM m c, .ob (.own [.c (iC u)]), .ob (.own [.c (iC (totS m (fS u) p))]), boxM m c]) (fun p => C - p) 0 (Nat.zero_le _) ?_ (fun p hp => ?_)
  · conv => whnf
    refine Le.id rfl ?_ ?_
    all_goals (repeat' (first
       | exact leT_empty
       | exact trivial
       | exact rfl
       | exact .inl rfl
       | exact .inr rfl
       | exact .inr ⟨rfl, rfl⟩
       | exact Nat.le_refl _
       | exact Nat.zero_le _
       | exact (fun _ _ => rfl)
       | assumption
       | refine And.intro ?_ ?_
       | (intro i hi; exact absurd hi (Nat.not_lt_zero i))
       | (intro i hi; have hi := Nat.lt_of_lt_of_le hi (show _ ≤ 1 from Nat.le_refl 1); obtain rfl : i = 0 := (by omega); rfl)
       | (intro i hi; have hi := Nat.lt_of_lt_of_le hi (show _ ≤ 2 from Nat.le_refl 2); rcases (show i = 0 ∨ i = 1 by omega) with rfl | rfl <;> rfl)
       | (intro i hi; have hi := Nat.lt_of_lt_of_le hi (show _ ≤ 3 from Nat.le_refl 3); rcases (show i = 0 ∨ i = 1 ∨ i = 2 by omega) with rfl | rfl | rfl <;> rfl)))
  have s1 := sm hp (Nat.zero_le _)
  repeat
    conv => whnf
    first
      | (with_reducible refine qS ?_ ?_ ?_
         · exact rfl
         · exact rfl)
      | with_reducible refine qB ?_
      | (with_reducible refine qI ?_ ?_
         · omega)
      | (with_reducible refine qDT ?_ ?_
         · omega)
      | (with_reducible refine qDF ?_ ?_
         · omega)
      | (with_reducible refine qNT ?_ ?_
         · omega)
      | (with_reducible refine qNF ?_ ?_
         · omega)
      | (with_reducible refine qU8 ?_ ?_
         · omega)
      | (with_reducible refine qU32 ?_ ?_
         · omega)
      | (with_reducible refine qU64 ?_ ?_
         · omega)
      | (with_reducible refine qU16 ?_ ?_
         · omega)
  conv => whnf
  refine cD (fun h5 => ?_) (fun h5 => ?_)
  · have e : p = C := by omega
    repeat
      conv => whnf
      first
        | (with_reducible refine qS ?_ ?_ ?_
           · exact rfl
           · exact rfl)
        | with_reducible refine qB ?_
        | (with_reducible refine qI ?_ ?_
           · omega)
        | (with_reducible refine qDT ?_ ?_
           · omega)
        | (with_reducible refine qDF ?_ ?_
           · omega)
        | (with_reducible refine qNT ?_ ?_
           · omega)
        | (with_reducible refine qNF ?_ ?_
           · omega)
        | (with_reducible refine qU8 ?_ ?_
           · omega)
        | (with_reducible refine qU32 ?_ ?_
           · omega)
        | (with_reducible refine qU64 ?_ ?_
           · omega)
        | (with_reducible refine qU16 ?_ ?_
           · omega)
    conv => whnf
    exact trimM rfl (congrArg (iv .i64) (show _ = all1 m (fS u) by unfold all1; rw [if_pos h, hC]; subst e; rfl))
  have hpC : p < C := by omega
  repeat
    conv => whnf
    first
      | (with_reducible refine qS ?_ ?_ ?_
         · exact rfl
         · exact rfl)
      | with_reducible refine qB ?_
      | (with_reducible refine qI ?_ ?_
         · omega)
      | (with_reducible refine qDT ?_ ?_
         · omega)
      | (with_reducible refine qDF ?_ ?_
         · omega)
      | (with_reducible refine qNT ?_ ?_
         · omega)
      | (with_reducible refine qNF ?_ ?_
         · omega)
      | (with_reducible refine qU8 ?_ ?_
         · omega)
      | (with_reducible refine qU32 ?_ ?_
         · omega)
      | (with_reducible refine qU64 ?_ ?_
         · omega)
      | (with_reducible refine qU16 ?_ ?_
         · omega)
  conv => whnf
  refine .inv (fun q : Nat => q ≤ m.nW) (fun q => [(19, iv .i64 q)]) (fun q => matH m [boxM m c, .ob (.own [.c (iC u)]), .ob (.own [.c (iC (rowS m (fS u) p (totS m (fS u) p) q))]), boxM m c]) (fun q => m.nW - q) 0 (Nat.zero_le _) ?_ (fun q hq => ?_)
  · conv => whnf
    refine Le.id rfl ?_ ?_
    all_goals (repeat' (first
       | exact leT_empty
       | exact trivial
       | exact rfl
       | exact .inl rfl
       | exact .inr rfl
       | exact .inr ⟨rfl, rfl⟩
       | exact Nat.le_refl _
       | exact Nat.zero_le _
       | exact (fun _ _ => rfl)
       | assumption
       | refine And.intro ?_ ?_
       | (intro i hi; exact absurd hi (Nat.not_lt_zero i))
       | (intro i hi; have hi := Nat.lt_of_lt_of_le hi (show _ ≤ 1 from Nat.le_refl 1); obtain rfl : i = 0 := (by omega); rfl)
       | (intro i hi; have hi := Nat.lt_of_lt_of_le hi (show _ ≤ 2 from Nat.le_refl 2); rcases (show i = 0 ∨ i = 1 by omega) with rfl | rfl <;> rfl)
       | (intro i hi; have hi := Nat.lt_of_lt_of_le hi (show _ ≤ 3 from Nat.le_refl 3); rcases (show i = 0 ∨ i = 1 ∨ i = 2 by omega) with rfl | rfl | rfl <;> rfl)))
  have s2 := sm hp hq
  conv => whnf
  refine cD (fun h6 => ?_) (fun h6 => ?_)
  rotate_left
  · obtain rfl : q = m.nW := by omega
    repeat
      conv => whnf
      first
        | (with_reducible refine qS ?_ ?_ ?_
           · exact rfl
           · exact rfl)
        | with_reducible refine qB ?_
        | (with_reducible refine qI ?_ ?_
           · omega)
        | (with_reducible refine qDT ?_ ?_
           · omega)
        | (with_reducible refine qDF ?_ ?_
           · omega)
        | (with_reducible refine qNT ?_ ?_
           · omega)
        | (with_reducible refine qNF ?_ ?_
           · omega)
        | (with_reducible refine qU8 ?_ ?_
           · omega)
        | (with_reducible refine qU32 ?_ ?_
           · omega)
        | (with_reducible refine qU64 ?_ ?_
           · omega)
        | (with_reducible refine qU16 ?_ ?_
           · omega)
    conv => whnf
    refine ⟨p + 1, ⟨by omega, by omega⟩, ?_⟩
    conv => whnf
    refine Le.id rfl ?_ ?_
    all_goals (repeat' (first
       | exact leT_empty
       | exact trivial
       | exact rfl
       | exact .inl rfl
       | exact .inr rfl
       | exact .inr ⟨rfl, rfl⟩
       | exact Nat.le_refl _
       | exact Nat.zero_le _
       | exact (fun _ _ => rfl)
       | assumption
       | refine And.intro ?_ ?_
       | (intro i hi; exact absurd hi (Nat.not_lt_zero i))
       | (intro i hi; have hi := Nat.lt_of_lt_of_le hi (show _ ≤ 1 from Nat.le_refl 1); obtain rfl : i = 0 := (by omega); rfl)
       | (intro i hi; have hi := Nat.lt_of_lt_of_le hi (show _ ≤ 2 from Nat.le_refl 2); rcases (show i = 0 ∨ i = 1 by omega) with rfl | rfl <;> rfl)
       | (intro i hi; have hi := Nat.lt_of_lt_of_le hi (show _ ≤ 3 from Nat.le_refl 3); rcases (show i = 0 ∨ i = 1 ∨ i = 2 by omega) with rfl | rfl | rfl <;> rfl)))
  repeat
    conv => whnf
    first
      | (with_reducible refine qS ?_ ?_ ?_
         · exact rfl
         · exact rfl)
      | with_reducible refine qB ?_
      | (with_reducible refine qI ?_ ?_
         · omega)
      | (with_reducible refine qDT ?_ ?_
         · omega)
      | (with_reducible refine qDF ?_ ?_
         · omega)
      | (with_reducible refine qNT ?_ ?_
         · omega)
      | (with_reducible refine qNF ?_ ?_
         · omega)
      | (with_reducible refine qU8 ?_ ?_
         · omega)
      | (with_reducible refine qU32 ?_ ?_
         · omega)
      | (with_reducible refine qU64 ?_ ?_
         · omega)
      | (with_reducible refine qU16 ?_ ?_
         · omega)
  conv => whnf
  try rw [zi q]
  repeat
    conv => whnf
    first
      | (with_reducible refine qS ?_ ?_ ?_
         · exact rfl
         · exact rfl)
      | with_reducible refine qB ?_
      | (with_reducible refine qI ?_ ?_
         · omega)
      | (with_reducible refine qDT ?_ ?_
         · omega)
      | (with_reducible refine qDF ?_ ?_
         · omega)
      | (with_reducible refine qNT ?_ ?_
         · omega)
      | (with_reducible refine qNF ?_ ?_
         · omega)
      | (with_reducible refine qU8 ?_ ?_
         · omega)
      | (with_reducible refine qU32 ?_ ?_
         · omega)
      | (with_reducible refine qU64 ?_ ?_
         · omega)
      | (with_reducible refine qU16 ?_ ?_
         · omega)
  conv => whnf
  refine comes_use (by unfold I64; omega) ?_
  have s3 := sm hp (show q + 1 ≤ m.nW by omega)
  have e3 : rowS m (fS u) p (totS m (fS u) p) (q + 1) = if comes (m.W q).cyc (m.W q).rep p then rowS m (fS u) p (totS m (fS u) p) q + fS u (m.W q) else rowS m (fS u) p (totS m (fS u) p) q := rfl
  rcases Bool.eq_false_or_eq_true (comes (m.W q).cyc (m.W q).rep p) with hcm | hcm <;> rw [hcm] at e3 ⊢
  rotate_left
  · rw [if_neg (by decide)] at e3
    repeat
      conv => whnf
      first
        | (with_reducible refine qS ?_ ?_ ?_
           · exact rfl
           · exact rfl)
        | with_reducible refine qB ?_
        | (with_reducible refine qI ?_ ?_
           · omega)
        | (with_reducible refine qDT ?_ ?_
           · omega)
        | (with_reducible refine qDF ?_ ?_
           · omega)
        | (with_reducible refine qNT ?_ ?_
           · omega)
        | (with_reducible refine qNF ?_ ?_
           · omega)
        | (with_reducible refine qU8 ?_ ?_
           · omega)
        | (with_reducible refine qU32 ?_ ?_
           · omega)
        | (with_reducible refine qU64 ?_ ?_
           · omega)
        | (with_reducible refine qU16 ?_ ?_
           · omega)
    conv => whnf
    refine ⟨q + 1, ⟨by omega, by omega⟩, ?_⟩
    rw [e3]
    conv => whnf
    refine Le.id rfl ?_ ?_
    all_goals (repeat' (first
       | exact leT_empty
       | exact trivial
       | exact rfl
       | exact .inl rfl
       | exact .inr rfl
       | exact .inr ⟨rfl, rfl⟩
       | exact Nat.le_refl _
       | exact Nat.zero_le _
       | exact (fun _ _ => rfl)
       | assumption
       | refine And.intro ?_ ?_
       | (intro i hi; exact absurd hi (Nat.not_lt_zero i))
       | (intro i hi; have hi := Nat.lt_of_lt_of_le hi (show _ ≤ 1 from Nat.le_refl 1); obtain rfl : i = 0 := (by omega); rfl)
       | (intro i hi; have hi := Nat.lt_of_lt_of_le hi (show _ ≤ 2 from Nat.le_refl 2); rcases (show i = 0 ∨ i = 1 by omega) with rfl | rfl <;> rfl)
       | (intro i hi; have hi := Nat.lt_of_lt_of_le hi (show _ ≤ 3 from Nat.le_refl 3); rcases (show i = 0 ∨ i = 1 ∨ i = 2 by omega) with rfl | rfl | rfl <;> rfl)))
  rw [if_pos rfl] at e3
  obtain ⟨T, hT⟩ : ∃ T, rowS m (fS u) p (totS m (fS u) p) q = T := ⟨_, rfl⟩
  rw [hT] at e3 s2 ⊢
  conv => whnf
  refine cD (fun h7 => ?_) (fun h7 => ?_)
  · conv => whnf
    refine cD (fun h8 => ?_) (fun h8 => ?_)
    · rw [show fS u (m.W q) = 1 from if_pos ⟨h7, h8⟩] at e3
      repeat
        conv => whnf
        first
          | (with_reducible refine qS ?_ ?_ ?_
             · exact rfl
             · exact rfl)
          | with_reducible refine qB ?_
          | (with_reducible refine qI ?_ ?_
             · omega)
          | (with_reducible refine qDT ?_ ?_
             · omega)
          | (with_reducible refine qDF ?_ ?_
             · omega)
          | (with_reducible refine qNT ?_ ?_
             · omega)
          | (with_reducible refine qNF ?_ ?_
             · omega)
          | (with_reducible refine qU8 ?_ ?_
             · omega)
          | (with_reducible refine qU32 ?_ ?_
             · omega)
          | (with_reducible refine qU64 ?_ ?_
             · omega)
          | (with_reducible refine qU16 ?_ ?_
             · omega)
      conv => whnf
      refine ⟨q + 1, ⟨by omega, by omega⟩, ?_⟩
      rw [e3]
      conv => whnf
      refine Le.id rfl ?_ ?_
      all_goals (repeat' (first
         | exact leT_empty
         | exact trivial
         | exact rfl
         | exact .inl rfl
         | exact .inr rfl
         | exact .inr ⟨rfl, rfl⟩
         | exact Nat.le_refl _
         | exact Nat.zero_le _
         | exact (fun _ _ => rfl)
         | assumption
         | refine And.intro ?_ ?_
         | (intro i hi; exact absurd hi (Nat.not_lt_zero i))
         | (intro i hi; have hi := Nat.lt_of_lt_of_le hi (show _ ≤ 1 from Nat.le_refl 1); obtain rfl : i = 0 := (by omega); rfl)
         | (intro i hi; have hi := Nat.lt_of_lt_of_le hi (show _ ≤ 2 from Nat.le_refl 2); rcases (show i = 0 ∨ i = 1 by omega) with rfl | rfl <;> rfl)
         | (intro i hi; have hi := Nat.lt_of_lt_of_le hi (show _ ≤ 3 from Nat.le_refl 3); rcases (show i = 0 ∨ i = 1 ∨ i = 2 by omega) with rfl | rfl | rfl <;> rfl)))
    · rw [show fS u (m.W q) = 0 from if_neg (by omega), Int.add_zero] at e3
      repeat
        conv => whnf
        first
          | (with_reducible refine qS ?_ ?_ ?_
             · exact rfl
             · exact rfl)
          | with_reducible refine qB ?_
          | (with_reducible refine qI ?_ ?_
             · omega)
          | (with_reducible refine qDT ?_ ?_
             · omega)
          | (with_reducible refine qDF ?_ ?_
             · omega)
          | (with_reducible refine qNT ?_ ?_
             · omega)
          | (with_reducible refine qNF ?_ ?_
             · omega)
          | (with_reducible refine qU8 ?_ ?_
             · omega)
          | (with_reducible refine qU32 ?_ ?_
             · omega)
          | (with_reducible refine qU64 ?_ ?_
             · omega)
          | (with_reducible refine qU16 ?_ ?_
             · omega)
      conv => whnf
      refine ⟨q + 1, ⟨by omega, by omega⟩, ?_⟩
      rw [e3]
      conv => whnf
      refine Le.id rfl ?_ ?_
      all_goals (repeat' (first
         | exact leT_empty
         | exact trivial
         | exact rfl
         | exact .inl rfl
         | exact .inr rfl
         | exact .inr ⟨rfl, rfl⟩
         | exact Nat.le_refl _
         | exact Nat.zero_le _
         | exact (fun _ _ => rfl)
         | assumption
         | refine And.intro ?_ ?_
         | (intro i hi; exact absurd hi (Nat.not_lt_zero i))
         | (intro i hi; have hi := Nat.lt_of_lt_of_le hi (show _ ≤ 1 from Nat.le_refl 1); obtain rfl : i = 0 := (by omega); rfl)
         | (intro i hi; have hi := Nat.lt_of_lt_of_le hi (show _ ≤ 2 from Nat.le_refl 2); rcases (show i = 0 ∨ i = 1 by omega) with rfl | rfl <;> rfl)
         | (intro i hi; have hi := Nat.lt_of_lt_of_le hi (show _ ≤ 3 from Nat.le_refl 3); rcases (show i = 0 ∨ i = 1 ∨ i = 2 by omega) with rfl | rfl | rfl <;> rfl)))
  · rw [show fS u (m.W q) = 0 from if_neg (by omega), Int.add_zero] at e3
    repeat
      conv => whnf
      first
        | (with_reducible refine qS ?_ ?_ ?_
           · exact rfl
           · exact rfl)
        | with_reducible refine qB ?_
        | (with_reducible refine qI ?_ ?_
           · omega)
        | (with_reducible refine qDT ?_ ?_
           · omega)
        | (with_reducible refine qDF ?_ ?_
           · omega)
        | (with_reducible refine qNT ?_ ?_
           · omega)
        | (with_reducible refine qNF ?_ ?_
           · omega)
        | (with_reducible refine qU8 ?_ ?_
           · omega)
        | (with_reducible refine qU32 ?_ ?_
           · omega)
        | (with_reducible refine qU64 ?_ ?_
           · omega)
        | (with_reducible refine qU16 ?_ ?_
           · omega)
    conv => whnf
    refine ⟨q + 1, ⟨by omega, by omega⟩, ?_⟩
    rw [e3]
    conv => whnf
    refine Le.id rfl ?_ ?_
    all_goals (repeat' (first
       | exact leT_empty
       | exact trivial
       | exact rfl
       | exact .inl rfl
       | exact .inr rfl
       | exact .inr ⟨rfl, rfl⟩
       | exact Nat.le_refl _
       | exact Nat.zero_le _
       | exact (fun _ _ => rfl)
       | assumption
       | refine And.intro ?_ ?_
       | (intro i hi; exact absurd hi (Nat.not_lt_zero i))
       | (intro i hi; have hi := Nat.lt_of_lt_of_le hi (show _ ≤ 1 from Nat.le_refl 1); obtain rfl : i = 0 := (by omega); rfl)
       | (intro i hi; have hi := Nat.lt_of_lt_of_le hi (show _ ≤ 2 from Nat.le_refl 2); rcases (show i = 0 ∨ i = 1 by omega) with rfl | rfl <;> rfl)
       | (intro i hi; have hi := Nat.lt_of_lt_of_le hi (show _ ≤ 3 from Nat.le_refl 3); rcases (show i = 0 ∨ i = 1 ∨ i = 2 by omega) with rfl | rfl | rfl <;> rfl)))
theorem sends_ok : ConOk Try.prog F.bound_Sends sendsC := con_of_run (clRunX_ok (d := 6) ttOk outsBe_ok tabRS_ok 4) (fn_enters (ok.bound_Sends (D := 6) u0 _ (clRunX_ok (d := 6) ttOk .nil TabOk.nil 1))) fun p hp => sends_run p.1 p.2.1 p.2.2 hp.1 hp.2
abbrev busyC : Con (Mat × Caps) := RoCon (fun p => [matT p.1 p.2 0 1 2]) (fun p => matH p.1 []) (fun p => p.1.Ok ∧ capsOk p.1 p.2) fun p => iv .i64 (all1 p.1 fB)
theorem busy_use {m : Mat} {c : Caps} {rest : Heap} {K : R → Heap → Prop} (hm : m.Ok) (hc : capsOk m c) (hk : K (iv .i64 (all1 m fB)) (matH m rest)) : AskC busyC [matT m c 0 1 2] (matH m rest) K :=
  .use (m, c) [0, 1, 2] ⟨hm, hc⟩ rfl (mat_le m rest) ⟨mat_lx m c rest, trivial⟩ hk
noncomputable abbrev tabRY : List (FuncId × Eng.Fn) := [(F.bound_Busy, fn.bound_Busy u0), (F.bound_each, fn.bound_each u0), (F.bound_Busy_1, fn.bound_Busy_1 u0)]
theorem tabRY_ok {d : Nat} : TabOk d tabRY tt := .cons (ok.bound_Busy u0) (.cons (ok.bound_each u0) (.cons (ok.bound_Busy_1 u0) (TabOk.nil)))
theorem busy_run (m : Mat) (c : Caps) (hm : m.Ok) (hc : capsOk m c) : clRunX 6 tt outsBe tabRY 4 F.bound_Busy [] [matT m c 0 1 2] (matH m []) (fun x h => Trim 3 x h fun x h => x = iv .i64 (all1 m fB) ∧ h = matH m []) := by
  repeat
    conv => whnf
    first
      | (with_reducible refine qS ?_ ?_ ?_
         · exact rfl
         · exact rfl)
      | with_reducible refine qB ?_
      | (with_reducible refine qI ?_ ?_
         · omega)
      | (with_reducible refine qDT ?_ ?_
         · omega)
      | (with_reducible refine qDF ?_ ?_
         · omega)
      | (with_reducible refine qNT ?_ ?_
         · omega)
      | (with_reducible refine qNF ?_ ?_
         · omega)
      | (with_reducible refine qU8 ?_ ?_
         · omega)
      | (with_reducible refine qU32 ?_ ?_
         · omega)
      | (with_reducible refine qU64 ?_ ?_
         · omega)
      | (with_reducible refine qU16 ?_ ?_
         · omega)
  conv => whnf
  refine right_use (m := m) (c := c) hm hc ?_
  by_cases h : (chk m).2 = 0
  rotate_left
  · rw [decide_eq_false h]
    repeat
      conv => whnf
      first
        | (with_reducible refine qS ?_ ?_ ?_
           · exact rfl
           · exact rfl)
        | with_reducible refine qB ?_
        | (with_reducible refine qI ?_ ?_
           · omega)
        | (with_reducible refine qDT ?_ ?_
           · omega)
        | (with_reducible refine qDF ?_ ?_
           · omega)
        | (with_reducible refine qNT ?_ ?_
           · omega)
        | (with_reducible refine qNF ?_ ?_
           · omega)
        | (with_reducible refine qU8 ?_ ?_
           · omega)
        | (with_reducible refine qU32 ?_ ?_
           · omega)
        | (with_reducible refine qU64 ?_ ?_
           · omega)
        | (with_reducible refine qU16 ?_ ?_
           · omega)
    conv => whnf
    exact trimM rfl (congrArg (iv .i64) (if_neg h).symm)
  rw [decide_eq_true h]
  have hi := (pass_of h).is
  have hcy : 1 ≤ m.cycles ∧ m.cycles ≤ 8 := (pass_of h).cyc8
  have hnW := hi.size.2.2.2
  obtain ⟨C, hC⟩ : ∃ C : Nat, m.cycles = C := ⟨m.cycles.toNat, by omega⟩
  have sm : ∀ {a b : Nat}, a ≤ C → b ≤ m.nW → _ := fun {a b} ha hb => sums_sm hi (fB_sm hi) (c := a) (i := b) (by omega) hb
  repeat
    conv => whnf
    first
      | (with_reducible refine qS ?_ ?_ ?_
         · exact rfl
         · exact rfl)
      | with_reducible refine qB ?_
      | (with_reducible refine qI ?_ ?_
         · omega)
      | (with_reducible refine qDT ?_ ?_
         · omega)
      | (with_reducible refine qDF ?_ ?_
         · omega)
      | (with_reducible refine qNT ?_ ?_
         · omega)
      | (with_reducible refine qNF ?_ ?_
         · omega)
      | (with_reducible refine qU8 ?_ ?_
         · omega)
      | (with_reducible refine qU32 ?_ ?_
         · omega)
      | (with_reducible refine qU64 ?_ ?_
         · omega)
      | (with_reducible refine qU16 ?_ ?_
         · omega)
  conv => whnf
  refine .inv (fun p : Nat => p ≤ C) (fun p => [(4, iv .i64 p)]) (fun p => matH m [boxM m c, .ob (.own [.c (iC (totS m fB p))]), boxM m c]) (fun p => C - p) 0 (Nat.zero_le _) ?_ (fun p hp => ?_)
  · conv => whnf
    refine Le.id rfl ?_ ?_
    all_goals (repeat' (first
       | exact leT_empty
       | exact trivial
       | exact rfl
       | exact .inl rfl
       | exact .inr rfl
       | exact .inr ⟨rfl, rfl⟩
       | exact Nat.le_refl _
       | exact Nat.zero_le _
       | exact (fun _ _ => rfl)
       | assumption
       | refine And.intro ?_ ?_
       | (intro i hi; exact absurd hi (Nat.not_lt_zero i))
       | (intro i hi; have hi := Nat.lt_of_lt_of_le hi (show _ ≤ 1 from Nat.le_refl 1); obtain rfl : i = 0 := (by omega); rfl)
       | (intro i hi; have hi := Nat.lt_of_lt_of_le hi (show _ ≤ 2 from Nat.le_refl 2); rcases (show i = 0 ∨ i = 1 by omega) with rfl | rfl <;> rfl)
       | (intro i hi; have hi := Nat.lt_of_lt_of_le hi (show _ ≤ 3 from Nat.le_refl 3); rcases (show i = 0 ∨ i = 1 ∨ i = 2 by omega) with rfl | rfl | rfl <;> rfl)))
  have s1 := sm hp (Nat.zero_le _)
  repeat
    conv => whnf
    first
      | (with_reducible refine qS ?_ ?_ ?_
         · exact rfl
         · exact rfl)
      | with_reducible refine qB ?_
      | (with_reducible refine qI ?_ ?_
         · omega)
      | (with_reducible refine qDT ?_ ?_
         · omega)
      | (with_reducible refine qDF ?_ ?_
         · omega)
      | (with_reducible refine qNT ?_ ?_
         · omega)
      | (with_reducible refine qNF ?_ ?_
         · omega)
      | (with_reducible refine qU8 ?_ ?_
         · omega)
      | (with_reducible refine qU32 ?_ ?_
         · omega)
      | (with_reducible refine qU64 ?_ ?_
         · omega)
      | (with_reducible refine qU16 ?_ ?_
         · omega)
  conv => whnf
  refine cD (fun h5 => ?_) (fun h5 => ?_)
  · have e : p = C := by omega
    repeat
      conv => whnf
      first
        | (with_reducible refine qS ?_ ?_ ?_
           · exact rfl
           · exact rfl)
        | with_reducible refine qB ?_
        | (with_reducible refine qI ?_ ?_
           · omega)
        | (with_reducible refine qDT ?_ ?_
           · omega)
        | (with_reducible refine qDF ?_ ?_
           · omega)
        | (with_reducible refine qNT ?_ ?_
           · omega)
        | (with_reducible refine qNF ?_ ?_
           · omega)
        | (with_reducible refine qU8 ?_ ?_
           · omega)
        | (with_reducible refine qU32 ?_ ?_
           · omega)
        | (with_reducible refine qU64 ?_ ?_
           · omega)
        | (with_reducible refine qU16 ?_ ?_
           · omega)
    conv => whnf
    exact trimM rfl (congrArg (iv .i64) (show _ = all1 m fB by unfold all1; rw [if_pos h, hC]; subst e; rfl))
  have hpC : p < C := by omega
  repeat
    conv => whnf
    first
      | (with_reducible refine qS ?_ ?_ ?_
         · exact rfl
         · exact rfl)
      | with_reducible refine qB ?_
      | (with_reducible refine qI ?_ ?_
         · omega)
      | (with_reducible refine qDT ?_ ?_
         · omega)
      | (with_reducible refine qDF ?_ ?_
         · omega)
      | (with_reducible refine qNT ?_ ?_
         · omega)
      | (with_reducible refine qNF ?_ ?_
         · omega)
      | (with_reducible refine qU8 ?_ ?_
         · omega)
      | (with_reducible refine qU32 ?_ ?_
         · omega)
      | (with_reducible refine qU64 ?_ ?_
         · omega)
      | (with_reducible refine qU16 ?_ ?_
         · omega)
  conv => whnf
  refine .inv (fun q : Nat => q ≤ m.nW) (fun q => [(19, iv .i64 q)]) (fun q => matH m [boxM m c, .ob (.own [.c (iC (rowS m fB p (totS m fB p) q))]), boxM m c]) (fun q => m.nW - q) 0 (Nat.zero_le _) ?_ (fun q hq => ?_)
  · conv => whnf
    refine Le.id rfl ?_ ?_
    all_goals (repeat' (first
       | exact leT_empty
       | exact trivial
       | exact rfl
       | exact .inl rfl
       | exact .inr rfl
       | exact .inr ⟨rfl, rfl⟩
       | exact Nat.le_refl _
       | exact Nat.zero_le _
       | exact (fun _ _ => rfl)
       | assumption
       | refine And.intro ?_ ?_
       | (intro i hi; exact absurd hi (Nat.not_lt_zero i))
       | (intro i hi; have hi := Nat.lt_of_lt_of_le hi (show _ ≤ 1 from Nat.le_refl 1); obtain rfl : i = 0 := (by omega); rfl)
       | (intro i hi; have hi := Nat.lt_of_lt_of_le hi (show _ ≤ 2 from Nat.le_refl 2); rcases (show i = 0 ∨ i = 1 by omega) with rfl | rfl <;> rfl)
       | (intro i hi; have hi := Nat.lt_of_lt_of_le hi (show _ ≤ 3 from Nat.le_refl 3); rcases (show i = 0 ∨ i = 1 ∨ i = 2 by omega) with rfl | rfl | rfl <;> rfl)))
  have s2 := sm hp hq
  conv => whnf
  refine cD (fun h6 => ?_) (fun h6 => ?_)
  rotate_left
  · obtain rfl : q = m.nW := by omega
    repeat
      conv => whnf
      first
        | (with_reducible refine qS ?_ ?_ ?_
           · exact rfl
           · exact rfl)
        | with_reducible refine qB ?_
        | (with_reducible refine qI ?_ ?_
           · omega)
        | (with_reducible refine qDT ?_ ?_
           · omega)
        | (with_reducible refine qDF ?_ ?_
           · omega)
        | (with_reducible refine qNT ?_ ?_
           · omega)
        | (with_reducible refine qNF ?_ ?_
           · omega)
        | (with_reducible refine qU8 ?_ ?_
           · omega)
        | (with_reducible refine qU32 ?_ ?_
           · omega)
        | (with_reducible refine qU64 ?_ ?_
           · omega)
        | (with_reducible refine qU16 ?_ ?_
           · omega)
    conv => whnf
    refine ⟨p + 1, ⟨by omega, by omega⟩, ?_⟩
    conv => whnf
    refine Le.id rfl ?_ ?_
    all_goals (repeat' (first
       | exact leT_empty
       | exact trivial
       | exact rfl
       | exact .inl rfl
       | exact .inr rfl
       | exact .inr ⟨rfl, rfl⟩
       | exact Nat.le_refl _
       | exact Nat.zero_le _
       | exact (fun _ _ => rfl)
       | assumption
       | refine And.intro ?_ ?_
       | (intro i hi; exact absurd hi (Nat.not_lt_zero i))
       | (intro i hi; have hi := Nat.lt_of_lt_of_le hi (show _ ≤ 1 from Nat.le_refl 1); obtain rfl : i = 0 := (by omega); rfl)
       | (intro i hi; have hi := Nat.lt_of_lt_of_le hi (show _ ≤ 2 from Nat.le_refl 2); rcases (show i = 0 ∨ i = 1 by omega) with rfl | rfl <;> rfl)
       | (intro i hi; have hi := Nat.lt_of_lt_of_le hi (show _ ≤ 3 from Nat.le_refl 3); rcases (show i = 0 ∨ i = 1 ∨ i = 2 by omega) with rfl | rfl | rfl <;> rfl)))
  repeat
    conv => whnf
    first
      | (with_reducible refine qS ?_ ?_ ?_
         · exact rfl
         · exact rfl)
      | with_reducible refine qB ?_
      | (with_reducible refine qI ?_ ?_
         · omega)
      | (with_reducible refine qDT ?_ ?_
         · omega)
      | (with_reducible refine qDF ?_ ?_
         · omega)
      | (with_reducible refine qNT ?_ ?_
         · omega)
      | (with_reducible refine qNF ?_ ?_
         · omega)
      | (with_reducible refine qU8 ?_ ?_
         · omega)
      | (with_reducible refine qU32 ?_ ?_
         · omega)
      | (with_reducible refine qU64 ?_ ?_
         · omega)
      | (with_reducible refine qU16 ?_ ?_
         · omega)
  conv => whnf
  try rw [zi q]
  repeat
    conv => whnf
    first
      | (with_reducible refine qS ?_ ?_ ?_
         · exact rfl
         · exact rfl)
      | with_reducible refine qB ?_
      | (with_reducible refine qI ?_ ?_
         · omega)
      | (with_reducible refine qDT ?_ ?_
         · omega)
      | (with_reducible refine qDF ?_ ?_
         · omega)
      | (with_reducible refine qNT ?_ ?_
         · omega)
      | (with_reducible refine qNF ?_ ?_
         · omega)
      | (with_reducible refine qU8 ?_ ?_
         · omega)
      | (with_reducible refine qU32 ?_ ?_
         · omega)
      | (with_reducible refine qU64 ?_ ?_
         · omega)
      | (with_reducible refine qU16 ?_ ?_
         · omega)
  conv => whnf
  refine comes_use (by unfold I64; omega) ?_
  have s3 := sm hp (show q + 1 ≤ m.nW by omega)
  have e3 : rowS m fB p (totS m fB p) (q + 1) = if comes (m.W q).cyc (m.W q).rep p then rowS m fB p (totS m fB p) q + fB (m.W q) else rowS m fB p (totS m fB p) q := rfl
  rcases Bool.eq_false_or_eq_true (comes (m.W q).cyc (m.W q).rep p) with hcm | hcm <;> rw [hcm] at e3 ⊢
  rotate_left
  · rw [if_neg (by decide)] at e3
    repeat
      conv => whnf
      first
        | (with_reducible refine qS ?_ ?_ ?_
           · exact rfl
           · exact rfl)
        | with_reducible refine qB ?_
        | (with_reducible refine qI ?_ ?_
           · omega)
        | (with_reducible refine qDT ?_ ?_
           · omega)
        | (with_reducible refine qDF ?_ ?_
           · omega)
        | (with_reducible refine qNT ?_ ?_
           · omega)
        | (with_reducible refine qNF ?_ ?_
           · omega)
        | (with_reducible refine qU8 ?_ ?_
           · omega)
        | (with_reducible refine qU32 ?_ ?_
           · omega)
        | (with_reducible refine qU64 ?_ ?_
           · omega)
        | (with_reducible refine qU16 ?_ ?_
           · omega)
    conv => whnf
    refine ⟨q + 1, ⟨by omega, by omega⟩, ?_⟩
    rw [e3]
    conv => whnf
    refine Le.id rfl ?_ ?_
    all_goals (repeat' (first
       | exact leT_empty
       | exact trivial
       | exact rfl
       | exact .inl rfl
       | exact .inr rfl
       | exact .inr ⟨rfl, rfl⟩
       | exact Nat.le_refl _
       | exact Nat.zero_le _
       | exact (fun _ _ => rfl)
       | assumption
       | refine And.intro ?_ ?_
       | (intro i hi; exact absurd hi (Nat.not_lt_zero i))
       | (intro i hi; have hi := Nat.lt_of_lt_of_le hi (show _ ≤ 1 from Nat.le_refl 1); obtain rfl : i = 0 := (by omega); rfl)
       | (intro i hi; have hi := Nat.lt_of_lt_of_le hi (show _ ≤ 2 from Nat.le_refl 2); rcases (show i = 0 ∨ i = 1 by omega) with rfl | rfl <;> rfl)
       | (intro i hi; have hi := Nat.lt_of_lt_of_le hi (show _ ≤ 3 from Nat.le_refl 3); rcases (show i = 0 ∨ i = 1 ∨ i = 2 by omega) with rfl | rfl | rfl <;> rfl)))
  rw [if_pos rfl] at e3
  obtain ⟨T, hT⟩ : ∃ T, rowS m fB p (totS m fB p) q = T := ⟨_, rfl⟩
  rw [hT] at e3 s2 ⊢
  have hw := hi.W q (by omega)
  have hh := hi.head
  unfold winP at hw
  unfold headP at hh
  conv => whnf
  refine cN (fun h7 => ?_) (fun h7 => ?_)
  · rw [show fB (m.W q) = (m.W q).en - (m.W q).st from if_pos (by omega)] at e3
    repeat
      conv => whnf
      first
        | (with_reducible refine qS ?_ ?_ ?_
           · exact rfl
           · exact rfl)
        | with_reducible refine qB ?_
        | (with_reducible refine qI ?_ ?_
           · omega)
        | (with_reducible refine qDT ?_ ?_
           · omega)
        | (with_reducible refine qDF ?_ ?_
           · omega)
        | (with_reducible refine qNT ?_ ?_
           · omega)
        | (with_reducible refine qNF ?_ ?_
           · omega)
        | (with_reducible refine qU8 ?_ ?_
           · omega)
        | (with_reducible refine qU32 ?_ ?_
           · omega)
        | (with_reducible refine qU64 ?_ ?_
           · omega)
        | (with_reducible refine qU16 ?_ ?_
           · omega)
    conv => whnf
    refine ⟨q + 1, ⟨by omega, by omega⟩, ?_⟩
    rw [e3]
    conv => whnf
    refine Le.id rfl ?_ ?_
    all_goals (repeat' (first
       | exact leT_empty
       | exact trivial
       | exact rfl
       | exact .inl rfl
       | exact .inr rfl
       | exact .inr ⟨rfl, rfl⟩
       | exact Nat.le_refl _
       | exact Nat.zero_le _
       | exact (fun _ _ => rfl)
       | assumption
       | refine And.intro ?_ ?_
       | (intro i hi; exact absurd hi (Nat.not_lt_zero i))
       | (intro i hi; have hi := Nat.lt_of_lt_of_le hi (show _ ≤ 1 from Nat.le_refl 1); obtain rfl : i = 0 := (by omega); rfl)
       | (intro i hi; have hi := Nat.lt_of_lt_of_le hi (show _ ≤ 2 from Nat.le_refl 2); rcases (show i = 0 ∨ i = 1 by omega) with rfl | rfl <;> rfl)
       | (intro i hi; have hi := Nat.lt_of_lt_of_le hi (show _ ≤ 3 from Nat.le_refl 3); rcases (show i = 0 ∨ i = 1 ∨ i = 2 by omega) with rfl | rfl | rfl <;> rfl)))
  · rw [show fB (m.W q) = 0 from if_neg (by omega), Int.add_zero] at e3
    repeat
      conv => whnf
      first
        | (with_reducible refine qS ?_ ?_ ?_
           · exact rfl
           · exact rfl)
        | with_reducible refine qB ?_
        | (with_reducible refine qI ?_ ?_
           · omega)
        | (with_reducible refine qDT ?_ ?_
           · omega)
        | (with_reducible refine qDF ?_ ?_
           · omega)
        | (with_reducible refine qNT ?_ ?_
           · omega)
        | (with_reducible refine qNF ?_ ?_
           · omega)
        | (with_reducible refine qU8 ?_ ?_
           · omega)
        | (with_reducible refine qU32 ?_ ?_
           · omega)
        | (with_reducible refine qU64 ?_ ?_
           · omega)
        | (with_reducible refine qU16 ?_ ?_
           · omega)
    conv => whnf
    refine ⟨q + 1, ⟨by omega, by omega⟩, ?_⟩
    rw [e3]
    conv => whnf
    refine Le.id rfl ?_ ?_
    all_goals (repeat' (first
       | exact leT_empty
       | exact trivial
       | exact rfl
       | exact .inl rfl
       | exact .inr rfl
       | exact .inr ⟨rfl, rfl⟩
       | exact Nat.le_refl _
       | exact Nat.zero_le _
       | exact (fun _ _ => rfl)
       | assumption
       | refine And.intro ?_ ?_
       | (intro i hi; exact absurd hi (Nat.not_lt_zero i))
       | (intro i hi; have hi := Nat.lt_of_lt_of_le hi (show _ ≤ 1 from Nat.le_refl 1); obtain rfl : i = 0 := (by omega); rfl)
       | (intro i hi; have hi := Nat.lt_of_lt_of_le hi (show _ ≤ 2 from Nat.le_refl 2); rcases (show i = 0 ∨ i = 1 by omega) with rfl | rfl <;> rfl)
       | (intro i hi; have hi := Nat.lt_of_lt_of_le hi (show _ ≤ 3 from Nat.le_refl 3); rcases (show i = 0 ∨ i = 1 ∨ i = 2 by omega) with rfl | rfl | rfl <;> rfl)))
theorem busy_ok : ConOk Try.prog F.bound_Busy busyC := con_of_run (clRunX_ok (d := 6) ttOk outsBe_ok tabRY_ok 4) (fn_enters (ok.bound_Busy (D := 6) u0 _ (clRunX_ok (d := 6) ttOk .nil TabOk.nil 1))) fun p hp => busy_run p.1 p.2 hp.1 hp.2
end Go.Proofs.Ytbdifadabipfiaa.Co
