/- PlanDue: of every row of triggers those that are due between two units of a cycle; cut anywhere the same: true at every input; no conditions. -/
import Derived.Test.YtbdifadabipfiaaLaZ
import Derived.Test.YtbdifadabipfiaaCoX
namespace Go.Proofs.Ytbdifadabipfiaa.planDue
open Go Go.Eng Go.Proofs Go.Proofs.Ytbdifadabipfiaa.Tb Go.Proofs.Ytbdifadabipfiaa.Co Go.Proofs.Ytbdifadabipfiaa.La Go.Pu
set_option maxRecDepth 100000
set_option maxHeartbeats 4000000
theorem due_cut (T : Nat → Trg) (cy : Int) {a b d : Int} (h : a ≤ b ∧ b ≤ d) : ∀ i, (dueL T cy a b i).length + (dueL T cy b d i).length = (dueL T cy a d i).length
  | 0 => rfl
  | i + 1 => by
    have h1 := due_cut T cy h i
    have e1 : dueB (T i) cy a b = (decide (a < (T i).at_ ∧ (T i).at_ ≤ b) && comes (T i).cyc (T i).rep cy) := rfl
    have e2 : dueB (T i) cy b d = (decide (b < (T i).at_ ∧ (T i).at_ ≤ d) && comes (T i).cyc (T i).rep cy) := rfl
    have e3 : dueB (T i) cy a d = (decide (a < (T i).at_ ∧ (T i).at_ ≤ d) && comes (T i).cyc (T i).rep cy) := rfl
    simp only [dueL]
    rw [e1, e2, e3]
    rcases Bool.eq_false_or_eq_true (comes (T i).cyc (T i).rep cy) with hc | hc <;> rw [hc]
    · by_cases c1 : a < (T i).at_ ∧ (T i).at_ ≤ b
      · rw [decide_eq_true c1, decide_eq_false (show ¬ (b < (T i).at_ ∧ (T i).at_ ≤ d) by omega), decide_eq_true (show a < (T i).at_ ∧ (T i).at_ ≤ d by omega)]
        simp; omega
      · by_cases c2 : b < (T i).at_ ∧ (T i).at_ ≤ d
        · rw [decide_eq_false c1, decide_eq_true c2, decide_eq_true (show a < (T i).at_ ∧ (T i).at_ ≤ d by omega)]
          simp; omega
        · rw [decide_eq_false c1, decide_eq_false c2, decide_eq_false (show ¬ (a < (T i).at_ ∧ (T i).at_ ≤ d) by omega)]
          simp; omega
    · simp; omega
abbrev outsD : List (FuncId × Cx) := (F.ref12_Due, AskC dueRC) :: (F.law15_same, AskC sameC) :: outsL15
theorem outsD_ok : OutsOk Try.prog outsD := .cons (ask_ok dueR_ok) (.cons (ask_ok same_ok) outsL15_ok)
noncomputable abbrev tabL : List (FuncId × Eng.Fn) := [(F.law15_PlanDue, fn.law15_PlanDue u0)]
theorem tabL_ok {d : Nat} : TabOk d tabL tt := .cons (ok.law15_PlanDue u0) (TabOk.nil)
abbrev pas : List Pa := [.one (.s [.int .i64, .int .i64, .int .i64, .int .i64, .int .i64, .int .i64]), .one i64, .one i64, .one i64, .one i64]
theorem walk (T : Nat → Trg) (n cap : Nat) (nl : Bool) (cy a d b : Int) (hcy : I64 cy) : clRunX 6 tt outsD tabL 2 F.law15_PlanDue [] [slT 0 n cap nl, iv .i64 cy, iv .i64 a, iv .i64 d, iv .i64 b] [rdT T n] (fun x _ => x = bv true) := by
  conv => whnf
  refine true_use ?_
  repeat
    conv => whnf
    first
      | (with_reducible refine qS ?_ ?_ ?_
         · exact rfl
         · exact rfl)
      | with_reducible refine qB ?_
      | (with_reducible refine qI ?_ ?_
         · omega)
      | (with_reducible refine qDT ?_ ?_
         · omega)
      | (with_reducible refine qDF ?_ ?_
         · omega)
      | (with_reducible refine qNT ?_ ?_
         · omega)
      | (with_reducible refine qNF ?_ ?_
         · omega)
      | (with_reducible refine qU8 ?_ ?_
         · omega)
      | (with_reducible refine qU32 ?_ ?_
         · omega)
      | (with_reducible refine qU64 ?_ ?_
         · omega)
      | (with_reducible refine qU16 ?_ ?_
         · omega)
  conv => whnf
  refine cD (fun h1 => ?_) (fun h1 => ?_)
  · repeat
      conv => whnf
      first
        | (with_reducible refine qS ?_ ?_ ?_
           · exact rfl
           · exact rfl)
        | with_reducible refine qB ?_
        | (with_reducible refine qI ?_ ?_
           · omega)
        | (with_reducible refine qDT ?_ ?_
           · omega)
        | (with_reducible refine qDF ?_ ?_
           · omega)
        | (with_reducible refine qNT ?_ ?_
           · omega)
        | (with_reducible refine qNF ?_ ?_
           · omega)
        | (with_reducible refine qU8 ?_ ?_
           · omega)
        | (with_reducible refine qU32 ?_ ?_
           · omega)
        | (with_reducible refine qU64 ?_ ?_
           · omega)
        | (with_reducible refine qU16 ?_ ?_
           · omega)
    conv => whnf
    exact rfl
  have l0 := dueL_len T cy a b n
  have l1 := dueL_len T cy a d n
  have l2 := dueL_len T cy d b n
  obtain ⟨D, hD⟩ : ∃ D, dueL T cy a b n = D := ⟨_, rfl⟩
  rw [hD] at l0
  repeat
    conv => whnf
    first
      | (with_reducible refine qS ?_ ?_ ?_
         · exact rfl
         · exact rfl)
      | with_reducible refine qB ?_
      | (with_reducible refine qI ?_ ?_
         · omega)
      | (with_reducible refine qDT ?_ ?_
         · omega)
      | (with_reducible refine qDF ?_ ?_
         · omega)
      | (with_reducible refine qNT ?_ ?_
         · omega)
      | (with_reducible refine qNF ?_ ?_
         · omega)
      | (with_reducible refine qU8 ?_ ?_
         · omega)
      | (with_reducible refine qU32 ?_ ?_
         · omega)
      | (with_reducible refine qU64 ?_ ?_
         · omega)
      | (with_reducible refine qU16 ?_ ?_
         · omega)
  conv => whnf
  refine .det (T, n, cap, nl, cy, a, b) [0] (slT 1 (dueL T cy a b n).length n false) [rdT T n, rowT (at0L (dueL T cy a b n)) n n] ⟨by show n ≤ 100; omega, hcy⟩ rfl ?_ ?_ rfl rfl ?_
  · repeat' (first
      | exact leT_empty
      | exact trivial
      | exact rfl
      | exact .inl rfl
      | exact .inr rfl
      | exact .inr ⟨rfl, rfl⟩
      | exact Nat.le_refl _
      | exact Nat.zero_le _
      | exact (fun _ _ => rfl)
      | assumption
      | refine And.intro ?_ ?_
      | (intro i hi; exact absurd hi (Nat.not_lt_zero i))
      | (intro i hi; have hi := Nat.lt_of_lt_of_le hi (show _ ≤ 1 from Nat.le_refl 1); obtain rfl : i = 0 := (by omega); rfl)
      | (intro i hi; have hi := Nat.lt_of_lt_of_le hi (show _ ≤ 2 from Nat.le_refl 2); rcases (show i = 0 ∨ i = 1 by omega) with rfl | rfl <;> rfl)
      | (intro i hi; have hi := Nat.lt_of_lt_of_le hi (show _ ≤ 3 from Nat.le_refl 3); rcases (show i = 0 ∨ i = 1 ∨ i = 2 by omega) with rfl | rfl | rfl <;> rfl))
  · repeat' (first
      | exact leT_empty
      | exact trivial
      | exact rfl
      | exact .inl rfl
      | exact .inr rfl
      | exact .inr ⟨rfl, rfl⟩
      | exact Nat.le_refl _
      | exact Nat.zero_le _
      | exact (fun _ _ => rfl)
      | assumption
      | refine And.intro ?_ ?_
      | (intro i hi; exact absurd hi (Nat.not_lt_zero i))
      | (intro i hi; have hi := Nat.lt_of_lt_of_le hi (show _ ≤ 1 from Nat.le_refl 1); obtain rfl : i = 0 := (by omega); rfl)
      | (intro i hi; have hi := Nat.lt_of_lt_of_le hi (show _ ≤ 2 from Nat.le_refl 2); rcases (show i = 0 ∨ i = 1 by omega) with rfl | rfl <;> rfl)
      | (intro i hi; have hi := Nat.lt_of_lt_of_le hi (show _ ≤ 3 from Nat.le_refl 3); rcases (show i = 0 ∨ i = 1 ∨ i = 2 by omega) with rfl | rfl | rfl <;> rfl))
  rw [hD]
  repeat
    conv => whnf
    first
      | (with_reducible refine qS ?_ ?_ ?_
         · exact rfl
         · exact rfl)
      | with_reducible refine qB ?_
      | (with_reducible refine qI ?_ ?_
         · omega)
      | (with_reducible refine qDT ?_ ?_
         · omega)
      | (with_reducible refine qDF ?_ ?_
         · omega)
      | (with_reducible refine qNT ?_ ?_
         · omega)
      | (with_reducible refine qNF ?_ ?_
         · omega)
      | (with_reducible refine qU8 ?_ ?_
         · omega)
      | (with_reducible refine qU32 ?_ ?_
         · omega)
      | (with_reducible refine qU64 ?_ ?_
         · omega)
      | (with_reducible refine qU16 ?_ ?_
         · omega)
  conv => whnf
  refine dueR_ask (T := T) (n := n) (cap := cap) (nl := nl) (cy := cy) (a := a) (b := b) [0] D hD (by omega) hcy rfl ?_ ?_ (fun q hq => ?_)
  · repeat' (first
      | exact leT_empty
      | exact trivial
      | exact rfl
      | exact .inl rfl
      | exact .inr rfl
      | exact .inr ⟨rfl, rfl⟩
      | exact Nat.le_refl _
      | exact Nat.zero_le _
      | exact (fun _ _ => rfl)
      | assumption
      | refine And.intro ?_ ?_
      | (intro i hi; exact absurd hi (Nat.not_lt_zero i))
      | (intro i hi; have hi := Nat.lt_of_lt_of_le hi (show _ ≤ 1 from Nat.le_refl 1); obtain rfl : i = 0 := (by omega); rfl)
      | (intro i hi; have hi := Nat.lt_of_lt_of_le hi (show _ ≤ 2 from Nat.le_refl 2); rcases (show i = 0 ∨ i = 1 by omega) with rfl | rfl <;> rfl)
      | (intro i hi; have hi := Nat.lt_of_lt_of_le hi (show _ ≤ 3 from Nat.le_refl 3); rcases (show i = 0 ∨ i = 1 ∨ i = 2 by omega) with rfl | rfl | rfl <;> rfl))
  · repeat' (first
      | exact leT_empty
      | exact trivial
      | exact rfl
      | exact .inl rfl
      | exact .inr rfl
      | exact .inr ⟨rfl, rfl⟩
      | exact Nat.le_refl _
      | exact Nat.zero_le _
      | exact (fun _ _ => rfl)
      | assumption
      | refine And.intro ?_ ?_
      | (intro i hi; exact absurd hi (Nat.not_lt_zero i))
      | (intro i hi; have hi := Nat.lt_of_lt_of_le hi (show _ ≤ 1 from Nat.le_refl 1); obtain rfl : i = 0 := (by omega); rfl)
      | (intro i hi; have hi := Nat.lt_of_lt_of_le hi (show _ ≤ 2 from Nat.le_refl 2); rcases (show i = 0 ∨ i = 1 by omega) with rfl | rfl <;> rfl)
      | (intro i hi; have hi := Nat.lt_of_lt_of_le hi (show _ ≤ 3 from Nat.le_refl 3); rcases (show i = 0 ∨ i = 1 ∨ i = 2 by omega) with rfl | rfl | rfl <;> rfl))
  obtain ⟨k, hk⟩ : ∃ k, D.length = k := ⟨_, rfl⟩
  rw [hk] at hq l0 ⊢
  have fin : ∀ (h : Heap), d < a ∨ b < d ∨ (a ≤ d ∧ d ≤ b) := fun _ => by omega
  rcases k with _ | k
  · repeat
      conv => whnf
      first
        | (with_reducible refine qS ?_ ?_ ?_
           · exact rfl
           · exact rfl)
        | with_reducible refine qB ?_
        | (with_reducible refine qI ?_ ?_
           · omega)
        | (with_reducible refine qDT ?_ ?_
           · omega)
        | (with_reducible refine qDF ?_ ?_
           · omega)
        | (with_reducible refine qNT ?_ ?_
           · omega)
        | (with_reducible refine qNF ?_ ?_
           · omega)
        | (with_reducible refine qU8 ?_ ?_
           · omega)
        | (with_reducible refine qU32 ?_ ?_
           · omega)
        | (with_reducible refine qU64 ?_ ?_
           · omega)
        | (with_reducible refine qU16 ?_ ?_
           · omega)
    conv => whnf
    refine .use (at0L D, 0, n, false, at0L D, 0, 0, true) [1, 0] (Nat.zero_le _) rfl ?_ ?_ ?_
    · repeat' (first
        | exact leT_empty
        | exact trivial
        | exact rfl
        | exact .inl rfl
        | exact .inr rfl
        | exact .inr ⟨rfl, rfl⟩
        | exact Nat.le_refl _
        | exact Nat.zero_le _
        | exact (fun _ _ => rfl)
        | assumption
        | refine And.intro ?_ ?_
        | (intro i hi; exact absurd hi (Nat.not_lt_zero i))
        | (intro i hi; have hi := Nat.lt_of_lt_of_le hi (show _ ≤ 1 from Nat.le_refl 1); obtain rfl : i = 0 := (by omega); rfl)
        | (intro i hi; have hi := Nat.lt_of_lt_of_le hi (show _ ≤ 2 from Nat.le_refl 2); rcases (show i = 0 ∨ i = 1 by omega) with rfl | rfl <;> rfl)
        | (intro i hi; have hi := Nat.lt_of_lt_of_le hi (show _ ≤ 3 from Nat.le_refl 3); rcases (show i = 0 ∨ i = 1 ∨ i = 2 by omega) with rfl | rfl | rfl <;> rfl))
    · repeat' (first
        | exact leT_empty
        | exact trivial
        | exact rfl
        | exact .inl rfl
        | exact .inr rfl
        | exact .inr ⟨rfl, rfl⟩
        | exact Nat.le_refl _
        | exact Nat.zero_le _
        | exact (fun _ _ => rfl)
        | assumption
        | refine And.intro ?_ ?_
        | (intro i hi; exact absurd hi (Nat.not_lt_zero i))
        | (intro i hi; have hi := Nat.lt_of_lt_of_le hi (show _ ≤ 1 from Nat.le_refl 1); obtain rfl : i = 0 := (by omega); rfl)
        | (intro i hi; have hi := Nat.lt_of_lt_of_le hi (show _ ≤ 2 from Nat.le_refl 2); rcases (show i = 0 ∨ i = 1 by omega) with rfl | rfl <;> rfl)
        | (intro i hi; have hi := Nat.lt_of_lt_of_le hi (show _ ≤ 3 from Nat.le_refl 3); rcases (show i = 0 ∨ i = 1 ∨ i = 2 by omega) with rfl | rfl | rfl <;> rfl))
    rw [sameB_refl]
    repeat
      conv => whnf
      first
        | (with_reducible refine qS ?_ ?_ ?_
           · exact rfl
           · exact rfl)
        | with_reducible refine qB ?_
        | (with_reducible refine qI ?_ ?_
           · omega)
        | (with_reducible refine qDT ?_ ?_
           · omega)
        | (with_reducible refine qDF ?_ ?_
           · omega)
        | (with_reducible refine qNT ?_ ?_
           · omega)
        | (with_reducible refine qNF ?_ ?_
           · omega)
        | (with_reducible refine qU8 ?_ ?_
           · omega)
        | (with_reducible refine qU32 ?_ ?_
           · omega)
        | (with_reducible refine qU64 ?_ ?_
           · omega)
        | (with_reducible refine qU16 ?_ ?_
           · omega)
    conv => whnf
    refine cD (fun h2 => ?_) (fun h2 => ?_)
    · repeat
        conv => whnf
        first
          | (with_reducible refine qS ?_ ?_ ?_
             · exact rfl
             · exact rfl)
          | with_reducible refine qB ?_
          | (with_reducible refine qI ?_ ?_
             · omega)
          | (with_reducible refine qDT ?_ ?_
             · omega)
          | (with_reducible refine qDF ?_ ?_
             · omega)
          | (with_reducible refine qNT ?_ ?_
             · omega)
          | (with_reducible refine qNF ?_ ?_
             · omega)
          | (with_reducible refine qU8 ?_ ?_
             · omega)
          | (with_reducible refine qU32 ?_ ?_
             · omega)
          | (with_reducible refine qU64 ?_ ?_
             · omega)
          | (with_reducible refine qU16 ?_ ?_
             · omega)
      conv => whnf
      exact rfl
    repeat
      conv => whnf
      first
        | (with_reducible refine qS ?_ ?_ ?_
           · exact rfl
           · exact rfl)
        | with_reducible refine qB ?_
        | (with_reducible refine qI ?_ ?_
           · omega)
        | (with_reducible refine qDT ?_ ?_
           · omega)
        | (with_reducible refine qDF ?_ ?_
           · omega)
        | (with_reducible refine qNT ?_ ?_
           · omega)
        | (with_reducible refine qNF ?_ ?_
           · omega)
        | (with_reducible refine qU8 ?_ ?_
           · omega)
        | (with_reducible refine qU32 ?_ ?_
           · omega)
        | (with_reducible refine qU64 ?_ ?_
           · omega)
        | (with_reducible refine qU16 ?_ ?_
           · omega)
    conv => whnf
    refine cD (fun h3 => ?_) (fun h3 => ?_)
    · repeat
        conv => whnf
        first
          | (with_reducible refine qS ?_ ?_ ?_
             · exact rfl
             · exact rfl)
          | with_reducible refine qB ?_
          | (with_reducible refine qI ?_ ?_
             · omega)
          | (with_reducible refine qDT ?_ ?_
             · omega)
          | (with_reducible refine qDF ?_ ?_
             · omega)
          | (with_reducible refine qNT ?_ ?_
             · omega)
          | (with_reducible refine qNF ?_ ?_
             · omega)
          | (with_reducible refine qU8 ?_ ?_
             · omega)
          | (with_reducible refine qU32 ?_ ?_
             · omega)
          | (with_reducible refine qU64 ?_ ?_
             · omega)
          | (with_reducible refine qU16 ?_ ?_
             · omega)
      conv => whnf
      exact rfl
    have cut := due_cut T cy (a := a) (b := d) (d := b) (by omega) n
    rw [hD, hk] at cut
    repeat
      conv => whnf
      first
        | (with_reducible refine qS ?_ ?_ ?_
           · exact rfl
           · exact rfl)
        | with_reducible refine qB ?_
        | (with_reducible refine qI ?_ ?_
           · omega)
        | (with_reducible refine qDT ?_ ?_
           · omega)
        | (with_reducible refine qDF ?_ ?_
           · omega)
        | (with_reducible refine qNT ?_ ?_
           · omega)
        | (with_reducible refine qNF ?_ ?_
           · omega)
        | (with_reducible refine qU8 ?_ ?_
           · omega)
        | (with_reducible refine qU32 ?_ ?_
           · omega)
        | (with_reducible refine qU64 ?_ ?_
           · omega)
        | (with_reducible refine qU16 ?_ ?_
           · omega)
    conv => whnf
    refine .det (T, n, cap, nl, cy, a, d) [0] (slT 2 (dueL T cy a d n).length n false) _ ⟨by show n ≤ 100; omega, hcy⟩ rfl ?_ ?_ rfl rfl ?_
    · repeat' (first
        | exact leT_empty
        | exact trivial
        | exact rfl
        | exact .inl rfl
        | exact .inr rfl
        | exact .inr ⟨rfl, rfl⟩
        | exact Nat.le_refl _
        | exact Nat.zero_le _
        | exact (fun _ _ => rfl)
        | assumption
        | refine And.intro ?_ ?_
        | (intro i hi; exact absurd hi (Nat.not_lt_zero i))
        | (intro i hi; have hi := Nat.lt_of_lt_of_le hi (show _ ≤ 1 from Nat.le_refl 1); obtain rfl : i = 0 := (by omega); rfl)
        | (intro i hi; have hi := Nat.lt_of_lt_of_le hi (show _ ≤ 2 from Nat.le_refl 2); rcases (show i = 0 ∨ i = 1 by omega) with rfl | rfl <;> rfl)
        | (intro i hi; have hi := Nat.lt_of_lt_of_le hi (show _ ≤ 3 from Nat.le_refl 3); rcases (show i = 0 ∨ i = 1 ∨ i = 2 by omega) with rfl | rfl | rfl <;> rfl))
    · repeat' (first
        | exact leT_empty
        | exact trivial
        | exact rfl
        | exact .inl rfl
        | exact .inr rfl
        | exact .inr ⟨rfl, rfl⟩
        | exact Nat.le_refl _
        | exact Nat.zero_le _
        | exact (fun _ _ => rfl)
        | assumption
        | refine And.intro ?_ ?_
        | (intro i hi; exact absurd hi (Nat.not_lt_zero i))
        | (intro i hi; have hi := Nat.lt_of_lt_of_le hi (show _ ≤ 1 from Nat.le_refl 1); obtain rfl : i = 0 := (by omega); rfl)
        | (intro i hi; have hi := Nat.lt_of_lt_of_le hi (show _ ≤ 2 from Nat.le_refl 2); rcases (show i = 0 ∨ i = 1 by omega) with rfl | rfl <;> rfl)
        | (intro i hi; have hi := Nat.lt_of_lt_of_le hi (show _ ≤ 3 from Nat.le_refl 3); rcases (show i = 0 ∨ i = 1 ∨ i = 2 by omega) with rfl | rfl | rfl <;> rfl))
    repeat
      conv => whnf
      first
        | (with_reducible refine qS ?_ ?_ ?_
           · exact rfl
           · exact rfl)
        | with_reducible refine qB ?_
        | (with_reducible refine qI ?_ ?_
           · omega)
        | (with_reducible refine qDT ?_ ?_
           · omega)
        | (with_reducible refine qDF ?_ ?_
           · omega)
        | (with_reducible refine qNT ?_ ?_
           · omega)
        | (with_reducible refine qNF ?_ ?_
           · omega)
        | (with_reducible refine qU8 ?_ ?_
           · omega)
        | (with_reducible refine qU32 ?_ ?_
           · omega)
        | (with_reducible refine qU64 ?_ ?_
           · omega)
        | (with_reducible refine qU16 ?_ ?_
           · omega)
    conv => whnf
    refine .det (T, n, cap, nl, cy, d, b) [0] (slT 3 (dueL T cy d b n).length n false) _ ⟨by show n ≤ 100; omega, hcy⟩ rfl ?_ ?_ rfl rfl ?_
    · repeat' (first
        | exact leT_empty
        | exact trivial
        | exact rfl
        | exact .inl rfl
        | exact .inr rfl
        | exact .inr ⟨rfl, rfl⟩
        | exact Nat.le_refl _
        | exact Nat.zero_le _
        | exact (fun _ _ => rfl)
        | assumption
        | refine And.intro ?_ ?_
        | (intro i hi; exact absurd hi (Nat.not_lt_zero i))
        | (intro i hi; have hi := Nat.lt_of_lt_of_le hi (show _ ≤ 1 from Nat.le_refl 1); obtain rfl : i = 0 := (by omega); rfl)
        | (intro i hi; have hi := Nat.lt_of_lt_of_le hi (show _ ≤ 2 from Nat.le_refl 2); rcases (show i = 0 ∨ i = 1 by omega) with rfl | rfl <;> rfl)
        | (intro i hi; have hi := Nat.lt_of_lt_of_le hi (show _ ≤ 3 from Nat.le_refl 3); rcases (show i = 0 ∨ i = 1 ∨ i = 2 by omega) with rfl | rfl | rfl <;> rfl))
    · repeat' (first
        | exact leT_empty
        | exact trivial
        | exact rfl
        | exact .inl rfl
        | exact .inr rfl
        | exact .inr ⟨rfl, rfl⟩
        | exact Nat.le_refl _
        | exact Nat.zero_le _
        | exact (fun _ _ => rfl)
        | assumption
        | refine And.intro ?_ ?_
        | (intro i hi; exact absurd hi (Nat.not_lt_zero i))
        | (intro i hi; have hi := Nat.lt_of_lt_of_le hi (show _ ≤ 1 from Nat.le_refl 1); obtain rfl : i = 0 := (by omega); rfl)
        | (intro i hi; have hi := Nat.lt_of_lt_of_le hi (show _ ≤ 2 from Nat.le_refl 2); rcases (show i = 0 ∨ i = 1 by omega) with rfl | rfl <;> rfl)
        | (intro i hi; have hi := Nat.lt_of_lt_of_le hi (show _ ≤ 3 from Nat.le_refl 3); rcases (show i = 0 ∨ i = 1 ∨ i = 2 by omega) with rfl | rfl | rfl <;> rfl))
    repeat
      conv => whnf
      first
        | (with_reducible refine qS ?_ ?_ ?_
           · exact rfl
           · exact rfl)
        | with_reducible refine qB ?_
        | (with_reducible refine qI ?_ ?_
           · omega)
        | (with_reducible refine qDT ?_ ?_
           · omega)
        | (with_reducible refine qDF ?_ ?_
           · omega)
        | (with_reducible refine qNT ?_ ?_
           · omega)
        | (with_reducible refine qNF ?_ ?_
           · omega)
        | (with_reducible refine qU8 ?_ ?_
           · omega)
        | (with_reducible refine qU32 ?_ ?_
           · omega)
        | (with_reducible refine qU64 ?_ ?_
           · omega)
        | (with_reducible refine qU16 ?_ ?_
           · omega)
    conv => whnf
    exact congrArg bv (decide_eq_true (by omega))
  · repeat
      conv => whnf
      first
        | (with_reducible refine qS ?_ ?_ ?_
           · exact rfl
           · exact rfl)
        | with_reducible refine qB ?_
        | (with_reducible refine qI ?_ ?_
           · omega)
        | (with_reducible refine qDT ?_ ?_
           · omega)
        | (with_reducible refine qDF ?_ ?_
           · omega)
        | (with_reducible refine qNT ?_ ?_
           · omega)
        | (with_reducible refine qNF ?_ ?_
           · omega)
        | (with_reducible refine qU8 ?_ ?_
           · omega)
        | (with_reducible refine qU32 ?_ ?_
           · omega)
        | (with_reducible refine qU64 ?_ ?_
           · omega)
        | (with_reducible refine qU16 ?_ ?_
           · omega)
    conv => whnf
    refine .use (at0L D, k + 1, n, false, at0L D, k + 1, q, false) [1, 2] (by show k + 1 ≤ 9223372036854775807; omega) rfl ?_ ?_ ?_
    · repeat' (first
        | exact leT_empty
        | exact trivial
        | exact rfl
        | exact .inl rfl
        | exact .inr rfl
        | exact .inr ⟨rfl, rfl⟩
        | exact Nat.le_refl _
        | exact Nat.zero_le _
        | exact (fun _ _ => rfl)
        | assumption
        | refine And.intro ?_ ?_
        | (intro i hi; exact absurd hi (Nat.not_lt_zero i))
        | (intro i hi; have hi := Nat.lt_of_lt_of_le hi (show _ ≤ 1 from Nat.le_refl 1); obtain rfl : i = 0 := (by omega); rfl)
        | (intro i hi; have hi := Nat.lt_of_lt_of_le hi (show _ ≤ 2 from Nat.le_refl 2); rcases (show i = 0 ∨ i = 1 by omega) with rfl | rfl <;> rfl)
        | (intro i hi; have hi := Nat.lt_of_lt_of_le hi (show _ ≤ 3 from Nat.le_refl 3); rcases (show i = 0 ∨ i = 1 ∨ i = 2 by omega) with rfl | rfl | rfl <;> rfl))
    · repeat' (first
        | exact leT_empty
        | exact trivial
        | exact rfl
        | exact .inl rfl
        | exact .inr rfl
        | exact .inr ⟨rfl, rfl⟩
        | exact Nat.le_refl _
        | exact Nat.zero_le _
        | exact (fun _ _ => rfl)
        | assumption
        | refine And.intro ?_ ?_
        | (intro i hi; exact absurd hi (Nat.not_lt_zero i))
        | (intro i hi; have hi := Nat.lt_of_lt_of_le hi (show _ ≤ 1 from Nat.le_refl 1); obtain rfl : i = 0 := (by omega); rfl)
        | (intro i hi; have hi := Nat.lt_of_lt_of_le hi (show _ ≤ 2 from Nat.le_refl 2); rcases (show i = 0 ∨ i = 1 by omega) with rfl | rfl <;> rfl)
        | (intro i hi; have hi := Nat.lt_of_lt_of_le hi (show _ ≤ 3 from Nat.le_refl 3); rcases (show i = 0 ∨ i = 1 ∨ i = 2 by omega) with rfl | rfl | rfl <;> rfl))
    rw [sameB_refl]
    repeat
      conv => whnf
      first
        | (with_reducible refine qS ?_ ?_ ?_
           · exact rfl
           · exact rfl)
        | with_reducible refine qB ?_
        | (with_reducible refine qI ?_ ?_
           · omega)
        | (with_reducible refine qDT ?_ ?_
           · omega)
        | (with_reducible refine qDF ?_ ?_
           · omega)
        | (with_reducible refine qNT ?_ ?_
           · omega)
        | (with_reducible refine qNF ?_ ?_
           · omega)
        | (with_reducible refine qU8 ?_ ?_
           · omega)
        | (with_reducible refine qU32 ?_ ?_
           · omega)
        | (with_reducible refine qU64 ?_ ?_
           · omega)
        | (with_reducible refine qU16 ?_ ?_
           · omega)
    conv => whnf
    refine cD (fun h2 => ?_) (fun h2 => ?_)
    · repeat
        conv => whnf
        first
          | (with_reducible refine qS ?_ ?_ ?_
             · exact rfl
             · exact rfl)
          | with_reducible refine qB ?_
          | (with_reducible refine qI ?_ ?_
             · omega)
          | (with_reducible refine qDT ?_ ?_
             · omega)
          | (with_reducible refine qDF ?_ ?_
             · omega)
          | (with_reducible refine qNT ?_ ?_
             · omega)
          | (with_reducible refine qNF ?_ ?_
             · omega)
          | (with_reducible refine qU8 ?_ ?_
             · omega)
          | (with_reducible refine qU32 ?_ ?_
             · omega)
          | (with_reducible refine qU64 ?_ ?_
             · omega)
          | (with_reducible refine qU16 ?_ ?_
             · omega)
      conv => whnf
      exact rfl
    repeat
      conv => whnf
      first
        | (with_reducible refine qS ?_ ?_ ?_
           · exact rfl
           · exact rfl)
        | with_reducible refine qB ?_
        | (with_reducible refine qI ?_ ?_
           · omega)
        | (with_reducible refine qDT ?_ ?_
           · omega)
        | (with_reducible refine qDF ?_ ?_
           · omega)
        | (with_reducible refine qNT ?_ ?_
           · omega)
        | (with_reducible refine qNF ?_ ?_
           · omega)
        | (with_reducible refine qU8 ?_ ?_
           · omega)
        | (with_reducible refine qU32 ?_ ?_
           · omega)
        | (with_reducible refine qU64 ?_ ?_
           · omega)
        | (with_reducible refine qU16 ?_ ?_
           · omega)
    conv => whnf
    refine cD (fun h3 => ?_) (fun h3 => ?_)
    · repeat
        conv => whnf
        first
          | (with_reducible refine qS ?_ ?_ ?_
             · exact rfl
             · exact rfl)
          | with_reducible refine qB ?_
          | (with_reducible refine qI ?_ ?_
             · omega)
          | (with_reducible refine qDT ?_ ?_
             · omega)
          | (with_reducible refine qDF ?_ ?_
             · omega)
          | (with_reducible refine qNT ?_ ?_
             · omega)
          | (with_reducible refine qNF ?_ ?_
             · omega)
          | (with_reducible refine qU8 ?_ ?_
             · omega)
          | (with_reducible refine qU32 ?_ ?_
             · omega)
          | (with_reducible refine qU64 ?_ ?_
             · omega)
          | (with_reducible refine qU16 ?_ ?_
             · omega)
      conv => whnf
      exact rfl
    have cut := due_cut T cy (a := a) (b := d) (d := b) (by omega) n
    rw [hD, hk] at cut
    repeat
      conv => whnf
      first
        | (with_reducible refine qS ?_ ?_ ?_
           · exact rfl
           · exact rfl)
        | with_reducible refine qB ?_
        | (with_reducible refine qI ?_ ?_
           · omega)
        | (with_reducible refine qDT ?_ ?_
           · omega)
        | (with_reducible refine qDF ?_ ?_
           · omega)
        | (with_reducible refine qNT ?_ ?_
           · omega)
        | (with_reducible refine qNF ?_ ?_
           · omega)
        | (with_reducible refine qU8 ?_ ?_
           · omega)
        | (with_reducible refine qU32 ?_ ?_
           · omega)
        | (with_reducible refine qU64 ?_ ?_
           · omega)
        | (with_reducible refine qU16 ?_ ?_
           · omega)
    conv => whnf
    refine .det (T, n, cap, nl, cy, a, d) [0] (slT 3 (dueL T cy a d n).length n false) _ ⟨by show n ≤ 100; omega, hcy⟩ rfl ?_ ?_ rfl rfl ?_
    · repeat' (first
        | exact leT_empty
        | exact trivial
        | exact rfl
        | exact .inl rfl
        | exact .inr rfl
        | exact .inr ⟨rfl, rfl⟩
        | exact Nat.le_refl _
        | exact Nat.zero_le _
        | exact (fun _ _ => rfl)
        | assumption
        | refine And.intro ?_ ?_
        | (intro i hi; exact absurd hi (Nat.not_lt_zero i))
        | (intro i hi; have hi := Nat.lt_of_lt_of_le hi (show _ ≤ 1 from Nat.le_refl 1); obtain rfl : i = 0 := (by omega); rfl)
        | (intro i hi; have hi := Nat.lt_of_lt_of_le hi (show _ ≤ 2 from Nat.le_refl 2); rcases (show i = 0 ∨ i = 1 by omega) with rfl | rfl <;> rfl)
        | (intro i hi; have hi := Nat.lt_of_lt_of_le hi (show _ ≤ 3 from Nat.le_refl 3); rcases (show i = 0 ∨ i = 1 ∨ i = 2 by omega) with rfl | rfl | rfl <;> rfl))
    · repeat' (first
        | exact leT_empty
        | exact trivial
        | exact rfl
        | exact .inl rfl
        | exact .inr rfl
        | exact .inr ⟨rfl, rfl⟩
        | exact Nat.le_refl _
        | exact Nat.zero_le _
        | exact (fun _ _ => rfl)
        | assumption
        | refine And.intro ?_ ?_
        | (intro i hi; exact absurd hi (Nat.not_lt_zero i))
        | (intro i hi; have hi := Nat.lt_of_lt_of_le hi (show _ ≤ 1 from Nat.le_refl 1); obtain rfl : i = 0 := (by omega); rfl)
        | (intro i hi; have hi := Nat.lt_of_lt_of_le hi (show _ ≤ 2 from Nat.le_refl 2); rcases (show i = 0 ∨ i = 1 by omega) with rfl | rfl <;> rfl)
        | (intro i hi; have hi := Nat.lt_of_lt_of_le hi (show _ ≤ 3 from Nat.le_refl 3); rcases (show i = 0 ∨ i = 1 ∨ i = 2 by omega) with rfl | rfl | rfl <;> rfl))
    repeat
      conv => whnf
      first
        | (with_reducible refine qS ?_ ?_ ?_
           · exact rfl
           · exact rfl)
        | with_reducible refine qB ?_
        | (with_reducible refine qI ?_ ?_
           · omega)
        | (with_reducible refine qDT ?_ ?_
           · omega)
        | (with_reducible refine qDF ?_ ?_
           · omega)
        | (with_reducible refine qNT ?_ ?_
           · omega)
        | (with_reducible refine qNF ?_ ?_
           · omega)
        | (with_reducible refine qU8 ?_ ?_
           · omega)
        | (with_reducible refine qU32 ?_ ?_
           · omega)
        | (with_reducible refine qU64 ?_ ?_
           · omega)
        | (with_reducible refine qU16 ?_ ?_
           · omega)
    conv => whnf
    refine .det (T, n, cap, nl, cy, d, b) [0] (slT 4 (dueL T cy d b n).length n false) _ ⟨by show n ≤ 100; omega, hcy⟩ rfl ?_ ?_ rfl rfl ?_
    · repeat' (first
        | exact leT_empty
        | exact trivial
        | exact rfl
        | exact .inl rfl
        | exact .inr rfl
        | exact .inr ⟨rfl, rfl⟩
        | exact Nat.le_refl _
        | exact Nat.zero_le _
        | exact (fun _ _ => rfl)
        | assumption
        | refine And.intro ?_ ?_
        | (intro i hi; exact absurd hi (Nat.not_lt_zero i))
        | (intro i hi; have hi := Nat.lt_of_lt_of_le hi (show _ ≤ 1 from Nat.le_refl 1); obtain rfl : i = 0 := (by omega); rfl)
        | (intro i hi; have hi := Nat.lt_of_lt_of_le hi (show _ ≤ 2 from Nat.le_refl 2); rcases (show i = 0 ∨ i = 1 by omega) with rfl | rfl <;> rfl)
        | (intro i hi; have hi := Nat.lt_of_lt_of_le hi (show _ ≤ 3 from Nat.le_refl 3); rcases (show i = 0 ∨ i = 1 ∨ i = 2 by omega) with rfl | rfl | rfl <;> rfl))
    · repeat' (first
        | exact leT_empty
        | exact trivial
        | exact rfl
        | exact .inl rfl
        | exact .inr rfl
        | exact .inr ⟨rfl, rfl⟩
        | exact Nat.le_refl _
        | exact Nat.zero_le _
        | exact (fun _ _ => rfl)
        | assumption
        | refine And.intro ?_ ?_
        | (intro i hi; exact absurd hi (Nat.not_lt_zero i))
        | (intro i hi; have hi := Nat.lt_of_lt_of_le hi (show _ ≤ 1 from Nat.le_refl 1); obtain rfl : i = 0 := (by omega); rfl)
        | (intro i hi; have hi := Nat.lt_of_lt_of_le hi (show _ ≤ 2 from Nat.le_refl 2); rcases (show i = 0 ∨ i = 1 by omega) with rfl | rfl <;> rfl)
        | (intro i hi; have hi := Nat.lt_of_lt_of_le hi (show _ ≤ 3 from Nat.le_refl 3); rcases (show i = 0 ∨ i = 1 ∨ i = 2 by omega) with rfl | rfl | rfl <;> rfl))
    repeat
      conv => whnf
      first
        | (with_reducible refine qS ?_ ?_ ?_
           · exact rfl
           · exact rfl)
        | with_reducible refine qB ?_
        | (with_reducible refine qI ?_ ?_
           · omega)
        | (with_reducible refine qDT ?_ ?_
           · omega)
        | (with_reducible refine qDF ?_ ?_
           · omega)
        | (with_reducible refine qNT ?_ ?_
           · omega)
        | (with_reducible refine qNF ?_ ?_
           · omega)
        | (with_reducible refine qU8 ?_ ?_
           · omega)
        | (with_reducible refine qU32 ?_ ?_
           · omega)
        | (with_reducible refine qU64 ?_ ?_
           · omega)
        | (with_reducible refine qU16 ?_ ?_
           · omega)
    conv => whnf
    exact congrArg bv (decide_eq_true (by omega))
theorem cl_ok : ∃ cl : Cl, ClOk Try.prog cl ∧ ∀ D, OkAll pas D → cl F.law15_PlanDue [] (xsP 0 pas D) (hsP pas D) fun x _ => x = bv true := by
  refine ⟨clRunX 6 tt outsD tabL 2, clRunX_ok (d := 6) ttOk outsD_ok tabL_ok 2, fun D hD => ?_⟩
  match D, hD with
  | [d0, d1, d2, d3, d4], hD =>
    obtain ⟨h0, h1, h2, h3, h4, _⟩ := hD
    obtain ⟨n, cap, nl, V, rfl, _, _, hV⟩ := one_sl h0
    obtain ⟨a, rfl, ha⟩ := one_i64 h1
    obtain ⟨b, rfl, _⟩ := one_i64 h2
    obtain ⟨c, rfl, _⟩ := one_i64 h3
    obtain ⟨d, rfl, _⟩ := one_i64 h4
    exact walk (fun i => ⟨valI ((V i).headD undef), valI ((V i).tail.headD undef), valI ((V i).tail.tail.headD undef), valI ((V i).tail.tail.tail.headD undef), valI ((V i).tail.tail.tail.tail.headD undef), valI ((V i).tail.tail.tail.tail.tail.headD undef)⟩) n cap nl a b c d ha
theorem own' : ownKnob Try.prog.godebug = none := own
theorem lifted (os : Os) (started : os.Started) (H : Type) (enc : TypeId × Value → H) :
    ReturnsInHanded {} Try.checked os 25 .any (Rows.planDueSpec.pre6 enc Try.prog Try.f25 Rows.planDueRow.domain false) (Rows.planDueSpec.post enc Try.prog Try.f25 false true false false) := by
  refine returnsInHanded_of_change (C := Try.checked) own started (by kernel_rfl) Try.func25
    (ChangeSpec.witness6 (enc := enc) (C := Try.checked) false ⟨#[], #[.slice none 0 0, .int .i64 0, .int .i64 0, .int .i64 0, .int .i64 0], []⟩ 8 (by kernel_rfl) (by kernel_rfl) (by kernel_rfl) (by kernel_rfl)) ?_
  intro W base args ds gs before hval hW _ _
  obtain ⟨cl, hc, hw⟩ := cl_ok
  exact row_of (ps := pas) (by kernel_rfl) (by kernel_rfl) rfl rfl (fun ds h => by
    match ds, h with
    | [_, _, _, _, _], _ => rfl) hval hW hc hw
theorem closed : joinedFacts Try.prog 25 Try.f25 Rows.planDueSpec Rows.planDueRow = true := by
  simp only [joinedFacts, Bool.and_eq_true]
  repeat' apply And.intro
  all_goals first
    | with_reducible exact mayEnter_ok
    | with_reducible exact laid_ok
    | with_reducible exact rowed_ok
    | ((with_reducible refine beq_r lifts_ok ?_); rfl)
    | ((with_reducible refine beq_l make_ok ?_); kernel_rfl)
    | (as_aux_lemma => kernel_rfl)
theorem named : Try.prog.funcNamed Rows.planDueRow.func = some 25 := by kernel_rfl
theorem inst : Try.f25.isInstance Try.prog Rows.planDueRow.origin Rows.planDueRow.targs := of_decide_eq_true (by kernel_rfl)
theorem wrap : Try.f25.isWrapper Try.prog Rows.planDueRow.wrapper Rows.planDueRow.mainSum := by
  unfold Func.isWrapper; first | (rw [if_pos (by decide +kernel)]; kernel_rfl) | (rw [if_neg (by decide +kernel)]; exact ⟨rfl, rfl⟩)
theorem over : Rows.planDueRow.holds Try.pinned (OpenSpec.ofChange Rows.planDueSpec) :=
  OpenClaim.holds_of_wide 25 Try.f25 rfl rfl rfl rfl rfl rfl rfl ⟨rfl, rfl, rfl, rfl, rfl⟩ rfl rfl rfl rfl rfl named Try.func25 closed inst wrap
    (fun os started H enc _ => lifted os started H enc)
/-- The statement. -/
theorem proved : Rows.PlanDueSaid := over
#print axioms proved
end Go.Proofs.Ytbdifadabipfiaa.planDue
