/- Layer 14: what the laws know; their contracts. -/
import Derived.Test.YtbdifadabipfiaaLaA
namespace Go.Proofs.Ytbdifadabipfiaa.La
open Go Go.Eng Go.Proofs Go.Proofs.Ytbdifadabipfiaa.Tb Go.Proofs.Ytbdifadabipfiaa.Co Go.Pu
set_option maxRecDepth 100000
set_option maxHeartbeats 8000000
abbrev outs14 : List (FuncId × Cx) := [(F.check_Check, AskC checkC), (F.ref12_Check, AskC checkRC), (F.check_Meet, AskC meetC), (F.ref12_Meet, AskC meetC), (F.check_Units, AskC unitsC), (F.ref12_Units, AskC unitsC), (F.check_Step, AskC stepC), (F.ref12_Step, AskC stepC)]
theorem outs14_ok : OutsOk Try.prog outs14 := .cons (ask_ok check_ok) (.cons (ask_ok checkR_ok) (.cons (ask_ok meet_ok) (.cons (ask_ok meetR_ok) (.cons (ask_ok units_ok) (.cons (ask_ok unitsR_ok) (.cons (ask_ok step_ok) (.cons (ask_ok stepR_ok) .nil)))))))
noncomputable abbrev tab14 : List (FuncId × Eng.Fn) := [(F.law14_known, fn.law14_known u0), (F.law14_least, fn.law14_least u0), (F.law14_few, fn.law14_few u0)]
theorem tab14_ok {d : Nat} : TabOk d tab14 tt := .cons (ok.law14_known u0) (.cons (ok.law14_least u0) (.cons (ok.law14_few u0) (TabOk.nil)))
def m14 : Mat := ⟨1, 2, 2, 400, 2, 16, 0, 8, 1, fun _ => 0, 1, fun _ => ⟨99, 1, false⟩, 0, fun _ => win0⟩
def m14a : Mat := { m14 with nW := 2, W := fun i => match i with | 0 => ⟨1, 40, 80, 0, 1, 0⟩ | _ => ⟨3, 79, 81, 0, 1, 0⟩ }
def m14b : Mat := { m14 with nW := 2, W := fun i => match i with | 0 => ⟨1, 40, 80, 0, 1, 0⟩ | _ => ⟨3, 80, 81, 0, 1, 0⟩ }
def m14c : Mat := { m14b with nM := 2 }
theorem m14_ok : m14.Ok := by constructor <;> simp [m14, I64, U32]
theorem m14a_ok : m14a.Ok := by
  constructor <;> simp [m14a, m14, I64, U32]
  intro i hi
  rcases (show i = 0 ∨ i = 1 by omega) with rfl | rfl <;> simp
theorem m14b_ok : m14b.Ok := by
  constructor <;> simp [m14b, m14, I64, U32]
  intro i hi
  rcases (show i = 0 ∨ i = 1 by omega) with rfl | rfl <;> simp
theorem m14c_ok : m14c.Ok := by
  constructor <;> simp [m14c, m14b, m14, I64, U32]
  intro i hi
  rcases (show i = 0 ∨ i = 1 by omega) with rfl | rfl <;> simp
theorem e14 : chk m14 = (0, 0) := by decide +kernel
theorem e14a : chk m14a = (1, 143) := by decide +kernel
theorem e14b : chk m14b = (0, 0) := by decide +kernel
theorem e14c : chk m14c = (1, 142) := by decide +kernel
theorem known14_run : clRunC 7 tt outs14 tab14 4 F.law14_known [] [] [] (fun x _ => x = bv true) := by
  conv => whnf
  refine AskC.use (m14, ⟨1, 1, 0, false, false, true⟩) [1, 2, 1] ⟨m14_ok, ⟨by decide, by decide, by decide⟩⟩ rfl ?_ ?_ ?_
  · repeat' (first
      | exact trivial
      | exact rfl
      | exact .inl rfl
      | exact .inr rfl
      | exact .inr ⟨rfl, rfl⟩
      | exact Nat.le_refl _
      | exact Nat.zero_le _
      | exact (fun _ _ => rfl)
      | refine And.intro ?_ ?_
      | (intro i hi; exact absurd hi (Nat.not_lt_zero i))
      | (intro i hi; have hi := Nat.lt_of_lt_of_le hi (show _ ≤ 1 from Nat.le_refl 1); obtain rfl : i = 0 := (by omega); rfl)
      | (intro i hi; have hi := Nat.lt_of_lt_of_le hi (show _ ≤ 2 from Nat.le_refl 2); rcases (show i = 0 ∨ i = 1 by omega) with rfl | rfl <;> rfl)
      | (intro i hi; have hi := Nat.lt_of_lt_of_le hi (show _ ≤ 3 from Nat.le_refl 3); rcases (show i = 0 ∨ i = 1 ∨ i = 2 by omega) with rfl | rfl | rfl <;> rfl))
  · repeat' (first
      | exact trivial
      | exact rfl
      | exact .inl rfl
      | exact .inr rfl
      | exact .inr ⟨rfl, rfl⟩
      | exact Nat.le_refl _
      | exact Nat.zero_le _
      | exact (fun _ _ => rfl)
      | refine And.intro ?_ ?_
      | (intro i hi; exact absurd hi (Nat.not_lt_zero i))
      | (intro i hi; have hi := Nat.lt_of_lt_of_le hi (show _ ≤ 1 from Nat.le_refl 1); obtain rfl : i = 0 := (by omega); rfl)
      | (intro i hi; have hi := Nat.lt_of_lt_of_le hi (show _ ≤ 2 from Nat.le_refl 2); rcases (show i = 0 ∨ i = 1 by omega) with rfl | rfl <;> rfl)
      | (intro i hi; have hi := Nat.lt_of_lt_of_le hi (show _ ≤ 3 from Nat.le_refl 3); rcases (show i = 0 ∨ i = 1 ∨ i = 2 by omega) with rfl | rfl | rfl <;> rfl))
  rw [show pairR (chk (m14, (⟨1, 1, 0, false, false, true⟩ : Caps)).1) = pairR (0, 0) from congrArg pairR e14]
  conv => whnf
  refine AskC.use (m14a, ⟨1, 1, 2, false, false, false⟩) [1, 2, 4] ⟨m14a_ok, ⟨by decide, by decide, by decide⟩⟩ rfl ?_ ?_ ?_
  · repeat' (first
      | exact trivial
      | exact rfl
      | exact .inl rfl
      | exact .inr rfl
      | exact .inr ⟨rfl, rfl⟩
      | exact Nat.le_refl _
      | exact Nat.zero_le _
      | exact (fun _ _ => rfl)
      | refine And.intro ?_ ?_
      | (intro i hi; exact absurd hi (Nat.not_lt_zero i))
      | (intro i hi; have hi := Nat.lt_of_lt_of_le hi (show _ ≤ 1 from Nat.le_refl 1); obtain rfl : i = 0 := (by omega); rfl)
      | (intro i hi; have hi := Nat.lt_of_lt_of_le hi (show _ ≤ 2 from Nat.le_refl 2); rcases (show i = 0 ∨ i = 1 by omega) with rfl | rfl <;> rfl)
      | (intro i hi; have hi := Nat.lt_of_lt_of_le hi (show _ ≤ 3 from Nat.le_refl 3); rcases (show i = 0 ∨ i = 1 ∨ i = 2 by omega) with rfl | rfl | rfl <;> rfl))
  · repeat' (first
      | exact trivial
      | exact rfl
      | exact .inl rfl
      | exact .inr rfl
      | exact .inr ⟨rfl, rfl⟩
      | exact Nat.le_refl _
      | exact Nat.zero_le _
      | exact (fun _ _ => rfl)
      | refine And.intro ?_ ?_
      | (intro i hi; exact absurd hi (Nat.not_lt_zero i))
      | (intro i hi; have hi := Nat.lt_of_lt_of_le hi (show _ ≤ 1 from Nat.le_refl 1); obtain rfl : i = 0 := (by omega); rfl)
      | (intro i hi; have hi := Nat.lt_of_lt_of_le hi (show _ ≤ 2 from Nat.le_refl 2); rcases (show i = 0 ∨ i = 1 by omega) with rfl | rfl <;> rfl)
      | (intro i hi; have hi := Nat.lt_of_lt_of_le hi (show _ ≤ 3 from Nat.le_refl 3); rcases (show i = 0 ∨ i = 1 ∨ i = 2 by omega) with rfl | rfl | rfl <;> rfl))
  rw [show pairR (chk (m14a, (⟨1, 1, 2, false, false, false⟩ : Caps)).1) = pairR (1, 143) from congrArg pairR e14a]
  conv => whnf
  refine AskC.use (m14b, ⟨1, 1, 2, false, false, false⟩) [1, 2, 4] ⟨m14b_ok, ⟨by decide, by decide, by decide⟩⟩ rfl ?_ ?_ ?_
  · repeat' (first
      | exact trivial
      | exact rfl
      | exact .inl rfl
      | exact .inr rfl
      | exact .inr ⟨rfl, rfl⟩
      | exact Nat.le_refl _
      | exact Nat.zero_le _
      | exact (fun _ _ => rfl)
      | refine And.intro ?_ ?_
      | (intro i hi; exact absurd hi (Nat.not_lt_zero i))
      | (intro i hi; have hi := Nat.lt_of_lt_of_le hi (show _ ≤ 1 from Nat.le_refl 1); obtain rfl : i = 0 := (by omega); rfl)
      | (intro i hi; have hi := Nat.lt_of_lt_of_le hi (show _ ≤ 2 from Nat.le_refl 2); rcases (show i = 0 ∨ i = 1 by omega) with rfl | rfl <;> rfl)
      | (intro i hi; have hi := Nat.lt_of_lt_of_le hi (show _ ≤ 3 from Nat.le_refl 3); rcases (show i = 0 ∨ i = 1 ∨ i = 2 by omega) with rfl | rfl | rfl <;> rfl))
  · repeat' (first
      | exact trivial
      | exact rfl
      | exact .inl rfl
      | exact .inr rfl
      | exact .inr ⟨rfl, rfl⟩
      | exact Nat.le_refl _
      | exact Nat.zero_le _
      | exact (fun _ _ => rfl)
      | refine And.intro ?_ ?_
      | (intro i hi; exact absurd hi (Nat.not_lt_zero i))
      | (intro i hi; have hi := Nat.lt_of_lt_of_le hi (show _ ≤ 1 from Nat.le_refl 1); obtain rfl : i = 0 := (by omega); rfl)
      | (intro i hi; have hi := Nat.lt_of_lt_of_le hi (show _ ≤ 2 from Nat.le_refl 2); rcases (show i = 0 ∨ i = 1 by omega) with rfl | rfl <;> rfl)
      | (intro i hi; have hi := Nat.lt_of_lt_of_le hi (show _ ≤ 3 from Nat.le_refl 3); rcases (show i = 0 ∨ i = 1 ∨ i = 2 by omega) with rfl | rfl | rfl <;> rfl))
  rw [show pairR (chk (m14b, (⟨1, 1, 2, false, false, false⟩ : Caps)).1) = pairR (0, 0) from congrArg pairR e14b]
  conv => whnf
  refine AskC.use (m14c, ⟨2, 1, 2, false, false, false⟩) [5, 2, 4] ⟨m14c_ok, ⟨by decide, by decide, by decide⟩⟩ rfl ?_ ?_ ?_
  · repeat' (first
      | exact trivial
      | exact rfl
      | exact .inl rfl
      | exact .inr rfl
      | exact .inr ⟨rfl, rfl⟩
      | exact Nat.le_refl _
      | exact Nat.zero_le _
      | exact (fun _ _ => rfl)
      | refine And.intro ?_ ?_
      | (intro i hi; exact absurd hi (Nat.not_lt_zero i))
      | (intro i hi; have hi := Nat.lt_of_lt_of_le hi (show _ ≤ 1 from Nat.le_refl 1); obtain rfl : i = 0 := (by omega); rfl)
      | (intro i hi; have hi := Nat.lt_of_lt_of_le hi (show _ ≤ 2 from Nat.le_refl 2); rcases (show i = 0 ∨ i = 1 by omega) with rfl | rfl <;> rfl)
      | (intro i hi; have hi := Nat.lt_of_lt_of_le hi (show _ ≤ 3 from Nat.le_refl 3); rcases (show i = 0 ∨ i = 1 ∨ i = 2 by omega) with rfl | rfl | rfl <;> rfl))
  · repeat' (first
      | exact trivial
      | exact rfl
      | exact .inl rfl
      | exact .inr rfl
      | exact .inr ⟨rfl, rfl⟩
      | exact Nat.le_refl _
      | exact Nat.zero_le _
      | exact (fun _ _ => rfl)
      | refine And.intro ?_ ?_
      | (intro i hi; exact absurd hi (Nat.not_lt_zero i))
      | (intro i hi; have hi := Nat.lt_of_lt_of_le hi (show _ ≤ 1 from Nat.le_refl 1); obtain rfl : i = 0 := (by omega); rfl)
      | (intro i hi; have hi := Nat.lt_of_lt_of_le hi (show _ ≤ 2 from Nat.le_refl 2); rcases (show i = 0 ∨ i = 1 by omega) with rfl | rfl <;> rfl)
      | (intro i hi; have hi := Nat.lt_of_lt_of_le hi (show _ ≤ 3 from Nat.le_refl 3); rcases (show i = 0 ∨ i = 1 ∨ i = 2 by omega) with rfl | rfl | rfl <;> rfl))
  rw [show pairR (chk (m14c, (⟨2, 1, 2, false, false, false⟩ : Caps)).1) = pairR (1, 142) from congrArg pairR e14c]
  conv => whnf
  refine AskC.use (m14c, ⟨2, 1, 2, false, false, false⟩, 140) [5, 2, 4] trivial rfl ?_ ?_ ?_
  · repeat' (first
      | exact trivial
      | exact rfl
      | exact .inl rfl
      | exact .inr rfl
      | exact .inr ⟨rfl, rfl⟩
      | exact Nat.le_refl _
      | exact Nat.zero_le _
      | exact (fun _ _ => rfl)
      | refine And.intro ?_ ?_
      | (intro i hi; exact absurd hi (Nat.not_lt_zero i))
      | (intro i hi; have hi := Nat.lt_of_lt_of_le hi (show _ ≤ 1 from Nat.le_refl 1); obtain rfl : i = 0 := (by omega); rfl)
      | (intro i hi; have hi := Nat.lt_of_lt_of_le hi (show _ ≤ 2 from Nat.le_refl 2); rcases (show i = 0 ∨ i = 1 by omega) with rfl | rfl <;> rfl)
      | (intro i hi; have hi := Nat.lt_of_lt_of_le hi (show _ ≤ 3 from Nat.le_refl 3); rcases (show i = 0 ∨ i = 1 ∨ i = 2 by omega) with rfl | rfl | rfl <;> rfl))
  · repeat' (first
      | exact trivial
      | exact rfl
      | exact .inl rfl
      | exact .inr rfl
      | exact .inr ⟨rfl, rfl⟩
      | exact Nat.le_refl _
      | exact Nat.zero_le _
      | exact (fun _ _ => rfl)
      | refine And.intro ?_ ?_
      | (intro i hi; exact absurd hi (Nat.not_lt_zero i))
      | (intro i hi; have hi := Nat.lt_of_lt_of_le hi (show _ ≤ 1 from Nat.le_refl 1); obtain rfl : i = 0 := (by omega); rfl)
      | (intro i hi; have hi := Nat.lt_of_lt_of_le hi (show _ ≤ 2 from Nat.le_refl 2); rcases (show i = 0 ∨ i = 1 by omega) with rfl | rfl <;> rfl)
      | (intro i hi; have hi := Nat.lt_of_lt_of_le hi (show _ ≤ 3 from Nat.le_refl 3); rcases (show i = 0 ∨ i = 1 ∨ i = 2 by omega) with rfl | rfl | rfl <;> rfl))
  rw [show iv .i64 (units (m14c, (⟨2, 1, 2, false, false, false⟩ : Caps), (140 : Int)).1.unit (m14c, (⟨2, 1, 2, false, false, false⟩ : Caps), (140 : Int)).2.2) = iv .i64 36 from congrArg (iv .i64) (by decide +kernel)]
  conv => whnf
  refine AskC.use (m14c, ⟨2, 1, 2, false, false, false⟩) [5, 2, 4] m14c_ok rfl ?_ ?_ ?_
  · repeat' (first
      | exact trivial
      | exact rfl
      | exact .inl rfl
      | exact .inr rfl
      | exact .inr ⟨rfl, rfl⟩
      | exact Nat.le_refl _
      | exact Nat.zero_le _
      | exact (fun _ _ => rfl)
      | refine And.intro ?_ ?_
      | (intro i hi; exact absurd hi (Nat.not_lt_zero i))
      | (intro i hi; have hi := Nat.lt_of_lt_of_le hi (show _ ≤ 1 from Nat.le_refl 1); obtain rfl : i = 0 := (by omega); rfl)
      | (intro i hi; have hi := Nat.lt_of_lt_of_le hi (show _ ≤ 2 from Nat.le_refl 2); rcases (show i = 0 ∨ i = 1 by omega) with rfl | rfl <;> rfl)
      | (intro i hi; have hi := Nat.lt_of_lt_of_le hi (show _ ≤ 3 from Nat.le_refl 3); rcases (show i = 0 ∨ i = 1 ∨ i = 2 by omega) with rfl | rfl | rfl <;> rfl))
  · repeat' (first
      | exact trivial
      | exact rfl
      | exact .inl rfl
      | exact .inr rfl
      | exact .inr ⟨rfl, rfl⟩
      | exact Nat.le_refl _
      | exact Nat.zero_le _
      | exact (fun _ _ => rfl)
      | refine And.intro ?_ ?_
      | (intro i hi; exact absurd hi (Nat.not_lt_zero i))
      | (intro i hi; have hi := Nat.lt_of_lt_of_le hi (show _ ≤ 1 from Nat.le_refl 1); obtain rfl : i = 0 := (by omega); rfl)
      | (intro i hi; have hi := Nat.lt_of_lt_of_le hi (show _ ≤ 2 from Nat.le_refl 2); rcases (show i = 0 ∨ i = 1 by omega) with rfl | rfl <;> rfl)
      | (intro i hi; have hi := Nat.lt_of_lt_of_le hi (show _ ≤ 3 from Nat.le_refl 3); rcases (show i = 0 ∨ i = 1 ∨ i = 2 by omega) with rfl | rfl | rfl <;> rfl))
  rw [show iv .i64 (Pu.step (m14c, (⟨2, 1, 2, false, false, false⟩ : Caps)).1) = iv .i64 38 from congrArg (iv .i64) (by decide +kernel)]
  conv => whnf
  refine AskC.use (m14c, ⟨2, 1, 2, false, false, false⟩, 0, 1) [5, 2, 4] m14c_ok rfl ?_ ?_ ?_
  · repeat' (first
      | exact trivial
      | exact rfl
      | exact .inl rfl
      | exact .inr rfl
      | exact .inr ⟨rfl, rfl⟩
      | exact Nat.le_refl _
      | exact Nat.zero_le _
      | exact (fun _ _ => rfl)
      | refine And.intro ?_ ?_
      | (intro i hi; exact absurd hi (Nat.not_lt_zero i))
      | (intro i hi; have hi := Nat.lt_of_lt_of_le hi (show _ ≤ 1 from Nat.le_refl 1); obtain rfl : i = 0 := (by omega); rfl)
      | (intro i hi; have hi := Nat.lt_of_lt_of_le hi (show _ ≤ 2 from Nat.le_refl 2); rcases (show i = 0 ∨ i = 1 by omega) with rfl | rfl <;> rfl)
      | (intro i hi; have hi := Nat.lt_of_lt_of_le hi (show _ ≤ 3 from Nat.le_refl 3); rcases (show i = 0 ∨ i = 1 ∨ i = 2 by omega) with rfl | rfl | rfl <;> rfl))
  · repeat' (first
      | exact trivial
      | exact rfl
      | exact .inl rfl
      | exact .inr rfl
      | exact .inr ⟨rfl, rfl⟩
      | exact Nat.le_refl _
      | exact Nat.zero_le _
      | exact (fun _ _ => rfl)
      | refine And.intro ?_ ?_
      | (intro i hi; exact absurd hi (Nat.not_lt_zero i))
      | (intro i hi; have hi := Nat.lt_of_lt_of_le hi (show _ ≤ 1 from Nat.le_refl 1); obtain rfl : i = 0 := (by omega); rfl)
      | (intro i hi; have hi := Nat.lt_of_lt_of_le hi (show _ ≤ 2 from Nat.le_refl 2); rcases (show i = 0 ∨ i = 1 by omega) with rfl | rfl <;> rfl)
      | (intro i hi; have hi := Nat.lt_of_lt_of_le hi (show _ ≤ 3 from Nat.le_refl 3); rcases (show i = 0 ∨ i = 1 ∨ i = 2 by omega) with rfl | rfl | rfl <;> rfl))
  rw [show bv (meet (m14c, (⟨2, 1, 2, false, false, false⟩ : Caps), (0 : Int), (1 : Int)).1 (m14c, (⟨2, 1, 2, false, false, false⟩ : Caps), (0 : Int), (1 : Int)).2.2.1 (m14c, (⟨2, 1, 2, false, false, false⟩ : Caps), (0 : Int), (1 : Int)).2.2.2) = bv false from congrArg bv (by decide +kernel)]
  conv => whnf
  exact rfl
theorem known14_ok : ConOk Try.prog F.law14_known trueC := con_closed (clRunC_ok (d := 7) ttOk outs14_ok tab14_ok 4) (fn_enters (ok.law14_known (D := 7) u0 _ (clRunC_ok (d := 7) ttOk .nil TabOk.nil 1))) known14_run
abbrev outsL14 : List (FuncId × Cx) := (F.law14_known, AskC trueC) :: outs14
theorem outsL14_ok : OutsOk Try.prog outsL14 := .cons (ask_ok known14_ok) outs14_ok
end Go.Proofs.Ytbdifadabipfiaa.La
