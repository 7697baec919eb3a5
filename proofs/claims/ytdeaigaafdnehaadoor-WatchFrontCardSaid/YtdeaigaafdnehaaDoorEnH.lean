/- The engine, part H: loops by an invariant; ends of runs. -/
import Derived.Test.YtdeaigaafdnehaaDoorEnG
namespace Go.Eng
open Go
variable {d : Nat}
section
variable {n0 : Nat} {asg : List Nat} {round : Pt d} {r : Tr d} {h : Heap} {k : Ex → Tr d → Heap → Prop} {S : Type}
theorem LoopGoal.inv (P : S → Prop) (X : S → List (Nat × R)) (H : S → Heap) (m : S → Nat) (s0 : S) (hp : P s0)
    (h0 : junkK asg r fun r0 => updK (X s0) r0 fun r1 => Le n0 r h r1 (H s0))
    (hr : ∀ s, P s → junkK asg r fun r0 => updK (X s) r0 fun r1 => round r1 (H s) fun e r' h' => match e with
      | .normal => ∃ s', (P s' ∧ m s' < m s) ∧ junkK asg r fun r0 => updK (X s') r0 fun r1 => Le n0 r' h' r1 (H s')
      | e => k e r' h') : LoopGoal n0 asg round r h k := by
  refine LoopGoal.at (S := { s : S // P s }) (fun s => X s.1) (fun s => H s.1) (fun s => m s.1) ⟨s0, hp⟩ h0 fun s => ?_
  have h1 := hr s.1 s.2
  have e : (fun (e : Ex) (r' : Tr d) (h' : Heap) => match e with
      | .normal => ∃ s', (P s' ∧ m s' < m s.1) ∧ junkK asg r fun r0 => updK (X s') r0 fun r1 => Le n0 r' h' r1 (H s')
      | e => k e r' h') = fun e r' h' => match e with
      | .normal => ∃ s' : { s : S // P s }, m s'.1 < m s.1 ∧ junkK asg r fun r0 => updK (X s'.1) r0 fun r1 => Le n0 r' h' r1 (H s'.1)
      | e => k e r' h' := by
    funext e r' h'
    cases e with
    | normal => exact propext ⟨fun ⟨s', q1, q2⟩ => ⟨⟨s', q1.1⟩, q1.2, q2⟩, fun ⟨⟨s', q1⟩, q2, q3⟩ => ⟨s', ⟨q1, q2⟩, q3⟩⟩
    | _ => rfl
  rw [e] at h1
  exact h1
/-- A loop that leaves the heap alone. -/
theorem LoopGoal.rd (P : S → Prop) (X : S → List (Nat × R)) (m : S → Nat) (s0 : S) (hp : P s0)
    (h0 : junkK asg r fun r0 => updK (X s0) r0 fun r1 => Le n0 r h r1 h)
    (hr : ∀ s, P s → junkK asg r fun r0 => updK (X s) r0 fun r1 => round r1 h fun e r' h' => match e with
      | .normal => ∃ s', (P s' ∧ m s' < m s) ∧ junkK asg r fun r0 => updK (X s') r0 fun r1 => Le n0 r' h' r1 h
      | e => k e r' h') : LoopGoal n0 asg round r h k := .inv P X (fun _ => h) m s0 hp h0 hr
end
theorem ul0 {P : Nat → Prop} : ∀ i, i < 0 → P i := fun i h => absurd h (Nat.not_lt_zero i)
theorem ul1 {P : Nat → Prop} (h : P 0) : ∀ i, i < 1 → P i := fun i hi => by
  obtain rfl : i = 0 := by omega
  exact h
theorem ul2 {P : Nat → Prop} (h : P 0) (h1 : P 1) : ∀ i, i < 2 → P i := fun i hi => by
  rcases (show i = 0 ∨ i = 1 by omega) with rfl | rfl
  · exact h
  · exact h1
theorem ul3 {P : Nat → Prop} (h : P 0) (h1 : P 1) (h2 : P 2) : ∀ i, i < 3 → P i := fun i hi => by
  rcases (show i = 0 ∨ i = 1 ∨ i = 2 by omega) with rfl | rfl | rfl
  · exact h
  · exact h1
  · exact h2
end Go.Eng
