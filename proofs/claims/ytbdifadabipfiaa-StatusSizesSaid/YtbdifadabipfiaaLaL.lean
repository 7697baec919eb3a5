/- StatusSizes: as many counters as there may be: true at every input; no conditions. -/
import Derived.Test.YtbdifadabipfiaaLaK
namespace Go.Proofs.Ytbdifadabipfiaa.statusSizes
open Go Go.Eng Go.Proofs Go.Proofs.Ytbdifadabipfiaa.Tb Go.Proofs.Ytbdifadabipfiaa.Co Go.Proofs.Ytbdifadabipfiaa.La Go.Pu
set_option maxRecDepth 100000
set_option maxHeartbeats 8000000
noncomputable abbrev tabL : List (FuncId × Eng.Fn) := [(F.law19_StatusSizes, fn.law19_StatusSizes u0), (F.status_New, fn.status_New u0), (F.status_Table_Bad, fn.status_Table_Bad u0), (F.status_Table_Good, fn.status_Table_Good u0), (F.status_Table_change, fn.status_Table_change u0), (F.status_Table_All, fn.status_Table_All u0), (F.status_Table_Get, fn.status_Table_Get u0), (F.status_Table_Spread, fn.status_Table_Spread u0)]
theorem tabL_ok {d : Nat} : TabOk d tabL tt := .cons (ok.law19_StatusSizes u0) (.cons (ok.status_New u0) (.cons (ok.status_Table_Bad u0) (.cons (ok.status_Table_Good u0) (.cons (ok.status_Table_change u0) (.cons (ok.status_Table_All u0) (.cons (ok.status_Table_Get u0) (.cons (ok.status_Table_Spread u0) (TabOk.nil))))))))
abbrev pas : List Pa := [.one i64]
theorem walk (n : Int) (hn : I64 n) : clRunC 6 tt outs19 tabL 5 F.law19_StatusSizes [] [iv .i64 n] [] (fun x _ => x = bv true) := by
  obtain ⟨K, hK, e1, e2⟩ : ∃ K : Nat, K ≤ 12 ∧ min (max n 0) 12 = K ∧ max 0 (min n 12) = K := ⟨(min (max n 0) 12).toNat, by omega, by omega, by omega⟩
  conv => whnf
  refine true_use ?_
  repeat
    conv => whnf
    first
      | refine cS rfl rfl ?_
      | refine cT (beq_self_eq_true _) ?_
      | refine bI (by omega) ?_
      | refine cDT (by omega) ?_
      | refine cDF (by omega) ?_
      | refine cNT (by omega) ?_
      | refine cNF (by omega) ?_
      | refine bU8 (by omega) ?_
      | refine bU32 (by omega) ?_
  conv => whnf
  rw [e1]
  refine cDT ?_ ?_
  · refine ⟨by omega, by omega, ?_, by omega⟩
    dsimp only
    omega
  conv => whnf
  rw [e2]
  rcases (show K = 0 ∨ K = 1 ∨ K = 2 ∨ K = 3 ∨ K = 4 ∨ K = 5 ∨ K = 6 ∨ K = 7 ∨ K = 8 ∨ K = 9 ∨ K = 10 ∨ K = 11 ∨ K = 12 by omega) with rfl | rfl | rfl | rfl | rfl | rfl | rfl | rfl | rfl | rfl | rfl | rfl | rfl
  · repeat
      conv => whnf
      first
        | refine cS rfl rfl ?_
        | refine cT (beq_self_eq_true _) ?_
        | refine bI (by omega) ?_
        | refine cDT (by omega) ?_
        | refine cDF (by omega) ?_
        | refine cNT (by omega) ?_
        | refine cNF (by omega) ?_
        | refine bU8 (by omega) ?_
        | refine bU32 (by omega) ?_
    conv => whnf
    exact rfl
  · repeat
      conv => whnf
      first
        | refine cS rfl rfl ?_
        | refine cT (beq_self_eq_true _) ?_
        | refine bI (by omega) ?_
        | refine cDT (by omega) ?_
        | refine cDF (by omega) ?_
        | refine cNT (by omega) ?_
        | refine cNF (by omega) ?_
        | refine bU8 (by omega) ?_
        | refine bU32 (by omega) ?_
    conv => whnf
    refine max_use (N := 1) (f := fun i => if i = 0 then 1 else 0) ⟨by decide, by decide, by decide⟩ ?_ ?_
    · exact ⟨⟨.inl rfl, Nat.le_refl _, (fun i hi => by have hi : i < 1 := hi; rcases (show i = 0 by omega) with rfl <;> rfl)⟩, trivial⟩
    rw [show maxN (fun i => if i = 0 then 1 else 0) (((1 : Nat) : Int).toNat - 1) = 1 by decide]
    repeat
      conv => whnf
      first
        | refine cS rfl rfl ?_
        | refine cT (beq_self_eq_true _) ?_
        | refine bI (by omega) ?_
        | refine cDT (by omega) ?_
        | refine cDF (by omega) ?_
        | refine cNT (by omega) ?_
        | refine cNF (by omega) ?_
        | refine bU8 (by omega) ?_
        | refine bU32 (by omega) ?_
    conv => whnf
    refine min_use (N := 1) (f := fun i => if i = 0 then 1 else 0) ⟨by decide, by decide, by decide⟩ ?_ ?_
    · exact ⟨⟨.inl rfl, Nat.le_refl _, (fun i hi => by have hi : i < 1 := hi; rcases (show i = 0 by omega) with rfl <;> rfl)⟩, trivial⟩
    rw [show minN (fun i => if i = 0 then 1 else 0) (((1 : Nat) : Int).toNat - 1) = 1 by decide]
    repeat
      conv => whnf
      first
        | refine cS rfl rfl ?_
        | refine cT (beq_self_eq_true _) ?_
        | refine bI (by omega) ?_
        | refine cDT (by omega) ?_
        | refine cDF (by omega) ?_
        | refine cNT (by omega) ?_
        | refine cNF (by omega) ?_
        | refine bU8 (by omega) ?_
        | refine bU32 (by omega) ?_
    conv => whnf
    exact rfl
  · repeat
      conv => whnf
      first
        | refine cS rfl rfl ?_
        | refine cT (beq_self_eq_true _) ?_
        | refine bI (by omega) ?_
        | refine cDT (by omega) ?_
        | refine cDF (by omega) ?_
        | refine cNT (by omega) ?_
        | refine cNF (by omega) ?_
        | refine bU8 (by omega) ?_
        | refine bU32 (by omega) ?_
    conv => whnf
    refine max_use (N := 2) (f := fun i => if i = 1 then 1 else 0) ⟨by decide, by decide, by decide⟩ ?_ ?_
    · exact ⟨⟨.inl rfl, Nat.le_refl _, (fun i hi => by have hi : i < 2 := hi; rcases (show i = 0 ∨ i = 1 by omega) with rfl | rfl <;> rfl)⟩, trivial⟩
    rw [show maxN (fun i => if i = 1 then 1 else 0) (((2 : Nat) : Int).toNat - 1) = 1 by decide]
    repeat
      conv => whnf
      first
        | refine cS rfl rfl ?_
        | refine cT (beq_self_eq_true _) ?_
        | refine bI (by omega) ?_
        | refine cDT (by omega) ?_
        | refine cDF (by omega) ?_
        | refine cNT (by omega) ?_
        | refine cNF (by omega) ?_
        | refine bU8 (by omega) ?_
        | refine bU32 (by omega) ?_
    conv => whnf
    refine min_use (N := 2) (f := fun i => if i = 1 then 1 else 0) ⟨by decide, by decide, by decide⟩ ?_ ?_
    · exact ⟨⟨.inl rfl, Nat.le_refl _, (fun i hi => by have hi : i < 2 := hi; rcases (show i = 0 ∨ i = 1 by omega) with rfl | rfl <;> rfl)⟩, trivial⟩
    rw [show minN (fun i => if i = 1 then 1 else 0) (((2 : Nat) : Int).toNat - 1) = 0 by decide]
    repeat
      conv => whnf
      first
        | refine cS rfl rfl ?_
        | refine cT (beq_self_eq_true _) ?_
        | refine bI (by omega) ?_
        | refine cDT (by omega) ?_
        | refine cDF (by omega) ?_
        | refine cNT (by omega) ?_
        | refine cNF (by omega) ?_
        | refine bU8 (by omega) ?_
        | refine bU32 (by omega) ?_
    conv => whnf
    exact rfl
  · repeat
      conv => whnf
      first
        | refine cS rfl rfl ?_
        | refine cT (beq_self_eq_true _) ?_
        | refine bI (by omega) ?_
        | refine cDT (by omega) ?_
        | refine cDF (by omega) ?_
        | refine cNT (by omega) ?_
        | refine cNF (by omega) ?_
        | refine bU8 (by omega) ?_
        | refine bU32 (by omega) ?_
    conv => whnf
    refine max_use (N := 3) (f := fun i => if i = 2 then 1 else 0) ⟨by decide, by decide, by decide⟩ ?_ ?_
    · exact ⟨⟨.inl rfl, Nat.le_refl _, (fun i hi => by have hi : i < 3 := hi; rcases (show i = 0 ∨ i = 1 ∨ i = 2 by omega) with rfl | rfl | rfl <;> rfl)⟩, trivial⟩
    rw [show maxN (fun i => if i = 2 then 1 else 0) (((3 : Nat) : Int).toNat - 1) = 1 by decide]
    repeat
      conv => whnf
      first
        | refine cS rfl rfl ?_
        | refine cT (beq_self_eq_true _) ?_
        | refine bI (by omega) ?_
        | refine cDT (by omega) ?_
        | refine cDF (by omega) ?_
        | refine cNT (by omega) ?_
        | refine cNF (by omega) ?_
        | refine bU8 (by omega) ?_
        | refine bU32 (by omega) ?_
    conv => whnf
    refine min_use (N := 3) (f := fun i => if i = 2 then 1 else 0) ⟨by decide, by decide, by decide⟩ ?_ ?_
    · exact ⟨⟨.inl rfl, Nat.le_refl _, (fun i hi => by have hi : i < 3 := hi; rcases (show i = 0 ∨ i = 1 ∨ i = 2 by omega) with rfl | rfl | rfl <;> rfl)⟩, trivial⟩
    rw [show minN (fun i => if i = 2 then 1 else 0) (((3 : Nat) : Int).toNat - 1) = 0 by decide]
    repeat
      conv => whnf
      first
        | refine cS rfl rfl ?_
        | refine cT (beq_self_eq_true _) ?_
        | refine bI (by omega) ?_
        | refine cDT (by omega) ?_
        | refine cDF (by omega) ?_
        | refine cNT (by omega) ?_
        | refine cNF (by omega) ?_
        | refine bU8 (by omega) ?_
        | refine bU32 (by omega) ?_
    conv => whnf
    exact rfl
  · repeat
      conv => whnf
      first
        | refine cS rfl rfl ?_
        | refine cT (beq_self_eq_true _) ?_
        | refine bI (by omega) ?_
        | refine cDT (by omega) ?_
        | refine cDF (by omega) ?_
        | refine cNT (by omega) ?_
        | refine cNF (by omega) ?_
        | refine bU8 (by omega) ?_
        | refine bU32 (by omega) ?_
    conv => whnf
    refine max_use (N := 4) (f := fun i => if i = 3 then 1 else 0) ⟨by decide, by decide, by decide⟩ ?_ ?_
    · exact ⟨⟨.inl rfl, Nat.le_refl _, (fun i hi => by have hi : i < 4 := hi; rcases (show i = 0 ∨ i = 1 ∨ i = 2 ∨ i = 3 by omega) with rfl | rfl | rfl | rfl <;> rfl)⟩, trivial⟩
    rw [show maxN (fun i => if i = 3 then 1 else 0) (((4 : Nat) : Int).toNat - 1) = 1 by decide]
    repeat
      conv => whnf
      first
        | refine cS rfl rfl ?_
        | refine cT (beq_self_eq_true _) ?_
        | refine bI (by omega) ?_
        | refine cDT (by omega) ?_
        | refine cDF (by omega) ?_
        | refine cNT (by omega) ?_
        | refine cNF (by omega) ?_
        | refine bU8 (by omega) ?_
        | refine bU32 (by omega) ?_
    conv => whnf
    refine min_use (N := 4) (f := fun i => if i = 3 then 1 else 0) ⟨by decide, by decide, by decide⟩ ?_ ?_
    · exact ⟨⟨.inl rfl, Nat.le_refl _, (fun i hi => by have hi : i < 4 := hi; rcases (show i = 0 ∨ i = 1 ∨ i = 2 ∨ i = 3 by omega) with rfl | rfl | rfl | rfl <;> rfl)⟩, trivial⟩
    rw [show minN (fun i => if i = 3 then 1 else 0) (((4 : Nat) : Int).toNat - 1) = 0 by decide]
    repeat
      conv => whnf
      first
        | refine cS rfl rfl ?_
        | refine cT (beq_self_eq_true _) ?_
        | refine bI (by omega) ?_
        | refine cDT (by omega) ?_
        | refine cDF (by omega) ?_
        | refine cNT (by omega) ?_
        | refine cNF (by omega) ?_
        | refine bU8 (by omega) ?_
        | refine bU32 (by omega) ?_
    conv => whnf
    exact rfl
  · repeat
      conv => whnf
      first
        | refine cS rfl rfl ?_
        | refine cT (beq_self_eq_true _) ?_
        | refine bI (by omega) ?_
        | refine cDT (by omega) ?_
        | refine cDF (by omega) ?_
        | refine cNT (by omega) ?_
        | refine cNF (by omega) ?_
        | refine bU8 (by omega) ?_
        | refine bU32 (by omega) ?_
    conv => whnf
    refine max_use (N := 5) (f := fun i => if i = 4 then 1 else 0) ⟨by decide, by decide, by decide⟩ ?_ ?_
    · exact ⟨⟨.inl rfl, Nat.le_refl _, (fun i hi => by have hi : i < 5 := hi; rcases (show i = 0 ∨ i = 1 ∨ i = 2 ∨ i = 3 ∨ i = 4 by omega) with rfl | rfl | rfl | rfl | rfl <;> rfl)⟩, trivial⟩
    rw [show maxN (fun i => if i = 4 then 1 else 0) (((5 : Nat) : Int).toNat - 1) = 1 by decide]
    repeat
      conv => whnf
      first
        | refine cS rfl rfl ?_
        | refine cT (beq_self_eq_true _) ?_
        | refine bI (by omega) ?_
        | refine cDT (by omega) ?_
        | refine cDF (by omega) ?_
        | refine cNT (by omega) ?_
        | refine cNF (by omega) ?_
        | refine bU8 (by omega) ?_
        | refine bU32 (by omega) ?_
    conv => whnf
    refine min_use (N := 5) (f := fun i => if i = 4 then 1 else 0) ⟨by decide, by decide, by decide⟩ ?_ ?_
    · exact ⟨⟨.inl rfl, Nat.le_refl _, (fun i hi => by have hi : i < 5 := hi; rcases (show i = 0 ∨ i = 1 ∨ i = 2 ∨ i = 3 ∨ i = 4 by omega) with rfl | rfl | rfl | rfl | rfl <;> rfl)⟩, trivial⟩
    rw [show minN (fun i => if i = 4 then 1 else 0) (((5 : Nat) : Int).toNat - 1) = 0 by decide]
    repeat
      conv => whnf
      first
        | refine cS rfl rfl ?_
        | refine cT (beq_self_eq_true _) ?_
        | refine bI (by omega) ?_
        | refine cDT (by omega) ?_
        | refine cDF (by omega) ?_
        | refine cNT (by omega) ?_
        | refine cNF (by omega) ?_
        | refine bU8 (by omega) ?_
        | refine bU32 (by omega) ?_
    conv => whnf
    exact rfl
  · repeat
      conv => whnf
      first
        | refine cS rfl rfl ?_
        | refine cT (beq_self_eq_true _) ?_
        | refine bI (by omega) ?_
        | refine cDT (by omega) ?_
        | refine cDF (by omega) ?_
        | refine cNT (by omega) ?_
        | refine cNF (by omega) ?_
        | refine bU8 (by omega) ?_
        | refine bU32 (by omega) ?_
    conv => whnf
    refine max_use (N := 6) (f := fun i => if i = 5 then 1 else 0) ⟨by decide, by decide, by decide⟩ ?_ ?_
    · exact ⟨⟨.inl rfl, Nat.le_refl _, (fun i hi => by have hi : i < 6 := hi; rcases (show i = 0 ∨ i = 1 ∨ i = 2 ∨ i = 3 ∨ i = 4 ∨ i = 5 by omega) with rfl | rfl | rfl | rfl | rfl | rfl <;> rfl)⟩, trivial⟩
    rw [show maxN (fun i => if i = 5 then 1 else 0) (((6 : Nat) : Int).toNat - 1) = 1 by decide]
    repeat
      conv => whnf
      first
        | refine cS rfl rfl ?_
        | refine cT (beq_self_eq_true _) ?_
        | refine bI (by omega) ?_
        | refine cDT (by omega) ?_
        | refine cDF (by omega) ?_
        | refine cNT (by omega) ?_
        | refine cNF (by omega) ?_
        | refine bU8 (by omega) ?_
        | refine bU32 (by omega) ?_
    conv => whnf
    refine min_use (N := 6) (f := fun i => if i = 5 then 1 else 0) ⟨by decide, by decide, by decide⟩ ?_ ?_
    · exact ⟨⟨.inl rfl, Nat.le_refl _, (fun i hi => by have hi : i < 6 := hi; rcases (show i = 0 ∨ i = 1 ∨ i = 2 ∨ i = 3 ∨ i = 4 ∨ i = 5 by omega) with rfl | rfl | rfl | rfl | rfl | rfl <;> rfl)⟩, trivial⟩
    rw [show minN (fun i => if i = 5 then 1 else 0) (((6 : Nat) : Int).toNat - 1) = 0 by decide]
    repeat
      conv => whnf
      first
        | refine cS rfl rfl ?_
        | refine cT (beq_self_eq_true _) ?_
        | refine bI (by omega) ?_
        | refine cDT (by omega) ?_
        | refine cDF (by omega) ?_
        | refine cNT (by omega) ?_
        | refine cNF (by omega) ?_
        | refine bU8 (by omega) ?_
        | refine bU32 (by omega) ?_
    conv => whnf
    exact rfl
  · repeat
      conv => whnf
      first
        | refine cS rfl rfl ?_
        | refine cT (beq_self_eq_true _) ?_
        | refine bI (by omega) ?_
        | refine cDT (by omega) ?_
        | refine cDF (by omega) ?_
        | refine cNT (by omega) ?_
        | refine cNF (by omega) ?_
        | refine bU8 (by omega) ?_
        | refine bU32 (by omega) ?_
    conv => whnf
    refine max_use (N := 7) (f := fun i => if i = 6 then 1 else 0) ⟨by decide, by decide, by decide⟩ ?_ ?_
    · exact ⟨⟨.inl rfl, Nat.le_refl _, (fun i hi => by have hi : i < 7 := hi; rcases (show i = 0 ∨ i = 1 ∨ i = 2 ∨ i = 3 ∨ i = 4 ∨ i = 5 ∨ i = 6 by omega) with rfl | rfl | rfl | rfl | rfl | rfl | rfl <;> rfl)⟩, trivial⟩
    rw [show maxN (fun i => if i = 6 then 1 else 0) (((7 : Nat) : Int).toNat - 1) = 1 by decide]
    repeat
      conv => whnf
      first
        | refine cS rfl rfl ?_
        | refine cT (beq_self_eq_true _) ?_
        | refine bI (by omega) ?_
        | refine cDT (by omega) ?_
        | refine cDF (by omega) ?_
        | refine cNT (by omega) ?_
        | refine cNF (by omega) ?_
        | refine bU8 (by omega) ?_
        | refine bU32 (by omega) ?_
    conv => whnf
    refine min_use (N := 7) (f := fun i => if i = 6 then 1 else 0) ⟨by decide, by decide, by decide⟩ ?_ ?_
    · exact ⟨⟨.inl rfl, Nat.le_refl _, (fun i hi => by have hi : i < 7 := hi; rcases (show i = 0 ∨ i = 1 ∨ i = 2 ∨ i = 3 ∨ i = 4 ∨ i = 5 ∨ i = 6 by omega) with rfl | rfl | rfl | rfl | rfl | rfl | rfl <;> rfl)⟩, trivial⟩
    rw [show minN (fun i => if i = 6 then 1 else 0) (((7 : Nat) : Int).toNat - 1) = 0 by decide]
    repeat
      conv => whnf
      first
        | refine cS rfl rfl ?_
        | refine cT (beq_self_eq_true _) ?_
        | refine bI (by omega) ?_
        | refine cDT (by omega) ?_
        | refine cDF (by omega) ?_
        | refine cNT (by omega) ?_
        | refine cNF (by omega) ?_
        | refine bU8 (by omega) ?_
        | refine bU32 (by omega) ?_
    conv => whnf
    exact rfl
  · repeat
      conv => whnf
      first
        | refine cS rfl rfl ?_
        | refine cT (beq_self_eq_true _) ?_
        | refine bI (by omega) ?_
        | refine cDT (by omega) ?_
        | refine cDF (by omega) ?_
        | refine cNT (by omega) ?_
        | refine cNF (by omega) ?_
        | refine bU8 (by omega) ?_
        | refine bU32 (by omega) ?_
    conv => whnf
    refine max_use (N := 8) (f := fun i => if i = 7 then 1 else 0) ⟨by decide, by decide, by decide⟩ ?_ ?_
    · exact ⟨⟨.inl rfl, Nat.le_refl _, (fun i hi => by have hi : i < 8 := hi; rcases (show i = 0 ∨ i = 1 ∨ i = 2 ∨ i = 3 ∨ i = 4 ∨ i = 5 ∨ i = 6 ∨ i = 7 by omega) with rfl | rfl | rfl | rfl | rfl | rfl | rfl | rfl <;> rfl)⟩, trivial⟩
    rw [show maxN (fun i => if i = 7 then 1 else 0) (((8 : Nat) : Int).toNat - 1) = 1 by decide]
    repeat
      conv => whnf
      first
        | refine cS rfl rfl ?_
        | refine cT (beq_self_eq_true _) ?_
        | refine bI (by omega) ?_
        | refine cDT (by omega) ?_
        | refine cDF (by omega) ?_
        | refine cNT (by omega) ?_
        | refine cNF (by omega) ?_
        | refine bU8 (by omega) ?_
        | refine bU32 (by omega) ?_
    conv => whnf
    refine min_use (N := 8) (f := fun i => if i = 7 then 1 else 0) ⟨by decide, by decide, by decide⟩ ?_ ?_
    · exact ⟨⟨.inl rfl, Nat.le_refl _, (fun i hi => by have hi : i < 8 := hi; rcases (show i = 0 ∨ i = 1 ∨ i = 2 ∨ i = 3 ∨ i = 4 ∨ i = 5 ∨ i = 6 ∨ i = 7 by omega) with rfl | rfl | rfl | rfl | rfl | rfl | rfl | rfl <;> rfl)⟩, trivial⟩
    rw [show minN (fun i => if i = 7 then 1 else 0) (((8 : Nat) : Int).toNat - 1) = 0 by decide]
    repeat
      conv => whnf
      first
        | refine cS rfl rfl ?_
        | refine cT (beq_self_eq_true _) ?_
        | refine bI (by omega) ?_
        | refine cDT (by omega) ?_
        | refine cDF (by omega) ?_
        | refine cNT (by omega) ?_
        | refine cNF (by omega) ?_
        | refine bU8 (by omega) ?_
        | refine bU32 (by omega) ?_
    conv => whnf
    exact rfl
  · repeat
      conv => whnf
      first
        | refine cS rfl rfl ?_
        | refine cT (beq_self_eq_true _) ?_
        | refine bI (by omega) ?_
        | refine cDT (by omega) ?_
        | refine cDF (by omega) ?_
        | refine cNT (by omega) ?_
        | refine cNF (by omega) ?_
        | refine bU8 (by omega) ?_
        | refine bU32 (by omega) ?_
    conv => whnf
    refine max_use (N := 9) (f := fun i => if i = 8 then 1 else 0) ⟨by decide, by decide, by decide⟩ ?_ ?_
    · exact ⟨⟨.inl rfl, Nat.le_refl _, (fun i hi => by have hi : i < 9 := hi; rcases (show i = 0 ∨ i = 1 ∨ i = 2 ∨ i = 3 ∨ i = 4 ∨ i = 5 ∨ i = 6 ∨ i = 7 ∨ i = 8 by omega) with rfl | rfl | rfl | rfl | rfl | rfl | rfl | rfl | rfl <;> rfl)⟩, trivial⟩
    rw [show maxN (fun i => if i = 8 then 1 else 0) (((9 : Nat) : Int).toNat - 1) = 1 by decide]
    repeat
      conv => whnf
      first
        | refine cS rfl rfl ?_
        | refine cT (beq_self_eq_true _) ?_
        | refine bI (by omega) ?_
        | refine cDT (by omega) ?_
        | refine cDF (by omega) ?_
        | refine cNT (by omega) ?_
        | refine cNF (by omega) ?_
        | refine bU8 (by omega) ?_
        | refine bU32 (by omega) ?_
    conv => whnf
    refine min_use (N := 9) (f := fun i => if i = 8 then 1 else 0) ⟨by decide, by decide, by decide⟩ ?_ ?_
    · exact ⟨⟨.inl rfl, Nat.le_refl _, (fun i hi => by have hi : i < 9 := hi; rcases (show i = 0 ∨ i = 1 ∨ i = 2 ∨ i = 3 ∨ i = 4 ∨ i = 5 ∨ i = 6 ∨ i = 7 ∨ i = 8 by omega) with rfl | rfl | rfl | rfl | rfl | rfl | rfl | rfl | rfl <;> rfl)⟩, trivial⟩
    rw [show minN (fun i => if i = 8 then 1 else 0) (((9 : Nat) : Int).toNat - 1) = 0 by decide]
    repeat
      conv => whnf
      first
        | refine cS rfl rfl ?_
        | refine cT (beq_self_eq_true _) ?_
        | refine bI (by omega) ?_
        | refine cDT (by omega) ?_
        | refine cDF (by omega) ?_
        | refine cNT (by omega) ?_
        | refine cNF (by omega) ?_
        | refine bU8 (by omega) ?_
        | refine bU32 (by omega) ?_
    conv => whnf
    exact rfl
  · repeat
      conv => whnf
      first
        | refine cS rfl rfl ?_
        | refine cT (beq_self_eq_true _) ?_
        | refine bI (by omega) ?_
        | refine cDT (by omega) ?_
        | refine cDF (by omega) ?_
        | refine cNT (by omega) ?_
        | refine cNF (by omega) ?_
        | refine bU8 (by omega) ?_
        | refine bU32 (by omega) ?_
    conv => whnf
    refine max_use (N := 10) (f := fun i => if i = 9 then 1 else 0) ⟨by decide, by decide, by decide⟩ ?_ ?_
    · exact ⟨⟨.inl rfl, Nat.le_refl _, (fun i hi => by have hi : i < 10 := hi; rcases (show i = 0 ∨ i = 1 ∨ i = 2 ∨ i = 3 ∨ i = 4 ∨ i = 5 ∨ i = 6 ∨ i = 7 ∨ i = 8 ∨ i = 9 by omega) with rfl | rfl | rfl | rfl | rfl | rfl | rfl | rfl | rfl | rfl <;> rfl)⟩, trivial⟩
    rw [show maxN (fun i => if i = 9 then 1 else 0) (((10 : Nat) : Int).toNat - 1) = 1 by decide]
    repeat
      conv => whnf
      first
        | refine cS rfl rfl ?_
        | refine cT (beq_self_eq_true _) ?_
        | refine bI (by omega) ?_
        | refine cDT (by omega) ?_
        | refine cDF (by omega) ?_
        | refine cNT (by omega) ?_
        | refine cNF (by omega) ?_
        | refine bU8 (by omega) ?_
        | refine bU32 (by omega) ?_
    conv => whnf
    refine min_use (N := 10) (f := fun i => if i = 9 then 1 else 0) ⟨by decide, by decide, by decide⟩ ?_ ?_
    · exact ⟨⟨.inl rfl, Nat.le_refl _, (fun i hi => by have hi : i < 10 := hi; rcases (show i = 0 ∨ i = 1 ∨ i = 2 ∨ i = 3 ∨ i = 4 ∨ i = 5 ∨ i = 6 ∨ i = 7 ∨ i = 8 ∨ i = 9 by omega) with rfl | rfl | rfl | rfl | rfl | rfl | rfl | rfl | rfl | rfl <;> rfl)⟩, trivial⟩
    rw [show minN (fun i => if i = 9 then 1 else 0) (((10 : Nat) : Int).toNat - 1) = 0 by decide]
    repeat
      conv => whnf
      first
        | refine cS rfl rfl ?_
        | refine cT (beq_self_eq_true _) ?_
        | refine bI (by omega) ?_
        | refine cDT (by omega) ?_
        | refine cDF (by omega) ?_
        | refine cNT (by omega) ?_
        | refine cNF (by omega) ?_
        | refine bU8 (by omega) ?_
        | refine bU32 (by omega) ?_
    conv => whnf
    exact rfl
  · repeat
      conv => whnf
      first
        | refine cS rfl rfl ?_
        | refine cT (beq_self_eq_true _) ?_
        | refine bI (by omega) ?_
        | refine cDT (by omega) ?_
        | refine cDF (by omega) ?_
        | refine cNT (by omega) ?_
        | refine cNF (by omega) ?_
        | refine bU8 (by omega) ?_
        | refine bU32 (by omega) ?_
    conv => whnf
    refine max_use (N := 11) (f := fun i => if i = 10 then 1 else 0) ⟨by decide, by decide, by decide⟩ ?_ ?_
    · exact ⟨⟨.inl rfl, Nat.le_refl _, (fun i hi => by have hi : i < 11 := hi; rcases (show i = 0 ∨ i = 1 ∨ i = 2 ∨ i = 3 ∨ i = 4 ∨ i = 5 ∨ i = 6 ∨ i = 7 ∨ i = 8 ∨ i = 9 ∨ i = 10 by omega) with rfl | rfl | rfl | rfl | rfl | rfl | rfl | rfl | rfl | rfl | rfl <;> rfl)⟩, trivial⟩
    rw [show maxN (fun i => if i = 10 then 1 else 0) (((11 : Nat) : Int).toNat - 1) = 1 by decide]
    repeat
      conv => whnf
      first
        | refine cS rfl rfl ?_
        | refine cT (beq_self_eq_true _) ?_
        | refine bI (by omega) ?_
        | refine cDT (by omega) ?_
        | refine cDF (by omega) ?_
        | refine cNT (by omega) ?_
        | refine cNF (by omega) ?_
        | refine bU8 (by omega) ?_
        | refine bU32 (by omega) ?_
    conv => whnf
    refine min_use (N := 11) (f := fun i => if i = 10 then 1 else 0) ⟨by decide, by decide, by decide⟩ ?_ ?_
    · exact ⟨⟨.inl rfl, Nat.le_refl _, (fun i hi => by have hi : i < 11 := hi; rcases (show i = 0 ∨ i = 1 ∨ i = 2 ∨ i = 3 ∨ i = 4 ∨ i = 5 ∨ i = 6 ∨ i = 7 ∨ i = 8 ∨ i = 9 ∨ i = 10 by omega) with rfl | rfl | rfl | rfl | rfl | rfl | rfl | rfl | rfl | rfl | rfl <;> rfl)⟩, trivial⟩
    rw [show minN (fun i => if i = 10 then 1 else 0) (((11 : Nat) : Int).toNat - 1) = 0 by decide]
    repeat
      conv => whnf
      first
        | refine cS rfl rfl ?_
        | refine cT (beq_self_eq_true _) ?_
        | refine bI (by omega) ?_
        | refine cDT (by omega) ?_
        | refine cDF (by omega) ?_
        | refine cNT (by omega) ?_
        | refine cNF (by omega) ?_
        | refine bU8 (by omega) ?_
        | refine bU32 (by omega) ?_
    conv => whnf
    exact rfl
  · repeat
      conv => whnf
      first
        | refine cS rfl rfl ?_
        | refine cT (beq_self_eq_true _) ?_
        | refine bI (by omega) ?_
        | refine cDT (by omega) ?_
        | refine cDF (by omega) ?_
        | refine cNT (by omega) ?_
        | refine cNF (by omega) ?_
        | refine bU8 (by omega) ?_
        | refine bU32 (by omega) ?_
    conv => whnf
    refine max_use (N := 12) (f := fun i => if i = 11 then 1 else 0) ⟨by decide, by decide, by decide⟩ ?_ ?_
    · exact ⟨⟨.inl rfl, Nat.le_refl _, (fun i hi => by have hi : i < 12 := hi; rcases (show i = 0 ∨ i = 1 ∨ i = 2 ∨ i = 3 ∨ i = 4 ∨ i = 5 ∨ i = 6 ∨ i = 7 ∨ i = 8 ∨ i = 9 ∨ i = 10 ∨ i = 11 by omega) with rfl | rfl | rfl | rfl | rfl | rfl | rfl | rfl | rfl | rfl | rfl | rfl <;> rfl)⟩, trivial⟩
    rw [show maxN (fun i => if i = 11 then 1 else 0) (((12 : Nat) : Int).toNat - 1) = 1 by decide]
    repeat
      conv => whnf
      first
        | refine cS rfl rfl ?_
        | refine cT (beq_self_eq_true _) ?_
        | refine bI (by omega) ?_
        | refine cDT (by omega) ?_
        | refine cDF (by omega) ?_
        | refine cNT (by omega) ?_
        | refine cNF (by omega) ?_
        | refine bU8 (by omega) ?_
        | refine bU32 (by omega) ?_
    conv => whnf
    refine min_use (N := 12) (f := fun i => if i = 11 then 1 else 0) ⟨by decide, by decide, by decide⟩ ?_ ?_
    · exact ⟨⟨.inl rfl, Nat.le_refl _, (fun i hi => by have hi : i < 12 := hi; rcases (show i = 0 ∨ i = 1 ∨ i = 2 ∨ i = 3 ∨ i = 4 ∨ i = 5 ∨ i = 6 ∨ i = 7 ∨ i = 8 ∨ i = 9 ∨ i = 10 ∨ i = 11 by omega) with rfl | rfl | rfl | rfl | rfl | rfl | rfl | rfl | rfl | rfl | rfl | rfl <;> rfl)⟩, trivial⟩
    rw [show minN (fun i => if i = 11 then 1 else 0) (((12 : Nat) : Int).toNat - 1) = 0 by decide]
    repeat
      conv => whnf
      first
        | refine cS rfl rfl ?_
        | refine cT (beq_self_eq_true _) ?_
        | refine bI (by omega) ?_
        | refine cDT (by omega) ?_
        | refine cDF (by omega) ?_
        | refine cNT (by omega) ?_
        | refine cNF (by omega) ?_
        | refine bU8 (by omega) ?_
        | refine bU32 (by omega) ?_
    conv => whnf
    exact rfl
theorem cl_ok : ∃ cl : Cl, ClOk Try.prog cl ∧ ∀ D, OkAll pas D → cl F.law19_StatusSizes [] (xsP 0 pas D) (hsP pas D) fun x _ => x = bv true := by
  refine ⟨clRunC 6 tt outs19 tabL 5, clRunC_ok (d := 6) ttOk outs19_ok tabL_ok 5, fun D hD => ?_⟩
  match D, hD with
  | [d0], hD =>
    obtain ⟨h0, _⟩ := hD
    obtain ⟨a, rfl, ha⟩ := one_i64 h0
    exact walk a ha
theorem own' : ownKnob Try.prog.godebug = none := own
theorem lifted (os : Os) (started : os.Started) (H : Type) (enc : TypeId × Value → H) :
    ReturnsInHanded {} Try.checked os 3 .any (Rows.statusSizesSpec.pre6 enc Try.prog Try.f3 Rows.statusSizesRow.domain false) (Rows.statusSizesSpec.post enc Try.prog Try.f3 false true false false) := by
  refine returnsInHanded_of_change (C := Try.checked) own started (by kernel_rfl) Try.func3
    (ChangeSpec.witness6 (enc := enc) (C := Try.checked) false ⟨#[], #[.int .i64 0], []⟩ 8 (by kernel_rfl) (by kernel_rfl) (by kernel_rfl) (by kernel_rfl)) ?_
  intro W base args ds gs before hval hW _ _
  obtain ⟨cl, hc, hw⟩ := cl_ok
  exact row_of (ps := pas) (by kernel_rfl) (by kernel_rfl) rfl rfl (fun ds h => by
    match ds, h with
    | [_], _ => rfl) hval hW hc hw
theorem closed : joinedFacts Try.prog 3 Try.f3 Rows.statusSizesSpec Rows.statusSizesRow = true := by
  simp only [joinedFacts, Bool.and_eq_true]
  repeat' apply And.intro
  all_goals first
    | with_reducible exact mayEnter_ok
    | with_reducible exact laid_ok
    | with_reducible exact rowed_ok
    | ((with_reducible refine beq_r lifts_ok ?_); rfl)
    | ((with_reducible refine beq_l make_ok ?_); kernel_rfl)
    | (as_aux_lemma => kernel_rfl)
theorem named : Try.prog.funcNamed Rows.statusSizesRow.func = some 3 := by kernel_rfl
theorem inst : Try.f3.isInstance Try.prog Rows.statusSizesRow.origin Rows.statusSizesRow.targs := of_decide_eq_true (by kernel_rfl)
theorem wrap : Try.f3.isWrapper Try.prog Rows.statusSizesRow.wrapper Rows.statusSizesRow.mainSum := by
  unfold Func.isWrapper; first | (rw [if_pos (by decide +kernel)]; kernel_rfl) | (rw [if_neg (by decide +kernel)]; exact ⟨rfl, rfl⟩)
theorem over : Rows.statusSizesRow.holds Try.pinned (OpenSpec.ofChange Rows.statusSizesSpec) :=
  OpenClaim.holds_of_wide 3 Try.f3 rfl rfl rfl rfl rfl rfl rfl ⟨rfl, rfl, rfl, rfl, rfl⟩ rfl rfl rfl rfl rfl named Try.func3 closed inst wrap
    (fun os started H enc _ => lifted os started H enc)
/-- The statement. -/
theorem proved : Rows.StatusSizesSaid := over
#print axioms proved
end Go.Proofs.Ytbdifadabipfiaa.statusSizes
