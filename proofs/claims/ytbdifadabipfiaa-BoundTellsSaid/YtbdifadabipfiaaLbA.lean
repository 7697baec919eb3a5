/- BoundTells: of every matrix: bits of units, of a cycle, until a beat comes again; windows, sends, busy units: true at every input; no conditions. -/
import Derived.Test.YtbdifadabipfiaaLaY
namespace Go.Proofs.Ytbdifadabipfiaa.boundTells
open Go Go.Eng Go.Proofs Go.Proofs.Ytbdifadabipfiaa.Tb Go.Proofs.Ytbdifadabipfiaa.Co Go.Proofs.Ytbdifadabipfiaa.La Go.Pu
set_option maxRecDepth 100000
set_option maxHeartbeats 4000000
noncomputable abbrev tabL : List (FuncId × Eng.Fn) := [(F.law27_BoundTells, fn.law27_BoundTells u0), (F.law27_few, fn.law27_few u0)]
theorem tabL_ok {d : Nat} : TabOk d tabL tt := .cons (ok.law27_BoundTells u0) (.cons (ok.law27_few u0) (TabOk.nil))
abbrev pas : List Pa := [.agg matSh, .one i64, .one i64, .one i64]
theorem walk (m : Mat) (c : Caps) (a b d : Int) (hm : m.Ok) (hc : capsOk m c) (ha : I64 a) : clRunX 8 tt outsL27 tabL 3 F.law27_BoundTells [] [matT m c 0 1 2, iv .i64 a, iv .i64 b, iv .i64 d] (matH m []) (fun x _ => x = bv true) := by
  have hnW := hm.nW
  have hnG := hm.nG
  conv => whnf
  refine true_use ?_
  conv => whnf
  refine cD (fun h1 => ?_) (fun h1 => ?_)
  rotate_left
  · conv => whnf
    exact rfl
  conv => whnf
  refine cD (fun h2 => ?_) (fun h2 => ?_)
  rotate_left
  · conv => whnf
    exact rfl
  conv => whnf
  refine cN (fun h3 => ?_) (fun h3 => ?_)
  · conv => whnf
    exact rfl
  repeat
    conv => whnf
    first
      | (with_reducible refine qS ?_ ?_ ?_
         · exact rfl
         · exact rfl)
      | with_reducible refine qB ?_
      | (with_reducible refine qI ?_ ?_
         · omega)
      | (with_reducible refine qDT ?_ ?_
         · omega)
      | (with_reducible refine qDF ?_ ?_
         · omega)
      | (with_reducible refine qNT ?_ ?_
         · omega)
      | (with_reducible refine qNF ?_ ?_
         · omega)
      | (with_reducible refine qU8 ?_ ?_
         · omega)
      | (with_reducible refine qU32 ?_ ?_
         · omega)
      | (with_reducible refine qU64 ?_ ?_
         · omega)
      | (with_reducible refine qU16 ?_ ?_
         · omega)
  conv => whnf
  refine checkR_use (m := m) (c := c) hm ?_
  by_cases h : (chk m).2 = 0
  rotate_left
  · repeat
      conv => whnf
      first
        | (with_reducible refine qS ?_ ?_ ?_
           · exact rfl
           · exact rfl)
        | with_reducible refine qB ?_
        | (with_reducible refine qI ?_ ?_
           · omega)
        | (with_reducible refine qDT ?_ ?_
           · omega)
        | (with_reducible refine qDF ?_ ?_
           · omega)
        | (with_reducible refine qNT ?_ ?_
           · omega)
        | (with_reducible refine qNF ?_ ?_
           · omega)
        | (with_reducible refine qU8 ?_ ?_
           · omega)
        | (with_reducible refine qU32 ?_ ?_
           · omega)
        | (with_reducible refine qU64 ?_ ?_
           · omega)
        | (with_reducible refine qU16 ?_ ?_
           · omega)
    conv => whnf
    refine bits_use (m := m) (c := c) hm hc ha ?_
    rw [show bits1 m a = 0 from if_neg h]
    repeat
      conv => whnf
      first
        | (with_reducible refine qS ?_ ?_ ?_
           · exact rfl
           · exact rfl)
        | with_reducible refine qB ?_
        | (with_reducible refine qI ?_ ?_
           · omega)
        | (with_reducible refine qDT ?_ ?_
           · omega)
        | (with_reducible refine qDF ?_ ?_
           · omega)
        | (with_reducible refine qNT ?_ ?_
           · omega)
        | (with_reducible refine qNF ?_ ?_
           · omega)
        | (with_reducible refine qU8 ?_ ?_
           · omega)
        | (with_reducible refine qU32 ?_ ?_
           · omega)
        | (with_reducible refine qU64 ?_ ?_
           · omega)
        | (with_reducible refine qU16 ?_ ?_
           · omega)
    conv => whnf
    refine cycle_use (m := m) (c := c) hm hc ?_
    rw [show bits1 m m.length = 0 from if_neg h]
    repeat
      conv => whnf
      first
        | (with_reducible refine qS ?_ ?_ ?_
           · exact rfl
           · exact rfl)
        | with_reducible refine qB ?_
        | (with_reducible refine qI ?_ ?_
           · omega)
        | (with_reducible refine qDT ?_ ?_
           · omega)
        | (with_reducible refine qDF ?_ ?_
           · omega)
        | (with_reducible refine qNT ?_ ?_
           · omega)
        | (with_reducible refine qNF ?_ ?_
           · omega)
        | (with_reducible refine qU8 ?_ ?_
           · omega)
        | (with_reducible refine qU32 ?_ ?_
           · omega)
        | (with_reducible refine qU64 ?_ ?_
           · omega)
        | (with_reducible refine qU16 ?_ ?_
           · omega)
    conv => whnf
    refine again_use (m := m) (c := c) hm hc ?_
    rw [show again1 m = 0 from if_neg h]
    repeat
      conv => whnf
      first
        | (with_reducible refine qS ?_ ?_ ?_
           · exact rfl
           · exact rfl)
        | with_reducible refine qB ?_
        | (with_reducible refine qI ?_ ?_
           · omega)
        | (with_reducible refine qDT ?_ ?_
           · omega)
        | (with_reducible refine qDF ?_ ?_
           · omega)
        | (with_reducible refine qNT ?_ ?_
           · omega)
        | (with_reducible refine qNF ?_ ?_
           · omega)
        | (with_reducible refine qU8 ?_ ?_
           · omega)
        | (with_reducible refine qU32 ?_ ?_
           · omega)
        | (with_reducible refine qU64 ?_ ?_
           · omega)
        | (with_reducible refine qU16 ?_ ?_
           · omega)
    conv => whnf
    refine wins_use (m := m) (c := c) hm hc ?_
    rw [show all1 m (fK b) = 0 from if_neg h]
    repeat
      conv => whnf
      first
        | (with_reducible refine qS ?_ ?_ ?_
           · exact rfl
           · exact rfl)
        | with_reducible refine qB ?_
        | (with_reducible refine qI ?_ ?_
           · omega)
        | (with_reducible refine qDT ?_ ?_
           · omega)
        | (with_reducible refine qDF ?_ ?_
           · omega)
        | (with_reducible refine qNT ?_ ?_
           · omega)
        | (with_reducible refine qNF ?_ ?_
           · omega)
        | (with_reducible refine qU8 ?_ ?_
           · omega)
        | (with_reducible refine qU32 ?_ ?_
           · omega)
        | (with_reducible refine qU64 ?_ ?_
           · omega)
        | (with_reducible refine qU16 ?_ ?_
           · omega)
    conv => whnf
    refine sends_use (m := m) (c := c) hm hc ?_
    rw [show all1 m (fS d) = 0 from if_neg h]
    repeat
      conv => whnf
      first
        | (with_reducible refine qS ?_ ?_ ?_
           · exact rfl
           · exact rfl)
        | with_reducible refine qB ?_
        | (with_reducible refine qI ?_ ?_
           · omega)
        | (with_reducible refine qDT ?_ ?_
           · omega)
        | (with_reducible refine qDF ?_ ?_
           · omega)
        | (with_reducible refine qNT ?_ ?_
           · omega)
        | (with_reducible refine qNF ?_ ?_
           · omega)
        | (with_reducible refine qU8 ?_ ?_
           · omega)
        | (with_reducible refine qU32 ?_ ?_
           · omega)
        | (with_reducible refine qU64 ?_ ?_
           · omega)
        | (with_reducible refine qU16 ?_ ?_
           · omega)
    conv => whnf
    refine busy_use (m := m) (c := c) hm hc ?_
    rw [show all1 m fB = 0 from if_neg h]
    repeat
      conv => whnf
      first
        | (with_reducible refine qS ?_ ?_ ?_
           · exact rfl
           · exact rfl)
        | with_reducible refine qB ?_
        | (with_reducible refine qI ?_ ?_
           · omega)
        | (with_reducible refine qDT ?_ ?_
           · omega)
        | (with_reducible refine qDF ?_ ?_
           · omega)
        | (with_reducible refine qNT ?_ ?_
           · omega)
        | (with_reducible refine qNF ?_ ?_
           · omega)
        | (with_reducible refine qU8 ?_ ?_
           · omega)
        | (with_reducible refine qU32 ?_ ?_
           · omega)
        | (with_reducible refine qU64 ?_ ?_
           · omega)
        | (with_reducible refine qU16 ?_ ?_
           · omega)
    conv => whnf
    exact rfl
  have hi := (pass_of h).is
  have hcy : 1 ≤ m.cycles ∧ m.cycles ≤ 8 := (pass_of h).cyc8
  have hl := hi.head
  have hn := hi.size
  have hw := watch_bd hi
  have hdl := bitsM_bd hi.head (later m)
  obtain ⟨C, hC⟩ : ∃ C : Nat, m.cycles = C := ⟨m.cycles.toNat, by omega⟩
  have hCN : m.cycles.toNat = C := by omega
  have smK : ∀ {a b' : Nat}, a ≤ C → b' ≤ m.nW → _ := fun {a b'} ha hb => sums_sm hi (fK_sm m b) (c := a) (i := b') (by omega) hb
  have smS : ∀ {a b' : Nat}, a ≤ C → b' ≤ m.nW → _ := fun {a b'} ha hb => sums_sm hi (fS_sm m d) (c := a) (i := b') (by omega) hb
  have smB : ∀ {a b' : Nat}, a ≤ C → b' ≤ m.nW → _ := fun {a b'} ha hb => sums_sm hi (fB_sm hi) (c := a) (i := b') (by omega) hb
  have a1 : all1 m (fK b) = totS m (fK b) C := by unfold all1; rw [if_pos h, hCN]
  have a2 : all1 m (fS d) = totS m (fS d) C := by unfold all1; rw [if_pos h, hCN]
  have a3 : all1 m fB = totS m fB C := by unfold all1; rw [if_pos h, hCN]
  have a4 : ∀ u, bits1 m u = bitsM m u := fun u => if_pos h
  have a5 : again1 m = bitsM m (later m) + 840 := if_pos h
  have ew : watch1 m = watch0 m := if_pos (isM_iff.2 hi)
  unfold headP at hl
  unfold sizeP at hn
  have hq : 0 ≤ watch0 m ∧ watch0 m ≤ 34000 := by unfold watch0; omega
  repeat
    conv => whnf
    first
      | (with_reducible refine qS ?_ ?_ ?_
         · exact rfl
         · exact rfl)
      | with_reducible refine qB ?_
      | (with_reducible refine qI ?_ ?_
         · omega)
      | (with_reducible refine qDT ?_ ?_
         · omega)
      | (with_reducible refine qDF ?_ ?_
         · omega)
      | (with_reducible refine qNT ?_ ?_
         · omega)
      | (with_reducible refine qNF ?_ ?_
         · omega)
      | (with_reducible refine qU8 ?_ ?_
         · omega)
      | (with_reducible refine qU32 ?_ ?_
         · omega)
      | (with_reducible refine qU64 ?_ ?_
         · omega)
      | (with_reducible refine qU16 ?_ ?_
         · omega)
  conv => whnf
  refine .rd (fun p : Nat => p ≤ C) (fun p => [(11, iv .i64 (totS m (fK b) p)), (12, iv .i64 (totS m (fS d) p)), (13, iv .i64 (totS m fB p)), (14, iv .i64 p)]) (fun p => C - p) 0 (Nat.zero_le _) ?_ (fun p hp => ?_)
  · conv => whnf
    refine Le.id rfl ?_ ?_
    all_goals (repeat' (first
       | exact leT_empty
       | exact trivial
       | exact rfl
       | exact .inl rfl
       | exact .inr rfl
       | exact .inr ⟨rfl, rfl⟩
       | exact Nat.le_refl _
       | exact Nat.zero_le _
       | exact (fun _ _ => rfl)
       | assumption
       | refine And.intro ?_ ?_
       | (intro i hi; exact absurd hi (Nat.not_lt_zero i))
       | (intro i hi; have hi := Nat.lt_of_lt_of_le hi (show _ ≤ 1 from Nat.le_refl 1); obtain rfl : i = 0 := (by omega); rfl)
       | (intro i hi; have hi := Nat.lt_of_lt_of_le hi (show _ ≤ 2 from Nat.le_refl 2); rcases (show i = 0 ∨ i = 1 by omega) with rfl | rfl <;> rfl)
       | (intro i hi; have hi := Nat.lt_of_lt_of_le hi (show _ ≤ 3 from Nat.le_refl 3); rcases (show i = 0 ∨ i = 1 ∨ i = 2 by omega) with rfl | rfl | rfl <;> rfl)))
  conv => whnf
  refine cD (fun h5 => ?_) (fun h5 => ?_)
  rotate_left
  · obtain rfl : p = C := by omega
    repeat
      conv => whnf
      first
        | (with_reducible refine qS ?_ ?_ ?_
           · exact rfl
           · exact rfl)
        | with_reducible refine qB ?_
        | (with_reducible refine qI ?_ ?_
           · omega)
        | (with_reducible refine qDT ?_ ?_
           · omega)
        | (with_reducible refine qDF ?_ ?_
           · omega)
        | (with_reducible refine qNT ?_ ?_
           · omega)
        | (with_reducible refine qNF ?_ ?_
           · omega)
        | (with_reducible refine qU8 ?_ ?_
           · omega)
        | (with_reducible refine qU32 ?_ ?_
           · omega)
        | (with_reducible refine qU64 ?_ ?_
           · omega)
        | (with_reducible refine qU16 ?_ ?_
           · omega)
    conv => whnf
    refine step_use (m := m) (c := c) hm ?_
    repeat
      conv => whnf
      first
        | (with_reducible refine qS ?_ ?_ ?_
           · exact rfl
           · exact rfl)
        | with_reducible refine qB ?_
        | (with_reducible refine qI ?_ ?_
           · omega)
        | (with_reducible refine qDT ?_ ?_
           · omega)
        | (with_reducible refine qDF ?_ ?_
           · omega)
        | (with_reducible refine qNT ?_ ?_
           · omega)
        | (with_reducible refine qNF ?_ ?_
           · omega)
        | (with_reducible refine qU8 ?_ ?_
           · omega)
        | (with_reducible refine qU32 ?_ ?_
           · omega)
        | (with_reducible refine qU64 ?_ ?_
           · omega)
        | (with_reducible refine qU16 ?_ ?_
           · omega)
    conv => whnf
    refine watch_use (m := m) (c := c) hm ?_
    rw [ew]
    repeat
      conv => whnf
      first
        | (with_reducible refine qS ?_ ?_ ?_
           · exact rfl
           · exact rfl)
        | with_reducible refine qB ?_
        | (with_reducible refine qI ?_ ?_
           · omega)
        | (with_reducible refine qDT ?_ ?_
           · omega)
        | (with_reducible refine qDF ?_ ?_
           · omega)
        | (with_reducible refine qNT ?_ ?_
           · omega)
        | (with_reducible refine qNF ?_ ?_
           · omega)
        | (with_reducible refine qU8 ?_ ?_
           · omega)
        | (with_reducible refine qU32 ?_ ?_
           · omega)
        | (with_reducible refine qU64 ?_ ?_
           · omega)
        | (with_reducible refine qU16 ?_ ?_
           · omega)
    conv => whnf
    refine lbits_use (m := m) (c := c) (u := later m) hi.head ?_
    repeat
      conv => whnf
      first
        | (with_reducible refine qS ?_ ?_ ?_
           · exact rfl
           · exact rfl)
        | with_reducible refine qB ?_
        | (with_reducible refine qI ?_ ?_
           · omega)
        | (with_reducible refine qDT ?_ ?_
           · omega)
        | (with_reducible refine qDF ?_ ?_
           · omega)
        | (with_reducible refine qNT ?_ ?_
           · omega)
        | (with_reducible refine qNF ?_ ?_
           · omega)
        | (with_reducible refine qU8 ?_ ?_
           · omega)
        | (with_reducible refine qU32 ?_ ?_
           · omega)
        | (with_reducible refine qU64 ?_ ?_
           · omega)
        | (with_reducible refine qU16 ?_ ?_
           · omega)
    conv => whnf
    refine bits_use (m := m) (c := c) hm hc ha ?_
    rw [a4]
    repeat
      conv => whnf
      first
        | (with_reducible refine qS ?_ ?_ ?_
           · exact rfl
           · exact rfl)
        | with_reducible refine qB ?_
        | (with_reducible refine qI ?_ ?_
           · omega)
        | (with_reducible refine qDT ?_ ?_
           · omega)
        | (with_reducible refine qDF ?_ ?_
           · omega)
        | (with_reducible refine qNT ?_ ?_
           · omega)
        | (with_reducible refine qNF ?_ ?_
           · omega)
        | (with_reducible refine qU8 ?_ ?_
           · omega)
        | (with_reducible refine qU32 ?_ ?_
           · omega)
        | (with_reducible refine qU64 ?_ ?_
           · omega)
        | (with_reducible refine qU16 ?_ ?_
           · omega)
    conv => whnf
    refine lbits_use (m := m) (c := c) hi.head ?_
    repeat
      conv => whnf
      first
        | (with_reducible refine qS ?_ ?_ ?_
           · exact rfl
           · exact rfl)
        | with_reducible refine qB ?_
        | (with_reducible refine qI ?_ ?_
           · omega)
        | (with_reducible refine qDT ?_ ?_
           · omega)
        | (with_reducible refine qDF ?_ ?_
           · omega)
        | (with_reducible refine qNT ?_ ?_
           · omega)
        | (with_reducible refine qNF ?_ ?_
           · omega)
        | (with_reducible refine qU8 ?_ ?_
           · omega)
        | (with_reducible refine qU32 ?_ ?_
           · omega)
        | (with_reducible refine qU64 ?_ ?_
           · omega)
        | (with_reducible refine qU16 ?_ ?_
           · omega)
    conv => whnf
    refine cycle_use (m := m) (c := c) hm hc ?_
    rw [a4]
    repeat
      conv => whnf
      first
        | (with_reducible refine qS ?_ ?_ ?_
           · exact rfl
           · exact rfl)
        | with_reducible refine qB ?_
        | (with_reducible refine qI ?_ ?_
           · omega)
        | (with_reducible refine qDT ?_ ?_
           · omega)
        | (with_reducible refine qDF ?_ ?_
           · omega)
        | (with_reducible refine qNT ?_ ?_
           · omega)
        | (with_reducible refine qNF ?_ ?_
           · omega)
        | (with_reducible refine qU8 ?_ ?_
           · omega)
        | (with_reducible refine qU32 ?_ ?_
           · omega)
        | (with_reducible refine qU64 ?_ ?_
           · omega)
        | (with_reducible refine qU16 ?_ ?_
           · omega)
    conv => whnf
    refine lbits_use (m := m) (c := c) hi.head ?_
    repeat
      conv => whnf
      first
        | (with_reducible refine qS ?_ ?_ ?_
           · exact rfl
           · exact rfl)
        | with_reducible refine qB ?_
        | (with_reducible refine qI ?_ ?_
           · omega)
        | (with_reducible refine qDT ?_ ?_
           · omega)
        | (with_reducible refine qDF ?_ ?_
           · omega)
        | (with_reducible refine qNT ?_ ?_
           · omega)
        | (with_reducible refine qNF ?_ ?_
           · omega)
        | (with_reducible refine qU8 ?_ ?_
           · omega)
        | (with_reducible refine qU32 ?_ ?_
           · omega)
        | (with_reducible refine qU64 ?_ ?_
           · omega)
        | (with_reducible refine qU16 ?_ ?_
           · omega)
    conv => whnf
    refine again_use (m := m) (c := c) hm hc ?_
    rw [a5]
    repeat
      conv => whnf
      first
        | (with_reducible refine qS ?_ ?_ ?_
           · exact rfl
           · exact rfl)
        | with_reducible refine qB ?_
        | (with_reducible refine qI ?_ ?_
           · omega)
        | (with_reducible refine qDT ?_ ?_
           · omega)
        | (with_reducible refine qDF ?_ ?_
           · omega)
        | (with_reducible refine qNT ?_ ?_
           · omega)
        | (with_reducible refine qNF ?_ ?_
           · omega)
        | (with_reducible refine qU8 ?_ ?_
           · omega)
        | (with_reducible refine qU32 ?_ ?_
           · omega)
        | (with_reducible refine qU64 ?_ ?_
           · omega)
        | (with_reducible refine qU16 ?_ ?_
           · omega)
    conv => whnf
    refine wins_use (m := m) (c := c) hm hc ?_
    rw [a1]
    repeat
      conv => whnf
      first
        | (with_reducible refine qS ?_ ?_ ?_
           · exact rfl
           · exact rfl)
        | with_reducible refine qB ?_
        | (with_reducible refine qI ?_ ?_
           · omega)
        | (with_reducible refine qDT ?_ ?_
           · omega)
        | (with_reducible refine qDF ?_ ?_
           · omega)
        | (with_reducible refine qNT ?_ ?_
           · omega)
        | (with_reducible refine qNF ?_ ?_
           · omega)
        | (with_reducible refine qU8 ?_ ?_
           · omega)
        | (with_reducible refine qU32 ?_ ?_
           · omega)
        | (with_reducible refine qU64 ?_ ?_
           · omega)
        | (with_reducible refine qU16 ?_ ?_
           · omega)
    conv => whnf
    refine sends_use (m := m) (c := c) hm hc ?_
    rw [a2]
    repeat
      conv => whnf
      first
        | (with_reducible refine qS ?_ ?_ ?_
           · exact rfl
           · exact rfl)
        | with_reducible refine qB ?_
        | (with_reducible refine qI ?_ ?_
           · omega)
        | (with_reducible refine qDT ?_ ?_
           · omega)
        | (with_reducible refine qDF ?_ ?_
           · omega)
        | (with_reducible refine qNT ?_ ?_
           · omega)
        | (with_reducible refine qNF ?_ ?_
           · omega)
        | (with_reducible refine qU8 ?_ ?_
           · omega)
        | (with_reducible refine qU32 ?_ ?_
           · omega)
        | (with_reducible refine qU64 ?_ ?_
           · omega)
        | (with_reducible refine qU16 ?_ ?_
           · omega)
    conv => whnf
    refine busy_use (m := m) (c := c) hm hc ?_
    rw [a3]
    repeat
      conv => whnf
      first
        | (with_reducible refine qS ?_ ?_ ?_
           · exact rfl
           · exact rfl)
        | with_reducible refine qB ?_
        | (with_reducible refine qI ?_ ?_
           · omega)
        | (with_reducible refine qDT ?_ ?_
           · omega)
        | (with_reducible refine qDF ?_ ?_
           · omega)
        | (with_reducible refine qNT ?_ ?_
           · omega)
        | (with_reducible refine qNF ?_ ?_
           · omega)
        | (with_reducible refine qU8 ?_ ?_
           · omega)
        | (with_reducible refine qU32 ?_ ?_
           · omega)
        | (with_reducible refine qU64 ?_ ?_
           · omega)
        | (with_reducible refine qU16 ?_ ?_
           · omega)
    conv => whnf
    exact congrArg bv (decide_eq_true rfl)
  repeat
    conv => whnf
    first
      | (with_reducible refine qS ?_ ?_ ?_
         · exact rfl
         · exact rfl)
      | with_reducible refine qB ?_
      | (with_reducible refine qI ?_ ?_
         · omega)
      | (with_reducible refine qDT ?_ ?_
         · omega)
      | (with_reducible refine qDF ?_ ?_
         · omega)
      | (with_reducible refine qNT ?_ ?_
         · omega)
      | (with_reducible refine qNF ?_ ?_
         · omega)
      | (with_reducible refine qU8 ?_ ?_
         · omega)
      | (with_reducible refine qU32 ?_ ?_
         · omega)
      | (with_reducible refine qU64 ?_ ?_
         · omega)
      | (with_reducible refine qU16 ?_ ?_
         · omega)
  conv => whnf
  refine .rd (fun q : Nat => q ≤ m.nW) (fun q => [(11, iv .i64 (rowS m (fK b) p (totS m (fK b) p) q)), (12, iv .i64 (rowS m (fS d) p (totS m (fS d) p) q)), (13, iv .i64 (rowS m fB p (totS m fB p) q)), (15, iv .i64 q)]) (fun q => m.nW - q) 0 (Nat.zero_le _) ?_ (fun q hq => ?_)
  · conv => whnf
    refine Le.id rfl ?_ ?_
    all_goals (repeat' (first
       | exact leT_empty
       | exact trivial
       | exact rfl
       | exact .inl rfl
       | exact .inr rfl
       | exact .inr ⟨rfl, rfl⟩
       | exact Nat.le_refl _
       | exact Nat.zero_le _
       | exact (fun _ _ => rfl)
       | assumption
       | refine And.intro ?_ ?_
       | (intro i hi; exact absurd hi (Nat.not_lt_zero i))
       | (intro i hi; have hi := Nat.lt_of_lt_of_le hi (show _ ≤ 1 from Nat.le_refl 1); obtain rfl : i = 0 := (by omega); rfl)
       | (intro i hi; have hi := Nat.lt_of_lt_of_le hi (show _ ≤ 2 from Nat.le_refl 2); rcases (show i = 0 ∨ i = 1 by omega) with rfl | rfl <;> rfl)
       | (intro i hi; have hi := Nat.lt_of_lt_of_le hi (show _ ≤ 3 from Nat.le_refl 3); rcases (show i = 0 ∨ i = 1 ∨ i = 2 by omega) with rfl | rfl | rfl <;> rfl)))
  have s1 := smK hp hq
  have s2 := smS hp hq
  have s3 := smB hp hq
  conv => whnf
  refine cD (fun h6 => ?_) (fun h6 => ?_)
  rotate_left
  · obtain rfl : q = m.nW := by omega
    repeat
      conv => whnf
      first
        | (with_reducible refine qS ?_ ?_ ?_
           · exact rfl
           · exact rfl)
        | with_reducible refine qB ?_
        | (with_reducible refine qI ?_ ?_
           · omega)
        | (with_reducible refine qDT ?_ ?_
           · omega)
        | (with_reducible refine qDF ?_ ?_
           · omega)
        | (with_reducible refine qNT ?_ ?_
           · omega)
        | (with_reducible refine qNF ?_ ?_
           · omega)
        | (with_reducible refine qU8 ?_ ?_
           · omega)
        | (with_reducible refine qU32 ?_ ?_
           · omega)
        | (with_reducible refine qU64 ?_ ?_
           · omega)
        | (with_reducible refine qU16 ?_ ?_
           · omega)
    conv => whnf
    refine ⟨p + 1, ⟨by omega, by omega⟩, ?_⟩
    conv => whnf
    refine Le.id rfl ?_ ?_
    all_goals (repeat' (first
       | exact leT_empty
       | exact trivial
       | exact rfl
       | exact .inl rfl
       | exact .inr rfl
       | exact .inr ⟨rfl, rfl⟩
       | exact Nat.le_refl _
       | exact Nat.zero_le _
       | exact (fun _ _ => rfl)
       | assumption
       | refine And.intro ?_ ?_
       | (intro i hi; exact absurd hi (Nat.not_lt_zero i))
       | (intro i hi; have hi := Nat.lt_of_lt_of_le hi (show _ ≤ 1 from Nat.le_refl 1); obtain rfl : i = 0 := (by omega); rfl)
       | (intro i hi; have hi := Nat.lt_of_lt_of_le hi (show _ ≤ 2 from Nat.le_refl 2); rcases (show i = 0 ∨ i = 1 by omega) with rfl | rfl <;> rfl)
       | (intro i hi; have hi := Nat.lt_of_lt_of_le hi (show _ ≤ 3 from Nat.le_refl 3); rcases (show i = 0 ∨ i = 1 ∨ i = 2 by omega) with rfl | rfl | rfl <;> rfl)))
  repeat
    conv => whnf
    first
      | (with_reducible refine qS ?_ ?_ ?_
         · exact rfl
         · exact rfl)
      | with_reducible refine qB ?_
      | (with_reducible refine qI ?_ ?_
         · omega)
      | (with_reducible refine qDT ?_ ?_
         · omega)
      | (with_reducible refine qDF ?_ ?_
         · omega)
      | (with_reducible refine qNT ?_ ?_
         · omega)
      | (with_reducible refine qNF ?_ ?_
         · omega)
      | (with_reducible refine qU8 ?_ ?_
         · omega)
      | (with_reducible refine qU32 ?_ ?_
         · omega)
      | (with_reducible refine qU64 ?_ ?_
         · omega)
      | (with_reducible refine qU16 ?_ ?_
         · omega)
  conv => whnf
  try rw [zi q]
  repeat
    conv => whnf
    first
      | (with_reducible refine qS ?_ ?_ ?_
         · exact rfl
         · exact rfl)
      | with_reducible refine qB ?_
      | (with_reducible refine qI ?_ ?_
         · omega)
      | (with_reducible refine qDT ?_ ?_
         · omega)
      | (with_reducible refine qDF ?_ ?_
         · omega)
      | (with_reducible refine qNT ?_ ?_
         · omega)
      | (with_reducible refine qNF ?_ ?_
         · omega)
      | (with_reducible refine qU8 ?_ ?_
         · omega)
      | (with_reducible refine qU32 ?_ ?_
         · omega)
      | (with_reducible refine qU64 ?_ ?_
         · omega)
      | (with_reducible refine qU16 ?_ ?_
         · omega)
  conv => whnf
  refine comes_use (by unfold I64; omega) ?_
  have e1 : rowS m (fK b) p (totS m (fK b) p) (q + 1) = if comes (m.W q).cyc (m.W q).rep p then rowS m (fK b) p (totS m (fK b) p) q + fK b (m.W q) else rowS m (fK b) p (totS m (fK b) p) q := rfl
  have e2 : rowS m (fS d) p (totS m (fS d) p) (q + 1) = if comes (m.W q).cyc (m.W q).rep p then rowS m (fS d) p (totS m (fS d) p) q + fS d (m.W q) else rowS m (fS d) p (totS m (fS d) p) q := rfl
  have e3 : rowS m fB p (totS m fB p) (q + 1) = if comes (m.W q).cyc (m.W q).rep p then rowS m fB p (totS m fB p) q + fB (m.W q) else rowS m fB p (totS m fB p) q := rfl
  generalize hA : rowS m (fK b) p (totS m (fK b) p) (q + 1) = A' at *
  generalize hB : rowS m (fS d) p (totS m (fS d) p) (q + 1) = B' at *
  generalize hD : rowS m fB p (totS m fB p) (q + 1) = D' at *
  generalize rowS m (fK b) p (totS m (fK b) p) q = A at *
  generalize rowS m (fS d) p (totS m (fS d) p) q = B at *
  generalize rowS m fB p (totS m fB p) q = D at *
  have hwq := hi.W q (by omega)
  unfold winP at hwq
  rcases Bool.eq_false_or_eq_true (comes (m.W q).cyc (m.W q).rep p) with hcm | hcm <;> rw [hcm] at e1 e2 e3 ⊢
  rotate_left
  · rw [if_neg (by decide)] at e1 e2 e3
    repeat
      conv => whnf
      first
        | (with_reducible refine qS ?_ ?_ ?_
           · exact rfl
           · exact rfl)
        | with_reducible refine qB ?_
        | (with_reducible refine qI ?_ ?_
           · omega)
        | (with_reducible refine qDT ?_ ?_
           · omega)
        | (with_reducible refine qDF ?_ ?_
           · omega)
        | (with_reducible refine qNT ?_ ?_
           · omega)
        | (with_reducible refine qNF ?_ ?_
           · omega)
        | (with_reducible refine qU8 ?_ ?_
           · omega)
        | (with_reducible refine qU32 ?_ ?_
           · omega)
        | (with_reducible refine qU64 ?_ ?_
           · omega)
        | (with_reducible refine qU16 ?_ ?_
           · omega)
    conv => whnf
    refine ⟨q + 1, ⟨by omega, by omega⟩, ?_⟩
    rw [← e1, ← e2, ← e3, ← hA, ← hB, ← hD]
    conv => whnf
    refine Le.id rfl ?_ ?_
    all_goals (repeat' (first
       | exact leT_empty
       | exact trivial
       | exact rfl
       | exact .inl rfl
       | exact .inr rfl
       | exact .inr ⟨rfl, rfl⟩
       | exact Nat.le_refl _
       | exact Nat.zero_le _
       | exact (fun _ _ => rfl)
       | assumption
       | refine And.intro ?_ ?_
       | (intro i hi; exact absurd hi (Nat.not_lt_zero i))
       | (intro i hi; have hi := Nat.lt_of_lt_of_le hi (show _ ≤ 1 from Nat.le_refl 1); obtain rfl : i = 0 := (by omega); rfl)
       | (intro i hi; have hi := Nat.lt_of_lt_of_le hi (show _ ≤ 2 from Nat.le_refl 2); rcases (show i = 0 ∨ i = 1 by omega) with rfl | rfl <;> rfl)
       | (intro i hi; have hi := Nat.lt_of_lt_of_le hi (show _ ≤ 3 from Nat.le_refl 3); rcases (show i = 0 ∨ i = 1 ∨ i = 2 by omega) with rfl | rfl | rfl <;> rfl)))
  rw [if_pos rfl] at e1 e2 e3
  have f1 : fK b (m.W q) = if (m.W q).kind = b then 1 else 0 := rfl
  have f2 : fS d (m.W q) = if (m.W q).kind = 1 ∧ (m.W q).msg = d then 1 else 0 := rfl
  have f3 : fB (m.W q) = if (m.W q).kind ≠ 3 then (m.W q).en - (m.W q).st else 0 := rfl
  conv => whnf
  refine cD (fun h7 => ?_) (fun h7 => ?_)
  · rw [if_pos h7] at f1
    repeat
      conv => whnf
      first
        | (with_reducible refine qS ?_ ?_ ?_
           · exact rfl
           · exact rfl)
        | with_reducible refine qB ?_
        | (with_reducible refine qI ?_ ?_
           · omega)
        | (with_reducible refine qDT ?_ ?_
           · omega)
        | (with_reducible refine qDF ?_ ?_
           · omega)
        | (with_reducible refine qNT ?_ ?_
           · omega)
        | (with_reducible refine qNF ?_ ?_
           · omega)
        | (with_reducible refine qU8 ?_ ?_
           · omega)
        | (with_reducible refine qU32 ?_ ?_
           · omega)
        | (with_reducible refine qU64 ?_ ?_
           · omega)
        | (with_reducible refine qU16 ?_ ?_
           · omega)
    conv => whnf
    refine cD (fun h8 => ?_) (fun h8 => ?_)
    · repeat
        conv => whnf
        first
          | (with_reducible refine qS ?_ ?_ ?_
             · exact rfl
             · exact rfl)
          | with_reducible refine qB ?_
          | (with_reducible refine qI ?_ ?_
             · omega)
          | (with_reducible refine qDT ?_ ?_
             · omega)
          | (with_reducible refine qDF ?_ ?_
             · omega)
          | (with_reducible refine qNT ?_ ?_
             · omega)
          | (with_reducible refine qNF ?_ ?_
             · omega)
          | (with_reducible refine qU8 ?_ ?_
             · omega)
          | (with_reducible refine qU32 ?_ ?_
             · omega)
          | (with_reducible refine qU64 ?_ ?_
             · omega)
          | (with_reducible refine qU16 ?_ ?_
             · omega)
      conv => whnf
      rw [if_pos (by omega)] at f3
      refine cD (fun h9 => ?_) (fun h9 => ?_)
      · rw [if_pos (And.intro h8 h9)] at f2
        repeat
          conv => whnf
          first
            | (with_reducible refine qS ?_ ?_ ?_
               · exact rfl
               · exact rfl)
            | with_reducible refine qB ?_
            | (with_reducible refine qI ?_ ?_
               · omega)
            | (with_reducible refine qDT ?_ ?_
               · omega)
            | (with_reducible refine qDF ?_ ?_
               · omega)
            | (with_reducible refine qNT ?_ ?_
               · omega)
            | (with_reducible refine qNF ?_ ?_
               · omega)
            | (with_reducible refine qU8 ?_ ?_
               · omega)
            | (with_reducible refine qU32 ?_ ?_
               · omega)
            | (with_reducible refine qU64 ?_ ?_
               · omega)
            | (with_reducible refine qU16 ?_ ?_
               · omega)
        conv => whnf
        refine ⟨q + 1, ⟨by omega, by omega⟩, ?_⟩
        rw [hA, hB, hD, e1, e2, e3, f1, f2, f3]
        try simp only [Int.add_zero]
        rw [← Int.add_sub_assoc]
        conv => whnf
        refine Le.id rfl ?_ ?_
        all_goals (repeat' (first
           | exact leT_empty
           | exact trivial
           | exact rfl
           | exact .inl rfl
           | exact .inr rfl
           | exact .inr ⟨rfl, rfl⟩
           | exact Nat.le_refl _
           | exact Nat.zero_le _
           | exact (fun _ _ => rfl)
           | assumption
           | refine And.intro ?_ ?_
           | (intro i hi; exact absurd hi (Nat.not_lt_zero i))
           | (intro i hi; have hi := Nat.lt_of_lt_of_le hi (show _ ≤ 1 from Nat.le_refl 1); obtain rfl : i = 0 := (by omega); rfl)
           | (intro i hi; have hi := Nat.lt_of_lt_of_le hi (show _ ≤ 2 from Nat.le_refl 2); rcases (show i = 0 ∨ i = 1 by omega) with rfl | rfl <;> rfl)
           | (intro i hi; have hi := Nat.lt_of_lt_of_le hi (show _ ≤ 3 from Nat.le_refl 3); rcases (show i = 0 ∨ i = 1 ∨ i = 2 by omega) with rfl | rfl | rfl <;> rfl)))
      · rw [if_neg (fun h => h9 h.2)] at f2
        repeat
          conv => whnf
          first
            | (with_reducible refine qS ?_ ?_ ?_
               · exact rfl
               · exact rfl)
            | with_reducible refine qB ?_
            | (with_reducible refine qI ?_ ?_
               · omega)
            | (with_reducible refine qDT ?_ ?_
               · omega)
            | (with_reducible refine qDF ?_ ?_
               · omega)
            | (with_reducible refine qNT ?_ ?_
               · omega)
            | (with_reducible refine qNF ?_ ?_
               · omega)
            | (with_reducible refine qU8 ?_ ?_
               · omega)
            | (with_reducible refine qU32 ?_ ?_
               · omega)
            | (with_reducible refine qU64 ?_ ?_
               · omega)
            | (with_reducible refine qU16 ?_ ?_
               · omega)
        conv => whnf
        refine ⟨q + 1, ⟨by omega, by omega⟩, ?_⟩
        rw [hA, hB, hD, e1, e2, e3, f1, f2, f3]
        try simp only [Int.add_zero]
        rw [← Int.add_sub_assoc]
        conv => whnf
        refine Le.id rfl ?_ ?_
        all_goals (repeat' (first
           | exact leT_empty
           | exact trivial
           | exact rfl
           | exact .inl rfl
           | exact .inr rfl
           | exact .inr ⟨rfl, rfl⟩
           | exact Nat.le_refl _
           | exact Nat.zero_le _
           | exact (fun _ _ => rfl)
           | assumption
           | refine And.intro ?_ ?_
           | (intro i hi; exact absurd hi (Nat.not_lt_zero i))
           | (intro i hi; have hi := Nat.lt_of_lt_of_le hi (show _ ≤ 1 from Nat.le_refl 1); obtain rfl : i = 0 := (by omega); rfl)
           | (intro i hi; have hi := Nat.lt_of_lt_of_le hi (show _ ≤ 2 from Nat.le_refl 2); rcases (show i = 0 ∨ i = 1 by omega) with rfl | rfl <;> rfl)
           | (intro i hi; have hi := Nat.lt_of_lt_of_le hi (show _ ≤ 3 from Nat.le_refl 3); rcases (show i = 0 ∨ i = 1 ∨ i = 2 by omega) with rfl | rfl | rfl <;> rfl)))
    · rw [if_neg (fun h => h8 h.1)] at f2
      repeat
        conv => whnf
        first
          | (with_reducible refine qS ?_ ?_ ?_
             · exact rfl
             · exact rfl)
          | with_reducible refine qB ?_
          | (with_reducible refine qI ?_ ?_
             · omega)
          | (with_reducible refine qDT ?_ ?_
             · omega)
          | (with_reducible refine qDF ?_ ?_
             · omega)
          | (with_reducible refine qNT ?_ ?_
             · omega)
          | (with_reducible refine qNF ?_ ?_
             · omega)
          | (with_reducible refine qU8 ?_ ?_
             · omega)
          | (with_reducible refine qU32 ?_ ?_
             · omega)
          | (with_reducible refine qU64 ?_ ?_
             · omega)
          | (with_reducible refine qU16 ?_ ?_
             · omega)
      conv => whnf
      refine cN (fun h9 => ?_) (fun h9 => ?_)
      · rw [if_pos (by omega)] at f3
        repeat
          conv => whnf
          first
            | (with_reducible refine qS ?_ ?_ ?_
               · exact rfl
               · exact rfl)
            | with_reducible refine qB ?_
            | (with_reducible refine qI ?_ ?_
               · omega)
            | (with_reducible refine qDT ?_ ?_
               · omega)
            | (with_reducible refine qDF ?_ ?_
               · omega)
            | (with_reducible refine qNT ?_ ?_
               · omega)
            | (with_reducible refine qNF ?_ ?_
               · omega)
            | (with_reducible refine qU8 ?_ ?_
               · omega)
            | (with_reducible refine qU32 ?_ ?_
               · omega)
            | (with_reducible refine qU64 ?_ ?_
               · omega)
            | (with_reducible refine qU16 ?_ ?_
               · omega)
        conv => whnf
        refine ⟨q + 1, ⟨by omega, by omega⟩, ?_⟩
        rw [hA, hB, hD, e1, e2, e3, f1, f2, f3]
        try simp only [Int.add_zero]
        rw [← Int.add_sub_assoc]
        conv => whnf
        refine Le.id rfl ?_ ?_
        all_goals (repeat' (first
           | exact leT_empty
           | exact trivial
           | exact rfl
           | exact .inl rfl
           | exact .inr rfl
           | exact .inr ⟨rfl, rfl⟩
           | exact Nat.le_refl _
           | exact Nat.zero_le _
           | exact (fun _ _ => rfl)
           | assumption
           | refine And.intro ?_ ?_
           | (intro i hi; exact absurd hi (Nat.not_lt_zero i))
           | (intro i hi; have hi := Nat.lt_of_lt_of_le hi (show _ ≤ 1 from Nat.le_refl 1); obtain rfl : i = 0 := (by omega); rfl)
           | (intro i hi; have hi := Nat.lt_of_lt_of_le hi (show _ ≤ 2 from Nat.le_refl 2); rcases (show i = 0 ∨ i = 1 by omega) with rfl | rfl <;> rfl)
           | (intro i hi; have hi := Nat.lt_of_lt_of_le hi (show _ ≤ 3 from Nat.le_refl 3); rcases (show i = 0 ∨ i = 1 ∨ i = 2 by omega) with rfl | rfl | rfl <;> rfl)))
      · rw [if_neg (by omega)] at f3
        repeat
          conv => whnf
          first
            | (with_reducible refine qS ?_ ?_ ?_
               · exact rfl
               · exact rfl)
            | with_reducible refine qB ?_
            | (with_reducible refine qI ?_ ?_
               · omega)
            | (with_reducible refine qDT ?_ ?_
               · omega)
            | (with_reducible refine qDF ?_ ?_
               · omega)
            | (with_reducible refine qNT ?_ ?_
               · omega)
            | (with_reducible refine qNF ?_ ?_
               · omega)
            | (with_reducible refine qU8 ?_ ?_
               · omega)
            | (with_reducible refine qU32 ?_ ?_
               · omega)
            | (with_reducible refine qU64 ?_ ?_
               · omega)
            | (with_reducible refine qU16 ?_ ?_
               · omega)
        conv => whnf
        refine ⟨q + 1, ⟨by omega, by omega⟩, ?_⟩
        rw [hA, hB, hD, e1, e2, e3, f1, f2, f3]
        try simp only [Int.add_zero]
        conv => whnf
        refine Le.id rfl ?_ ?_
        all_goals (repeat' (first
           | exact leT_empty
           | exact trivial
           | exact rfl
           | exact .inl rfl
           | exact .inr rfl
           | exact .inr ⟨rfl, rfl⟩
           | exact Nat.le_refl _
           | exact Nat.zero_le _
           | exact (fun _ _ => rfl)
           | assumption
           | refine And.intro ?_ ?_
           | (intro i hi; exact absurd hi (Nat.not_lt_zero i))
           | (intro i hi; have hi := Nat.lt_of_lt_of_le hi (show _ ≤ 1 from Nat.le_refl 1); obtain rfl : i = 0 := (by omega); rfl)
           | (intro i hi; have hi := Nat.lt_of_lt_of_le hi (show _ ≤ 2 from Nat.le_refl 2); rcases (show i = 0 ∨ i = 1 by omega) with rfl | rfl <;> rfl)
           | (intro i hi; have hi := Nat.lt_of_lt_of_le hi (show _ ≤ 3 from Nat.le_refl 3); rcases (show i = 0 ∨ i = 1 ∨ i = 2 by omega) with rfl | rfl | rfl <;> rfl)))
  · rw [if_neg h7] at f1
    repeat
      conv => whnf
      first
        | (with_reducible refine qS ?_ ?_ ?_
           · exact rfl
           · exact rfl)
        | with_reducible refine qB ?_
        | (with_reducible refine qI ?_ ?_
           · omega)
        | (with_reducible refine qDT ?_ ?_
           · omega)
        | (with_reducible refine qDF ?_ ?_
           · omega)
        | (with_reducible refine qNT ?_ ?_
           · omega)
        | (with_reducible refine qNF ?_ ?_
           · omega)
        | (with_reducible refine qU8 ?_ ?_
           · omega)
        | (with_reducible refine qU32 ?_ ?_
           · omega)
        | (with_reducible refine qU64 ?_ ?_
           · omega)
        | (with_reducible refine qU16 ?_ ?_
           · omega)
    conv => whnf
    refine cD (fun h8 => ?_) (fun h8 => ?_)
    · repeat
        conv => whnf
        first
          | (with_reducible refine qS ?_ ?_ ?_
             · exact rfl
             · exact rfl)
          | with_reducible refine qB ?_
          | (with_reducible refine qI ?_ ?_
             · omega)
          | (with_reducible refine qDT ?_ ?_
             · omega)
          | (with_reducible refine qDF ?_ ?_
             · omega)
          | (with_reducible refine qNT ?_ ?_
             · omega)
          | (with_reducible refine qNF ?_ ?_
             · omega)
          | (with_reducible refine qU8 ?_ ?_
             · omega)
          | (with_reducible refine qU32 ?_ ?_
             · omega)
          | (with_reducible refine qU64 ?_ ?_
             · omega)
          | (with_reducible refine qU16 ?_ ?_
             · omega)
      conv => whnf
      rw [if_pos (by omega)] at f3
      refine cD (fun h9 => ?_) (fun h9 => ?_)
      · rw [if_pos (And.intro h8 h9)] at f2
        repeat
          conv => whnf
          first
            | (with_reducible refine qS ?_ ?_ ?_
               · exact rfl
               · exact rfl)
            | with_reducible refine qB ?_
            | (with_reducible refine qI ?_ ?_
               · omega)
            | (with_reducible refine qDT ?_ ?_
               · omega)
            | (with_reducible refine qDF ?_ ?_
               · omega)
            | (with_reducible refine qNT ?_ ?_
               · omega)
            | (with_reducible refine qNF ?_ ?_
               · omega)
            | (with_reducible refine qU8 ?_ ?_
               · omega)
            | (with_reducible refine qU32 ?_ ?_
               · omega)
            | (with_reducible refine qU64 ?_ ?_
               · omega)
            | (with_reducible refine qU16 ?_ ?_
               · omega)
        conv => whnf
        refine ⟨q + 1, ⟨by omega, by omega⟩, ?_⟩
        rw [hA, hB, hD, e1, e2, e3, f1, f2, f3]
        try simp only [Int.add_zero]
        rw [← Int.add_sub_assoc]
        conv => whnf
        refine Le.id rfl ?_ ?_
        all_goals (repeat' (first
           | exact leT_empty
           | exact trivial
           | exact rfl
           | exact .inl rfl
           | exact .inr rfl
           | exact .inr ⟨rfl, rfl⟩
           | exact Nat.le_refl _
           | exact Nat.zero_le _
           | exact (fun _ _ => rfl)
           | assumption
           | refine And.intro ?_ ?_
           | (intro i hi; exact absurd hi (Nat.not_lt_zero i))
           | (intro i hi; have hi := Nat.lt_of_lt_of_le hi (show _ ≤ 1 from Nat.le_refl 1); obtain rfl : i = 0 := (by omega); rfl)
           | (intro i hi; have hi := Nat.lt_of_lt_of_le hi (show _ ≤ 2 from Nat.le_refl 2); rcases (show i = 0 ∨ i = 1 by omega) with rfl | rfl <;> rfl)
           | (intro i hi; have hi := Nat.lt_of_lt_of_le hi (show _ ≤ 3 from Nat.le_refl 3); rcases (show i = 0 ∨ i = 1 ∨ i = 2 by omega) with rfl | rfl | rfl <;> rfl)))
      · rw [if_neg (fun h => h9 h.2)] at f2
        repeat
          conv => whnf
          first
            | (with_reducible refine qS ?_ ?_ ?_
               · exact rfl
               · exact rfl)
            | with_reducible refine qB ?_
            | (with_reducible refine qI ?_ ?_
               · omega)
            | (with_reducible refine qDT ?_ ?_
               · omega)
            | (with_reducible refine qDF ?_ ?_
               · omega)
            | (with_reducible refine qNT ?_ ?_
               · omega)
            | (with_reducible refine qNF ?_ ?_
               · omega)
            | (with_reducible refine qU8 ?_ ?_
               · omega)
            | (with_reducible refine qU32 ?_ ?_
               · omega)
            | (with_reducible refine qU64 ?_ ?_
               · omega)
            | (with_reducible refine qU16 ?_ ?_
               · omega)
        conv => whnf
        refine ⟨q + 1, ⟨by omega, by omega⟩, ?_⟩
        rw [hA, hB, hD, e1, e2, e3, f1, f2, f3]
        try simp only [Int.add_zero]
        rw [← Int.add_sub_assoc]
        conv => whnf
        refine Le.id rfl ?_ ?_
        all_goals (repeat' (first
           | exact leT_empty
           | exact trivial
           | exact rfl
           | exact .inl rfl
           | exact .inr rfl
           | exact .inr ⟨rfl, rfl⟩
           | exact Nat.le_refl _
           | exact Nat.zero_le _
           | exact (fun _ _ => rfl)
           | assumption
           | refine And.intro ?_ ?_
           | (intro i hi; exact absurd hi (Nat.not_lt_zero i))
           | (intro i hi; have hi := Nat.lt_of_lt_of_le hi (show _ ≤ 1 from Nat.le_refl 1); obtain rfl : i = 0 := (by omega); rfl)
           | (intro i hi; have hi := Nat.lt_of_lt_of_le hi (show _ ≤ 2 from Nat.le_refl 2); rcases (show i = 0 ∨ i = 1 by omega) with rfl | rfl <;> rfl)
           | (intro i hi; have hi := Nat.lt_of_lt_of_le hi (show _ ≤ 3 from Nat.le_refl 3); rcases (show i = 0 ∨ i = 1 ∨ i = 2 by omega) with rfl | rfl | rfl <;> rfl)))
    · rw [if_neg (fun h => h8 h.1)] at f2
      repeat
        conv => whnf
        first
          | (with_reducible refine qS ?_ ?_ ?_
             · exact rfl
             · exact rfl)
          | with_reducible refine qB ?_
          | (with_reducible refine qI ?_ ?_
             · omega)
          | (with_reducible refine qDT ?_ ?_
             · omega)
          | (with_reducible refine qDF ?_ ?_
             · omega)
          | (with_reducible refine qNT ?_ ?_
             · omega)
          | (with_reducible refine qNF ?_ ?_
             · omega)
          | (with_reducible refine qU8 ?_ ?_
             · omega)
          | (with_reducible refine qU32 ?_ ?_
             · omega)
          | (with_reducible refine qU64 ?_ ?_
             · omega)
          | (with_reducible refine qU16 ?_ ?_
             · omega)
      conv => whnf
      refine cN (fun h9 => ?_) (fun h9 => ?_)
      · rw [if_pos (by omega)] at f3
        repeat
          conv => whnf
          first
            | (with_reducible refine qS ?_ ?_ ?_
               · exact rfl
               · exact rfl)
            | with_reducible refine qB ?_
            | (with_reducible refine qI ?_ ?_
               · omega)
            | (with_reducible refine qDT ?_ ?_
               · omega)
            | (with_reducible refine qDF ?_ ?_
               · omega)
            | (with_reducible refine qNT ?_ ?_
               · omega)
            | (with_reducible refine qNF ?_ ?_
               · omega)
            | (with_reducible refine qU8 ?_ ?_
               · omega)
            | (with_reducible refine qU32 ?_ ?_
               · omega)
            | (with_reducible refine qU64 ?_ ?_
               · omega)
            | (with_reducible refine qU16 ?_ ?_
               · omega)
        conv => whnf
        refine ⟨q + 1, ⟨by omega, by omega⟩, ?_⟩
        rw [hA, hB, hD, e1, e2, e3, f1, f2, f3]
        try simp only [Int.add_zero]
        rw [← Int.add_sub_assoc]
        conv => whnf
        refine Le.id rfl ?_ ?_
        all_goals (repeat' (first
           | exact leT_empty
           | exact trivial
           | exact rfl
           | exact .inl rfl
           | exact .inr rfl
           | exact .inr ⟨rfl, rfl⟩
           | exact Nat.le_refl _
           | exact Nat.zero_le _
           | exact (fun _ _ => rfl)
           | assumption
           | refine And.intro ?_ ?_
           | (intro i hi; exact absurd hi (Nat.not_lt_zero i))
           | (intro i hi; have hi := Nat.lt_of_lt_of_le hi (show _ ≤ 1 from Nat.le_refl 1); obtain rfl : i = 0 := (by omega); rfl)
           | (intro i hi; have hi := Nat.lt_of_lt_of_le hi (show _ ≤ 2 from Nat.le_refl 2); rcases (show i = 0 ∨ i = 1 by omega) with rfl | rfl <;> rfl)
           | (intro i hi; have hi := Nat.lt_of_lt_of_le hi (show _ ≤ 3 from Nat.le_refl 3); rcases (show i = 0 ∨ i = 1 ∨ i = 2 by omega) with rfl | rfl | rfl <;> rfl)))
      · rw [if_neg (by omega)] at f3
        repeat
          conv => whnf
          first
            | (with_reducible refine qS ?_ ?_ ?_
               · exact rfl
               · exact rfl)
            | with_reducible refine qB ?_
            | (with_reducible refine qI ?_ ?_
               · omega)
            | (with_reducible refine qDT ?_ ?_
               · omega)
            | (with_reducible refine qDF ?_ ?_
               · omega)
            | (with_reducible refine qNT ?_ ?_
               · omega)
            | (with_reducible refine qNF ?_ ?_
               · omega)
            | (with_reducible refine qU8 ?_ ?_
               · omega)
            | (with_reducible refine qU32 ?_ ?_
               · omega)
            | (with_reducible refine qU64 ?_ ?_
               · omega)
            | (with_reducible refine qU16 ?_ ?_
               · omega)
        conv => whnf
        refine ⟨q + 1, ⟨by omega, by omega⟩, ?_⟩
        rw [hA, hB, hD, e1, e2, e3, f1, f2, f3]
        try simp only [Int.add_zero]
        conv => whnf
        refine Le.id rfl ?_ ?_
        all_goals (repeat' (first
           | exact leT_empty
           | exact trivial
           | exact rfl
           | exact .inl rfl
           | exact .inr rfl
           | exact .inr ⟨rfl, rfl⟩
           | exact Nat.le_refl _
           | exact Nat.zero_le _
           | exact (fun _ _ => rfl)
           | assumption
           | refine And.intro ?_ ?_
           | (intro i hi; exact absurd hi (Nat.not_lt_zero i))
           | (intro i hi; have hi := Nat.lt_of_lt_of_le hi (show _ ≤ 1 from Nat.le_refl 1); obtain rfl : i = 0 := (by omega); rfl)
           | (intro i hi; have hi := Nat.lt_of_lt_of_le hi (show _ ≤ 2 from Nat.le_refl 2); rcases (show i = 0 ∨ i = 1 by omega) with rfl | rfl <;> rfl)
           | (intro i hi; have hi := Nat.lt_of_lt_of_le hi (show _ ≤ 3 from Nat.le_refl 3); rcases (show i = 0 ∨ i = 1 ∨ i = 2 by omega) with rfl | rfl | rfl <;> rfl)))
theorem cl_ok : ∃ cl : Cl, ClOk Try.prog cl ∧ ∀ D, OkAll pas D → cl F.law27_BoundTells [] (xsP 0 pas D) (hsP pas D) fun x _ => x = bv true := by
  refine ⟨clRunX 8 tt outsL27 tabL 3, clRunX_ok (d := 8) ttOk outsL27_ok tabL_ok 3, fun D hD => ?_⟩
  match D, hD with
  | [d0, d1, d2, d3], hD =>
    obtain ⟨h0, h1, h2, h3, _⟩ := hD
    obtain ⟨m, c, hm, hc, e0, e1⟩ := open_mat h0
    obtain ⟨a, rfl, ha⟩ := one_i64 h1
    obtain ⟨b, rfl, _⟩ := one_i64 h2
    obtain ⟨d, rfl, _⟩ := one_i64 h3
    have hw := walk m c a b d hm hc ha
    show clRunX 8 tt outsL27 tabL 3 19 [] (xP 0 (.agg matSh) d0 :: _) (hs matSh d0 ++ _) _
    rw [e0, e1]
    exact hw
theorem own' : ownKnob Try.prog.godebug = none := own
theorem lifted (os : Os) (started : os.Started) (H : Type) (enc : TypeId × Value → H) :
    ReturnsInHanded {} Try.checked os 19 .any (Rows.boundTellsSpec.pre6 enc Try.prog Try.f19 Rows.boundTellsRow.domain false) (Rows.boundTellsSpec.post enc Try.prog Try.f19 false true false false) := by
  refine returnsInHanded_of_change (C := Try.checked) own started (by kernel_rfl) Try.func19
    (ChangeSpec.witness6 (enc := enc) (C := Try.checked) false ⟨#[], #[.agg #[.int .i64 0, .int .i64 0, .int .i64 0, .int .i64 0, .int .i64 0, .int .i64 0, .int .i64 0, .int .u32 0, .slice none 0 0, .slice none 0 0, .slice none 0 0], .int .i64 0, .int .i64 0, .int .i64 0], []⟩ 8 (by kernel_rfl) (by kernel_rfl) (by kernel_rfl) (by kernel_rfl)) ?_
  intro W base args ds gs before hval hW _ _
  obtain ⟨cl, hc, hw⟩ := cl_ok
  exact row_of (ps := pas) (by kernel_rfl) (by kernel_rfl) rfl rfl (fun ds h => by
    match ds, h with
    | [_, _, _, _], _ => rfl) hval hW hc hw
theorem closed : joinedFacts Try.prog 19 Try.f19 Rows.boundTellsSpec Rows.boundTellsRow = true := by
  simp only [joinedFacts, Bool.and_eq_true]
  repeat' apply And.intro
  all_goals first
    | with_reducible exact mayEnter_ok
    | with_reducible exact laid_ok
    | with_reducible exact rowed_ok
    | ((with_reducible refine beq_r lifts_ok ?_); rfl)
    | ((with_reducible refine beq_l make_ok ?_); kernel_rfl)
    | (as_aux_lemma => kernel_rfl)
theorem named : Try.prog.funcNamed Rows.boundTellsRow.func = some 19 := by kernel_rfl
theorem inst : Try.f19.isInstance Try.prog Rows.boundTellsRow.origin Rows.boundTellsRow.targs := of_decide_eq_true (by kernel_rfl)
theorem wrap : Try.f19.isWrapper Try.prog Rows.boundTellsRow.wrapper Rows.boundTellsRow.mainSum := by
  unfold Func.isWrapper; first | (rw [if_pos (by decide +kernel)]; kernel_rfl) | (rw [if_neg (by decide +kernel)]; exact ⟨rfl, rfl⟩)
theorem over : Rows.boundTellsRow.holds Try.pinned (OpenSpec.ofChange Rows.boundTellsSpec) :=
  OpenClaim.holds_of_wide 19 Try.f19 rfl rfl rfl rfl rfl rfl rfl ⟨rfl, rfl, rfl, rfl, rfl⟩ rfl rfl rfl rfl rfl named Try.func19 closed inst wrap
    (fun os started H enc _ => lifted os started H enc)
/-- The statement. -/
theorem proved : Rows.BoundTellsSaid := over
#print axioms proved
end Go.Proofs.Ytbdifadabipfiaa.boundTells
