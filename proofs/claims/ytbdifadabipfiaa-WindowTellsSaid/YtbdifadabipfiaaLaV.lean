/- WindowTells: of every matrix, cycle, unit: the window, whose it is; of a cycle its kinds, what is free: true at every input; no conditions. -/
import Derived.Test.YtbdifadabipfiaaLaU
namespace Go.Proofs.Ytbdifadabipfiaa.windowTells
open Go Go.Eng Go.Proofs Go.Proofs.Ytbdifadabipfiaa.Tb Go.Proofs.Ytbdifadabipfiaa.Co Go.Proofs.Ytbdifadabipfiaa.La Go.Pu
set_option maxRecDepth 100000
set_option maxHeartbeats 4000000
noncomputable abbrev tabL : List (FuncId × Eng.Fn) := [(F.law16_WindowTells, fn.law16_WindowTells u0), (F.law16_few, fn.law16_few u0)]
theorem tabL_ok {d : Nat} : TabOk d tabL tt := .cons (ok.law16_WindowTells u0) (.cons (ok.law16_few u0) (TabOk.nil))
abbrev pas : List Pa := [.agg matSh, .one i64, .one i64]
theorem bt_eaf {k : Int} (h0 : 1 ≤ k) (h3 : k ≤ 3) : bt ⟨#[69, 65, 70]⟩ (k - 1).toNat = sgn k := by
  rcases (show k = 1 ∨ k = 2 ∨ k = 3 by omega) with rfl | rfl | rfl <;> rfl
theorem walk (m : Mat) (c : Caps) (a b : Int) (hm : m.Ok) (hc : capsOk m c) (ha : I64 a) : clRunX 7 tt outsL16 tabL 3 F.law16_WindowTells [] [matT m c 0 1 2, iv .i64 a, iv .i64 b] (matH m []) (fun x _ => x = bv true) := by
  have hnW := hm.nW
  have hnG := hm.nG
  conv => whnf
  refine true_use ?_
  conv => whnf
  refine cD (fun h1 => ?_) (fun h1 => ?_)
  rotate_left
  · conv => whnf
    exact rfl
  conv => whnf
  refine cD (fun h2 => ?_) (fun h2 => ?_)
  rotate_left
  · conv => whnf
    exact rfl
  conv => whnf
  refine cN (fun h3 => ?_) (fun h3 => ?_)
  · conv => whnf
    exact rfl
  repeat
    conv => whnf
    first
      | (with_reducible refine qS ?_ ?_ ?_
         · exact rfl
         · exact rfl)
      | with_reducible refine qB ?_
      | (with_reducible refine qI ?_ ?_
         · omega)
      | (with_reducible refine qDT ?_ ?_
         · omega)
      | (with_reducible refine qDF ?_ ?_
         · omega)
      | (with_reducible refine qNT ?_ ?_
         · omega)
      | (with_reducible refine qNF ?_ ?_
         · omega)
      | (with_reducible refine qU8 ?_ ?_
         · omega)
      | (with_reducible refine qU32 ?_ ?_
         · omega)
  conv => whnf
  refine at1_use (m := m) (c := c) hm hc ha ?_
  have eo : owner1 m a b = if at1 m a b < 0 ∨ (m.W (at1 m a b).toNat).kind ≠ 1 then -1 else (m.G (m.W (at1 m a b).toNat).msg.toNat).ow := rfl
  have hcase : at1 m a b < 0 ∨ (0 ≤ at1 m a b ∧ at1 m a b < m.nW ∧ (m.W (at1 m a b).toNat).kind ≠ 1) ∨ (0 ≤ at1 m a b ∧ at1 m a b < m.nW ∧ (m.W (at1 m a b).toNat).kind = 1 ∧ 0 ≤ (m.W (at1 m a b).toNat).msg ∧ (m.W (at1 m a b).toNat).msg < m.nG) := by
    by_cases h : at1 m a b < 0
    · exact .inl h
    obtain ⟨k1, k2, k3⟩ := at1_in (by omega : 0 ≤ at1 m a b)
    obtain ⟨w1, w2, _⟩ := (pass_of k1).w (i := (at1 m a b).toNat) (by omega)
    unfold winP at w1
    by_cases hk : (m.W (at1 m a b).toNat).kind = 1
    · exact .inr (.inr ⟨by omega, k3, hk, by omega, (w2 hk).1⟩)
    · exact .inr (.inl ⟨by omega, k3, hk⟩)
  rcases hcase with g1 | ⟨g1, g2, g3⟩ | ⟨g1, g2, g3, g4, g5⟩
  · rw [if_pos (.inl g1)] at eo
    repeat
      conv => whnf
      first
        | (with_reducible refine qS ?_ ?_ ?_
           · exact rfl
           · exact rfl)
        | with_reducible refine qB ?_
        | (with_reducible refine qI ?_ ?_
           · omega)
        | (with_reducible refine qDT ?_ ?_
           · omega)
        | (with_reducible refine qDF ?_ ?_
           · omega)
        | (with_reducible refine qNT ?_ ?_
           · omega)
        | (with_reducible refine qNF ?_ ?_
           · omega)
        | (with_reducible refine qU8 ?_ ?_
           · omega)
        | (with_reducible refine qU32 ?_ ?_
           · omega)
    conv => whnf
    refine at1_use (m := m) (c := c) hm hc ha ?_
    repeat
      conv => whnf
      first
        | (with_reducible refine qS ?_ ?_ ?_
           · exact rfl
           · exact rfl)
        | with_reducible refine qB ?_
        | (with_reducible refine qI ?_ ?_
           · omega)
        | (with_reducible refine qDT ?_ ?_
           · omega)
        | (with_reducible refine qDF ?_ ?_
           · omega)
        | (with_reducible refine qNT ?_ ?_
           · omega)
        | (with_reducible refine qNF ?_ ?_
           · omega)
        | (with_reducible refine qU8 ?_ ?_
           · omega)
        | (with_reducible refine qU32 ?_ ?_
           · omega)
    conv => whnf
    refine owner_use (m := m) (c := c) hm hc ha ?_
    rw [eo]
    repeat
      conv => whnf
      first
        | (with_reducible refine qS ?_ ?_ ?_
           · exact rfl
           · exact rfl)
        | with_reducible refine qB ?_
        | (with_reducible refine qI ?_ ?_
           · omega)
        | (with_reducible refine qDT ?_ ?_
           · omega)
        | (with_reducible refine qDF ?_ ?_
           · omega)
        | (with_reducible refine qNT ?_ ?_
           · omega)
        | (with_reducible refine qNF ?_ ?_
           · omega)
        | (with_reducible refine qU8 ?_ ?_
           · omega)
        | (with_reducible refine qU32 ?_ ?_
           · omega)
    conv => whnf
    refine checkR_use (m := m) (c := c) hm ?_
    repeat
      conv => whnf
      first
        | (with_reducible refine qS ?_ ?_ ?_
           · exact rfl
           · exact rfl)
        | with_reducible refine qB ?_
        | (with_reducible refine qI ?_ ?_
           · omega)
        | (with_reducible refine qDT ?_ ?_
           · omega)
        | (with_reducible refine qDF ?_ ?_
           · omega)
        | (with_reducible refine qNT ?_ ?_
           · omega)
        | (with_reducible refine qNF ?_ ?_
           · omega)
        | (with_reducible refine qU8 ?_ ?_
           · omega)
        | (with_reducible refine qU32 ?_ ?_
           · omega)
    conv => whnf
    refine kinds_use (m := m) (c := c) hm hc ha ?_
    by_cases h : (chk m).2 = 0
    rotate_left
    · rw [show kindsS m a = .empty from if_neg h]
      repeat
        conv => whnf
        first
          | (with_reducible refine qS ?_ ?_ ?_
             · exact rfl
             · exact rfl)
          | with_reducible refine qB ?_
          | (with_reducible refine qI ?_ ?_
             · omega)
          | (with_reducible refine qDT ?_ ?_
             · omega)
          | (with_reducible refine qDF ?_ ?_
             · omega)
          | (with_reducible refine qNT ?_ ?_
             · omega)
          | (with_reducible refine qNF ?_ ?_
             · omega)
          | (with_reducible refine qU8 ?_ ?_
             · omega)
          | (with_reducible refine qU32 ?_ ?_
             · omega)
      conv => whnf
      refine free_use (m := m) (c := c) hm hc ha ?_
      rw [show free1 m a = 0 from if_neg h]
      repeat
        conv => whnf
        first
          | (with_reducible refine qS ?_ ?_ ?_
             · exact rfl
             · exact rfl)
          | with_reducible refine qB ?_
          | (with_reducible refine qI ?_ ?_
             · omega)
          | (with_reducible refine qDT ?_ ?_
             · omega)
          | (with_reducible refine qDF ?_ ?_
             · omega)
          | (with_reducible refine qNT ?_ ?_
             · omega)
          | (with_reducible refine qNF ?_ ?_
             · omega)
          | (with_reducible refine qU8 ?_ ?_
             · omega)
          | (with_reducible refine qU32 ?_ ?_
             · omega)
      conv => whnf
      exact rfl
    have hP := pass_of h
    have hL := hP.is.head
    unfold headP at hL
    obtain ⟨L, hLn⟩ : ∃ L : Nat, m.length = L := ⟨m.length.toNat, by omega⟩
    have ek : kindsS m a = strF L (fun u => sgn (kindAt m a u)) := by unfold kindsS; rw [if_pos h, hLn]; rfl
    have ef : free1 m a = (freeN (fun u => sgn (kindAt m a u)) L : Nat) := by unfold free1; rw [if_pos h, hLn]; rfl
    have hF : ∀ i, i < L → 0 ≤ sgn (kindAt m a i) ∧ sgn (kindAt m a i) ≤ 255 := fun i _ => by have := sgn_bd (kindAt m a i); omega
    rw [ek]
    generalize hG : (fun u : Nat => sgn (kindAt m a u)) = G at *
    have hGa : ∀ i : Nat, G i = sgn (kindAt m a i) := fun i => by rw [← hG]
    have hF : ∀ i, i < L → 0 ≤ G i ∧ G i ≤ 255 := fun i hi => by rw [hGa i]; exact hF i hi
    have hsz : (strF L G).size = L := strF_size L G
    have hfn := freeN_le G
    have e1 : ∀ u : Int, at1 m a u = at0 m a u := fun u => if_pos h
    repeat
      conv => whnf
      first
        | (with_reducible refine qS ?_ ?_ ?_
           · exact rfl
           · exact rfl)
        | with_reducible refine qB ?_
        | (with_reducible refine qI ?_ ?_
           · omega)
        | (with_reducible refine qDT ?_ ?_
           · omega)
        | (with_reducible refine qDF ?_ ?_
           · omega)
        | (with_reducible refine qNT ?_ ?_
           · omega)
        | (with_reducible refine qNF ?_ ?_
           · omega)
        | (with_reducible refine qU8 ?_ ?_
           · omega)
        | (with_reducible refine qU32 ?_ ?_
           · omega)
    conv => whnf
    refine .rd (fun i : Nat => i ≤ L) (fun i => [(12, iv .i64 (freeN G i : Nat)), (13, iv .i64 i)]) (fun i => L - i) 0 (Nat.zero_le _) ?_ (fun i hi => ?_)
    · conv => whnf
      refine Le.id rfl ?_ ?_
      all_goals (repeat' (first
         | exact leT_empty
         | exact trivial
         | exact rfl
         | exact .inl rfl
         | exact .inr rfl
         | exact .inr ⟨rfl, rfl⟩
         | exact Nat.le_refl _
         | exact Nat.zero_le _
         | exact (fun _ _ => rfl)
         | assumption
         | refine And.intro ?_ ?_
         | (intro i hi; exact absurd hi (Nat.not_lt_zero i))
         | (intro i hi; have hi := Nat.lt_of_lt_of_le hi (show _ ≤ 1 from Nat.le_refl 1); obtain rfl : i = 0 := (by omega); rfl)
         | (intro i hi; have hi := Nat.lt_of_lt_of_le hi (show _ ≤ 2 from Nat.le_refl 2); rcases (show i = 0 ∨ i = 1 by omega) with rfl | rfl <;> rfl)
         | (intro i hi; have hi := Nat.lt_of_lt_of_le hi (show _ ≤ 3 from Nat.le_refl 3); rcases (show i = 0 ∨ i = 1 ∨ i = 2 by omega) with rfl | rfl | rfl <;> rfl)))
    have hfi := hfn i
    repeat
      conv => whnf
      first
        | (with_reducible refine qS ?_ ?_ ?_
           · exact rfl
           · exact rfl)
        | with_reducible refine qB ?_
        | (with_reducible refine qI ?_ ?_
           · omega)
        | (with_reducible refine qDT ?_ ?_
           · omega)
        | (with_reducible refine qDF ?_ ?_
           · omega)
        | (with_reducible refine qNT ?_ ?_
           · omega)
        | (with_reducible refine qNF ?_ ?_
           · omega)
        | (with_reducible refine qU8 ?_ ?_
           · omega)
        | (with_reducible refine qU32 ?_ ?_
           · omega)
    conv => whnf
    refine cD (fun h5 => ?_) (fun h5 => ?_)
    rotate_left
    · obtain rfl : i = L := by omega
      repeat
        conv => whnf
        first
          | (with_reducible refine qS ?_ ?_ ?_
             · exact rfl
             · exact rfl)
          | with_reducible refine qB ?_
          | (with_reducible refine qI ?_ ?_
             · omega)
          | (with_reducible refine qDT ?_ ?_
             · omega)
          | (with_reducible refine qDF ?_ ?_
             · omega)
          | (with_reducible refine qNT ?_ ?_
             · omega)
          | (with_reducible refine qNF ?_ ?_
             · omega)
          | (with_reducible refine qU8 ?_ ?_
             · omega)
          | (with_reducible refine qU32 ?_ ?_
             · omega)
      conv => whnf
      refine free_use (m := m) (c := c) hm hc ha ?_
      rw [ef]
      repeat
        conv => whnf
        first
          | (with_reducible refine qS ?_ ?_ ?_
             · exact rfl
             · exact rfl)
          | with_reducible refine qB ?_
          | (with_reducible refine qI ?_ ?_
             · omega)
          | (with_reducible refine qDT ?_ ?_
             · omega)
          | (with_reducible refine qDF ?_ ?_
             · omega)
          | (with_reducible refine qNT ?_ ?_
             · omega)
          | (with_reducible refine qNF ?_ ?_
             · omega)
          | (with_reducible refine qU8 ?_ ?_
             · omega)
          | (with_reducible refine qU32 ?_ ?_
             · omega)
      conv => whnf
      exact congrArg bv (decide_eq_true rfl)
    have hb := at0_bd m a i
    have ebt := strF_bt hF (i := i) (by omega)
    have hg70 : G i ≤ 70 := by rw [hGa i]; exact (sgn_bd _).2
    repeat
      conv => whnf
      first
        | (with_reducible refine qS ?_ ?_ ?_
           · exact rfl
           · exact rfl)
        | with_reducible refine qB ?_
        | (with_reducible refine qI ?_ ?_
           · omega)
        | (with_reducible refine qDT ?_ ?_
           · omega)
        | (with_reducible refine qDF ?_ ?_
           · omega)
        | (with_reducible refine qNT ?_ ?_
           · omega)
        | (with_reducible refine qNF ?_ ?_
           · omega)
        | (with_reducible refine qU8 ?_ ?_
           · omega)
        | (with_reducible refine qU32 ?_ ?_
           · omega)
    conv => whnf
    refine at1_use (m := m) (c := c) hm hc ha ?_
    rw [e1 (i : Int)]
    have fin : freeN G (i + 1) = freeN G i + if G i = 45 ∨ G i = 70 then 1 else 0 := rfl
    by_cases h6 : 0 ≤ at0 m a i
    · have hw := hP.is.W (at0 m a i).toNat (by omega)
      unfold winP at hw
      have ev : bt ⟨#[69, 65, 70]⟩ ((m.W (at0 m a i).toNat).kind - 1).toNat = G i := by
        rw [hGa i]
        unfold kindAt
        rw [if_pos h6]
        exact bt_eaf (by omega) (by omega)
      repeat
        conv => whnf
        first
          | (with_reducible refine qS ?_ ?_ ?_
             · exact rfl
             · exact rfl)
          | with_reducible refine qB ?_
          | (with_reducible refine qI ?_ ?_
             · omega)
          | (with_reducible refine qDT ?_ ?_
             · omega)
          | (with_reducible refine qDF ?_ ?_
             · omega)
          | (with_reducible refine qNT ?_ ?_
             · omega)
          | (with_reducible refine qNF ?_ ?_
             · omega)
          | (with_reducible refine qU8 ?_ ?_
             · omega)
          | (with_reducible refine qU32 ?_ ?_
             · omega)
      conv => whnf
      rw [za]
      repeat
        conv => whnf
        first
          | (with_reducible refine qS ?_ ?_ ?_
             · exact rfl
             · exact rfl)
          | with_reducible refine qB ?_
          | (with_reducible refine qI ?_ ?_
             · omega)
          | (with_reducible refine qDT ?_ ?_
             · omega)
          | (with_reducible refine qDF ?_ ?_
             · omega)
          | (with_reducible refine qNT ?_ ?_
             · omega)
          | (with_reducible refine qNF ?_ ?_
             · omega)
          | (with_reducible refine qU8 ?_ ?_
             · omega)
          | (with_reducible refine qU32 ?_ ?_
             · omega)
      conv => whnf
      refine cDT ⟨by omega, by show (m.W (at0 m a i).toNat).kind - 1 < 3; omega⟩ ?_
      rw [ev]
      repeat
        conv => whnf
        first
          | (with_reducible refine qS ?_ ?_ ?_
             · exact rfl
             · exact rfl)
          | with_reducible refine qB ?_
          | (with_reducible refine qI ?_ ?_
             · omega)
          | (with_reducible refine qDT ?_ ?_
             · omega)
          | (with_reducible refine qDF ?_ ?_
             · omega)
          | (with_reducible refine qNT ?_ ?_
             · omega)
          | (with_reducible refine qNF ?_ ?_
             · omega)
          | (with_reducible refine qU8 ?_ ?_
             · omega)
          | (with_reducible refine qU32 ?_ ?_
             · omega)
      conv => whnf
      rw [tn, ebt]
      by_cases h7 : G i = 45 ∨ G i = 70
      · rw [if_pos h7] at fin
        rcases h7 with h7 | h7
        all_goals
          repeat
            conv => whnf
            first
              | (with_reducible refine qS ?_ ?_ ?_
                 · exact rfl
                 · exact rfl)
              | with_reducible refine qB ?_
              | (with_reducible refine qI ?_ ?_
                 · omega)
              | (with_reducible refine qDT ?_ ?_
                 · omega)
              | (with_reducible refine qDF ?_ ?_
                 · omega)
              | (with_reducible refine qNT ?_ ?_
                 · omega)
              | (with_reducible refine qNF ?_ ?_
                 · omega)
              | (with_reducible refine qU8 ?_ ?_
                 · omega)
              | (with_reducible refine qU32 ?_ ?_
                 · omega)
          conv => whnf
          rw [show ((freeN G i : Nat) : Int) + 1 = ((freeN G (i + 1) : Nat) : Int) by omega]
          refine ⟨i + 1, ⟨by omega, by omega⟩, ?_⟩
          conv => whnf
          refine Le.id rfl ?_ ?_
          all_goals (repeat' (first
             | exact leT_empty
             | exact trivial
             | exact rfl
             | exact .inl rfl
             | exact .inr rfl
             | exact .inr ⟨rfl, rfl⟩
             | exact Nat.le_refl _
             | exact Nat.zero_le _
             | exact (fun _ _ => rfl)
             | assumption
             | refine And.intro ?_ ?_
             | (intro i hi; exact absurd hi (Nat.not_lt_zero i))
             | (intro i hi; have hi := Nat.lt_of_lt_of_le hi (show _ ≤ 1 from Nat.le_refl 1); obtain rfl : i = 0 := (by omega); rfl)
             | (intro i hi; have hi := Nat.lt_of_lt_of_le hi (show _ ≤ 2 from Nat.le_refl 2); rcases (show i = 0 ∨ i = 1 by omega) with rfl | rfl <;> rfl)
             | (intro i hi; have hi := Nat.lt_of_lt_of_le hi (show _ ≤ 3 from Nat.le_refl 3); rcases (show i = 0 ∨ i = 1 ∨ i = 2 by omega) with rfl | rfl | rfl <;> rfl)))
      · rw [if_neg h7] at fin
        repeat
          conv => whnf
          first
            | (with_reducible refine qS ?_ ?_ ?_
               · exact rfl
               · exact rfl)
            | with_reducible refine qB ?_
            | (with_reducible refine qI ?_ ?_
               · omega)
            | (with_reducible refine qDT ?_ ?_
               · omega)
            | (with_reducible refine qDF ?_ ?_
               · omega)
            | (with_reducible refine qNT ?_ ?_
               · omega)
            | (with_reducible refine qNF ?_ ?_
               · omega)
            | (with_reducible refine qU8 ?_ ?_
               · omega)
            | (with_reducible refine qU32 ?_ ?_
               · omega)
        conv => whnf
        rw [show ((freeN G i : Nat) : Int) = ((freeN G (i + 1) : Nat) : Int) by omega]
        refine ⟨i + 1, ⟨by omega, by omega⟩, ?_⟩
        conv => whnf
        refine Le.id rfl ?_ ?_
        all_goals (repeat' (first
           | exact leT_empty
           | exact trivial
           | exact rfl
           | exact .inl rfl
           | exact .inr rfl
           | exact .inr ⟨rfl, rfl⟩
           | exact Nat.le_refl _
           | exact Nat.zero_le _
           | exact (fun _ _ => rfl)
           | assumption
           | refine And.intro ?_ ?_
           | (intro i hi; exact absurd hi (Nat.not_lt_zero i))
           | (intro i hi; have hi := Nat.lt_of_lt_of_le hi (show _ ≤ 1 from Nat.le_refl 1); obtain rfl : i = 0 := (by omega); rfl)
           | (intro i hi; have hi := Nat.lt_of_lt_of_le hi (show _ ≤ 2 from Nat.le_refl 2); rcases (show i = 0 ∨ i = 1 by omega) with rfl | rfl <;> rfl)
           | (intro i hi; have hi := Nat.lt_of_lt_of_le hi (show _ ≤ 3 from Nat.le_refl 3); rcases (show i = 0 ∨ i = 1 ∨ i = 2 by omega) with rfl | rfl | rfl <;> rfl)))
    · have ev : G i = 45 := by
        rw [hGa i]
        unfold kindAt
        rw [if_neg h6]
        rfl
      rw [if_pos (.inl ev)] at fin
      repeat
        conv => whnf
        first
          | (with_reducible refine qS ?_ ?_ ?_
             · exact rfl
             · exact rfl)
          | with_reducible refine qB ?_
          | (with_reducible refine qI ?_ ?_
             · omega)
          | (with_reducible refine qDT ?_ ?_
             · omega)
          | (with_reducible refine qDF ?_ ?_
             · omega)
          | (with_reducible refine qNT ?_ ?_
             · omega)
          | (with_reducible refine qNF ?_ ?_
             · omega)
          | (with_reducible refine qU8 ?_ ?_
             · omega)
          | (with_reducible refine qU32 ?_ ?_
             · omega)
      conv => whnf
      rw [tn, ebt]
      repeat
        conv => whnf
        first
          | (with_reducible refine qS ?_ ?_ ?_
             · exact rfl
             · exact rfl)
          | with_reducible refine qB ?_
          | (with_reducible refine qI ?_ ?_
             · omega)
          | (with_reducible refine qDT ?_ ?_
             · omega)
          | (with_reducible refine qDF ?_ ?_
             · omega)
          | (with_reducible refine qNT ?_ ?_
             · omega)
          | (with_reducible refine qNF ?_ ?_
             · omega)
          | (with_reducible refine qU8 ?_ ?_
             · omega)
          | (with_reducible refine qU32 ?_ ?_
             · omega)
      conv => whnf
      rw [show ((freeN G i : Nat) : Int) + 1 = ((freeN G (i + 1) : Nat) : Int) by omega]
      refine ⟨i + 1, ⟨by omega, by omega⟩, ?_⟩
      conv => whnf
      refine Le.id rfl ?_ ?_
      all_goals (repeat' (first
         | exact leT_empty
         | exact trivial
         | exact rfl
         | exact .inl rfl
         | exact .inr rfl
         | exact .inr ⟨rfl, rfl⟩
         | exact Nat.le_refl _
         | exact Nat.zero_le _
         | exact (fun _ _ => rfl)
         | assumption
         | refine And.intro ?_ ?_
         | (intro i hi; exact absurd hi (Nat.not_lt_zero i))
         | (intro i hi; have hi := Nat.lt_of_lt_of_le hi (show _ ≤ 1 from Nat.le_refl 1); obtain rfl : i = 0 := (by omega); rfl)
         | (intro i hi; have hi := Nat.lt_of_lt_of_le hi (show _ ≤ 2 from Nat.le_refl 2); rcases (show i = 0 ∨ i = 1 by omega) with rfl | rfl <;> rfl)
         | (intro i hi; have hi := Nat.lt_of_lt_of_le hi (show _ ≤ 3 from Nat.le_refl 3); rcases (show i = 0 ∨ i = 1 ∨ i = 2 by omega) with rfl | rfl | rfl <;> rfl)))
  · rw [if_pos (.inr g3)] at eo
    repeat
      conv => whnf
      first
        | (with_reducible refine qS ?_ ?_ ?_
           · exact rfl
           · exact rfl)
        | with_reducible refine qB ?_
        | (with_reducible refine qI ?_ ?_
           · omega)
        | (with_reducible refine qDT ?_ ?_
           · omega)
        | (with_reducible refine qDF ?_ ?_
           · omega)
        | (with_reducible refine qNT ?_ ?_
           · omega)
        | (with_reducible refine qNF ?_ ?_
           · omega)
        | (with_reducible refine qU8 ?_ ?_
           · omega)
        | (with_reducible refine qU32 ?_ ?_
           · omega)
    conv => whnf
    try rw [za]
    repeat
      conv => whnf
      first
        | (with_reducible refine qS ?_ ?_ ?_
           · exact rfl
           · exact rfl)
        | with_reducible refine qB ?_
        | (with_reducible refine qI ?_ ?_
           · omega)
        | (with_reducible refine qDT ?_ ?_
           · omega)
        | (with_reducible refine qDF ?_ ?_
           · omega)
        | (with_reducible refine qNT ?_ ?_
           · omega)
        | (with_reducible refine qNF ?_ ?_
           · omega)
        | (with_reducible refine qU8 ?_ ?_
           · omega)
        | (with_reducible refine qU32 ?_ ?_
           · omega)
    conv => whnf
    refine at1_use (m := m) (c := c) hm hc ha ?_
    repeat
      conv => whnf
      first
        | (with_reducible refine qS ?_ ?_ ?_
           · exact rfl
           · exact rfl)
        | with_reducible refine qB ?_
        | (with_reducible refine qI ?_ ?_
           · omega)
        | (with_reducible refine qDT ?_ ?_
           · omega)
        | (with_reducible refine qDF ?_ ?_
           · omega)
        | (with_reducible refine qNT ?_ ?_
           · omega)
        | (with_reducible refine qNF ?_ ?_
           · omega)
        | (with_reducible refine qU8 ?_ ?_
           · omega)
        | (with_reducible refine qU32 ?_ ?_
           · omega)
    conv => whnf
    refine owner_use (m := m) (c := c) hm hc ha ?_
    rw [eo]
    repeat
      conv => whnf
      first
        | (with_reducible refine qS ?_ ?_ ?_
           · exact rfl
           · exact rfl)
        | with_reducible refine qB ?_
        | (with_reducible refine qI ?_ ?_
           · omega)
        | (with_reducible refine qDT ?_ ?_
           · omega)
        | (with_reducible refine qDF ?_ ?_
           · omega)
        | (with_reducible refine qNT ?_ ?_
           · omega)
        | (with_reducible refine qNF ?_ ?_
           · omega)
        | (with_reducible refine qU8 ?_ ?_
           · omega)
        | (with_reducible refine qU32 ?_ ?_
           · omega)
    conv => whnf
    refine checkR_use (m := m) (c := c) hm ?_
    repeat
      conv => whnf
      first
        | (with_reducible refine qS ?_ ?_ ?_
           · exact rfl
           · exact rfl)
        | with_reducible refine qB ?_
        | (with_reducible refine qI ?_ ?_
           · omega)
        | (with_reducible refine qDT ?_ ?_
           · omega)
        | (with_reducible refine qDF ?_ ?_
           · omega)
        | (with_reducible refine qNT ?_ ?_
           · omega)
        | (with_reducible refine qNF ?_ ?_
           · omega)
        | (with_reducible refine qU8 ?_ ?_
           · omega)
        | (with_reducible refine qU32 ?_ ?_
           · omega)
    conv => whnf
    refine kinds_use (m := m) (c := c) hm hc ha ?_
    by_cases h : (chk m).2 = 0
    rotate_left
    · rw [show kindsS m a = .empty from if_neg h]
      repeat
        conv => whnf
        first
          | (with_reducible refine qS ?_ ?_ ?_
             · exact rfl
             · exact rfl)
          | with_reducible refine qB ?_
          | (with_reducible refine qI ?_ ?_
             · omega)
          | (with_reducible refine qDT ?_ ?_
             · omega)
          | (with_reducible refine qDF ?_ ?_
             · omega)
          | (with_reducible refine qNT ?_ ?_
             · omega)
          | (with_reducible refine qNF ?_ ?_
             · omega)
          | (with_reducible refine qU8 ?_ ?_
             · omega)
          | (with_reducible refine qU32 ?_ ?_
             · omega)
      conv => whnf
      refine free_use (m := m) (c := c) hm hc ha ?_
      rw [show free1 m a = 0 from if_neg h]
      repeat
        conv => whnf
        first
          | (with_reducible refine qS ?_ ?_ ?_
             · exact rfl
             · exact rfl)
          | with_reducible refine qB ?_
          | (with_reducible refine qI ?_ ?_
             · omega)
          | (with_reducible refine qDT ?_ ?_
             · omega)
          | (with_reducible refine qDF ?_ ?_
             · omega)
          | (with_reducible refine qNT ?_ ?_
             · omega)
          | (with_reducible refine qNF ?_ ?_
             · omega)
          | (with_reducible refine qU8 ?_ ?_
             · omega)
          | (with_reducible refine qU32 ?_ ?_
             · omega)
      conv => whnf
      exact rfl
    have hP := pass_of h
    have hL := hP.is.head
    unfold headP at hL
    obtain ⟨L, hLn⟩ : ∃ L : Nat, m.length = L := ⟨m.length.toNat, by omega⟩
    have ek : kindsS m a = strF L (fun u => sgn (kindAt m a u)) := by unfold kindsS; rw [if_pos h, hLn]; rfl
    have ef : free1 m a = (freeN (fun u => sgn (kindAt m a u)) L : Nat) := by unfold free1; rw [if_pos h, hLn]; rfl
    have hF : ∀ i, i < L → 0 ≤ sgn (kindAt m a i) ∧ sgn (kindAt m a i) ≤ 255 := fun i _ => by have := sgn_bd (kindAt m a i); omega
    rw [ek]
    generalize hG : (fun u : Nat => sgn (kindAt m a u)) = G at *
    have hGa : ∀ i : Nat, G i = sgn (kindAt m a i) := fun i => by rw [← hG]
    have hF : ∀ i, i < L → 0 ≤ G i ∧ G i ≤ 255 := fun i hi => by rw [hGa i]; exact hF i hi
    have hsz : (strF L G).size = L := strF_size L G
    have hfn := freeN_le G
    have e1 : ∀ u : Int, at1 m a u = at0 m a u := fun u => if_pos h
    repeat
      conv => whnf
      first
        | (with_reducible refine qS ?_ ?_ ?_
           · exact rfl
           · exact rfl)
        | with_reducible refine qB ?_
        | (with_reducible refine qI ?_ ?_
           · omega)
        | (with_reducible refine qDT ?_ ?_
           · omega)
        | (with_reducible refine qDF ?_ ?_
           · omega)
        | (with_reducible refine qNT ?_ ?_
           · omega)
        | (with_reducible refine qNF ?_ ?_
           · omega)
        | (with_reducible refine qU8 ?_ ?_
           · omega)
        | (with_reducible refine qU32 ?_ ?_
           · omega)
    conv => whnf
    refine .rd (fun i : Nat => i ≤ L) (fun i => [(12, iv .i64 (freeN G i : Nat)), (13, iv .i64 i)]) (fun i => L - i) 0 (Nat.zero_le _) ?_ (fun i hi => ?_)
    · conv => whnf
      refine Le.id rfl ?_ ?_
      all_goals (repeat' (first
         | exact leT_empty
         | exact trivial
         | exact rfl
         | exact .inl rfl
         | exact .inr rfl
         | exact .inr ⟨rfl, rfl⟩
         | exact Nat.le_refl _
         | exact Nat.zero_le _
         | exact (fun _ _ => rfl)
         | assumption
         | refine And.intro ?_ ?_
         | (intro i hi; exact absurd hi (Nat.not_lt_zero i))
         | (intro i hi; have hi := Nat.lt_of_lt_of_le hi (show _ ≤ 1 from Nat.le_refl 1); obtain rfl : i = 0 := (by omega); rfl)
         | (intro i hi; have hi := Nat.lt_of_lt_of_le hi (show _ ≤ 2 from Nat.le_refl 2); rcases (show i = 0 ∨ i = 1 by omega) with rfl | rfl <;> rfl)
         | (intro i hi; have hi := Nat.lt_of_lt_of_le hi (show _ ≤ 3 from Nat.le_refl 3); rcases (show i = 0 ∨ i = 1 ∨ i = 2 by omega) with rfl | rfl | rfl <;> rfl)))
    have hfi := hfn i
    repeat
      conv => whnf
      first
        | (with_reducible refine qS ?_ ?_ ?_
           · exact rfl
           · exact rfl)
        | with_reducible refine qB ?_
        | (with_reducible refine qI ?_ ?_
           · omega)
        | (with_reducible refine qDT ?_ ?_
           · omega)
        | (with_reducible refine qDF ?_ ?_
           · omega)
        | (with_reducible refine qNT ?_ ?_
           · omega)
        | (with_reducible refine qNF ?_ ?_
           · omega)
        | (with_reducible refine qU8 ?_ ?_
           · omega)
        | (with_reducible refine qU32 ?_ ?_
           · omega)
    conv => whnf
    refine cD (fun h5 => ?_) (fun h5 => ?_)
    rotate_left
    · obtain rfl : i = L := by omega
      repeat
        conv => whnf
        first
          | (with_reducible refine qS ?_ ?_ ?_
             · exact rfl
             · exact rfl)
          | with_reducible refine qB ?_
          | (with_reducible refine qI ?_ ?_
             · omega)
          | (with_reducible refine qDT ?_ ?_
             · omega)
          | (with_reducible refine qDF ?_ ?_
             · omega)
          | (with_reducible refine qNT ?_ ?_
             · omega)
          | (with_reducible refine qNF ?_ ?_
             · omega)
          | (with_reducible refine qU8 ?_ ?_
             · omega)
          | (with_reducible refine qU32 ?_ ?_
             · omega)
      conv => whnf
      refine free_use (m := m) (c := c) hm hc ha ?_
      rw [ef]
      repeat
        conv => whnf
        first
          | (with_reducible refine qS ?_ ?_ ?_
             · exact rfl
             · exact rfl)
          | with_reducible refine qB ?_
          | (with_reducible refine qI ?_ ?_
             · omega)
          | (with_reducible refine qDT ?_ ?_
             · omega)
          | (with_reducible refine qDF ?_ ?_
             · omega)
          | (with_reducible refine qNT ?_ ?_
             · omega)
          | (with_reducible refine qNF ?_ ?_
             · omega)
          | (with_reducible refine qU8 ?_ ?_
             · omega)
          | (with_reducible refine qU32 ?_ ?_
             · omega)
      conv => whnf
      exact congrArg bv (decide_eq_true rfl)
    have hb := at0_bd m a i
    have ebt := strF_bt hF (i := i) (by omega)
    have hg70 : G i ≤ 70 := by rw [hGa i]; exact (sgn_bd _).2
    repeat
      conv => whnf
      first
        | (with_reducible refine qS ?_ ?_ ?_
           · exact rfl
           · exact rfl)
        | with_reducible refine qB ?_
        | (with_reducible refine qI ?_ ?_
           · omega)
        | (with_reducible refine qDT ?_ ?_
           · omega)
        | (with_reducible refine qDF ?_ ?_
           · omega)
        | (with_reducible refine qNT ?_ ?_
           · omega)
        | (with_reducible refine qNF ?_ ?_
           · omega)
        | (with_reducible refine qU8 ?_ ?_
           · omega)
        | (with_reducible refine qU32 ?_ ?_
           · omega)
    conv => whnf
    refine at1_use (m := m) (c := c) hm hc ha ?_
    rw [e1 (i : Int)]
    have fin : freeN G (i + 1) = freeN G i + if G i = 45 ∨ G i = 70 then 1 else 0 := rfl
    by_cases h6 : 0 ≤ at0 m a i
    · have hw := hP.is.W (at0 m a i).toNat (by omega)
      unfold winP at hw
      have ev : bt ⟨#[69, 65, 70]⟩ ((m.W (at0 m a i).toNat).kind - 1).toNat = G i := by
        rw [hGa i]
        unfold kindAt
        rw [if_pos h6]
        exact bt_eaf (by omega) (by omega)
      repeat
        conv => whnf
        first
          | (with_reducible refine qS ?_ ?_ ?_
             · exact rfl
             · exact rfl)
          | with_reducible refine qB ?_
          | (with_reducible refine qI ?_ ?_
             · omega)
          | (with_reducible refine qDT ?_ ?_
             · omega)
          | (with_reducible refine qDF ?_ ?_
             · omega)
          | (with_reducible refine qNT ?_ ?_
             · omega)
          | (with_reducible refine qNF ?_ ?_
             · omega)
          | (with_reducible refine qU8 ?_ ?_
             · omega)
          | (with_reducible refine qU32 ?_ ?_
             · omega)
      conv => whnf
      rw [za]
      repeat
        conv => whnf
        first
          | (with_reducible refine qS ?_ ?_ ?_
             · exact rfl
             · exact rfl)
          | with_reducible refine qB ?_
          | (with_reducible refine qI ?_ ?_
             · omega)
          | (with_reducible refine qDT ?_ ?_
             · omega)
          | (with_reducible refine qDF ?_ ?_
             · omega)
          | (with_reducible refine qNT ?_ ?_
             · omega)
          | (with_reducible refine qNF ?_ ?_
             · omega)
          | (with_reducible refine qU8 ?_ ?_
             · omega)
          | (with_reducible refine qU32 ?_ ?_
             · omega)
      conv => whnf
      refine cDT ⟨by omega, by show (m.W (at0 m a i).toNat).kind - 1 < 3; omega⟩ ?_
      rw [ev]
      repeat
        conv => whnf
        first
          | (with_reducible refine qS ?_ ?_ ?_
             · exact rfl
             · exact rfl)
          | with_reducible refine qB ?_
          | (with_reducible refine qI ?_ ?_
             · omega)
          | (with_reducible refine qDT ?_ ?_
             · omega)
          | (with_reducible refine qDF ?_ ?_
             · omega)
          | (with_reducible refine qNT ?_ ?_
             · omega)
          | (with_reducible refine qNF ?_ ?_
             · omega)
          | (with_reducible refine qU8 ?_ ?_
             · omega)
          | (with_reducible refine qU32 ?_ ?_
             · omega)
      conv => whnf
      rw [tn, ebt]
      by_cases h7 : G i = 45 ∨ G i = 70
      · rw [if_pos h7] at fin
        rcases h7 with h7 | h7
        all_goals
          repeat
            conv => whnf
            first
              | (with_reducible refine qS ?_ ?_ ?_
                 · exact rfl
                 · exact rfl)
              | with_reducible refine qB ?_
              | (with_reducible refine qI ?_ ?_
                 · omega)
              | (with_reducible refine qDT ?_ ?_
                 · omega)
              | (with_reducible refine qDF ?_ ?_
                 · omega)
              | (with_reducible refine qNT ?_ ?_
                 · omega)
              | (with_reducible refine qNF ?_ ?_
                 · omega)
              | (with_reducible refine qU8 ?_ ?_
                 · omega)
              | (with_reducible refine qU32 ?_ ?_
                 · omega)
          conv => whnf
          rw [show ((freeN G i : Nat) : Int) + 1 = ((freeN G (i + 1) : Nat) : Int) by omega]
          refine ⟨i + 1, ⟨by omega, by omega⟩, ?_⟩
          conv => whnf
          refine Le.id rfl ?_ ?_
          all_goals (repeat' (first
             | exact leT_empty
             | exact trivial
             | exact rfl
             | exact .inl rfl
             | exact .inr rfl
             | exact .inr ⟨rfl, rfl⟩
             | exact Nat.le_refl _
             | exact Nat.zero_le _
             | exact (fun _ _ => rfl)
             | assumption
             | refine And.intro ?_ ?_
             | (intro i hi; exact absurd hi (Nat.not_lt_zero i))
             | (intro i hi; have hi := Nat.lt_of_lt_of_le hi (show _ ≤ 1 from Nat.le_refl 1); obtain rfl : i = 0 := (by omega); rfl)
             | (intro i hi; have hi := Nat.lt_of_lt_of_le hi (show _ ≤ 2 from Nat.le_refl 2); rcases (show i = 0 ∨ i = 1 by omega) with rfl | rfl <;> rfl)
             | (intro i hi; have hi := Nat.lt_of_lt_of_le hi (show _ ≤ 3 from Nat.le_refl 3); rcases (show i = 0 ∨ i = 1 ∨ i = 2 by omega) with rfl | rfl | rfl <;> rfl)))
      · rw [if_neg h7] at fin
        repeat
          conv => whnf
          first
            | (with_reducible refine qS ?_ ?_ ?_
               · exact rfl
               · exact rfl)
            | with_reducible refine qB ?_
            | (with_reducible refine qI ?_ ?_
               · omega)
            | (with_reducible refine qDT ?_ ?_
               · omega)
            | (with_reducible refine qDF ?_ ?_
               · omega)
            | (with_reducible refine qNT ?_ ?_
               · omega)
            | (with_reducible refine qNF ?_ ?_
               · omega)
            | (with_reducible refine qU8 ?_ ?_
               · omega)
            | (with_reducible refine qU32 ?_ ?_
               · omega)
        conv => whnf
        rw [show ((freeN G i : Nat) : Int) = ((freeN G (i + 1) : Nat) : Int) by omega]
        refine ⟨i + 1, ⟨by omega, by omega⟩, ?_⟩
        conv => whnf
        refine Le.id rfl ?_ ?_
        all_goals (repeat' (first
           | exact leT_empty
           | exact trivial
           | exact rfl
           | exact .inl rfl
           | exact .inr rfl
           | exact .inr ⟨rfl, rfl⟩
           | exact Nat.le_refl _
           | exact Nat.zero_le _
           | exact (fun _ _ => rfl)
           | assumption
           | refine And.intro ?_ ?_
           | (intro i hi; exact absurd hi (Nat.not_lt_zero i))
           | (intro i hi; have hi := Nat.lt_of_lt_of_le hi (show _ ≤ 1 from Nat.le_refl 1); obtain rfl : i = 0 := (by omega); rfl)
           | (intro i hi; have hi := Nat.lt_of_lt_of_le hi (show _ ≤ 2 from Nat.le_refl 2); rcases (show i = 0 ∨ i = 1 by omega) with rfl | rfl <;> rfl)
           | (intro i hi; have hi := Nat.lt_of_lt_of_le hi (show _ ≤ 3 from Nat.le_refl 3); rcases (show i = 0 ∨ i = 1 ∨ i = 2 by omega) with rfl | rfl | rfl <;> rfl)))
    · have ev : G i = 45 := by
        rw [hGa i]
        unfold kindAt
        rw [if_neg h6]
        rfl
      rw [if_pos (.inl ev)] at fin
      repeat
        conv => whnf
        first
          | (with_reducible refine qS ?_ ?_ ?_
             · exact rfl
             · exact rfl)
          | with_reducible refine qB ?_
          | (with_reducible refine qI ?_ ?_
             · omega)
          | (with_reducible refine qDT ?_ ?_
             · omega)
          | (with_reducible refine qDF ?_ ?_
             · omega)
          | (with_reducible refine qNT ?_ ?_
             · omega)
          | (with_reducible refine qNF ?_ ?_
             · omega)
          | (with_reducible refine qU8 ?_ ?_
             · omega)
          | (with_reducible refine qU32 ?_ ?_
             · omega)
      conv => whnf
      rw [tn, ebt]
      repeat
        conv => whnf
        first
          | (with_reducible refine qS ?_ ?_ ?_
             · exact rfl
             · exact rfl)
          | with_reducible refine qB ?_
          | (with_reducible refine qI ?_ ?_
             · omega)
          | (with_reducible refine qDT ?_ ?_
             · omega)
          | (with_reducible refine qDF ?_ ?_
             · omega)
          | (with_reducible refine qNT ?_ ?_
             · omega)
          | (with_reducible refine qNF ?_ ?_
             · omega)
          | (with_reducible refine qU8 ?_ ?_
             · omega)
          | (with_reducible refine qU32 ?_ ?_
             · omega)
      conv => whnf
      rw [show ((freeN G i : Nat) : Int) + 1 = ((freeN G (i + 1) : Nat) : Int) by omega]
      refine ⟨i + 1, ⟨by omega, by omega⟩, ?_⟩
      conv => whnf
      refine Le.id rfl ?_ ?_
      all_goals (repeat' (first
         | exact leT_empty
         | exact trivial
         | exact rfl
         | exact .inl rfl
         | exact .inr rfl
         | exact .inr ⟨rfl, rfl⟩
         | exact Nat.le_refl _
         | exact Nat.zero_le _
         | exact (fun _ _ => rfl)
         | assumption
         | refine And.intro ?_ ?_
         | (intro i hi; exact absurd hi (Nat.not_lt_zero i))
         | (intro i hi; have hi := Nat.lt_of_lt_of_le hi (show _ ≤ 1 from Nat.le_refl 1); obtain rfl : i = 0 := (by omega); rfl)
         | (intro i hi; have hi := Nat.lt_of_lt_of_le hi (show _ ≤ 2 from Nat.le_refl 2); rcases (show i = 0 ∨ i = 1 by omega) with rfl | rfl <;> rfl)
         | (intro i hi; have hi := Nat.lt_of_lt_of_le hi (show _ ≤ 3 from Nat.le_refl 3); rcases (show i = 0 ∨ i = 1 ∨ i = 2 by omega) with rfl | rfl | rfl <;> rfl)))
  · rw [if_neg (by omega)] at eo
    repeat
      conv => whnf
      first
        | (with_reducible refine qS ?_ ?_ ?_
           · exact rfl
           · exact rfl)
        | with_reducible refine qB ?_
        | (with_reducible refine qI ?_ ?_
           · omega)
        | (with_reducible refine qDT ?_ ?_
           · omega)
        | (with_reducible refine qDF ?_ ?_
           · omega)
        | (with_reducible refine qNT ?_ ?_
           · omega)
        | (with_reducible refine qNF ?_ ?_
           · omega)
        | (with_reducible refine qU8 ?_ ?_
           · omega)
        | (with_reducible refine qU32 ?_ ?_
           · omega)
    conv => whnf
    try rw [za]
    repeat
      conv => whnf
      first
        | (with_reducible refine qS ?_ ?_ ?_
           · exact rfl
           · exact rfl)
        | with_reducible refine qB ?_
        | (with_reducible refine qI ?_ ?_
           · omega)
        | (with_reducible refine qDT ?_ ?_
           · omega)
        | (with_reducible refine qDF ?_ ?_
           · omega)
        | (with_reducible refine qNT ?_ ?_
           · omega)
        | (with_reducible refine qNF ?_ ?_
           · omega)
        | (with_reducible refine qU8 ?_ ?_
           · omega)
        | (with_reducible refine qU32 ?_ ?_
           · omega)
    conv => whnf
    try rw [za]
    repeat
      conv => whnf
      first
        | (with_reducible refine qS ?_ ?_ ?_
           · exact rfl
           · exact rfl)
        | with_reducible refine qB ?_
        | (with_reducible refine qI ?_ ?_
           · omega)
        | (with_reducible refine qDT ?_ ?_
           · omega)
        | (with_reducible refine qDF ?_ ?_
           · omega)
        | (with_reducible refine qNT ?_ ?_
           · omega)
        | (with_reducible refine qNF ?_ ?_
           · omega)
        | (with_reducible refine qU8 ?_ ?_
           · omega)
        | (with_reducible refine qU32 ?_ ?_
           · omega)
    conv => whnf
    try rw [za]
    repeat
      conv => whnf
      first
        | (with_reducible refine qS ?_ ?_ ?_
           · exact rfl
           · exact rfl)
        | with_reducible refine qB ?_
        | (with_reducible refine qI ?_ ?_
           · omega)
        | (with_reducible refine qDT ?_ ?_
           · omega)
        | (with_reducible refine qDF ?_ ?_
           · omega)
        | (with_reducible refine qNT ?_ ?_
           · omega)
        | (with_reducible refine qNF ?_ ?_
           · omega)
        | (with_reducible refine qU8 ?_ ?_
           · omega)
        | (with_reducible refine qU32 ?_ ?_
           · omega)
    conv => whnf
    refine at1_use (m := m) (c := c) hm hc ha ?_
    repeat
      conv => whnf
      first
        | (with_reducible refine qS ?_ ?_ ?_
           · exact rfl
           · exact rfl)
        | with_reducible refine qB ?_
        | (with_reducible refine qI ?_ ?_
           · omega)
        | (with_reducible refine qDT ?_ ?_
           · omega)
        | (with_reducible refine qDF ?_ ?_
           · omega)
        | (with_reducible refine qNT ?_ ?_
           · omega)
        | (with_reducible refine qNF ?_ ?_
           · omega)
        | (with_reducible refine qU8 ?_ ?_
           · omega)
        | (with_reducible refine qU32 ?_ ?_
           · omega)
    conv => whnf
    refine owner_use (m := m) (c := c) hm hc ha ?_
    rw [eo]
    repeat
      conv => whnf
      first
        | (with_reducible refine qS ?_ ?_ ?_
           · exact rfl
           · exact rfl)
        | with_reducible refine qB ?_
        | (with_reducible refine qI ?_ ?_
           · omega)
        | (with_reducible refine qDT ?_ ?_
           · omega)
        | (with_reducible refine qDF ?_ ?_
           · omega)
        | (with_reducible refine qNT ?_ ?_
           · omega)
        | (with_reducible refine qNF ?_ ?_
           · omega)
        | (with_reducible refine qU8 ?_ ?_
           · omega)
        | (with_reducible refine qU32 ?_ ?_
           · omega)
    conv => whnf
    refine checkR_use (m := m) (c := c) hm ?_
    repeat
      conv => whnf
      first
        | (with_reducible refine qS ?_ ?_ ?_
           · exact rfl
           · exact rfl)
        | with_reducible refine qB ?_
        | (with_reducible refine qI ?_ ?_
           · omega)
        | (with_reducible refine qDT ?_ ?_
           · omega)
        | (with_reducible refine qDF ?_ ?_
           · omega)
        | (with_reducible refine qNT ?_ ?_
           · omega)
        | (with_reducible refine qNF ?_ ?_
           · omega)
        | (with_reducible refine qU8 ?_ ?_
           · omega)
        | (with_reducible refine qU32 ?_ ?_
           · omega)
    conv => whnf
    refine kinds_use (m := m) (c := c) hm hc ha ?_
    by_cases h : (chk m).2 = 0
    rotate_left
    · rw [show kindsS m a = .empty from if_neg h]
      repeat
        conv => whnf
        first
          | (with_reducible refine qS ?_ ?_ ?_
             · exact rfl
             · exact rfl)
          | with_reducible refine qB ?_
          | (with_reducible refine qI ?_ ?_
             · omega)
          | (with_reducible refine qDT ?_ ?_
             · omega)
          | (with_reducible refine qDF ?_ ?_
             · omega)
          | (with_reducible refine qNT ?_ ?_
             · omega)
          | (with_reducible refine qNF ?_ ?_
             · omega)
          | (with_reducible refine qU8 ?_ ?_
             · omega)
          | (with_reducible refine qU32 ?_ ?_
             · omega)
      conv => whnf
      refine free_use (m := m) (c := c) hm hc ha ?_
      rw [show free1 m a = 0 from if_neg h]
      repeat
        conv => whnf
        first
          | (with_reducible refine qS ?_ ?_ ?_
             · exact rfl
             · exact rfl)
          | with_reducible refine qB ?_
          | (with_reducible refine qI ?_ ?_
             · omega)
          | (with_reducible refine qDT ?_ ?_
             · omega)
          | (with_reducible refine qDF ?_ ?_
             · omega)
          | (with_reducible refine qNT ?_ ?_
             · omega)
          | (with_reducible refine qNF ?_ ?_
             · omega)
          | (with_reducible refine qU8 ?_ ?_
             · omega)
          | (with_reducible refine qU32 ?_ ?_
             · omega)
      conv => whnf
      exact rfl
    have hP := pass_of h
    have hL := hP.is.head
    unfold headP at hL
    obtain ⟨L, hLn⟩ : ∃ L : Nat, m.length = L := ⟨m.length.toNat, by omega⟩
    have ek : kindsS m a = strF L (fun u => sgn (kindAt m a u)) := by unfold kindsS; rw [if_pos h, hLn]; rfl
    have ef : free1 m a = (freeN (fun u => sgn (kindAt m a u)) L : Nat) := by unfold free1; rw [if_pos h, hLn]; rfl
    have hF : ∀ i, i < L → 0 ≤ sgn (kindAt m a i) ∧ sgn (kindAt m a i) ≤ 255 := fun i _ => by have := sgn_bd (kindAt m a i); omega
    rw [ek]
    generalize hG : (fun u : Nat => sgn (kindAt m a u)) = G at *
    have hGa : ∀ i : Nat, G i = sgn (kindAt m a i) := fun i => by rw [← hG]
    have hF : ∀ i, i < L → 0 ≤ G i ∧ G i ≤ 255 := fun i hi => by rw [hGa i]; exact hF i hi
    have hsz : (strF L G).size = L := strF_size L G
    have hfn := freeN_le G
    have e1 : ∀ u : Int, at1 m a u = at0 m a u := fun u => if_pos h
    repeat
      conv => whnf
      first
        | (with_reducible refine qS ?_ ?_ ?_
           · exact rfl
           · exact rfl)
        | with_reducible refine qB ?_
        | (with_reducible refine qI ?_ ?_
           · omega)
        | (with_reducible refine qDT ?_ ?_
           · omega)
        | (with_reducible refine qDF ?_ ?_
           · omega)
        | (with_reducible refine qNT ?_ ?_
           · omega)
        | (with_reducible refine qNF ?_ ?_
           · omega)
        | (with_reducible refine qU8 ?_ ?_
           · omega)
        | (with_reducible refine qU32 ?_ ?_
           · omega)
    conv => whnf
    refine .rd (fun i : Nat => i ≤ L) (fun i => [(12, iv .i64 (freeN G i : Nat)), (13, iv .i64 i)]) (fun i => L - i) 0 (Nat.zero_le _) ?_ (fun i hi => ?_)
    · conv => whnf
      refine Le.id rfl ?_ ?_
      all_goals (repeat' (first
         | exact leT_empty
         | exact trivial
         | exact rfl
         | exact .inl rfl
         | exact .inr rfl
         | exact .inr ⟨rfl, rfl⟩
         | exact Nat.le_refl _
         | exact Nat.zero_le _
         | exact (fun _ _ => rfl)
         | assumption
         | refine And.intro ?_ ?_
         | (intro i hi; exact absurd hi (Nat.not_lt_zero i))
         | (intro i hi; have hi := Nat.lt_of_lt_of_le hi (show _ ≤ 1 from Nat.le_refl 1); obtain rfl : i = 0 := (by omega); rfl)
         | (intro i hi; have hi := Nat.lt_of_lt_of_le hi (show _ ≤ 2 from Nat.le_refl 2); rcases (show i = 0 ∨ i = 1 by omega) with rfl | rfl <;> rfl)
         | (intro i hi; have hi := Nat.lt_of_lt_of_le hi (show _ ≤ 3 from Nat.le_refl 3); rcases (show i = 0 ∨ i = 1 ∨ i = 2 by omega) with rfl | rfl | rfl <;> rfl)))
    have hfi := hfn i
    repeat
      conv => whnf
      first
        | (with_reducible refine qS ?_ ?_ ?_
           · exact rfl
           · exact rfl)
        | with_reducible refine qB ?_
        | (with_reducible refine qI ?_ ?_
           · omega)
        | (with_reducible refine qDT ?_ ?_
           · omega)
        | (with_reducible refine qDF ?_ ?_
           · omega)
        | (with_reducible refine qNT ?_ ?_
           · omega)
        | (with_reducible refine qNF ?_ ?_
           · omega)
        | (with_reducible refine qU8 ?_ ?_
           · omega)
        | (with_reducible refine qU32 ?_ ?_
           · omega)
    conv => whnf
    refine cD (fun h5 => ?_) (fun h5 => ?_)
    rotate_left
    · obtain rfl : i = L := by omega
      repeat
        conv => whnf
        first
          | (with_reducible refine qS ?_ ?_ ?_
             · exact rfl
             · exact rfl)
          | with_reducible refine qB ?_
          | (with_reducible refine qI ?_ ?_
             · omega)
          | (with_reducible refine qDT ?_ ?_
             · omega)
          | (with_reducible refine qDF ?_ ?_
             · omega)
          | (with_reducible refine qNT ?_ ?_
             · omega)
          | (with_reducible refine qNF ?_ ?_
             · omega)
          | (with_reducible refine qU8 ?_ ?_
             · omega)
          | (with_reducible refine qU32 ?_ ?_
             · omega)
      conv => whnf
      refine free_use (m := m) (c := c) hm hc ha ?_
      rw [ef]
      repeat
        conv => whnf
        first
          | (with_reducible refine qS ?_ ?_ ?_
             · exact rfl
             · exact rfl)
          | with_reducible refine qB ?_
          | (with_reducible refine qI ?_ ?_
             · omega)
          | (with_reducible refine qDT ?_ ?_
             · omega)
          | (with_reducible refine qDF ?_ ?_
             · omega)
          | (with_reducible refine qNT ?_ ?_
             · omega)
          | (with_reducible refine qNF ?_ ?_
             · omega)
          | (with_reducible refine qU8 ?_ ?_
             · omega)
          | (with_reducible refine qU32 ?_ ?_
             · omega)
      conv => whnf
      exact congrArg bv (decide_eq_true rfl)
    have hb := at0_bd m a i
    have ebt := strF_bt hF (i := i) (by omega)
    have hg70 : G i ≤ 70 := by rw [hGa i]; exact (sgn_bd _).2
    repeat
      conv => whnf
      first
        | (with_reducible refine qS ?_ ?_ ?_
           · exact rfl
           · exact rfl)
        | with_reducible refine qB ?_
        | (with_reducible refine qI ?_ ?_
           · omega)
        | (with_reducible refine qDT ?_ ?_
           · omega)
        | (with_reducible refine qDF ?_ ?_
           · omega)
        | (with_reducible refine qNT ?_ ?_
           · omega)
        | (with_reducible refine qNF ?_ ?_
           · omega)
        | (with_reducible refine qU8 ?_ ?_
           · omega)
        | (with_reducible refine qU32 ?_ ?_
           · omega)
    conv => whnf
    refine at1_use (m := m) (c := c) hm hc ha ?_
    rw [e1 (i : Int)]
    have fin : freeN G (i + 1) = freeN G i + if G i = 45 ∨ G i = 70 then 1 else 0 := rfl
    by_cases h6 : 0 ≤ at0 m a i
    · have hw := hP.is.W (at0 m a i).toNat (by omega)
      unfold winP at hw
      have ev : bt ⟨#[69, 65, 70]⟩ ((m.W (at0 m a i).toNat).kind - 1).toNat = G i := by
        rw [hGa i]
        unfold kindAt
        rw [if_pos h6]
        exact bt_eaf (by omega) (by omega)
      repeat
        conv => whnf
        first
          | (with_reducible refine qS ?_ ?_ ?_
             · exact rfl
             · exact rfl)
          | with_reducible refine qB ?_
          | (with_reducible refine qI ?_ ?_
             · omega)
          | (with_reducible refine qDT ?_ ?_
             · omega)
          | (with_reducible refine qDF ?_ ?_
             · omega)
          | (with_reducible refine qNT ?_ ?_
             · omega)
          | (with_reducible refine qNF ?_ ?_
             · omega)
          | (with_reducible refine qU8 ?_ ?_
             · omega)
          | (with_reducible refine qU32 ?_ ?_
             · omega)
      conv => whnf
      rw [za]
      repeat
        conv => whnf
        first
          | (with_reducible refine qS ?_ ?_ ?_
             · exact rfl
             · exact rfl)
          | with_reducible refine qB ?_
          | (with_reducible refine qI ?_ ?_
             · omega)
          | (with_reducible refine qDT ?_ ?_
             · omega)
          | (with_reducible refine qDF ?_ ?_
             · omega)
          | (with_reducible refine qNT ?_ ?_
             · omega)
          | (with_reducible refine qNF ?_ ?_
             · omega)
          | (with_reducible refine qU8 ?_ ?_
             · omega)
          | (with_reducible refine qU32 ?_ ?_
             · omega)
      conv => whnf
      refine cDT ⟨by omega, by show (m.W (at0 m a i).toNat).kind - 1 < 3; omega⟩ ?_
      rw [ev]
      repeat
        conv => whnf
        first
          | (with_reducible refine qS ?_ ?_ ?_
             · exact rfl
             · exact rfl)
          | with_reducible refine qB ?_
          | (with_reducible refine qI ?_ ?_
             · omega)
          | (with_reducible refine qDT ?_ ?_
             · omega)
          | (with_reducible refine qDF ?_ ?_
             · omega)
          | (with_reducible refine qNT ?_ ?_
             · omega)
          | (with_reducible refine qNF ?_ ?_
             · omega)
          | (with_reducible refine qU8 ?_ ?_
             · omega)
          | (with_reducible refine qU32 ?_ ?_
             · omega)
      conv => whnf
      rw [tn, ebt]
      by_cases h7 : G i = 45 ∨ G i = 70
      · rw [if_pos h7] at fin
        rcases h7 with h7 | h7
        all_goals
          repeat
            conv => whnf
            first
              | (with_reducible refine qS ?_ ?_ ?_
                 · exact rfl
                 · exact rfl)
              | with_reducible refine qB ?_
              | (with_reducible refine qI ?_ ?_
                 · omega)
              | (with_reducible refine qDT ?_ ?_
                 · omega)
              | (with_reducible refine qDF ?_ ?_
                 · omega)
              | (with_reducible refine qNT ?_ ?_
                 · omega)
              | (with_reducible refine qNF ?_ ?_
                 · omega)
              | (with_reducible refine qU8 ?_ ?_
                 · omega)
              | (with_reducible refine qU32 ?_ ?_
                 · omega)
          conv => whnf
          rw [show ((freeN G i : Nat) : Int) + 1 = ((freeN G (i + 1) : Nat) : Int) by omega]
          refine ⟨i + 1, ⟨by omega, by omega⟩, ?_⟩
          conv => whnf
          refine Le.id rfl ?_ ?_
          all_goals (repeat' (first
             | exact leT_empty
             | exact trivial
             | exact rfl
             | exact .inl rfl
             | exact .inr rfl
             | exact .inr ⟨rfl, rfl⟩
             | exact Nat.le_refl _
             | exact Nat.zero_le _
             | exact (fun _ _ => rfl)
             | assumption
             | refine And.intro ?_ ?_
             | (intro i hi; exact absurd hi (Nat.not_lt_zero i))
             | (intro i hi; have hi := Nat.lt_of_lt_of_le hi (show _ ≤ 1 from Nat.le_refl 1); obtain rfl : i = 0 := (by omega); rfl)
             | (intro i hi; have hi := Nat.lt_of_lt_of_le hi (show _ ≤ 2 from Nat.le_refl 2); rcases (show i = 0 ∨ i = 1 by omega) with rfl | rfl <;> rfl)
             | (intro i hi; have hi := Nat.lt_of_lt_of_le hi (show _ ≤ 3 from Nat.le_refl 3); rcases (show i = 0 ∨ i = 1 ∨ i = 2 by omega) with rfl | rfl | rfl <;> rfl)))
      · rw [if_neg h7] at fin
        repeat
          conv => whnf
          first
            | (with_reducible refine qS ?_ ?_ ?_
               · exact rfl
               · exact rfl)
            | with_reducible refine qB ?_
            | (with_reducible refine qI ?_ ?_
               · omega)
            | (with_reducible refine qDT ?_ ?_
               · omega)
            | (with_reducible refine qDF ?_ ?_
               · omega)
            | (with_reducible refine qNT ?_ ?_
               · omega)
            | (with_reducible refine qNF ?_ ?_
               · omega)
            | (with_reducible refine qU8 ?_ ?_
               · omega)
            | (with_reducible refine qU32 ?_ ?_
               · omega)
        conv => whnf
        rw [show ((freeN G i : Nat) : Int) = ((freeN G (i + 1) : Nat) : Int) by omega]
        refine ⟨i + 1, ⟨by omega, by omega⟩, ?_⟩
        conv => whnf
        refine Le.id rfl ?_ ?_
        all_goals (repeat' (first
           | exact leT_empty
           | exact trivial
           | exact rfl
           | exact .inl rfl
           | exact .inr rfl
           | exact .inr ⟨rfl, rfl⟩
           | exact Nat.le_refl _
           | exact Nat.zero_le _
           | exact (fun _ _ => rfl)
           | assumption
           | refine And.intro ?_ ?_
           | (intro i hi; exact absurd hi (Nat.not_lt_zero i))
           | (intro i hi; have hi := Nat.lt_of_lt_of_le hi (show _ ≤ 1 from Nat.le_refl 1); obtain rfl : i = 0 := (by omega); rfl)
           | (intro i hi; have hi := Nat.lt_of_lt_of_le hi (show _ ≤ 2 from Nat.le_refl 2); rcases (show i = 0 ∨ i = 1 by omega) with rfl | rfl <;> rfl)
           | (intro i hi; have hi := Nat.lt_of_lt_of_le hi (show _ ≤ 3 from Nat.le_refl 3); rcases (show i = 0 ∨ i = 1 ∨ i = 2 by omega) with rfl | rfl | rfl <;> rfl)))
    · have ev : G i = 45 := by
        rw [hGa i]
        unfold kindAt
        rw [if_neg h6]
        rfl
      rw [if_pos (.inl ev)] at fin
      repeat
        conv => whnf
        first
          | (with_reducible refine qS ?_ ?_ ?_
             · exact rfl
             · exact rfl)
          | with_reducible refine qB ?_
          | (with_reducible refine qI ?_ ?_
             · omega)
          | (with_reducible refine qDT ?_ ?_
             · omega)
          | (with_reducible refine qDF ?_ ?_
             · omega)
          | (with_reducible refine qNT ?_ ?_
             · omega)
          | (with_reducible refine qNF ?_ ?_
             · omega)
          | (with_reducible refine qU8 ?_ ?_
             · omega)
          | (with_reducible refine qU32 ?_ ?_
             · omega)
      conv => whnf
      rw [tn, ebt]
      repeat
        conv => whnf
        first
          | (with_reducible refine qS ?_ ?_ ?_
             · exact rfl
             · exact rfl)
          | with_reducible refine qB ?_
          | (with_reducible refine qI ?_ ?_
             · omega)
          | (with_reducible refine qDT ?_ ?_
             · omega)
          | (with_reducible refine qDF ?_ ?_
             · omega)
          | (with_reducible refine qNT ?_ ?_
             · omega)
          | (with_reducible refine qNF ?_ ?_
             · omega)
          | (with_reducible refine qU8 ?_ ?_
             · omega)
          | (with_reducible refine qU32 ?_ ?_
             · omega)
      conv => whnf
      rw [show ((freeN G i : Nat) : Int) + 1 = ((freeN G (i + 1) : Nat) : Int) by omega]
      refine ⟨i + 1, ⟨by omega, by omega⟩, ?_⟩
      conv => whnf
      refine Le.id rfl ?_ ?_
      all_goals (repeat' (first
         | exact leT_empty
         | exact trivial
         | exact rfl
         | exact .inl rfl
         | exact .inr rfl
         | exact .inr ⟨rfl, rfl⟩
         | exact Nat.le_refl _
         | exact Nat.zero_le _
         | exact (fun _ _ => rfl)
         | assumption
         | refine And.intro ?_ ?_
         | (intro i hi; exact absurd hi (Nat.not_lt_zero i))
         | (intro i hi; have hi := Nat.lt_of_lt_of_le hi (show _ ≤ 1 from Nat.le_refl 1); obtain rfl : i = 0 := (by omega); rfl)
         | (intro i hi; have hi := Nat.lt_of_lt_of_le hi (show _ ≤ 2 from Nat.le_refl 2); rcases (show i = 0 ∨ i = 1 by omega) with rfl | rfl <;> rfl)
         | (intro i hi; have hi := Nat.lt_of_lt_of_le hi (show _ ≤ 3 from Nat.le_refl 3); rcases (show i = 0 ∨ i = 1 ∨ i = 2 by omega) with rfl | rfl | rfl <;> rfl)))
theorem cl_ok : ∃ cl : Cl, ClOk Try.prog cl ∧ ∀ D, OkAll pas D → cl F.law16_WindowTells [] (xsP 0 pas D) (hsP pas D) fun x _ => x = bv true := by
  refine ⟨clRunX 7 tt outsL16 tabL 3, clRunX_ok (d := 7) ttOk outsL16_ok tabL_ok 3, fun D hD => ?_⟩
  match D, hD with
  | [d0, d1, d2], hD =>
    obtain ⟨h0, h1, h2, _⟩ := hD
    obtain ⟨m, c, hm, hc, e0, e1⟩ := open_mat h0
    obtain ⟨a, rfl, ha⟩ := one_i64 h1
    obtain ⟨b, rfl, _⟩ := one_i64 h2
    have hw := walk m c a b hm hc ha
    show clRunX 7 tt outsL16 tabL 3 16 [] (xP 0 (.agg matSh) d0 :: _) (hs matSh d0 ++ _) _
    rw [e0, e1]
    exact hw
theorem own' : ownKnob Try.prog.godebug = none := own
theorem lifted (os : Os) (started : os.Started) (H : Type) (enc : TypeId × Value → H) :
    ReturnsInHanded {} Try.checked os 16 .any (Rows.windowTellsSpec.pre6 enc Try.prog Try.f16 Rows.windowTellsRow.domain false) (Rows.windowTellsSpec.post enc Try.prog Try.f16 false true false false) := by
  refine returnsInHanded_of_change (C := Try.checked) own started (by kernel_rfl) Try.func16
    (ChangeSpec.witness6 (enc := enc) (C := Try.checked) false ⟨#[], #[.agg #[.int .i64 0, .int .i64 0, .int .i64 0, .int .i64 0, .int .i64 0, .int .i64 0, .int .i64 0, .int .u32 0, .slice none 0 0, .slice none 0 0, .slice none 0 0], .int .i64 0, .int .i64 0], []⟩ 8 (by kernel_rfl) (by kernel_rfl) (by kernel_rfl) (by kernel_rfl)) ?_
  intro W base args ds gs before hval hW _ _
  obtain ⟨cl, hc, hw⟩ := cl_ok
  exact row_of (ps := pas) (by kernel_rfl) (by kernel_rfl) rfl rfl (fun ds h => by
    match ds, h with
    | [_, _, _], _ => rfl) hval hW hc hw
theorem closed : joinedFacts Try.prog 16 Try.f16 Rows.windowTellsSpec Rows.windowTellsRow = true := by
  simp only [joinedFacts, Bool.and_eq_true]
  repeat' apply And.intro
  all_goals first
    | with_reducible exact mayEnter_ok
    | with_reducible exact laid_ok
    | with_reducible exact rowed_ok
    | ((with_reducible refine beq_r lifts_ok ?_); rfl)
    | ((with_reducible refine beq_l make_ok ?_); kernel_rfl)
    | (as_aux_lemma => kernel_rfl)
theorem named : Try.prog.funcNamed Rows.windowTellsRow.func = some 16 := by kernel_rfl
theorem inst : Try.f16.isInstance Try.prog Rows.windowTellsRow.origin Rows.windowTellsRow.targs := of_decide_eq_true (by kernel_rfl)
theorem wrap : Try.f16.isWrapper Try.prog Rows.windowTellsRow.wrapper Rows.windowTellsRow.mainSum := by
  unfold Func.isWrapper; first | (rw [if_pos (by decide +kernel)]; kernel_rfl) | (rw [if_neg (by decide +kernel)]; exact ⟨rfl, rfl⟩)
theorem over : Rows.windowTellsRow.holds Try.pinned (OpenSpec.ofChange Rows.windowTellsSpec) :=
  OpenClaim.holds_of_wide 16 Try.f16 rfl rfl rfl rfl rfl rfl rfl ⟨rfl, rfl, rfl, rfl, rfl⟩ rfl rfl rfl rfl rfl named Try.func16 closed inst wrap
    (fun os started H enc _ => lifted os started H enc)
/-- The statement. -/
theorem proved : Rows.WindowTellsSaid := over
#print axioms proved
end Go.Proofs.Ytbdifadabipfiaa.windowTells
