/- WindowSums: units of all windows of a cycle, and those that have none, are all units: true at every input; no conditions. -/
import Derived.Test.YtbdifadabipfiaaLaU
import Derived.Test.YtbdifadabipfiaaPuC
namespace Go.Proofs.Ytbdifadabipfiaa.windowSums
open Go Go.Eng Go.Proofs Go.Proofs.Ytbdifadabipfiaa.Tb Go.Proofs.Ytbdifadabipfiaa.Co Go.Proofs.Ytbdifadabipfiaa.La Go.Pu
set_option maxRecDepth 100000
set_option maxHeartbeats 4000000
noncomputable abbrev tabL : List (FuncId × Eng.Fn) := [(F.law16_WindowSums, fn.law16_WindowSums u0), (F.law16_few, fn.law16_few u0)]
theorem tabL_ok {d : Nat} : TabOk d tabL tt := .cons (ok.law16_WindowSums u0) (.cons (ok.law16_few u0) (TabOk.nil))
abbrev pas : List Pa := [.agg matSh, .one u8]
theorem strEq_self (a : ByteArray) : strEq a a = true := decide_eq_true rfl
theorem walk (m : Mat) (c : Caps) (a : Int) (hm : m.Ok) (hc : capsOk m c) (ha : 0 ≤ a ∧ a ≤ 255) : clRunX 7 tt outsL16 tabL 3 F.law16_WindowSums [] [matT m c 0 1 2, iv .u8 a] (matH m []) (fun x _ => x = bv true) := by
  have hnW := hm.nW
  have hnG := hm.nG
  conv => whnf
  refine true_use ?_
  conv => whnf
  refine cD (fun h1 => ?_) (fun h1 => ?_)
  rotate_left
  · conv => whnf
    exact rfl
  conv => whnf
  refine cD (fun h2 => ?_) (fun h2 => ?_)
  rotate_left
  · conv => whnf
    exact rfl
  conv => whnf
  refine cN (fun h3 => ?_) (fun h3 => ?_)
  · conv => whnf
    exact rfl
  repeat
    conv => whnf
    first
      | (with_reducible refine qS ?_ ?_ ?_
         · exact rfl
         · exact rfl)
      | with_reducible refine qB ?_
      | (with_reducible refine qI ?_ ?_
         · omega)
      | (with_reducible refine qDT ?_ ?_
         · omega)
      | (with_reducible refine qDF ?_ ?_
         · omega)
      | (with_reducible refine qNT ?_ ?_
         · omega)
      | (with_reducible refine qNF ?_ ?_
         · omega)
      | (with_reducible refine qU8 ?_ ?_
         · omega)
      | (with_reducible refine qU32 ?_ ?_
         · omega)
  conv => whnf
  refine checkR_use (m := m) (c := c) hm ?_
  by_cases h : (chk m).2 = 0
  rotate_left
  · repeat
      conv => whnf
      first
        | (with_reducible refine qS ?_ ?_ ?_
           · exact rfl
           · exact rfl)
        | with_reducible refine qB ?_
        | (with_reducible refine qI ?_ ?_
           · omega)
        | (with_reducible refine qDT ?_ ?_
           · omega)
        | (with_reducible refine qDF ?_ ?_
           · omega)
        | (with_reducible refine qNT ?_ ?_
           · omega)
        | (with_reducible refine qNF ?_ ?_
           · omega)
        | (with_reducible refine qU8 ?_ ?_
           · omega)
        | (with_reducible refine qU32 ?_ ?_
           · omega)
    conv => whnf
    refine at1_use (m := m) (c := c) hm hc ⟨by decide, by decide⟩ ?_
    rw [show at1 m 0 50 = -1 from if_neg h]
    repeat
      conv => whnf
      first
        | (with_reducible refine qS ?_ ?_ ?_
           · exact rfl
           · exact rfl)
        | with_reducible refine qB ?_
        | (with_reducible refine qI ?_ ?_
           · omega)
        | (with_reducible refine qDT ?_ ?_
           · omega)
        | (with_reducible refine qDF ?_ ?_
           · omega)
        | (with_reducible refine qNT ?_ ?_
           · omega)
        | (with_reducible refine qNF ?_ ?_
           · omega)
        | (with_reducible refine qU8 ?_ ?_
           · omega)
        | (with_reducible refine qU32 ?_ ?_
           · omega)
    conv => whnf
    exact rfl
  have hP := pass_of h
  have hL := hP.is.head
  unfold headP power at hL
  obtain ⟨L, hLn⟩ : ∃ L : Nat, m.length = L := ⟨m.length.toNat, by omega⟩
  have hn0 : 0 ≤ a.tmod m.cycles ∧ a.tmod m.cycles < m.cycles := by rw [Int.tmod_eq_emod_of_nonneg ha.1]; exact ⟨Int.emod_nonneg _ (by omega), Int.emod_lt_of_pos _ (by omega)⟩
  repeat
    conv => whnf
    first
      | (with_reducible refine qS ?_ ?_ ?_
         · exact rfl
         · exact rfl)
      | with_reducible refine qB ?_
      | (with_reducible refine qI ?_ ?_
         · omega)
      | (with_reducible refine qDT ?_ ?_
         · omega)
      | (with_reducible refine qDF ?_ ?_
         · omega)
      | (with_reducible refine qNT ?_ ?_
         · omega)
      | (with_reducible refine qNF ?_ ?_
         · omega)
      | (with_reducible refine qU8 ?_ ?_
         · omega)
      | (with_reducible refine qU32 ?_ ?_
         · omega)
  conv => whnf
  generalize a.tmod m.cycles = n at *
  have ek : kindsS m n = strF L (fun u => sgn (kindAt m n u)) := by unfold kindsS; rw [if_pos h, hLn]; rfl
  have ef : free1 m n = (freeN (fun u => sgn (kindAt m n u)) L : Nat) := by unfold free1; rw [if_pos h, hLn]; rfl
  have hfc := free_cnt hP hn0 L
  have hS := sumW_cnt hP hn0 hLn
  have hcl : ∀ k, cnt (fun u => anyB k fun i => busyB m n i u) L ≤ L := fun k => cnt_le _ _
  refine .rd (fun i : Nat => i ≤ m.nW) (fun i => [(8, iv .i64 (sumW m n i)), (9, iv .i64 i)]) (fun i => m.nW - i) 0 (Nat.zero_le _) ?_ (fun i hi => ?_)
  · conv => whnf
    refine Le.id rfl ?_ ?_
    all_goals (repeat' (first
       | exact leT_empty
       | exact trivial
       | exact rfl
       | exact .inl rfl
       | exact .inr rfl
       | exact .inr ⟨rfl, rfl⟩
       | exact Nat.le_refl _
       | exact Nat.zero_le _
       | exact (fun _ _ => rfl)
       | assumption
       | refine And.intro ?_ ?_
       | (intro i hi; exact absurd hi (Nat.not_lt_zero i))
       | (intro i hi; have hi := Nat.lt_of_lt_of_le hi (show _ ≤ 1 from Nat.le_refl 1); obtain rfl : i = 0 := (by omega); rfl)
       | (intro i hi; have hi := Nat.lt_of_lt_of_le hi (show _ ≤ 2 from Nat.le_refl 2); rcases (show i = 0 ∨ i = 1 by omega) with rfl | rfl <;> rfl)
       | (intro i hi; have hi := Nat.lt_of_lt_of_le hi (show _ ≤ 3 from Nat.le_refl 3); rcases (show i = 0 ∨ i = 1 ∨ i = 2 by omega) with rfl | rfl | rfl <;> rfl)))
  have s1 := hS i hi
  have s2 := hcl i
  repeat
    conv => whnf
    first
      | (with_reducible refine qS ?_ ?_ ?_
         · exact rfl
         · exact rfl)
      | with_reducible refine qB ?_
      | (with_reducible refine qI ?_ ?_
         · omega)
      | (with_reducible refine qDT ?_ ?_
         · omega)
      | (with_reducible refine qDF ?_ ?_
         · omega)
      | (with_reducible refine qNT ?_ ?_
         · omega)
      | (with_reducible refine qNF ?_ ?_
         · omega)
      | (with_reducible refine qU8 ?_ ?_
         · omega)
      | (with_reducible refine qU32 ?_ ?_
         · omega)
  conv => whnf
  refine cD (fun h5 => ?_) (fun h5 => ?_)
  · have hw := hP.is.W i (by omega)
    unfold winP power at hw
    have e3 : sumW m n (i + 1) = if n.tmod (m.W i).rep = (m.W i).cyc ∧ (m.W i).kind ≠ 3 then sumW m n i + (m.W i).en - (m.W i).st else sumW m n i := rfl
    repeat
      conv => whnf
      first
        | (with_reducible refine qS ?_ ?_ ?_
           · exact rfl
           · exact rfl)
        | with_reducible refine qB ?_
        | (with_reducible refine qI ?_ ?_
           · omega)
        | (with_reducible refine qDT ?_ ?_
           · omega)
        | (with_reducible refine qDF ?_ ?_
           · omega)
        | (with_reducible refine qNT ?_ ?_
           · omega)
        | (with_reducible refine qNF ?_ ?_
           · omega)
        | (with_reducible refine qU8 ?_ ?_
           · omega)
        | (with_reducible refine qU32 ?_ ?_
           · omega)
    conv => whnf
    try rw [zi i]
    repeat
      conv => whnf
      first
        | (with_reducible refine qS ?_ ?_ ?_
           · exact rfl
           · exact rfl)
        | with_reducible refine qB ?_
        | (with_reducible refine qI ?_ ?_
           · omega)
        | (with_reducible refine qDT ?_ ?_
           · omega)
        | (with_reducible refine qDF ?_ ?_
           · omega)
        | (with_reducible refine qNT ?_ ?_
           · omega)
        | (with_reducible refine qNF ?_ ?_
           · omega)
        | (with_reducible refine qU8 ?_ ?_
           · omega)
        | (with_reducible refine qU32 ?_ ?_
           · omega)
    conv => whnf
    refine cD (fun h6 => ?_) (fun h6 => ?_)
    · repeat
        conv => whnf
        first
          | (with_reducible refine qS ?_ ?_ ?_
             · exact rfl
             · exact rfl)
          | with_reducible refine qB ?_
          | (with_reducible refine qI ?_ ?_
             · omega)
          | (with_reducible refine qDT ?_ ?_
             · omega)
          | (with_reducible refine qDF ?_ ?_
             · omega)
          | (with_reducible refine qNT ?_ ?_
             · omega)
          | (with_reducible refine qNF ?_ ?_
             · omega)
          | (with_reducible refine qU8 ?_ ?_
             · omega)
          | (with_reducible refine qU32 ?_ ?_
             · omega)
      conv => whnf
      refine cN (fun h7 => ?_) (fun h7 => ?_)
      · rw [if_pos ⟨h6, h7⟩] at e3
        repeat
          conv => whnf
          first
            | (with_reducible refine qS ?_ ?_ ?_
               · exact rfl
               · exact rfl)
            | with_reducible refine qB ?_
            | (with_reducible refine qI ?_ ?_
               · omega)
            | (with_reducible refine qDT ?_ ?_
               · omega)
            | (with_reducible refine qDF ?_ ?_
               · omega)
            | (with_reducible refine qNT ?_ ?_
               · omega)
            | (with_reducible refine qNF ?_ ?_
               · omega)
            | (with_reducible refine qU8 ?_ ?_
               · omega)
            | (with_reducible refine qU32 ?_ ?_
               · omega)
        conv => whnf
        rw [← e3]
        refine ⟨i + 1, ⟨by omega, by omega⟩, ?_⟩
        conv => whnf
        refine Le.id rfl ?_ ?_
        all_goals (repeat' (first
           | exact leT_empty
           | exact trivial
           | exact rfl
           | exact .inl rfl
           | exact .inr rfl
           | exact .inr ⟨rfl, rfl⟩
           | exact Nat.le_refl _
           | exact Nat.zero_le _
           | exact (fun _ _ => rfl)
           | assumption
           | refine And.intro ?_ ?_
           | (intro i hi; exact absurd hi (Nat.not_lt_zero i))
           | (intro i hi; have hi := Nat.lt_of_lt_of_le hi (show _ ≤ 1 from Nat.le_refl 1); obtain rfl : i = 0 := (by omega); rfl)
           | (intro i hi; have hi := Nat.lt_of_lt_of_le hi (show _ ≤ 2 from Nat.le_refl 2); rcases (show i = 0 ∨ i = 1 by omega) with rfl | rfl <;> rfl)
           | (intro i hi; have hi := Nat.lt_of_lt_of_le hi (show _ ≤ 3 from Nat.le_refl 3); rcases (show i = 0 ∨ i = 1 ∨ i = 2 by omega) with rfl | rfl | rfl <;> rfl)))
      · rw [if_neg (by omega)] at e3
        repeat
          conv => whnf
          first
            | (with_reducible refine qS ?_ ?_ ?_
               · exact rfl
               · exact rfl)
            | with_reducible refine qB ?_
            | (with_reducible refine qI ?_ ?_
               · omega)
            | (with_reducible refine qDT ?_ ?_
               · omega)
            | (with_reducible refine qDF ?_ ?_
               · omega)
            | (with_reducible refine qNT ?_ ?_
               · omega)
            | (with_reducible refine qNF ?_ ?_
               · omega)
            | (with_reducible refine qU8 ?_ ?_
               · omega)
            | (with_reducible refine qU32 ?_ ?_
               · omega)
        conv => whnf
        rw [← e3]
        refine ⟨i + 1, ⟨by omega, by omega⟩, ?_⟩
        conv => whnf
        refine Le.id rfl ?_ ?_
        all_goals (repeat' (first
           | exact leT_empty
           | exact trivial
           | exact rfl
           | exact .inl rfl
           | exact .inr rfl
           | exact .inr ⟨rfl, rfl⟩
           | exact Nat.le_refl _
           | exact Nat.zero_le _
           | exact (fun _ _ => rfl)
           | assumption
           | refine And.intro ?_ ?_
           | (intro i hi; exact absurd hi (Nat.not_lt_zero i))
           | (intro i hi; have hi := Nat.lt_of_lt_of_le hi (show _ ≤ 1 from Nat.le_refl 1); obtain rfl : i = 0 := (by omega); rfl)
           | (intro i hi; have hi := Nat.lt_of_lt_of_le hi (show _ ≤ 2 from Nat.le_refl 2); rcases (show i = 0 ∨ i = 1 by omega) with rfl | rfl <;> rfl)
           | (intro i hi; have hi := Nat.lt_of_lt_of_le hi (show _ ≤ 3 from Nat.le_refl 3); rcases (show i = 0 ∨ i = 1 ∨ i = 2 by omega) with rfl | rfl | rfl <;> rfl)))
    · rw [if_neg (by omega)] at e3
      repeat
        conv => whnf
        first
          | (with_reducible refine qS ?_ ?_ ?_
             · exact rfl
             · exact rfl)
          | with_reducible refine qB ?_
          | (with_reducible refine qI ?_ ?_
             · omega)
          | (with_reducible refine qDT ?_ ?_
             · omega)
          | (with_reducible refine qDF ?_ ?_
             · omega)
          | (with_reducible refine qNT ?_ ?_
             · omega)
          | (with_reducible refine qNF ?_ ?_
             · omega)
          | (with_reducible refine qU8 ?_ ?_
             · omega)
          | (with_reducible refine qU32 ?_ ?_
             · omega)
      conv => whnf
      rw [← e3]
      refine ⟨i + 1, ⟨by omega, by omega⟩, ?_⟩
      conv => whnf
      refine Le.id rfl ?_ ?_
      all_goals (repeat' (first
         | exact leT_empty
         | exact trivial
         | exact rfl
         | exact .inl rfl
         | exact .inr rfl
         | exact .inr ⟨rfl, rfl⟩
         | exact Nat.le_refl _
         | exact Nat.zero_le _
         | exact (fun _ _ => rfl)
         | assumption
         | refine And.intro ?_ ?_
         | (intro i hi; exact absurd hi (Nat.not_lt_zero i))
         | (intro i hi; have hi := Nat.lt_of_lt_of_le hi (show _ ≤ 1 from Nat.le_refl 1); obtain rfl : i = 0 := (by omega); rfl)
         | (intro i hi; have hi := Nat.lt_of_lt_of_le hi (show _ ≤ 2 from Nat.le_refl 2); rcases (show i = 0 ∨ i = 1 by omega) with rfl | rfl <;> rfl)
         | (intro i hi; have hi := Nat.lt_of_lt_of_le hi (show _ ≤ 3 from Nat.le_refl 3); rcases (show i = 0 ∨ i = 1 ∨ i = 2 by omega) with rfl | rfl | rfl <;> rfl)))
  obtain rfl : i = m.nW := by omega
  have i1 : I64 n := ⟨by omega, by omega⟩
  have i2 : I64 (n + m.cycles) := ⟨by omega, by omega⟩
  have en : kindsS m (n + m.cycles) = kindsS m n := by
    rw [ek]
    unfold kindsS
    rw [if_pos h, hLn]
    refine mkStr_congr fun u hu => ?_
    unfold kindAt
    simp only [at0_round hP hn0.1]
  have z1 : at1 m n (-1) = -1 := (if_pos h).trans (at0_none fun i hi => by have := hP.is.W i hi; unfold winP at this; omega)
  have z2 : at1 m n m.length = -1 := (if_pos h).trans (at0_none fun i hi => by have := hP.is.W i hi; unfold winP at this; omega)
  repeat
    conv => whnf
    first
      | (with_reducible refine qS ?_ ?_ ?_
         · exact rfl
         · exact rfl)
      | with_reducible refine qB ?_
      | (with_reducible refine qI ?_ ?_
         · omega)
      | (with_reducible refine qDT ?_ ?_
         · omega)
      | (with_reducible refine qDF ?_ ?_
         · omega)
      | (with_reducible refine qNT ?_ ?_
         · omega)
      | (with_reducible refine qNF ?_ ?_
         · omega)
      | (with_reducible refine qU8 ?_ ?_
         · omega)
      | (with_reducible refine qU32 ?_ ?_
         · omega)
  conv => whnf
  refine kinds_use (m := m) (c := c) hm hc i1 ?_
  repeat
    conv => whnf
    first
      | (with_reducible refine qS ?_ ?_ ?_
         · exact rfl
         · exact rfl)
      | with_reducible refine qB ?_
      | (with_reducible refine qI ?_ ?_
         · omega)
      | (with_reducible refine qDT ?_ ?_
         · omega)
      | (with_reducible refine qDF ?_ ?_
         · omega)
      | (with_reducible refine qNT ?_ ?_
         · omega)
      | (with_reducible refine qNF ?_ ?_
         · omega)
      | (with_reducible refine qU8 ?_ ?_
         · omega)
      | (with_reducible refine qU32 ?_ ?_
         · omega)
  conv => whnf
  refine free_use (m := m) (c := c) hm hc i1 ?_
  rw [ef]
  repeat
    conv => whnf
    first
      | (with_reducible refine qS ?_ ?_ ?_
         · exact rfl
         · exact rfl)
      | with_reducible refine qB ?_
      | (with_reducible refine qI ?_ ?_
         · omega)
      | (with_reducible refine qDT ?_ ?_
         · omega)
      | (with_reducible refine qDF ?_ ?_
         · omega)
      | (with_reducible refine qNT ?_ ?_
         · omega)
      | (with_reducible refine qNF ?_ ?_
         · omega)
      | (with_reducible refine qU8 ?_ ?_
         · omega)
      | (with_reducible refine qU32 ?_ ?_
         · omega)
  conv => whnf
  refine kinds_use (m := m) (c := c) hm hc i2 ?_
  rw [en]
  repeat
    conv => whnf
    first
      | (with_reducible refine qS ?_ ?_ ?_
         · exact rfl
         · exact rfl)
      | with_reducible refine qB ?_
      | (with_reducible refine qI ?_ ?_
         · omega)
      | (with_reducible refine qDT ?_ ?_
         · omega)
      | (with_reducible refine qDF ?_ ?_
         · omega)
      | (with_reducible refine qNT ?_ ?_
         · omega)
      | (with_reducible refine qNF ?_ ?_
         · omega)
      | (with_reducible refine qU8 ?_ ?_
         · omega)
      | (with_reducible refine qU32 ?_ ?_
         · omega)
  conv => whnf
  rw [strEq_self]
  repeat
    conv => whnf
    first
      | (with_reducible refine qS ?_ ?_ ?_
         · exact rfl
         · exact rfl)
      | with_reducible refine qB ?_
      | (with_reducible refine qI ?_ ?_
         · omega)
      | (with_reducible refine qDT ?_ ?_
         · omega)
      | (with_reducible refine qDF ?_ ?_
         · omega)
      | (with_reducible refine qNT ?_ ?_
         · omega)
      | (with_reducible refine qNF ?_ ?_
         · omega)
      | (with_reducible refine qU8 ?_ ?_
         · omega)
      | (with_reducible refine qU32 ?_ ?_
         · omega)
  conv => whnf
  refine at1_use (m := m) (c := c) hm hc i1 ?_
  rw [z1]
  repeat
    conv => whnf
    first
      | (with_reducible refine qS ?_ ?_ ?_
         · exact rfl
         · exact rfl)
      | with_reducible refine qB ?_
      | (with_reducible refine qI ?_ ?_
         · omega)
      | (with_reducible refine qDT ?_ ?_
         · omega)
      | (with_reducible refine qDF ?_ ?_
         · omega)
      | (with_reducible refine qNT ?_ ?_
         · omega)
      | (with_reducible refine qNF ?_ ?_
         · omega)
      | (with_reducible refine qU8 ?_ ?_
         · omega)
      | (with_reducible refine qU32 ?_ ?_
         · omega)
  conv => whnf
  refine at1_use (m := m) (c := c) hm hc i1 ?_
  rw [z2]
  repeat
    conv => whnf
    first
      | (with_reducible refine qS ?_ ?_ ?_
         · exact rfl
         · exact rfl)
      | with_reducible refine qB ?_
      | (with_reducible refine qI ?_ ?_
         · omega)
      | (with_reducible refine qDT ?_ ?_
         · omega)
      | (with_reducible refine qDF ?_ ?_
         · omega)
      | (with_reducible refine qNT ?_ ?_
         · omega)
      | (with_reducible refine qNF ?_ ?_
         · omega)
      | (with_reducible refine qU8 ?_ ?_
         · omega)
      | (with_reducible refine qU32 ?_ ?_
         · omega)
  conv => whnf
  exact rfl
theorem cl_ok : ∃ cl : Cl, ClOk Try.prog cl ∧ ∀ D, OkAll pas D → cl F.law16_WindowSums [] (xsP 0 pas D) (hsP pas D) fun x _ => x = bv true := by
  refine ⟨clRunX 7 tt outsL16 tabL 3, clRunX_ok (d := 7) ttOk outsL16_ok tabL_ok 3, fun D hD => ?_⟩
  match D, hD with
  | [d0, d1], hD =>
    obtain ⟨h0, h1, _⟩ := hD
    obtain ⟨m, c, hm, hc, e0, e1⟩ := open_mat h0
    obtain ⟨a, rfl, ha⟩ := one_u8 h1
    have hw := walk m c a hm hc ha
    show clRunX 7 tt outsL16 tabL 3 17 [] (xP 0 (.agg matSh) d0 :: _) (hs matSh d0 ++ _) _
    rw [e0, e1]
    exact hw
theorem own' : ownKnob Try.prog.godebug = none := own
theorem lifted (os : Os) (started : os.Started) (H : Type) (enc : TypeId × Value → H) :
    ReturnsInHanded {} Try.checked os 17 .any (Rows.windowSumsSpec.pre6 enc Try.prog Try.f17 Rows.windowSumsRow.domain false) (Rows.windowSumsSpec.post enc Try.prog Try.f17 false true false false) := by
  refine returnsInHanded_of_change (C := Try.checked) own started (by kernel_rfl) Try.func17
    (ChangeSpec.witness6 (enc := enc) (C := Try.checked) false ⟨#[], #[.agg #[.int .i64 0, .int .i64 0, .int .i64 0, .int .i64 0, .int .i64 0, .int .i64 0, .int .i64 0, .int .u32 0, .slice none 0 0, .slice none 0 0, .slice none 0 0], .int .u8 0], []⟩ 8 (by kernel_rfl) (by kernel_rfl) (by kernel_rfl) (by kernel_rfl)) ?_
  intro W base args ds gs before hval hW _ _
  obtain ⟨cl, hc, hw⟩ := cl_ok
  exact row_of (ps := pas) (by kernel_rfl) (by kernel_rfl) rfl rfl (fun ds h => by
    match ds, h with
    | [_, _], _ => rfl) hval hW hc hw
theorem closed : joinedFacts Try.prog 17 Try.f17 Rows.windowSumsSpec Rows.windowSumsRow = true := by
  simp only [joinedFacts, Bool.and_eq_true]
  repeat' apply And.intro
  all_goals first
    | with_reducible exact mayEnter_ok
    | with_reducible exact laid_ok
    | with_reducible exact rowed_ok
    | ((with_reducible refine beq_r lifts_ok ?_); rfl)
    | ((with_reducible refine beq_l make_ok ?_); kernel_rfl)
    | (as_aux_lemma => kernel_rfl)
theorem named : Try.prog.funcNamed Rows.windowSumsRow.func = some 17 := by kernel_rfl
theorem inst : Try.f17.isInstance Try.prog Rows.windowSumsRow.origin Rows.windowSumsRow.targs := of_decide_eq_true (by kernel_rfl)
theorem wrap : Try.f17.isWrapper Try.prog Rows.windowSumsRow.wrapper Rows.windowSumsRow.mainSum := by
  unfold Func.isWrapper; first | (rw [if_pos (by decide +kernel)]; kernel_rfl) | (rw [if_neg (by decide +kernel)]; exact ⟨rfl, rfl⟩)
theorem over : Rows.windowSumsRow.holds Try.pinned (OpenSpec.ofChange Rows.windowSumsSpec) :=
  OpenClaim.holds_of_wide 17 Try.f17 rfl rfl rfl rfl rfl rfl rfl ⟨rfl, rfl, rfl, rfl, rfl⟩ rfl rfl rfl rfl rfl named Try.func17 closed inst wrap
    (fun os started H enc _ => lifted os started H enc)
/-- The statement. -/
theorem proved : Rows.WindowSumsSaid := over
#print axioms proved
end Go.Proofs.Ytbdifadabipfiaa.windowSums
