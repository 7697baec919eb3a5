/- CheckMeets: two windows meet if they have a unit of a cycle together, whichever comes first: true at every input; no conditions. -/
import Derived.Test.YtbdifadabipfiaaLaB
namespace Go.Proofs.Ytbdifadabipfiaa.checkMeets
open Go Go.Eng Go.Proofs Go.Proofs.Ytbdifadabipfiaa.Tb Go.Proofs.Ytbdifadabipfiaa.Co Go.Proofs.Ytbdifadabipfiaa.La Go.Pu
set_option maxRecDepth 100000
set_option maxHeartbeats 16000000
def Win.Ok (w : Win) : Prop := I64 w.kind ∧ I64 w.st ∧ I64 w.en ∧ I64 w.cyc ∧ I64 w.rep ∧ I64 w.msg
theorem open_win {d : List Da} (h : All2 OkDa winSh d) : ∃ w : Win, Win.Ok w ∧ (∀ nm, xP nm (.agg winSh) d = .t (winTT w)) ∧ hs winSh d = [] := by
  obtain ⟨_, _, rfl, h0, h⟩ := two_c h
  obtain ⟨_, _, rfl, h1, h⟩ := two_c h
  obtain ⟨_, _, rfl, h2, h⟩ := two_c h
  obtain ⟨_, _, rfl, h3, h⟩ := two_c h
  obtain ⟨_, _, rfl, h4, h⟩ := two_c h
  obtain ⟨_, _, rfl, h5, h⟩ := two_c h
  obtain rfl := two_0 h
  obtain ⟨n0, rfl, b0⟩ := da_i64 h0
  obtain ⟨n1, rfl, b1⟩ := da_i64 h1
  obtain ⟨n2, rfl, b2⟩ := da_i64 h2
  obtain ⟨n3, rfl, b3⟩ := da_i64 h3
  obtain ⟨n4, rfl, b4⟩ := da_i64 h4
  obtain ⟨n5, rfl, b5⟩ := da_i64 h5
  exact ⟨⟨n0, n1, n2, n3, n4, n5⟩, ⟨b0, b1, b2, b3, b4, b5⟩, fun _ => rfl, rfl⟩
theorem comes_cases (c r n : Int) : (comes c r n = false ∧ r ≤ 0) ∨ (comes c r n = false ∧ 0 < r ∧ c < 0) ∨ (comes c r n = false ∧ 0 < r ∧ 0 ≤ c ∧ n < c) ∨ (comes c r n = false ∧ 0 < r ∧ 0 ≤ c ∧ c ≤ n ∧ ¬ (n - c).tmod r = 0) ∨ (comes c r n = true ∧ 0 < r ∧ 0 ≤ c ∧ c ≤ n ∧ (n - c).tmod r = 0) := by
  unfold comes
  by_cases h1 : 0 < r
  · by_cases h2 : 0 ≤ c
    · by_cases h3 : c ≤ n
      · by_cases h4 : (n - c).tmod r = 0
        · exact .inr (.inr (.inr (.inr ⟨by simp [h1, h2, h3, h4], h1, h2, h3, h4⟩)))
        · exact .inr (.inr (.inr (.inl ⟨by simp [h4], h1, h2, h3, h4⟩)))
      · exact .inr (.inr (.inl ⟨by simp [h3], h1, h2, by omega⟩))
    · exact .inr (.inl ⟨by simp [h2], h1, by omega⟩)
  · exact .inl ⟨by simp [h1], by omega⟩
def sh (a b : Win) (n : Nat) : Bool := anyB n fun c => comes a.cyc a.rep c && comes b.cyc b.rep c
theorem sh_up {a b : Win} {n : Nat} {s x y : Bool} (h : sh a b n = s) (hx : comes a.cyc a.rep n = x) (hy : comes b.cyc b.rep n = y) : sh a b (n + 1) = (s || (x && y)) := by
  unfold sh anyB at *
  rw [List.range_succ, List.any_append, h]
  simp [hx, hy]
def mw (a b : Win) : Mat := { m14 with cycles := 8, nW := 2, W := fun i => match i with | 0 => a | _ => b }
theorem mw_ok {a b : Win} (ha : Win.Ok a) (hb : Win.Ok b) : (mw a b).Ok := by
  constructor <;> simp [mw, m14, I64, U32]
  intro i hi
  rcases (show i = 0 ∨ i = 1 by omega) with rfl | rfl
  · exact ha
  · exact hb
theorem mw_01 (a b : Win) : meet (mw a b) 0 1 = (decide (a.st < b.en ∧ b.st < a.en) && sh a b 8) := rfl
theorem mw_10 (a b : Win) : meet (mw a b) 1 0 = (decide (a.st < b.en ∧ b.st < a.en) && sh a b 8) := by rw [meet_comm]; rfl
theorem mw_02 (a b : Win) : meet (mw a b) 0 2 = false := rfl
theorem mw_n0 (a b : Win) : meet (mw a b) (-1) 0 = false := rfl
noncomputable abbrev tabL : List (FuncId × Eng.Fn) := [(F.law14_CheckMeets, fn.law14_CheckMeets u0), (F.law14_least, fn.law14_least u0)]
theorem tabL_ok {d : Nat} : TabOk d tabL tt := .cons (ok.law14_CheckMeets u0) (.cons (ok.law14_least u0) (TabOk.nil))
abbrev pas : List Pa := [.agg winSh, .agg winSh]
theorem walk (a b : Win) (ha : Win.Ok a) (hb : Win.Ok b) : clRunC 7 tt outsL14 tabL 3 F.law14_CheckMeets [] [.t (winTT a), .t (winTT b)] [] (fun x _ => x = bv true) := by
  have hok := mw_ok ha hb
  obtain ⟨ak, a_s, ae, ac, ar, am⟩ := ha
  obtain ⟨bk, b_s, be, bc, br, bm⟩ := hb
  unfold I64 at *
  conv => whnf
  refine true_use ?_
  repeat
    conv => whnf
    first
      | refine cS rfl rfl ?_
      | refine cT (beq_self_eq_true _) ?_
      | refine bI (by omega) ?_
      | refine cDT (by omega) ?_
      | refine cDF (by omega) ?_
      | refine cNT (by omega) ?_
      | refine cNF (by omega) ?_
      | refine bU8 (by omega) ?_
      | refine bU32 (by omega) ?_
  conv => whnf
  refine .rd (fun p : Nat × Bool => p.1 ≤ 8 ∧ sh a b p.1 = p.2) (fun p => [(6, bv p.2), (7, iv .i64 p.1)]) (fun p => 8 - p.1) (0, false) ⟨Nat.zero_le _, rfl⟩ ?_ (fun p ⟨hi, hs⟩ => ?_)
  · conv => whnf
    refine Le.id rfl ?_ ?_
    all_goals (repeat' (first
       | exact leT_empty
       | exact trivial
       | exact rfl
       | exact .inl rfl
       | exact .inr rfl
       | exact .inr ⟨rfl, rfl⟩
       | exact Nat.le_refl _
       | exact Nat.zero_le _
       | exact (fun _ _ => rfl)
       | refine And.intro ?_ ?_
       | (intro i hi; exact absurd hi (Nat.not_lt_zero i))
       | (intro i hi; have hi := Nat.lt_of_lt_of_le hi (show _ ≤ 1 from Nat.le_refl 1); obtain rfl : i = 0 := (by omega); rfl)
       | (intro i hi; have hi := Nat.lt_of_lt_of_le hi (show _ ≤ 2 from Nat.le_refl 2); rcases (show i = 0 ∨ i = 1 by omega) with rfl | rfl <;> rfl)
       | (intro i hi; have hi := Nat.lt_of_lt_of_le hi (show _ ≤ 3 from Nat.le_refl 3); rcases (show i = 0 ∨ i = 1 ∨ i = 2 by omega) with rfl | rfl | rfl <;> rfl)))
  generalize p.1 = i at *
  generalize p.2 = s at *
  conv => whnf
  refine cD (fun h5 => ?_) (fun h5 => ?_)
  · rcases comes_cases a.cyc a.rep i with ⟨q1, q⟩ | ⟨q1, q⟩ | ⟨q1, q⟩ | ⟨q1, q⟩ | ⟨q1, q⟩ <;> rcases comes_cases b.cyc b.rep i with ⟨g1, g⟩ | ⟨g1, g⟩ | ⟨g1, g⟩ | ⟨g1, g⟩ | ⟨g1, g⟩ <;> cases s
    all_goals
      repeat
        conv => whnf
        first
          | refine cS rfl rfl ?_
          | refine cT (beq_self_eq_true _) ?_
          | refine bI (by omega) ?_
          | refine cDT (by omega) ?_
          | refine cDF (by omega) ?_
          | refine cNT (by omega) ?_
          | refine cNF (by omega) ?_
          | refine bU8 (by omega) ?_
          | refine bU32 (by omega) ?_
      conv => whnf
      try rw [show decide ((↑i - b.cyc).tmod b.rep = 0) = false from decide_eq_false (by omega)]
      try rw [show decide ((↑i - b.cyc).tmod b.rep = 0) = true from decide_eq_true (by omega)]
      have hu := sh_up hs q1 g1
      refine ⟨(i + 1, _), ⟨⟨by show i + 1 ≤ 8; omega, hu⟩, by show 8 - (i + 1) < 8 - i; omega⟩, ?_⟩
      conv => whnf
      refine Le.id rfl ?_ ?_
      all_goals (repeat' (first
         | exact leT_empty
         | exact trivial
         | exact rfl
         | exact .inl rfl
         | exact .inr rfl
         | exact .inr ⟨rfl, rfl⟩
         | exact Nat.le_refl _
         | exact Nat.zero_le _
         | exact (fun _ _ => rfl)
         | refine And.intro ?_ ?_
         | (intro i hi; exact absurd hi (Nat.not_lt_zero i))
         | (intro i hi; have hi := Nat.lt_of_lt_of_le hi (show _ ≤ 1 from Nat.le_refl 1); obtain rfl : i = 0 := (by omega); rfl)
         | (intro i hi; have hi := Nat.lt_of_lt_of_le hi (show _ ≤ 2 from Nat.le_refl 2); rcases (show i = 0 ∨ i = 1 by omega) with rfl | rfl <;> rfl)
         | (intro i hi; have hi := Nat.lt_of_lt_of_le hi (show _ ≤ 3 from Nat.le_refl 3); rcases (show i = 0 ∨ i = 1 ∨ i = 2 by omega) with rfl | rfl | rfl <;> rfl)))
  obtain rfl : i = 8 := by omega
  have v01 := mw_01 a b
  have v10 := mw_10 a b
  rw [hs] at v01 v10
  have hsplit : s = false ∨ (s = true ∧ ¬ a.st < b.en) ∨ (s = true ∧ a.st < b.en ∧ ¬ b.st < a.en) ∨ (s = true ∧ a.st < b.en ∧ b.st < a.en) := by
    cases s
    · exact .inl rfl
    · simp only [true_and]; omega
  rcases hsplit with rfl | ⟨rfl, z1⟩ | ⟨rfl, z1, z2⟩ | ⟨rfl, z1, z2⟩
  · have u01 : meet (mw a b) 0 1 = false := by rw [v01, Bool.and_false]
    have u10 : meet (mw a b) 1 0 = false := by rw [v10, Bool.and_false]
    repeat
      conv => whnf
      first
        | refine cS rfl rfl ?_
        | refine cT (beq_self_eq_true _) ?_
        | refine bI (by omega) ?_
        | refine cDT (by omega) ?_
        | refine cDF (by omega) ?_
        | refine cNT (by omega) ?_
        | refine cNF (by omega) ?_
        | refine bU8 (by omega) ?_
        | refine bU32 (by omega) ?_
    conv => whnf
    refine AskC.use (mw a b, (⟨1, 1, 2, false, false, false⟩ : Caps), (0 : Int), (1 : Int)) [3, 4, 6] hok rfl ?_ ?_ ?_
    · repeat' (first
        | exact leT_empty
        | exact trivial
        | exact rfl
        | exact .inl rfl
        | exact .inr rfl
        | exact .inr ⟨rfl, rfl⟩
        | exact Nat.le_refl _
        | exact Nat.zero_le _
        | exact (fun _ _ => rfl)
        | refine And.intro ?_ ?_
        | (intro i hi; exact absurd hi (Nat.not_lt_zero i))
        | (intro i hi; have hi := Nat.lt_of_lt_of_le hi (show _ ≤ 1 from Nat.le_refl 1); obtain rfl : i = 0 := (by omega); rfl)
        | (intro i hi; have hi := Nat.lt_of_lt_of_le hi (show _ ≤ 2 from Nat.le_refl 2); rcases (show i = 0 ∨ i = 1 by omega) with rfl | rfl <;> rfl)
        | (intro i hi; have hi := Nat.lt_of_lt_of_le hi (show _ ≤ 3 from Nat.le_refl 3); rcases (show i = 0 ∨ i = 1 ∨ i = 2 by omega) with rfl | rfl | rfl <;> rfl))
    · repeat' (first
        | exact leT_empty
        | exact trivial
        | exact rfl
        | exact .inl rfl
        | exact .inr rfl
        | exact .inr ⟨rfl, rfl⟩
        | exact Nat.le_refl _
        | exact Nat.zero_le _
        | exact (fun _ _ => rfl)
        | refine And.intro ?_ ?_
        | (intro i hi; exact absurd hi (Nat.not_lt_zero i))
        | (intro i hi; have hi := Nat.lt_of_lt_of_le hi (show _ ≤ 1 from Nat.le_refl 1); obtain rfl : i = 0 := (by omega); rfl)
        | (intro i hi; have hi := Nat.lt_of_lt_of_le hi (show _ ≤ 2 from Nat.le_refl 2); rcases (show i = 0 ∨ i = 1 by omega) with rfl | rfl <;> rfl)
        | (intro i hi; have hi := Nat.lt_of_lt_of_le hi (show _ ≤ 3 from Nat.le_refl 3); rcases (show i = 0 ∨ i = 1 ∨ i = 2 by omega) with rfl | rfl | rfl <;> rfl))
    rw [show bv (meet (mw a b, (⟨1, 1, 2, false, false, false⟩ : Caps), (0 : Int), (1 : Int)).1 (mw a b, (⟨1, 1, 2, false, false, false⟩ : Caps), (0 : Int), (1 : Int)).2.2.1 (mw a b, (⟨1, 1, 2, false, false, false⟩ : Caps), (0 : Int), (1 : Int)).2.2.2) = bv _ from congrArg bv u01]
    conv => whnf
    refine AskC.use (mw a b, (⟨1, 1, 2, false, false, false⟩ : Caps), (1 : Int), (0 : Int)) [3, 4, 6] hok rfl ?_ ?_ ?_
    · repeat' (first
        | exact leT_empty
        | exact trivial
        | exact rfl
        | exact .inl rfl
        | exact .inr rfl
        | exact .inr ⟨rfl, rfl⟩
        | exact Nat.le_refl _
        | exact Nat.zero_le _
        | exact (fun _ _ => rfl)
        | refine And.intro ?_ ?_
        | (intro i hi; exact absurd hi (Nat.not_lt_zero i))
        | (intro i hi; have hi := Nat.lt_of_lt_of_le hi (show _ ≤ 1 from Nat.le_refl 1); obtain rfl : i = 0 := (by omega); rfl)
        | (intro i hi; have hi := Nat.lt_of_lt_of_le hi (show _ ≤ 2 from Nat.le_refl 2); rcases (show i = 0 ∨ i = 1 by omega) with rfl | rfl <;> rfl)
        | (intro i hi; have hi := Nat.lt_of_lt_of_le hi (show _ ≤ 3 from Nat.le_refl 3); rcases (show i = 0 ∨ i = 1 ∨ i = 2 by omega) with rfl | rfl | rfl <;> rfl))
    · repeat' (first
        | exact leT_empty
        | exact trivial
        | exact rfl
        | exact .inl rfl
        | exact .inr rfl
        | exact .inr ⟨rfl, rfl⟩
        | exact Nat.le_refl _
        | exact Nat.zero_le _
        | exact (fun _ _ => rfl)
        | refine And.intro ?_ ?_
        | (intro i hi; exact absurd hi (Nat.not_lt_zero i))
        | (intro i hi; have hi := Nat.lt_of_lt_of_le hi (show _ ≤ 1 from Nat.le_refl 1); obtain rfl : i = 0 := (by omega); rfl)
        | (intro i hi; have hi := Nat.lt_of_lt_of_le hi (show _ ≤ 2 from Nat.le_refl 2); rcases (show i = 0 ∨ i = 1 by omega) with rfl | rfl <;> rfl)
        | (intro i hi; have hi := Nat.lt_of_lt_of_le hi (show _ ≤ 3 from Nat.le_refl 3); rcases (show i = 0 ∨ i = 1 ∨ i = 2 by omega) with rfl | rfl | rfl <;> rfl))
    rw [show bv (meet (mw a b, (⟨1, 1, 2, false, false, false⟩ : Caps), (1 : Int), (0 : Int)).1 (mw a b, (⟨1, 1, 2, false, false, false⟩ : Caps), (1 : Int), (0 : Int)).2.2.1 (mw a b, (⟨1, 1, 2, false, false, false⟩ : Caps), (1 : Int), (0 : Int)).2.2.2) = bv _ from congrArg bv u10]
    conv => whnf
    refine AskC.use (mw a b, (⟨1, 1, 2, false, false, false⟩ : Caps), (0 : Int), (2 : Int)) [3, 4, 6] hok rfl ?_ ?_ ?_
    · repeat' (first
        | exact leT_empty
        | exact trivial
        | exact rfl
        | exact .inl rfl
        | exact .inr rfl
        | exact .inr ⟨rfl, rfl⟩
        | exact Nat.le_refl _
        | exact Nat.zero_le _
        | exact (fun _ _ => rfl)
        | refine And.intro ?_ ?_
        | (intro i hi; exact absurd hi (Nat.not_lt_zero i))
        | (intro i hi; have hi := Nat.lt_of_lt_of_le hi (show _ ≤ 1 from Nat.le_refl 1); obtain rfl : i = 0 := (by omega); rfl)
        | (intro i hi; have hi := Nat.lt_of_lt_of_le hi (show _ ≤ 2 from Nat.le_refl 2); rcases (show i = 0 ∨ i = 1 by omega) with rfl | rfl <;> rfl)
        | (intro i hi; have hi := Nat.lt_of_lt_of_le hi (show _ ≤ 3 from Nat.le_refl 3); rcases (show i = 0 ∨ i = 1 ∨ i = 2 by omega) with rfl | rfl | rfl <;> rfl))
    · repeat' (first
        | exact leT_empty
        | exact trivial
        | exact rfl
        | exact .inl rfl
        | exact .inr rfl
        | exact .inr ⟨rfl, rfl⟩
        | exact Nat.le_refl _
        | exact Nat.zero_le _
        | exact (fun _ _ => rfl)
        | refine And.intro ?_ ?_
        | (intro i hi; exact absurd hi (Nat.not_lt_zero i))
        | (intro i hi; have hi := Nat.lt_of_lt_of_le hi (show _ ≤ 1 from Nat.le_refl 1); obtain rfl : i = 0 := (by omega); rfl)
        | (intro i hi; have hi := Nat.lt_of_lt_of_le hi (show _ ≤ 2 from Nat.le_refl 2); rcases (show i = 0 ∨ i = 1 by omega) with rfl | rfl <;> rfl)
        | (intro i hi; have hi := Nat.lt_of_lt_of_le hi (show _ ≤ 3 from Nat.le_refl 3); rcases (show i = 0 ∨ i = 1 ∨ i = 2 by omega) with rfl | rfl | rfl <;> rfl))
    rw [show bv (meet (mw a b, (⟨1, 1, 2, false, false, false⟩ : Caps), (0 : Int), (2 : Int)).1 (mw a b, (⟨1, 1, 2, false, false, false⟩ : Caps), (0 : Int), (2 : Int)).2.2.1 (mw a b, (⟨1, 1, 2, false, false, false⟩ : Caps), (0 : Int), (2 : Int)).2.2.2) = bv _ from congrArg bv (mw_02 a b)]
    conv => whnf
    refine AskC.use (mw a b, (⟨1, 1, 2, false, false, false⟩ : Caps), (-1 : Int), (0 : Int)) [3, 4, 6] hok rfl ?_ ?_ ?_
    · repeat' (first
        | exact leT_empty
        | exact trivial
        | exact rfl
        | exact .inl rfl
        | exact .inr rfl
        | exact .inr ⟨rfl, rfl⟩
        | exact Nat.le_refl _
        | exact Nat.zero_le _
        | exact (fun _ _ => rfl)
        | refine And.intro ?_ ?_
        | (intro i hi; exact absurd hi (Nat.not_lt_zero i))
        | (intro i hi; have hi := Nat.lt_of_lt_of_le hi (show _ ≤ 1 from Nat.le_refl 1); obtain rfl : i = 0 := (by omega); rfl)
        | (intro i hi; have hi := Nat.lt_of_lt_of_le hi (show _ ≤ 2 from Nat.le_refl 2); rcases (show i = 0 ∨ i = 1 by omega) with rfl | rfl <;> rfl)
        | (intro i hi; have hi := Nat.lt_of_lt_of_le hi (show _ ≤ 3 from Nat.le_refl 3); rcases (show i = 0 ∨ i = 1 ∨ i = 2 by omega) with rfl | rfl | rfl <;> rfl))
    · repeat' (first
        | exact leT_empty
        | exact trivial
        | exact rfl
        | exact .inl rfl
        | exact .inr rfl
        | exact .inr ⟨rfl, rfl⟩
        | exact Nat.le_refl _
        | exact Nat.zero_le _
        | exact (fun _ _ => rfl)
        | refine And.intro ?_ ?_
        | (intro i hi; exact absurd hi (Nat.not_lt_zero i))
        | (intro i hi; have hi := Nat.lt_of_lt_of_le hi (show _ ≤ 1 from Nat.le_refl 1); obtain rfl : i = 0 := (by omega); rfl)
        | (intro i hi; have hi := Nat.lt_of_lt_of_le hi (show _ ≤ 2 from Nat.le_refl 2); rcases (show i = 0 ∨ i = 1 by omega) with rfl | rfl <;> rfl)
        | (intro i hi; have hi := Nat.lt_of_lt_of_le hi (show _ ≤ 3 from Nat.le_refl 3); rcases (show i = 0 ∨ i = 1 ∨ i = 2 by omega) with rfl | rfl | rfl <;> rfl))
    rw [show bv (meet (mw a b, (⟨1, 1, 2, false, false, false⟩ : Caps), (-1 : Int), (0 : Int)).1 (mw a b, (⟨1, 1, 2, false, false, false⟩ : Caps), (-1 : Int), (0 : Int)).2.2.1 (mw a b, (⟨1, 1, 2, false, false, false⟩ : Caps), (-1 : Int), (0 : Int)).2.2.2) = bv _ from congrArg bv (mw_n0 a b)]
    conv => whnf
    exact rfl
  · have u01 : meet (mw a b) 0 1 = false := by rw [v01, decide_eq_false (by omega)]; rfl
    have u10 : meet (mw a b) 1 0 = false := by rw [v10, decide_eq_false (by omega)]; rfl
    repeat
      conv => whnf
      first
        | refine cS rfl rfl ?_
        | refine cT (beq_self_eq_true _) ?_
        | refine bI (by omega) ?_
        | refine cDT (by omega) ?_
        | refine cDF (by omega) ?_
        | refine cNT (by omega) ?_
        | refine cNF (by omega) ?_
        | refine bU8 (by omega) ?_
        | refine bU32 (by omega) ?_
    conv => whnf
    refine AskC.use (mw a b, (⟨1, 1, 2, false, false, false⟩ : Caps), (0 : Int), (1 : Int)) [3, 4, 6] hok rfl ?_ ?_ ?_
    · repeat' (first
        | exact leT_empty
        | exact trivial
        | exact rfl
        | exact .inl rfl
        | exact .inr rfl
        | exact .inr ⟨rfl, rfl⟩
        | exact Nat.le_refl _
        | exact Nat.zero_le _
        | exact (fun _ _ => rfl)
        | refine And.intro ?_ ?_
        | (intro i hi; exact absurd hi (Nat.not_lt_zero i))
        | (intro i hi; have hi := Nat.lt_of_lt_of_le hi (show _ ≤ 1 from Nat.le_refl 1); obtain rfl : i = 0 := (by omega); rfl)
        | (intro i hi; have hi := Nat.lt_of_lt_of_le hi (show _ ≤ 2 from Nat.le_refl 2); rcases (show i = 0 ∨ i = 1 by omega) with rfl | rfl <;> rfl)
        | (intro i hi; have hi := Nat.lt_of_lt_of_le hi (show _ ≤ 3 from Nat.le_refl 3); rcases (show i = 0 ∨ i = 1 ∨ i = 2 by omega) with rfl | rfl | rfl <;> rfl))
    · repeat' (first
        | exact leT_empty
        | exact trivial
        | exact rfl
        | exact .inl rfl
        | exact .inr rfl
        | exact .inr ⟨rfl, rfl⟩
        | exact Nat.le_refl _
        | exact Nat.zero_le _
        | exact (fun _ _ => rfl)
        | refine And.intro ?_ ?_
        | (intro i hi; exact absurd hi (Nat.not_lt_zero i))
        | (intro i hi; have hi := Nat.lt_of_lt_of_le hi (show _ ≤ 1 from Nat.le_refl 1); obtain rfl : i = 0 := (by omega); rfl)
        | (intro i hi; have hi := Nat.lt_of_lt_of_le hi (show _ ≤ 2 from Nat.le_refl 2); rcases (show i = 0 ∨ i = 1 by omega) with rfl | rfl <;> rfl)
        | (intro i hi; have hi := Nat.lt_of_lt_of_le hi (show _ ≤ 3 from Nat.le_refl 3); rcases (show i = 0 ∨ i = 1 ∨ i = 2 by omega) with rfl | rfl | rfl <;> rfl))
    rw [show bv (meet (mw a b, (⟨1, 1, 2, false, false, false⟩ : Caps), (0 : Int), (1 : Int)).1 (mw a b, (⟨1, 1, 2, false, false, false⟩ : Caps), (0 : Int), (1 : Int)).2.2.1 (mw a b, (⟨1, 1, 2, false, false, false⟩ : Caps), (0 : Int), (1 : Int)).2.2.2) = bv _ from congrArg bv u01]
    conv => whnf
    refine AskC.use (mw a b, (⟨1, 1, 2, false, false, false⟩ : Caps), (1 : Int), (0 : Int)) [3, 4, 6] hok rfl ?_ ?_ ?_
    · repeat' (first
        | exact leT_empty
        | exact trivial
        | exact rfl
        | exact .inl rfl
        | exact .inr rfl
        | exact .inr ⟨rfl, rfl⟩
        | exact Nat.le_refl _
        | exact Nat.zero_le _
        | exact (fun _ _ => rfl)
        | refine And.intro ?_ ?_
        | (intro i hi; exact absurd hi (Nat.not_lt_zero i))
        | (intro i hi; have hi := Nat.lt_of_lt_of_le hi (show _ ≤ 1 from Nat.le_refl 1); obtain rfl : i = 0 := (by omega); rfl)
        | (intro i hi; have hi := Nat.lt_of_lt_of_le hi (show _ ≤ 2 from Nat.le_refl 2); rcases (show i = 0 ∨ i = 1 by omega) with rfl | rfl <;> rfl)
        | (intro i hi; have hi := Nat.lt_of_lt_of_le hi (show _ ≤ 3 from Nat.le_refl 3); rcases (show i = 0 ∨ i = 1 ∨ i = 2 by omega) with rfl | rfl | rfl <;> rfl))
    · repeat' (first
        | exact leT_empty
        | exact trivial
        | exact rfl
        | exact .inl rfl
        | exact .inr rfl
        | exact .inr ⟨rfl, rfl⟩
        | exact Nat.le_refl _
        | exact Nat.zero_le _
        | exact (fun _ _ => rfl)
        | refine And.intro ?_ ?_
        | (intro i hi; exact absurd hi (Nat.not_lt_zero i))
        | (intro i hi; have hi := Nat.lt_of_lt_of_le hi (show _ ≤ 1 from Nat.le_refl 1); obtain rfl : i = 0 := (by omega); rfl)
        | (intro i hi; have hi := Nat.lt_of_lt_of_le hi (show _ ≤ 2 from Nat.le_refl 2); rcases (show i = 0 ∨ i = 1 by omega) with rfl | rfl <;> rfl)
        | (intro i hi; have hi := Nat.lt_of_lt_of_le hi (show _ ≤ 3 from Nat.le_refl 3); rcases (show i = 0 ∨ i = 1 ∨ i = 2 by omega) with rfl | rfl | rfl <;> rfl))
    rw [show bv (meet (mw a b, (⟨1, 1, 2, false, false, false⟩ : Caps), (1 : Int), (0 : Int)).1 (mw a b, (⟨1, 1, 2, false, false, false⟩ : Caps), (1 : Int), (0 : Int)).2.2.1 (mw a b, (⟨1, 1, 2, false, false, false⟩ : Caps), (1 : Int), (0 : Int)).2.2.2) = bv _ from congrArg bv u10]
    conv => whnf
    refine AskC.use (mw a b, (⟨1, 1, 2, false, false, false⟩ : Caps), (0 : Int), (2 : Int)) [3, 4, 6] hok rfl ?_ ?_ ?_
    · repeat' (first
        | exact leT_empty
        | exact trivial
        | exact rfl
        | exact .inl rfl
        | exact .inr rfl
        | exact .inr ⟨rfl, rfl⟩
        | exact Nat.le_refl _
        | exact Nat.zero_le _
        | exact (fun _ _ => rfl)
        | refine And.intro ?_ ?_
        | (intro i hi; exact absurd hi (Nat.not_lt_zero i))
        | (intro i hi; have hi := Nat.lt_of_lt_of_le hi (show _ ≤ 1 from Nat.le_refl 1); obtain rfl : i = 0 := (by omega); rfl)
        | (intro i hi; have hi := Nat.lt_of_lt_of_le hi (show _ ≤ 2 from Nat.le_refl 2); rcases (show i = 0 ∨ i = 1 by omega) with rfl | rfl <;> rfl)
        | (intro i hi; have hi := Nat.lt_of_lt_of_le hi (show _ ≤ 3 from Nat.le_refl 3); rcases (show i = 0 ∨ i = 1 ∨ i = 2 by omega) with rfl | rfl | rfl <;> rfl))
    · repeat' (first
        | exact leT_empty
        | exact trivial
        | exact rfl
        | exact .inl rfl
        | exact .inr rfl
        | exact .inr ⟨rfl, rfl⟩
        | exact Nat.le_refl _
        | exact Nat.zero_le _
        | exact (fun _ _ => rfl)
        | refine And.intro ?_ ?_
        | (intro i hi; exact absurd hi (Nat.not_lt_zero i))
        | (intro i hi; have hi := Nat.lt_of_lt_of_le hi (show _ ≤ 1 from Nat.le_refl 1); obtain rfl : i = 0 := (by omega); rfl)
        | (intro i hi; have hi := Nat.lt_of_lt_of_le hi (show _ ≤ 2 from Nat.le_refl 2); rcases (show i = 0 ∨ i = 1 by omega) with rfl | rfl <;> rfl)
        | (intro i hi; have hi := Nat.lt_of_lt_of_le hi (show _ ≤ 3 from Nat.le_refl 3); rcases (show i = 0 ∨ i = 1 ∨ i = 2 by omega) with rfl | rfl | rfl <;> rfl))
    rw [show bv (meet (mw a b, (⟨1, 1, 2, false, false, false⟩ : Caps), (0 : Int), (2 : Int)).1 (mw a b, (⟨1, 1, 2, false, false, false⟩ : Caps), (0 : Int), (2 : Int)).2.2.1 (mw a b, (⟨1, 1, 2, false, false, false⟩ : Caps), (0 : Int), (2 : Int)).2.2.2) = bv _ from congrArg bv (mw_02 a b)]
    conv => whnf
    refine AskC.use (mw a b, (⟨1, 1, 2, false, false, false⟩ : Caps), (-1 : Int), (0 : Int)) [3, 4, 6] hok rfl ?_ ?_ ?_
    · repeat' (first
        | exact leT_empty
        | exact trivial
        | exact rfl
        | exact .inl rfl
        | exact .inr rfl
        | exact .inr ⟨rfl, rfl⟩
        | exact Nat.le_refl _
        | exact Nat.zero_le _
        | exact (fun _ _ => rfl)
        | refine And.intro ?_ ?_
        | (intro i hi; exact absurd hi (Nat.not_lt_zero i))
        | (intro i hi; have hi := Nat.lt_of_lt_of_le hi (show _ ≤ 1 from Nat.le_refl 1); obtain rfl : i = 0 := (by omega); rfl)
        | (intro i hi; have hi := Nat.lt_of_lt_of_le hi (show _ ≤ 2 from Nat.le_refl 2); rcases (show i = 0 ∨ i = 1 by omega) with rfl | rfl <;> rfl)
        | (intro i hi; have hi := Nat.lt_of_lt_of_le hi (show _ ≤ 3 from Nat.le_refl 3); rcases (show i = 0 ∨ i = 1 ∨ i = 2 by omega) with rfl | rfl | rfl <;> rfl))
    · repeat' (first
        | exact leT_empty
        | exact trivial
        | exact rfl
        | exact .inl rfl
        | exact .inr rfl
        | exact .inr ⟨rfl, rfl⟩
        | exact Nat.le_refl _
        | exact Nat.zero_le _
        | exact (fun _ _ => rfl)
        | refine And.intro ?_ ?_
        | (intro i hi; exact absurd hi (Nat.not_lt_zero i))
        | (intro i hi; have hi := Nat.lt_of_lt_of_le hi (show _ ≤ 1 from Nat.le_refl 1); obtain rfl : i = 0 := (by omega); rfl)
        | (intro i hi; have hi := Nat.lt_of_lt_of_le hi (show _ ≤ 2 from Nat.le_refl 2); rcases (show i = 0 ∨ i = 1 by omega) with rfl | rfl <;> rfl)
        | (intro i hi; have hi := Nat.lt_of_lt_of_le hi (show _ ≤ 3 from Nat.le_refl 3); rcases (show i = 0 ∨ i = 1 ∨ i = 2 by omega) with rfl | rfl | rfl <;> rfl))
    rw [show bv (meet (mw a b, (⟨1, 1, 2, false, false, false⟩ : Caps), (-1 : Int), (0 : Int)).1 (mw a b, (⟨1, 1, 2, false, false, false⟩ : Caps), (-1 : Int), (0 : Int)).2.2.1 (mw a b, (⟨1, 1, 2, false, false, false⟩ : Caps), (-1 : Int), (0 : Int)).2.2.2) = bv _ from congrArg bv (mw_n0 a b)]
    conv => whnf
    exact rfl
  · have u01 : meet (mw a b) 0 1 = false := by rw [v01, decide_eq_false (by omega)]; rfl
    have u10 : meet (mw a b) 1 0 = false := by rw [v10, decide_eq_false (by omega)]; rfl
    repeat
      conv => whnf
      first
        | refine cS rfl rfl ?_
        | refine cT (beq_self_eq_true _) ?_
        | refine bI (by omega) ?_
        | refine cDT (by omega) ?_
        | refine cDF (by omega) ?_
        | refine cNT (by omega) ?_
        | refine cNF (by omega) ?_
        | refine bU8 (by omega) ?_
        | refine bU32 (by omega) ?_
    conv => whnf
    rw [show decide (b.st < a.en) = false from decide_eq_false z2]
    refine AskC.use (mw a b, (⟨1, 1, 2, false, false, false⟩ : Caps), (0 : Int), (1 : Int)) [3, 4, 6] hok rfl ?_ ?_ ?_
    · repeat' (first
        | exact leT_empty
        | exact trivial
        | exact rfl
        | exact .inl rfl
        | exact .inr rfl
        | exact .inr ⟨rfl, rfl⟩
        | exact Nat.le_refl _
        | exact Nat.zero_le _
        | exact (fun _ _ => rfl)
        | refine And.intro ?_ ?_
        | (intro i hi; exact absurd hi (Nat.not_lt_zero i))
        | (intro i hi; have hi := Nat.lt_of_lt_of_le hi (show _ ≤ 1 from Nat.le_refl 1); obtain rfl : i = 0 := (by omega); rfl)
        | (intro i hi; have hi := Nat.lt_of_lt_of_le hi (show _ ≤ 2 from Nat.le_refl 2); rcases (show i = 0 ∨ i = 1 by omega) with rfl | rfl <;> rfl)
        | (intro i hi; have hi := Nat.lt_of_lt_of_le hi (show _ ≤ 3 from Nat.le_refl 3); rcases (show i = 0 ∨ i = 1 ∨ i = 2 by omega) with rfl | rfl | rfl <;> rfl))
    · repeat' (first
        | exact leT_empty
        | exact trivial
        | exact rfl
        | exact .inl rfl
        | exact .inr rfl
        | exact .inr ⟨rfl, rfl⟩
        | exact Nat.le_refl _
        | exact Nat.zero_le _
        | exact (fun _ _ => rfl)
        | refine And.intro ?_ ?_
        | (intro i hi; exact absurd hi (Nat.not_lt_zero i))
        | (intro i hi; have hi := Nat.lt_of_lt_of_le hi (show _ ≤ 1 from Nat.le_refl 1); obtain rfl : i = 0 := (by omega); rfl)
        | (intro i hi; have hi := Nat.lt_of_lt_of_le hi (show _ ≤ 2 from Nat.le_refl 2); rcases (show i = 0 ∨ i = 1 by omega) with rfl | rfl <;> rfl)
        | (intro i hi; have hi := Nat.lt_of_lt_of_le hi (show _ ≤ 3 from Nat.le_refl 3); rcases (show i = 0 ∨ i = 1 ∨ i = 2 by omega) with rfl | rfl | rfl <;> rfl))
    rw [show bv (meet (mw a b, (⟨1, 1, 2, false, false, false⟩ : Caps), (0 : Int), (1 : Int)).1 (mw a b, (⟨1, 1, 2, false, false, false⟩ : Caps), (0 : Int), (1 : Int)).2.2.1 (mw a b, (⟨1, 1, 2, false, false, false⟩ : Caps), (0 : Int), (1 : Int)).2.2.2) = bv _ from congrArg bv u01]
    conv => whnf
    refine AskC.use (mw a b, (⟨1, 1, 2, false, false, false⟩ : Caps), (1 : Int), (0 : Int)) [3, 4, 6] hok rfl ?_ ?_ ?_
    · repeat' (first
        | exact leT_empty
        | exact trivial
        | exact rfl
        | exact .inl rfl
        | exact .inr rfl
        | exact .inr ⟨rfl, rfl⟩
        | exact Nat.le_refl _
        | exact Nat.zero_le _
        | exact (fun _ _ => rfl)
        | refine And.intro ?_ ?_
        | (intro i hi; exact absurd hi (Nat.not_lt_zero i))
        | (intro i hi; have hi := Nat.lt_of_lt_of_le hi (show _ ≤ 1 from Nat.le_refl 1); obtain rfl : i = 0 := (by omega); rfl)
        | (intro i hi; have hi := Nat.lt_of_lt_of_le hi (show _ ≤ 2 from Nat.le_refl 2); rcases (show i = 0 ∨ i = 1 by omega) with rfl | rfl <;> rfl)
        | (intro i hi; have hi := Nat.lt_of_lt_of_le hi (show _ ≤ 3 from Nat.le_refl 3); rcases (show i = 0 ∨ i = 1 ∨ i = 2 by omega) with rfl | rfl | rfl <;> rfl))
    · repeat' (first
        | exact leT_empty
        | exact trivial
        | exact rfl
        | exact .inl rfl
        | exact .inr rfl
        | exact .inr ⟨rfl, rfl⟩
        | exact Nat.le_refl _
        | exact Nat.zero_le _
        | exact (fun _ _ => rfl)
        | refine And.intro ?_ ?_
        | (intro i hi; exact absurd hi (Nat.not_lt_zero i))
        | (intro i hi; have hi := Nat.lt_of_lt_of_le hi (show _ ≤ 1 from Nat.le_refl 1); obtain rfl : i = 0 := (by omega); rfl)
        | (intro i hi; have hi := Nat.lt_of_lt_of_le hi (show _ ≤ 2 from Nat.le_refl 2); rcases (show i = 0 ∨ i = 1 by omega) with rfl | rfl <;> rfl)
        | (intro i hi; have hi := Nat.lt_of_lt_of_le hi (show _ ≤ 3 from Nat.le_refl 3); rcases (show i = 0 ∨ i = 1 ∨ i = 2 by omega) with rfl | rfl | rfl <;> rfl))
    rw [show bv (meet (mw a b, (⟨1, 1, 2, false, false, false⟩ : Caps), (1 : Int), (0 : Int)).1 (mw a b, (⟨1, 1, 2, false, false, false⟩ : Caps), (1 : Int), (0 : Int)).2.2.1 (mw a b, (⟨1, 1, 2, false, false, false⟩ : Caps), (1 : Int), (0 : Int)).2.2.2) = bv _ from congrArg bv u10]
    conv => whnf
    refine AskC.use (mw a b, (⟨1, 1, 2, false, false, false⟩ : Caps), (0 : Int), (2 : Int)) [3, 4, 6] hok rfl ?_ ?_ ?_
    · repeat' (first
        | exact leT_empty
        | exact trivial
        | exact rfl
        | exact .inl rfl
        | exact .inr rfl
        | exact .inr ⟨rfl, rfl⟩
        | exact Nat.le_refl _
        | exact Nat.zero_le _
        | exact (fun _ _ => rfl)
        | refine And.intro ?_ ?_
        | (intro i hi; exact absurd hi (Nat.not_lt_zero i))
        | (intro i hi; have hi := Nat.lt_of_lt_of_le hi (show _ ≤ 1 from Nat.le_refl 1); obtain rfl : i = 0 := (by omega); rfl)
        | (intro i hi; have hi := Nat.lt_of_lt_of_le hi (show _ ≤ 2 from Nat.le_refl 2); rcases (show i = 0 ∨ i = 1 by omega) with rfl | rfl <;> rfl)
        | (intro i hi; have hi := Nat.lt_of_lt_of_le hi (show _ ≤ 3 from Nat.le_refl 3); rcases (show i = 0 ∨ i = 1 ∨ i = 2 by omega) with rfl | rfl | rfl <;> rfl))
    · repeat' (first
        | exact leT_empty
        | exact trivial
        | exact rfl
        | exact .inl rfl
        | exact .inr rfl
        | exact .inr ⟨rfl, rfl⟩
        | exact Nat.le_refl _
        | exact Nat.zero_le _
        | exact (fun _ _ => rfl)
        | refine And.intro ?_ ?_
        | (intro i hi; exact absurd hi (Nat.not_lt_zero i))
        | (intro i hi; have hi := Nat.lt_of_lt_of_le hi (show _ ≤ 1 from Nat.le_refl 1); obtain rfl : i = 0 := (by omega); rfl)
        | (intro i hi; have hi := Nat.lt_of_lt_of_le hi (show _ ≤ 2 from Nat.le_refl 2); rcases (show i = 0 ∨ i = 1 by omega) with rfl | rfl <;> rfl)
        | (intro i hi; have hi := Nat.lt_of_lt_of_le hi (show _ ≤ 3 from Nat.le_refl 3); rcases (show i = 0 ∨ i = 1 ∨ i = 2 by omega) with rfl | rfl | rfl <;> rfl))
    rw [show bv (meet (mw a b, (⟨1, 1, 2, false, false, false⟩ : Caps), (0 : Int), (2 : Int)).1 (mw a b, (⟨1, 1, 2, false, false, false⟩ : Caps), (0 : Int), (2 : Int)).2.2.1 (mw a b, (⟨1, 1, 2, false, false, false⟩ : Caps), (0 : Int), (2 : Int)).2.2.2) = bv _ from congrArg bv (mw_02 a b)]
    conv => whnf
    refine AskC.use (mw a b, (⟨1, 1, 2, false, false, false⟩ : Caps), (-1 : Int), (0 : Int)) [3, 4, 6] hok rfl ?_ ?_ ?_
    · repeat' (first
        | exact leT_empty
        | exact trivial
        | exact rfl
        | exact .inl rfl
        | exact .inr rfl
        | exact .inr ⟨rfl, rfl⟩
        | exact Nat.le_refl _
        | exact Nat.zero_le _
        | exact (fun _ _ => rfl)
        | refine And.intro ?_ ?_
        | (intro i hi; exact absurd hi (Nat.not_lt_zero i))
        | (intro i hi; have hi := Nat.lt_of_lt_of_le hi (show _ ≤ 1 from Nat.le_refl 1); obtain rfl : i = 0 := (by omega); rfl)
        | (intro i hi; have hi := Nat.lt_of_lt_of_le hi (show _ ≤ 2 from Nat.le_refl 2); rcases (show i = 0 ∨ i = 1 by omega) with rfl | rfl <;> rfl)
        | (intro i hi; have hi := Nat.lt_of_lt_of_le hi (show _ ≤ 3 from Nat.le_refl 3); rcases (show i = 0 ∨ i = 1 ∨ i = 2 by omega) with rfl | rfl | rfl <;> rfl))
    · repeat' (first
        | exact leT_empty
        | exact trivial
        | exact rfl
        | exact .inl rfl
        | exact .inr rfl
        | exact .inr ⟨rfl, rfl⟩
        | exact Nat.le_refl _
        | exact Nat.zero_le _
        | exact (fun _ _ => rfl)
        | refine And.intro ?_ ?_
        | (intro i hi; exact absurd hi (Nat.not_lt_zero i))
        | (intro i hi; have hi := Nat.lt_of_lt_of_le hi (show _ ≤ 1 from Nat.le_refl 1); obtain rfl : i = 0 := (by omega); rfl)
        | (intro i hi; have hi := Nat.lt_of_lt_of_le hi (show _ ≤ 2 from Nat.le_refl 2); rcases (show i = 0 ∨ i = 1 by omega) with rfl | rfl <;> rfl)
        | (intro i hi; have hi := Nat.lt_of_lt_of_le hi (show _ ≤ 3 from Nat.le_refl 3); rcases (show i = 0 ∨ i = 1 ∨ i = 2 by omega) with rfl | rfl | rfl <;> rfl))
    rw [show bv (meet (mw a b, (⟨1, 1, 2, false, false, false⟩ : Caps), (-1 : Int), (0 : Int)).1 (mw a b, (⟨1, 1, 2, false, false, false⟩ : Caps), (-1 : Int), (0 : Int)).2.2.1 (mw a b, (⟨1, 1, 2, false, false, false⟩ : Caps), (-1 : Int), (0 : Int)).2.2.2) = bv _ from congrArg bv (mw_n0 a b)]
    conv => whnf
    exact rfl
  · have u01 : meet (mw a b) 0 1 = true := by rw [v01, decide_eq_true ⟨z1, z2⟩]; rfl
    have u10 : meet (mw a b) 1 0 = true := by rw [v10, decide_eq_true ⟨z1, z2⟩]; rfl
    repeat
      conv => whnf
      first
        | refine cS rfl rfl ?_
        | refine cT (beq_self_eq_true _) ?_
        | refine bI (by omega) ?_
        | refine cDT (by omega) ?_
        | refine cDF (by omega) ?_
        | refine cNT (by omega) ?_
        | refine cNF (by omega) ?_
        | refine bU8 (by omega) ?_
        | refine bU32 (by omega) ?_
    conv => whnf
    rw [show decide (b.st < a.en) = true from decide_eq_true z2]
    refine AskC.use (mw a b, (⟨1, 1, 2, false, false, false⟩ : Caps), (0 : Int), (1 : Int)) [3, 4, 6] hok rfl ?_ ?_ ?_
    · repeat' (first
        | exact leT_empty
        | exact trivial
        | exact rfl
        | exact .inl rfl
        | exact .inr rfl
        | exact .inr ⟨rfl, rfl⟩
        | exact Nat.le_refl _
        | exact Nat.zero_le _
        | exact (fun _ _ => rfl)
        | refine And.intro ?_ ?_
        | (intro i hi; exact absurd hi (Nat.not_lt_zero i))
        | (intro i hi; have hi := Nat.lt_of_lt_of_le hi (show _ ≤ 1 from Nat.le_refl 1); obtain rfl : i = 0 := (by omega); rfl)
        | (intro i hi; have hi := Nat.lt_of_lt_of_le hi (show _ ≤ 2 from Nat.le_refl 2); rcases (show i = 0 ∨ i = 1 by omega) with rfl | rfl <;> rfl)
        | (intro i hi; have hi := Nat.lt_of_lt_of_le hi (show _ ≤ 3 from Nat.le_refl 3); rcases (show i = 0 ∨ i = 1 ∨ i = 2 by omega) with rfl | rfl | rfl <;> rfl))
    · repeat' (first
        | exact leT_empty
        | exact trivial
        | exact rfl
        | exact .inl rfl
        | exact .inr rfl
        | exact .inr ⟨rfl, rfl⟩
        | exact Nat.le_refl _
        | exact Nat.zero_le _
        | exact (fun _ _ => rfl)
        | refine And.intro ?_ ?_
        | (intro i hi; exact absurd hi (Nat.not_lt_zero i))
        | (intro i hi; have hi := Nat.lt_of_lt_of_le hi (show _ ≤ 1 from Nat.le_refl 1); obtain rfl : i = 0 := (by omega); rfl)
        | (intro i hi; have hi := Nat.lt_of_lt_of_le hi (show _ ≤ 2 from Nat.le_refl 2); rcases (show i = 0 ∨ i = 1 by omega) with rfl | rfl <;> rfl)
        | (intro i hi; have hi := Nat.lt_of_lt_of_le hi (show _ ≤ 3 from Nat.le_refl 3); rcases (show i = 0 ∨ i = 1 ∨ i = 2 by omega) with rfl | rfl | rfl <;> rfl))
    rw [show bv (meet (mw a b, (⟨1, 1, 2, false, false, false⟩ : Caps), (0 : Int), (1 : Int)).1 (mw a b, (⟨1, 1, 2, false, false, false⟩ : Caps), (0 : Int), (1 : Int)).2.2.1 (mw a b, (⟨1, 1, 2, false, false, false⟩ : Caps), (0 : Int), (1 : Int)).2.2.2) = bv _ from congrArg bv u01]
    conv => whnf
    refine AskC.use (mw a b, (⟨1, 1, 2, false, false, false⟩ : Caps), (1 : Int), (0 : Int)) [3, 4, 6] hok rfl ?_ ?_ ?_
    · repeat' (first
        | exact leT_empty
        | exact trivial
        | exact rfl
        | exact .inl rfl
        | exact .inr rfl
        | exact .inr ⟨rfl, rfl⟩
        | exact Nat.le_refl _
        | exact Nat.zero_le _
        | exact (fun _ _ => rfl)
        | refine And.intro ?_ ?_
        | (intro i hi; exact absurd hi (Nat.not_lt_zero i))
        | (intro i hi; have hi := Nat.lt_of_lt_of_le hi (show _ ≤ 1 from Nat.le_refl 1); obtain rfl : i = 0 := (by omega); rfl)
        | (intro i hi; have hi := Nat.lt_of_lt_of_le hi (show _ ≤ 2 from Nat.le_refl 2); rcases (show i = 0 ∨ i = 1 by omega) with rfl | rfl <;> rfl)
        | (intro i hi; have hi := Nat.lt_of_lt_of_le hi (show _ ≤ 3 from Nat.le_refl 3); rcases (show i = 0 ∨ i = 1 ∨ i = 2 by omega) with rfl | rfl | rfl <;> rfl))
    · repeat' (first
        | exact leT_empty
        | exact trivial
        | exact rfl
        | exact .inl rfl
        | exact .inr rfl
        | exact .inr ⟨rfl, rfl⟩
        | exact Nat.le_refl _
        | exact Nat.zero_le _
        | exact (fun _ _ => rfl)
        | refine And.intro ?_ ?_
        | (intro i hi; exact absurd hi (Nat.not_lt_zero i))
        | (intro i hi; have hi := Nat.lt_of_lt_of_le hi (show _ ≤ 1 from Nat.le_refl 1); obtain rfl : i = 0 := (by omega); rfl)
        | (intro i hi; have hi := Nat.lt_of_lt_of_le hi (show _ ≤ 2 from Nat.le_refl 2); rcases (show i = 0 ∨ i = 1 by omega) with rfl | rfl <;> rfl)
        | (intro i hi; have hi := Nat.lt_of_lt_of_le hi (show _ ≤ 3 from Nat.le_refl 3); rcases (show i = 0 ∨ i = 1 ∨ i = 2 by omega) with rfl | rfl | rfl <;> rfl))
    rw [show bv (meet (mw a b, (⟨1, 1, 2, false, false, false⟩ : Caps), (1 : Int), (0 : Int)).1 (mw a b, (⟨1, 1, 2, false, false, false⟩ : Caps), (1 : Int), (0 : Int)).2.2.1 (mw a b, (⟨1, 1, 2, false, false, false⟩ : Caps), (1 : Int), (0 : Int)).2.2.2) = bv _ from congrArg bv u10]
    conv => whnf
    refine AskC.use (mw a b, (⟨1, 1, 2, false, false, false⟩ : Caps), (0 : Int), (2 : Int)) [3, 4, 6] hok rfl ?_ ?_ ?_
    · repeat' (first
        | exact leT_empty
        | exact trivial
        | exact rfl
        | exact .inl rfl
        | exact .inr rfl
        | exact .inr ⟨rfl, rfl⟩
        | exact Nat.le_refl _
        | exact Nat.zero_le _
        | exact (fun _ _ => rfl)
        | refine And.intro ?_ ?_
        | (intro i hi; exact absurd hi (Nat.not_lt_zero i))
        | (intro i hi; have hi := Nat.lt_of_lt_of_le hi (show _ ≤ 1 from Nat.le_refl 1); obtain rfl : i = 0 := (by omega); rfl)
        | (intro i hi; have hi := Nat.lt_of_lt_of_le hi (show _ ≤ 2 from Nat.le_refl 2); rcases (show i = 0 ∨ i = 1 by omega) with rfl | rfl <;> rfl)
        | (intro i hi; have hi := Nat.lt_of_lt_of_le hi (show _ ≤ 3 from Nat.le_refl 3); rcases (show i = 0 ∨ i = 1 ∨ i = 2 by omega) with rfl | rfl | rfl <;> rfl))
    · repeat' (first
        | exact leT_empty
        | exact trivial
        | exact rfl
        | exact .inl rfl
        | exact .inr rfl
        | exact .inr ⟨rfl, rfl⟩
        | exact Nat.le_refl _
        | exact Nat.zero_le _
        | exact (fun _ _ => rfl)
        | refine And.intro ?_ ?_
        | (intro i hi; exact absurd hi (Nat.not_lt_zero i))
        | (intro i hi; have hi := Nat.lt_of_lt_of_le hi (show _ ≤ 1 from Nat.le_refl 1); obtain rfl : i = 0 := (by omega); rfl)
        | (intro i hi; have hi := Nat.lt_of_lt_of_le hi (show _ ≤ 2 from Nat.le_refl 2); rcases (show i = 0 ∨ i = 1 by omega) with rfl | rfl <;> rfl)
        | (intro i hi; have hi := Nat.lt_of_lt_of_le hi (show _ ≤ 3 from Nat.le_refl 3); rcases (show i = 0 ∨ i = 1 ∨ i = 2 by omega) with rfl | rfl | rfl <;> rfl))
    rw [show bv (meet (mw a b, (⟨1, 1, 2, false, false, false⟩ : Caps), (0 : Int), (2 : Int)).1 (mw a b, (⟨1, 1, 2, false, false, false⟩ : Caps), (0 : Int), (2 : Int)).2.2.1 (mw a b, (⟨1, 1, 2, false, false, false⟩ : Caps), (0 : Int), (2 : Int)).2.2.2) = bv _ from congrArg bv (mw_02 a b)]
    conv => whnf
    refine AskC.use (mw a b, (⟨1, 1, 2, false, false, false⟩ : Caps), (-1 : Int), (0 : Int)) [3, 4, 6] hok rfl ?_ ?_ ?_
    · repeat' (first
        | exact leT_empty
        | exact trivial
        | exact rfl
        | exact .inl rfl
        | exact .inr rfl
        | exact .inr ⟨rfl, rfl⟩
        | exact Nat.le_refl _
        | exact Nat.zero_le _
        | exact (fun _ _ => rfl)
        | refine And.intro ?_ ?_
        | (intro i hi; exact absurd hi (Nat.not_lt_zero i))
        | (intro i hi; have hi := Nat.lt_of_lt_of_le hi (show _ ≤ 1 from Nat.le_refl 1); obtain rfl : i = 0 := (by omega); rfl)
        | (intro i hi; have hi := Nat.lt_of_lt_of_le hi (show _ ≤ 2 from Nat.le_refl 2); rcases (show i = 0 ∨ i = 1 by omega) with rfl | rfl <;> rfl)
        | (intro i hi; have hi := Nat.lt_of_lt_of_le hi (show _ ≤ 3 from Nat.le_refl 3); rcases (show i = 0 ∨ i = 1 ∨ i = 2 by omega) with rfl | rfl | rfl <;> rfl))
    · repeat' (first
        | exact leT_empty
        | exact trivial
        | exact rfl
        | exact .inl rfl
        | exact .inr rfl
        | exact .inr ⟨rfl, rfl⟩
        | exact Nat.le_refl _
        | exact Nat.zero_le _
        | exact (fun _ _ => rfl)
        | refine And.intro ?_ ?_
        | (intro i hi; exact absurd hi (Nat.not_lt_zero i))
        | (intro i hi; have hi := Nat.lt_of_lt_of_le hi (show _ ≤ 1 from Nat.le_refl 1); obtain rfl : i = 0 := (by omega); rfl)
        | (intro i hi; have hi := Nat.lt_of_lt_of_le hi (show _ ≤ 2 from Nat.le_refl 2); rcases (show i = 0 ∨ i = 1 by omega) with rfl | rfl <;> rfl)
        | (intro i hi; have hi := Nat.lt_of_lt_of_le hi (show _ ≤ 3 from Nat.le_refl 3); rcases (show i = 0 ∨ i = 1 ∨ i = 2 by omega) with rfl | rfl | rfl <;> rfl))
    rw [show bv (meet (mw a b, (⟨1, 1, 2, false, false, false⟩ : Caps), (-1 : Int), (0 : Int)).1 (mw a b, (⟨1, 1, 2, false, false, false⟩ : Caps), (-1 : Int), (0 : Int)).2.2.1 (mw a b, (⟨1, 1, 2, false, false, false⟩ : Caps), (-1 : Int), (0 : Int)).2.2.2) = bv _ from congrArg bv (mw_n0 a b)]
    conv => whnf
    exact rfl
theorem cl_ok : ∃ cl : Cl, ClOk Try.prog cl ∧ ∀ D, OkAll pas D → cl F.law14_CheckMeets [] (xsP 0 pas D) (hsP pas D) fun x _ => x = bv true := by
  refine ⟨clRunC 7 tt outsL14 tabL 3, clRunC_ok (d := 7) ttOk outsL14_ok tabL_ok 3, fun D hD => ?_⟩
  match D, hD with
  | [d0, d1], hD =>
    obtain ⟨h0, h1, _⟩ := hD
    obtain ⟨a, ha, ea, fa⟩ := open_win h0
    obtain ⟨b, hb, eb, fb⟩ := open_win h1
    have hw := walk a b ha hb
    show clRunC 7 tt outsL14 tabL 3 13 [] (xP 0 (.agg winSh) d0 :: xP (0 + (hs winSh d0).length) (.agg winSh) d1 :: []) (hs winSh d0 ++ (hs winSh d1 ++ [])) _
    rw [ea, eb, fa, fb]
    exact hw
theorem own' : ownKnob Try.prog.godebug = none := own
theorem lifted (os : Os) (started : os.Started) (H : Type) (enc : TypeId × Value → H) :
    ReturnsInHanded {} Try.checked os 13 .any (Rows.checkMeetsSpec.pre6 enc Try.prog Try.f13 Rows.checkMeetsRow.domain false) (Rows.checkMeetsSpec.post enc Try.prog Try.f13 false true false false) := by
  refine returnsInHanded_of_change (C := Try.checked) own started (by kernel_rfl) Try.func13
    (ChangeSpec.witness6 (enc := enc) (C := Try.checked) false ⟨#[], #[.agg #[.int .i64 0, .int .i64 0, .int .i64 0, .int .i64 0, .int .i64 0, .int .i64 0], .agg #[.int .i64 0, .int .i64 0, .int .i64 0, .int .i64 0, .int .i64 0, .int .i64 0]], []⟩ 8 (by kernel_rfl) (by kernel_rfl) (by kernel_rfl) (by kernel_rfl)) ?_
  intro W base args ds gs before hval hW _ _
  obtain ⟨cl, hc, hw⟩ := cl_ok
  exact row_of (ps := pas) (by kernel_rfl) (by kernel_rfl) rfl rfl (fun ds h => by
    match ds, h with
    | [_, _], _ => rfl) hval hW hc hw
theorem closed : joinedFacts Try.prog 13 Try.f13 Rows.checkMeetsSpec Rows.checkMeetsRow = true := by
  simp only [joinedFacts, Bool.and_eq_true]
  repeat' apply And.intro
  all_goals first
    | with_reducible exact mayEnter_ok
    | with_reducible exact laid_ok
    | with_reducible exact rowed_ok
    | ((with_reducible refine beq_r lifts_ok ?_); rfl)
    | ((with_reducible refine beq_l make_ok ?_); kernel_rfl)
    | (as_aux_lemma => kernel_rfl)
theorem named : Try.prog.funcNamed Rows.checkMeetsRow.func = some 13 := by kernel_rfl
theorem inst : Try.f13.isInstance Try.prog Rows.checkMeetsRow.origin Rows.checkMeetsRow.targs := of_decide_eq_true (by kernel_rfl)
theorem wrap : Try.f13.isWrapper Try.prog Rows.checkMeetsRow.wrapper Rows.checkMeetsRow.mainSum := by
  unfold Func.isWrapper; first | (rw [if_pos (by decide +kernel)]; kernel_rfl) | (rw [if_neg (by decide +kernel)]; exact ⟨rfl, rfl⟩)
theorem over : Rows.checkMeetsRow.holds Try.pinned (OpenSpec.ofChange Rows.checkMeetsSpec) :=
  OpenClaim.holds_of_wide 13 Try.f13 rfl rfl rfl rfl rfl rfl rfl ⟨rfl, rfl, rfl, rfl, rfl⟩ rfl rfl rfl rfl rfl named Try.func13 closed inst wrap
    (fun os started H enc _ => lifted os started H enc)
/-- The statement. -/
theorem proved : Rows.CheckMeetsSaid := over
#print axioms proved
end Go.Proofs.Ytbdifadabipfiaa.checkMeets
