/- StatusPlays: every row of good and bad: all counters, their spread, behind each: true at every input; no conditions. -/
import Derived.Test.YtbdifadabipfiaaLaO
namespace Go.Proofs.Ytbdifadabipfiaa.statusPlays
open Go Go.Eng Go.Proofs Go.Proofs.Ytbdifadabipfiaa.Tb Go.Proofs.Ytbdifadabipfiaa.Co Go.Proofs.Ytbdifadabipfiaa.La Go.Pu
set_option maxRecDepth 100000
set_option maxHeartbeats 2000000
noncomputable abbrev tabL : List (FuncId × Eng.Fn) := [(F.law19_StatusPlays, fn.law19_StatusPlays u0)]
theorem tabL_ok {d : Nat} : TabOk d tabL tt := .cons (ok.law19_StatusPlays u0) (TabOk.nil)
abbrev pas : List Pa := [.one i64, .one (.s [.int .i64]), .one (.s [.bool])]
abbrev hT (x y : HE) (s u : Tb) (r : List HE) : Heap := x :: y :: rowN s :: ownN 2 s.n :: rowN u :: ownN 4 u.n :: r
theorem walk (n : Int) (len cap : Nat) (nl : Bool) (L : Nat → Int) (len2 cap2 : Nat) (nl2 : Bool) (G : Nat → Bool) :
    clRunX 8 tt outs19t tabL 2 F.law19_StatusPlays [] [iv .i64 n, .t (.one (.slc 0 0 1 0 len cap nl)), .t (.one (.slc 1 0 1 0 len2 cap2 nl2))] [rowI len L, rowL len2 G] (fun x _ => x = bv true) := by
  conv => whnf
  refine true_use ?_
  conv => whnf
  refine cD (fun h1 => ?_) (fun h1 => ?_)
  · conv => whnf
    exact rfl
  conv => whnf
  refine cD (fun h2 => ?_) (fun h2 => ?_)
  · conv => whnf
    exact rfl
  have t0 := newT_ok n
  repeat
    conv => whnf
    first
      | refine cS rfl rfl ?_
      | refine cT (beq_self_eq_true _) ?_
      | refine bI (by omega) ?_
      | refine cDT (by omega) ?_
      | refine cDF (by omega) ?_
      | refine cNT (by omega) ?_
      | refine cNF (by omega) ?_
      | refine bU8 (by omega) ?_
      | refine bU32 (by omega) ?_
  conv => whnf
  refine .det n [] (.t (.one (.ptr 3 0))) [rowI len L, rowL len2 G, rowN (newT n), ownN 2 (newT n).n] trivial rfl ?_ ?_ rfl rfl ?_
  · repeat' (first
      | exact leT_empty
      | exact trivial
      | exact rfl
      | exact .inl rfl
      | exact .inr rfl
      | exact .inr ⟨rfl, rfl⟩
      | exact Nat.le_refl _
      | exact Nat.zero_le _
      | exact (fun _ _ => rfl)
      | refine And.intro ?_ ?_
      | (intro i hi; exact absurd hi (Nat.not_lt_zero i))
      | (intro i hi; have hi := Nat.lt_of_lt_of_le hi (show _ ≤ 1 from Nat.le_refl 1); obtain rfl : i = 0 := (by omega); rfl)
      | (intro i hi; have hi := Nat.lt_of_lt_of_le hi (show _ ≤ 2 from Nat.le_refl 2); rcases (show i = 0 ∨ i = 1 by omega) with rfl | rfl <;> rfl)
      | (intro i hi; have hi := Nat.lt_of_lt_of_le hi (show _ ≤ 3 from Nat.le_refl 3); rcases (show i = 0 ∨ i = 1 ∨ i = 2 by omega) with rfl | rfl | rfl <;> rfl))
  · repeat' (first
      | exact leT_empty
      | exact trivial
      | exact rfl
      | exact .inl rfl
      | exact .inr rfl
      | exact .inr ⟨rfl, rfl⟩
      | exact Nat.le_refl _
      | exact Nat.zero_le _
      | exact (fun _ _ => rfl)
      | refine And.intro ?_ ?_
      | (intro i hi; exact absurd hi (Nat.not_lt_zero i))
      | (intro i hi; have hi := Nat.lt_of_lt_of_le hi (show _ ≤ 1 from Nat.le_refl 1); obtain rfl : i = 0 := (by omega); rfl)
      | (intro i hi; have hi := Nat.lt_of_lt_of_le hi (show _ ≤ 2 from Nat.le_refl 2); rcases (show i = 0 ∨ i = 1 by omega) with rfl | rfl <;> rfl)
      | (intro i hi; have hi := Nat.lt_of_lt_of_le hi (show _ ≤ 3 from Nat.le_refl 3); rcases (show i = 0 ∨ i = 1 ∨ i = 2 by omega) with rfl | rfl | rfl <;> rfl))
  repeat
    conv => whnf
    first
      | refine cS rfl rfl ?_
      | refine cT (beq_self_eq_true _) ?_
      | refine bI (by omega) ?_
      | refine cDT (by omega) ?_
      | refine cDF (by omega) ?_
      | refine cNT (by omega) ?_
      | refine cNF (by omega) ?_
      | refine bU8 (by omega) ?_
      | refine bU32 (by omega) ?_
  conv => whnf
  refine .det n [] (.t (.one (.ptr 5 0))) (hT (rowI len L) (rowL len2 G) (newT n) (newT n) []) trivial rfl ?_ ?_ rfl rfl ?_
  · repeat' (first
      | exact leT_empty
      | exact trivial
      | exact rfl
      | exact .inl rfl
      | exact .inr rfl
      | exact .inr ⟨rfl, rfl⟩
      | exact Nat.le_refl _
      | exact Nat.zero_le _
      | exact (fun _ _ => rfl)
      | refine And.intro ?_ ?_
      | (intro i hi; exact absurd hi (Nat.not_lt_zero i))
      | (intro i hi; have hi := Nat.lt_of_lt_of_le hi (show _ ≤ 1 from Nat.le_refl 1); obtain rfl : i = 0 := (by omega); rfl)
      | (intro i hi; have hi := Nat.lt_of_lt_of_le hi (show _ ≤ 2 from Nat.le_refl 2); rcases (show i = 0 ∨ i = 1 by omega) with rfl | rfl <;> rfl)
      | (intro i hi; have hi := Nat.lt_of_lt_of_le hi (show _ ≤ 3 from Nat.le_refl 3); rcases (show i = 0 ∨ i = 1 ∨ i = 2 by omega) with rfl | rfl | rfl <;> rfl))
  · repeat' (first
      | exact leT_empty
      | exact trivial
      | exact rfl
      | exact .inl rfl
      | exact .inr rfl
      | exact .inr ⟨rfl, rfl⟩
      | exact Nat.le_refl _
      | exact Nat.zero_le _
      | exact (fun _ _ => rfl)
      | refine And.intro ?_ ?_
      | (intro i hi; exact absurd hi (Nat.not_lt_zero i))
      | (intro i hi; have hi := Nat.lt_of_lt_of_le hi (show _ ≤ 1 from Nat.le_refl 1); obtain rfl : i = 0 := (by omega); rfl)
      | (intro i hi; have hi := Nat.lt_of_lt_of_le hi (show _ ≤ 2 from Nat.le_refl 2); rcases (show i = 0 ∨ i = 1 by omega) with rfl | rfl <;> rfl)
      | (intro i hi; have hi := Nat.lt_of_lt_of_le hi (show _ ≤ 3 from Nat.le_refl 3); rcases (show i = 0 ∨ i = 1 ∨ i = 2 by omega) with rfl | rfl | rfl <;> rfl))
  repeat
    conv => whnf
    first
      | refine cS rfl rfl ?_
      | refine cT (beq_self_eq_true _) ?_
      | refine bI (by omega) ?_
      | refine cDT (by omega) ?_
      | refine cDF (by omega) ?_
      | refine cNT (by omega) ?_
      | refine cNF (by omega) ?_
      | refine bU8 (by omega) ?_
      | refine bU32 (by omega) ?_
  conv => whnf
  refine .inv (fun p : Nat × Tb => p.1 ≤ len ∧ p.2.Ok) (fun p => [(9, iv .i64 p.1)]) (fun p => hT (rowI len L) (rowL len2 G) p.2 p.2 []) (fun p => len - p.1) (0, newT n) ⟨Nat.zero_le _, t0⟩ ?_ (fun p ⟨hi, hs⟩ => ?_)
  · conv => whnf
    refine Le.id rfl ?_ ?_
    all_goals (repeat' (first
       | exact leT_empty
       | exact trivial
       | exact rfl
       | exact .inl rfl
       | exact .inr rfl
       | exact .inr ⟨rfl, rfl⟩
       | exact Nat.le_refl _
       | exact Nat.zero_le _
       | exact (fun _ _ => rfl)
       | refine And.intro ?_ ?_
       | (intro i hi; exact absurd hi (Nat.not_lt_zero i))
       | (intro i hi; have hi := Nat.lt_of_lt_of_le hi (show _ ≤ 1 from Nat.le_refl 1); obtain rfl : i = 0 := (by omega); rfl)
       | (intro i hi; have hi := Nat.lt_of_lt_of_le hi (show _ ≤ 2 from Nat.le_refl 2); rcases (show i = 0 ∨ i = 1 by omega) with rfl | rfl <;> rfl)
       | (intro i hi; have hi := Nat.lt_of_lt_of_le hi (show _ ≤ 3 from Nat.le_refl 3); rcases (show i = 0 ∨ i = 1 ∨ i = 2 by omega) with rfl | rfl | rfl <;> rfl)))
  generalize p.1 = i at *
  generalize p.2 = s at *
  have hn := hs.1
  conv => whnf
  refine cD (fun h5 => ?_) (fun h5 => ?_)
  · repeat
      conv => whnf
      first
        | refine cS rfl rfl ?_
        | refine cT (beq_self_eq_true _) ?_
        | refine bI (by omega) ?_
        | refine cDT (by omega) ?_
        | refine cDF (by omega) ?_
        | refine cNT (by omega) ?_
        | refine cNF (by omega) ?_
        | refine bU8 (by omega) ?_
        | refine bU32 (by omega) ?_
    conv => whnf
    refine .det s [2, 3] (.t (.one (.ptr 7 0))) (hT (rowI len L) (rowL len2 G) s s [rowN s, ownN 6 s.n]) hs rfl ?_ ?_ rfl rfl ?_
    · repeat' (first
        | exact leT_empty
        | exact trivial
        | exact rfl
        | exact .inl rfl
        | exact .inr rfl
        | exact .inr ⟨rfl, rfl⟩
        | exact Nat.le_refl _
        | exact Nat.zero_le _
        | exact (fun _ _ => rfl)
        | refine And.intro ?_ ?_
        | (intro i hi; exact absurd hi (Nat.not_lt_zero i))
        | (intro i hi; have hi := Nat.lt_of_lt_of_le hi (show _ ≤ 1 from Nat.le_refl 1); obtain rfl : i = 0 := (by omega); rfl)
        | (intro i hi; have hi := Nat.lt_of_lt_of_le hi (show _ ≤ 2 from Nat.le_refl 2); rcases (show i = 0 ∨ i = 1 by omega) with rfl | rfl <;> rfl)
        | (intro i hi; have hi := Nat.lt_of_lt_of_le hi (show _ ≤ 3 from Nat.le_refl 3); rcases (show i = 0 ∨ i = 1 ∨ i = 2 by omega) with rfl | rfl | rfl <;> rfl))
    · repeat' (first
        | exact leT_empty
        | exact trivial
        | exact rfl
        | exact .inl rfl
        | exact .inr rfl
        | exact .inr ⟨rfl, rfl⟩
        | exact Nat.le_refl _
        | exact Nat.zero_le _
        | exact (fun _ _ => rfl)
        | refine And.intro ?_ ?_
        | (intro i hi; exact absurd hi (Nat.not_lt_zero i))
        | (intro i hi; have hi := Nat.lt_of_lt_of_le hi (show _ ≤ 1 from Nat.le_refl 1); obtain rfl : i = 0 := (by omega); rfl)
        | (intro i hi; have hi := Nat.lt_of_lt_of_le hi (show _ ≤ 2 from Nat.le_refl 2); rcases (show i = 0 ∨ i = 1 by omega) with rfl | rfl <;> rfl)
        | (intro i hi; have hi := Nat.lt_of_lt_of_le hi (show _ ≤ 3 from Nat.le_refl 3); rcases (show i = 0 ∨ i = 1 ∨ i = 2 by omega) with rfl | rfl | rfl <;> rfl))
    repeat
      conv => whnf
      first
        | refine cS rfl rfl ?_
        | refine cT (beq_self_eq_true _) ?_
        | refine bI (by omega) ?_
        | refine cDT (by omega) ?_
        | refine cDF (by omega) ?_
        | refine cNT (by omega) ?_
        | refine cNF (by omega) ?_
        | refine bU8 (by omega) ?_
        | refine bU32 (by omega) ?_
    conv => whnf
    try rw [zi i]
    rcases Bool.eq_false_or_eq_true (G i) with hg | hg <;> rw [hg]
    · repeat
        conv => whnf
        first
          | refine cS rfl rfl ?_
          | refine cT (beq_self_eq_true _) ?_
          | refine bI (by omega) ?_
          | refine cDT (by omega) ?_
          | refine cDF (by omega) ?_
          | refine cNT (by omega) ?_
          | refine cNF (by omega) ?_
          | refine bU8 (by omega) ?_
          | refine bU32 (by omega) ?_
      conv => whnf
      try rw [zi i]
      refine .det (s, L i) [2, 3] unitR (hT (rowI len L) (rowL len2 G) (chg s (L i) (-1)) s [rowN s, ownN 6 s.n]) hs rfl ?_ ?_ rfl rfl ?_
      · repeat' (first
          | exact leT_empty
          | exact trivial
          | exact rfl
          | exact .inl rfl
          | exact .inr rfl
          | exact .inr ⟨rfl, rfl⟩
          | exact Nat.le_refl _
          | exact Nat.zero_le _
          | exact (fun _ _ => rfl)
          | refine And.intro ?_ ?_
          | (intro i hi; exact absurd hi (Nat.not_lt_zero i))
          | (intro i hi; have hi := Nat.lt_of_lt_of_le hi (show _ ≤ 1 from Nat.le_refl 1); obtain rfl : i = 0 := (by omega); rfl)
          | (intro i hi; have hi := Nat.lt_of_lt_of_le hi (show _ ≤ 2 from Nat.le_refl 2); rcases (show i = 0 ∨ i = 1 by omega) with rfl | rfl <;> rfl)
          | (intro i hi; have hi := Nat.lt_of_lt_of_le hi (show _ ≤ 3 from Nat.le_refl 3); rcases (show i = 0 ∨ i = 1 ∨ i = 2 by omega) with rfl | rfl | rfl <;> rfl))
      · repeat' (first
          | exact leT_empty
          | exact trivial
          | exact rfl
          | exact .inl rfl
          | exact .inr rfl
          | exact .inr ⟨rfl, rfl⟩
          | exact Nat.le_refl _
          | exact Nat.zero_le _
          | exact (fun _ _ => rfl)
          | refine And.intro ?_ ?_
          | (intro i hi; exact absurd hi (Nat.not_lt_zero i))
          | (intro i hi; have hi := Nat.lt_of_lt_of_le hi (show _ ≤ 1 from Nat.le_refl 1); obtain rfl : i = 0 := (by omega); rfl)
          | (intro i hi; have hi := Nat.lt_of_lt_of_le hi (show _ ≤ 2 from Nat.le_refl 2); rcases (show i = 0 ∨ i = 1 by omega) with rfl | rfl <;> rfl)
          | (intro i hi; have hi := Nat.lt_of_lt_of_le hi (show _ ≤ 3 from Nat.le_refl 3); rcases (show i = 0 ∨ i = 1 ∨ i = 2 by omega) with rfl | rfl | rfl <;> rfl))
      repeat
        conv => whnf
        first
          | refine cS rfl rfl ?_
          | refine cT (beq_self_eq_true _) ?_
          | refine bI (by omega) ?_
          | refine cDT (by omega) ?_
          | refine cDF (by omega) ?_
          | refine cNT (by omega) ?_
          | refine cNF (by omega) ?_
          | refine bU8 (by omega) ?_
          | refine bU32 (by omega) ?_
      conv => whnf
      try rw [zi i]
      refine .det (s, L i, (-1)) [4, 5] unitR (hT (rowI len L) (rowL len2 G) (chg s (L i) (-1)) (chg s (L i) (-1)) [rowN s, ownN 6 s.n]) ⟨hs, by dsimp only; omega, by dsimp only; omega⟩ rfl ?_ ?_ rfl rfl ?_
      · repeat' (first
          | exact leT_empty
          | exact trivial
          | exact rfl
          | exact .inl rfl
          | exact .inr rfl
          | exact .inr ⟨rfl, rfl⟩
          | exact Nat.le_refl _
          | exact Nat.zero_le _
          | exact (fun _ _ => rfl)
          | refine And.intro ?_ ?_
          | (intro i hi; exact absurd hi (Nat.not_lt_zero i))
          | (intro i hi; have hi := Nat.lt_of_lt_of_le hi (show _ ≤ 1 from Nat.le_refl 1); obtain rfl : i = 0 := (by omega); rfl)
          | (intro i hi; have hi := Nat.lt_of_lt_of_le hi (show _ ≤ 2 from Nat.le_refl 2); rcases (show i = 0 ∨ i = 1 by omega) with rfl | rfl <;> rfl)
          | (intro i hi; have hi := Nat.lt_of_lt_of_le hi (show _ ≤ 3 from Nat.le_refl 3); rcases (show i = 0 ∨ i = 1 ∨ i = 2 by omega) with rfl | rfl | rfl <;> rfl))
      · repeat' (first
          | exact leT_empty
          | exact trivial
          | exact rfl
          | exact .inl rfl
          | exact .inr rfl
          | exact .inr ⟨rfl, rfl⟩
          | exact Nat.le_refl _
          | exact Nat.zero_le _
          | exact (fun _ _ => rfl)
          | refine And.intro ?_ ?_
          | (intro i hi; exact absurd hi (Nat.not_lt_zero i))
          | (intro i hi; have hi := Nat.lt_of_lt_of_le hi (show _ ≤ 1 from Nat.le_refl 1); obtain rfl : i = 0 := (by omega); rfl)
          | (intro i hi; have hi := Nat.lt_of_lt_of_le hi (show _ ≤ 2 from Nat.le_refl 2); rcases (show i = 0 ∨ i = 1 by omega) with rfl | rfl <;> rfl)
          | (intro i hi; have hi := Nat.lt_of_lt_of_le hi (show _ ≤ 3 from Nat.le_refl 3); rcases (show i = 0 ∨ i = 1 ∨ i = 2 by omega) with rfl | rfl | rfl <;> rfl))
      have hs' := chg_ok hs (L i) (-1)
      generalize chg s (L i) (-1) = u at *
      have hn' := hs'.1
      repeat
        conv => whnf
        first
          | refine cS rfl rfl ?_
          | refine cT (beq_self_eq_true _) ?_
          | refine bI (by omega) ?_
          | refine cDT (by omega) ?_
          | refine cDF (by omega) ?_
          | refine cNT (by omega) ?_
          | refine cNF (by omega) ?_
          | refine bU8 (by omega) ?_
          | refine bU32 (by omega) ?_
      conv => whnf
      refine .det (s, 0) [6, 7] unitR (hT (rowI len L) (rowL len2 G) u u [rowN (chg s 0 1), ownN 6 s.n]) hs rfl ?_ ?_ rfl rfl ?_
      · repeat' (first
          | exact leT_empty
          | exact trivial
          | exact rfl
          | exact .inl rfl
          | exact .inr rfl
          | exact .inr ⟨rfl, rfl⟩
          | exact Nat.le_refl _
          | exact Nat.zero_le _
          | exact (fun _ _ => rfl)
          | refine And.intro ?_ ?_
          | (intro i hi; exact absurd hi (Nat.not_lt_zero i))
          | (intro i hi; have hi := Nat.lt_of_lt_of_le hi (show _ ≤ 1 from Nat.le_refl 1); obtain rfl : i = 0 := (by omega); rfl)
          | (intro i hi; have hi := Nat.lt_of_lt_of_le hi (show _ ≤ 2 from Nat.le_refl 2); rcases (show i = 0 ∨ i = 1 by omega) with rfl | rfl <;> rfl)
          | (intro i hi; have hi := Nat.lt_of_lt_of_le hi (show _ ≤ 3 from Nat.le_refl 3); rcases (show i = 0 ∨ i = 1 ∨ i = 2 by omega) with rfl | rfl | rfl <;> rfl))
      · repeat' (first
          | exact leT_empty
          | exact trivial
          | exact rfl
          | exact .inl rfl
          | exact .inr rfl
          | exact .inr ⟨rfl, rfl⟩
          | exact Nat.le_refl _
          | exact Nat.zero_le _
          | exact (fun _ _ => rfl)
          | refine And.intro ?_ ?_
          | (intro i hi; exact absurd hi (Nat.not_lt_zero i))
          | (intro i hi; have hi := Nat.lt_of_lt_of_le hi (show _ ≤ 1 from Nat.le_refl 1); obtain rfl : i = 0 := (by omega); rfl)
          | (intro i hi; have hi := Nat.lt_of_lt_of_le hi (show _ ≤ 2 from Nat.le_refl 2); rcases (show i = 0 ∨ i = 1 by omega) with rfl | rfl <;> rfl)
          | (intro i hi; have hi := Nat.lt_of_lt_of_le hi (show _ ≤ 3 from Nat.le_refl 3); rcases (show i = 0 ∨ i = 1 ∨ i = 2 by omega) with rfl | rfl | rfl <;> rfl))
      repeat
        conv => whnf
        first
          | refine cS rfl rfl ?_
          | refine cT (beq_self_eq_true _) ?_
          | refine bI (by omega) ?_
          | refine cDT (by omega) ?_
          | refine cDF (by omega) ?_
          | refine cNT (by omega) ?_
          | refine cNF (by omega) ?_
          | refine bU8 (by omega) ?_
          | refine bU32 (by omega) ?_
      conv => whnf
      refine .det u [2, 3] (.t (.one (.slc 8 0 1 0 u.n u.n false))) (hT (rowI len L) (rowL len2 G) u u [rowN (chg s 0 1), ownN 6 s.n, rowN u]) hs' rfl ?_ ?_ rfl rfl ?_
      · repeat' (first
          | exact leT_empty
          | exact trivial
          | exact rfl
          | exact .inl rfl
          | exact .inr rfl
          | exact .inr ⟨rfl, rfl⟩
          | exact Nat.le_refl _
          | exact Nat.zero_le _
          | exact (fun _ _ => rfl)
          | refine And.intro ?_ ?_
          | (intro i hi; exact absurd hi (Nat.not_lt_zero i))
          | (intro i hi; have hi := Nat.lt_of_lt_of_le hi (show _ ≤ 1 from Nat.le_refl 1); obtain rfl : i = 0 := (by omega); rfl)
          | (intro i hi; have hi := Nat.lt_of_lt_of_le hi (show _ ≤ 2 from Nat.le_refl 2); rcases (show i = 0 ∨ i = 1 by omega) with rfl | rfl <;> rfl)
          | (intro i hi; have hi := Nat.lt_of_lt_of_le hi (show _ ≤ 3 from Nat.le_refl 3); rcases (show i = 0 ∨ i = 1 ∨ i = 2 by omega) with rfl | rfl | rfl <;> rfl))
      · repeat' (first
          | exact leT_empty
          | exact trivial
          | exact rfl
          | exact .inl rfl
          | exact .inr rfl
          | exact .inr ⟨rfl, rfl⟩
          | exact Nat.le_refl _
          | exact Nat.zero_le _
          | exact (fun _ _ => rfl)
          | refine And.intro ?_ ?_
          | (intro i hi; exact absurd hi (Nat.not_lt_zero i))
          | (intro i hi; have hi := Nat.lt_of_lt_of_le hi (show _ ≤ 1 from Nat.le_refl 1); obtain rfl : i = 0 := (by omega); rfl)
          | (intro i hi; have hi := Nat.lt_of_lt_of_le hi (show _ ≤ 2 from Nat.le_refl 2); rcases (show i = 0 ∨ i = 1 by omega) with rfl | rfl <;> rfl)
          | (intro i hi; have hi := Nat.lt_of_lt_of_le hi (show _ ≤ 3 from Nat.le_refl 3); rcases (show i = 0 ∨ i = 1 ∨ i = 2 by omega) with rfl | rfl | rfl <;> rfl))
      repeat
        conv => whnf
        first
          | refine cS rfl rfl ?_
          | refine cT (beq_self_eq_true _) ?_
          | refine bI (by omega) ?_
          | refine cDT (by omega) ?_
          | refine cDF (by omega) ?_
          | refine cNT (by omega) ?_
          | refine cNF (by omega) ?_
          | refine bU8 (by omega) ?_
          | refine bU32 (by omega) ?_
      conv => whnf
      refine .det u [4, 5] (pairR (spreadN u, topN u)) (hT (rowI len L) (rowL len2 G) u u [rowN (chg s 0 1), ownN 6 s.n, rowN u]) hs' rfl ?_ ?_ rfl rfl ?_
      · repeat' (first
          | exact leT_empty
          | exact trivial
          | exact rfl
          | exact .inl rfl
          | exact .inr rfl
          | exact .inr ⟨rfl, rfl⟩
          | exact Nat.le_refl _
          | exact Nat.zero_le _
          | exact (fun _ _ => rfl)
          | refine And.intro ?_ ?_
          | (intro i hi; exact absurd hi (Nat.not_lt_zero i))
          | (intro i hi; have hi := Nat.lt_of_lt_of_le hi (show _ ≤ 1 from Nat.le_refl 1); obtain rfl : i = 0 := (by omega); rfl)
          | (intro i hi; have hi := Nat.lt_of_lt_of_le hi (show _ ≤ 2 from Nat.le_refl 2); rcases (show i = 0 ∨ i = 1 by omega) with rfl | rfl <;> rfl)
          | (intro i hi; have hi := Nat.lt_of_lt_of_le hi (show _ ≤ 3 from Nat.le_refl 3); rcases (show i = 0 ∨ i = 1 ∨ i = 2 by omega) with rfl | rfl | rfl <;> rfl))
      · repeat' (first
          | exact leT_empty
          | exact trivial
          | exact rfl
          | exact .inl rfl
          | exact .inr rfl
          | exact .inr ⟨rfl, rfl⟩
          | exact Nat.le_refl _
          | exact Nat.zero_le _
          | exact (fun _ _ => rfl)
          | refine And.intro ?_ ?_
          | (intro i hi; exact absurd hi (Nat.not_lt_zero i))
          | (intro i hi; have hi := Nat.lt_of_lt_of_le hi (show _ ≤ 1 from Nat.le_refl 1); obtain rfl : i = 0 := (by omega); rfl)
          | (intro i hi; have hi := Nat.lt_of_lt_of_le hi (show _ ≤ 2 from Nat.le_refl 2); rcases (show i = 0 ∨ i = 1 by omega) with rfl | rfl <;> rfl)
          | (intro i hi; have hi := Nat.lt_of_lt_of_le hi (show _ ≤ 3 from Nat.le_refl 3); rcases (show i = 0 ∨ i = 1 ∨ i = 2 by omega) with rfl | rfl | rfl <;> rfl))
      repeat
        conv => whnf
        first
          | refine cS rfl rfl ?_
          | refine cT (beq_self_eq_true _) ?_
          | refine bI (by omega) ?_
          | refine cDT (by omega) ?_
          | refine cDF (by omega) ?_
          | refine cNT (by omega) ?_
          | refine cNF (by omega) ?_
          | refine bU8 (by omega) ?_
          | refine bU32 (by omega) ?_
      conv => whnf
      refine .det u [2, 3] (iv .i64 (spreadN u)) (hT (rowI len L) (rowL len2 G) u u [rowN (chg s 0 1), ownN 6 s.n, rowN u]) hs' rfl ?_ ?_ rfl rfl ?_
      · repeat' (first
          | exact leT_empty
          | exact trivial
          | exact rfl
          | exact .inl rfl
          | exact .inr rfl
          | exact .inr ⟨rfl, rfl⟩
          | exact Nat.le_refl _
          | exact Nat.zero_le _
          | exact (fun _ _ => rfl)
          | refine And.intro ?_ ?_
          | (intro i hi; exact absurd hi (Nat.not_lt_zero i))
          | (intro i hi; have hi := Nat.lt_of_lt_of_le hi (show _ ≤ 1 from Nat.le_refl 1); obtain rfl : i = 0 := (by omega); rfl)
          | (intro i hi; have hi := Nat.lt_of_lt_of_le hi (show _ ≤ 2 from Nat.le_refl 2); rcases (show i = 0 ∨ i = 1 by omega) with rfl | rfl <;> rfl)
          | (intro i hi; have hi := Nat.lt_of_lt_of_le hi (show _ ≤ 3 from Nat.le_refl 3); rcases (show i = 0 ∨ i = 1 ∨ i = 2 by omega) with rfl | rfl | rfl <;> rfl))
      · repeat' (first
          | exact leT_empty
          | exact trivial
          | exact rfl
          | exact .inl rfl
          | exact .inr rfl
          | exact .inr ⟨rfl, rfl⟩
          | exact Nat.le_refl _
          | exact Nat.zero_le _
          | exact (fun _ _ => rfl)
          | refine And.intro ?_ ?_
          | (intro i hi; exact absurd hi (Nat.not_lt_zero i))
          | (intro i hi; have hi := Nat.lt_of_lt_of_le hi (show _ ≤ 1 from Nat.le_refl 1); obtain rfl : i = 0 := (by omega); rfl)
          | (intro i hi; have hi := Nat.lt_of_lt_of_le hi (show _ ≤ 2 from Nat.le_refl 2); rcases (show i = 0 ∨ i = 1 by omega) with rfl | rfl <;> rfl)
          | (intro i hi; have hi := Nat.lt_of_lt_of_le hi (show _ ≤ 3 from Nat.le_refl 3); rcases (show i = 0 ∨ i = 1 ∨ i = 2 by omega) with rfl | rfl | rfl <;> rfl))
      repeat
        conv => whnf
        first
          | refine cS rfl rfl ?_
          | refine cT (beq_self_eq_true _) ?_
          | refine bI (by omega) ?_
          | refine cDT (by omega) ?_
          | refine cDF (by omega) ?_
          | refine cNT (by omega) ?_
          | refine cNF (by omega) ?_
          | refine bU8 (by omega) ?_
          | refine bU32 (by omega) ?_
      conv => whnf
      try rw [zi i]
      repeat
        conv => whnf
        first
          | refine cS rfl rfl ?_
          | refine cT (beq_self_eq_true _) ?_
          | refine bI (by omega) ?_
          | refine cDT (by omega) ?_
          | refine cDF (by omega) ?_
          | refine cNT (by omega) ?_
          | refine cNF (by omega) ?_
          | refine bU8 (by omega) ?_
          | refine bU32 (by omega) ?_
      conv => whnf
      refine .det (u, L i) [2, 3] (iv .i64 (getN u (L i))) (hT (rowI len L) (rowL len2 G) u u [rowN (chg s 0 1), ownN 6 s.n, rowN u]) hs' rfl ?_ ?_ rfl rfl ?_
      · repeat' (first
          | exact leT_empty
          | exact trivial
          | exact rfl
          | exact .inl rfl
          | exact .inr rfl
          | exact .inr ⟨rfl, rfl⟩
          | exact Nat.le_refl _
          | exact Nat.zero_le _
          | exact (fun _ _ => rfl)
          | refine And.intro ?_ ?_
          | (intro i hi; exact absurd hi (Nat.not_lt_zero i))
          | (intro i hi; have hi := Nat.lt_of_lt_of_le hi (show _ ≤ 1 from Nat.le_refl 1); obtain rfl : i = 0 := (by omega); rfl)
          | (intro i hi; have hi := Nat.lt_of_lt_of_le hi (show _ ≤ 2 from Nat.le_refl 2); rcases (show i = 0 ∨ i = 1 by omega) with rfl | rfl <;> rfl)
          | (intro i hi; have hi := Nat.lt_of_lt_of_le hi (show _ ≤ 3 from Nat.le_refl 3); rcases (show i = 0 ∨ i = 1 ∨ i = 2 by omega) with rfl | rfl | rfl <;> rfl))
      · repeat' (first
          | exact leT_empty
          | exact trivial
          | exact rfl
          | exact .inl rfl
          | exact .inr rfl
          | exact .inr ⟨rfl, rfl⟩
          | exact Nat.le_refl _
          | exact Nat.zero_le _
          | exact (fun _ _ => rfl)
          | refine And.intro ?_ ?_
          | (intro i hi; exact absurd hi (Nat.not_lt_zero i))
          | (intro i hi; have hi := Nat.lt_of_lt_of_le hi (show _ ≤ 1 from Nat.le_refl 1); obtain rfl : i = 0 := (by omega); rfl)
          | (intro i hi; have hi := Nat.lt_of_lt_of_le hi (show _ ≤ 2 from Nat.le_refl 2); rcases (show i = 0 ∨ i = 1 by omega) with rfl | rfl <;> rfl)
          | (intro i hi; have hi := Nat.lt_of_lt_of_le hi (show _ ≤ 3 from Nat.le_refl 3); rcases (show i = 0 ∨ i = 1 ∨ i = 2 by omega) with rfl | rfl | rfl <;> rfl))
      repeat
        conv => whnf
        first
          | refine cS rfl rfl ?_
          | refine cT (beq_self_eq_true _) ?_
          | refine bI (by omega) ?_
          | refine cDT (by omega) ?_
          | refine cDF (by omega) ?_
          | refine cNT (by omega) ?_
          | refine cNF (by omega) ?_
          | refine bU8 (by omega) ?_
          | refine bU32 (by omega) ?_
      conv => whnf
      try rw [zi i]
      repeat
        conv => whnf
        first
          | refine cS rfl rfl ?_
          | refine cT (beq_self_eq_true _) ?_
          | refine bI (by omega) ?_
          | refine cDT (by omega) ?_
          | refine cDF (by omega) ?_
          | refine cNT (by omega) ?_
          | refine cNF (by omega) ?_
          | refine bU8 (by omega) ?_
          | refine bU32 (by omega) ?_
      conv => whnf
      refine .det (u, L i) [4, 5] (iv .i64 (getN u (L i))) (hT (rowI len L) (rowL len2 G) u u [rowN (chg s 0 1), ownN 6 s.n, rowN u]) hs' rfl ?_ ?_ rfl rfl ?_
      · repeat' (first
          | exact leT_empty
          | exact trivial
          | exact rfl
          | exact .inl rfl
          | exact .inr rfl
          | exact .inr ⟨rfl, rfl⟩
          | exact Nat.le_refl _
          | exact Nat.zero_le _
          | exact (fun _ _ => rfl)
          | refine And.intro ?_ ?_
          | (intro i hi; exact absurd hi (Nat.not_lt_zero i))
          | (intro i hi; have hi := Nat.lt_of_lt_of_le hi (show _ ≤ 1 from Nat.le_refl 1); obtain rfl : i = 0 := (by omega); rfl)
          | (intro i hi; have hi := Nat.lt_of_lt_of_le hi (show _ ≤ 2 from Nat.le_refl 2); rcases (show i = 0 ∨ i = 1 by omega) with rfl | rfl <;> rfl)
          | (intro i hi; have hi := Nat.lt_of_lt_of_le hi (show _ ≤ 3 from Nat.le_refl 3); rcases (show i = 0 ∨ i = 1 ∨ i = 2 by omega) with rfl | rfl | rfl <;> rfl))
      · repeat' (first
          | exact leT_empty
          | exact trivial
          | exact rfl
          | exact .inl rfl
          | exact .inr rfl
          | exact .inr ⟨rfl, rfl⟩
          | exact Nat.le_refl _
          | exact Nat.zero_le _
          | exact (fun _ _ => rfl)
          | refine And.intro ?_ ?_
          | (intro i hi; exact absurd hi (Nat.not_lt_zero i))
          | (intro i hi; have hi := Nat.lt_of_lt_of_le hi (show _ ≤ 1 from Nat.le_refl 1); obtain rfl : i = 0 := (by omega); rfl)
          | (intro i hi; have hi := Nat.lt_of_lt_of_le hi (show _ ≤ 2 from Nat.le_refl 2); rcases (show i = 0 ∨ i = 1 by omega) with rfl | rfl <;> rfl)
          | (intro i hi; have hi := Nat.lt_of_lt_of_le hi (show _ ≤ 3 from Nat.le_refl 3); rcases (show i = 0 ∨ i = 1 ∨ i = 2 by omega) with rfl | rfl | rfl <;> rfl))
      repeat
        conv => whnf
        first
          | refine cS rfl rfl ?_
          | refine cT (beq_self_eq_true _) ?_
          | refine bI (by omega) ?_
          | refine cDT (by omega) ?_
          | refine cDF (by omega) ?_
          | refine cNT (by omega) ?_
          | refine cNF (by omega) ?_
          | refine bU8 (by omega) ?_
          | refine bU32 (by omega) ?_
      conv => whnf
      refine .rd (fun k : Nat => k ≤ u.n) (fun k => [(14, iv .i64 k)]) (fun k => u.n - k) 0 (Nat.zero_le _) ?_ (fun k hk => ?_)
      · conv => whnf
        refine Le.id rfl ?_ ?_
        all_goals (repeat' (first
           | exact leT_empty
           | exact trivial
           | exact rfl
           | exact .inl rfl
           | exact .inr rfl
           | exact .inr ⟨rfl, rfl⟩
           | exact Nat.le_refl _
           | exact Nat.zero_le _
           | exact (fun _ _ => rfl)
           | refine And.intro ?_ ?_
           | (intro i hi; exact absurd hi (Nat.not_lt_zero i))
           | (intro i hi; have hi := Nat.lt_of_lt_of_le hi (show _ ≤ 1 from Nat.le_refl 1); obtain rfl : i = 0 := (by omega); rfl)
           | (intro i hi; have hi := Nat.lt_of_lt_of_le hi (show _ ≤ 2 from Nat.le_refl 2); rcases (show i = 0 ∨ i = 1 by omega) with rfl | rfl <;> rfl)
           | (intro i hi; have hi := Nat.lt_of_lt_of_le hi (show _ ≤ 3 from Nat.le_refl 3); rcases (show i = 0 ∨ i = 1 ∨ i = 2 by omega) with rfl | rfl | rfl <;> rfl)))
      conv => whnf
      refine cD (fun h6 => ?_) (fun h6 => ?_)
      · repeat
          conv => whnf
          first
            | refine cS rfl rfl ?_
            | refine cT (beq_self_eq_true _) ?_
            | refine bI (by omega) ?_
            | refine cDT (by omega) ?_
            | refine cDF (by omega) ?_
            | refine cNT (by omega) ?_
            | refine cNF (by omega) ?_
            | refine bU8 (by omega) ?_
            | refine bU32 (by omega) ?_
        conv => whnf
        refine ⟨k + 1, ⟨by omega, by omega⟩, ?_⟩
        conv => whnf
        refine Le.id rfl ?_ ?_
        all_goals (repeat' (first
           | exact leT_empty
           | exact trivial
           | exact rfl
           | exact .inl rfl
           | exact .inr rfl
           | exact .inr ⟨rfl, rfl⟩
           | exact Nat.le_refl _
           | exact Nat.zero_le _
           | exact (fun _ _ => rfl)
           | refine And.intro ?_ ?_
           | (intro i hi; exact absurd hi (Nat.not_lt_zero i))
           | (intro i hi; have hi := Nat.lt_of_lt_of_le hi (show _ ≤ 1 from Nat.le_refl 1); obtain rfl : i = 0 := (by omega); rfl)
           | (intro i hi; have hi := Nat.lt_of_lt_of_le hi (show _ ≤ 2 from Nat.le_refl 2); rcases (show i = 0 ∨ i = 1 by omega) with rfl | rfl <;> rfl)
           | (intro i hi; have hi := Nat.lt_of_lt_of_le hi (show _ ≤ 3 from Nat.le_refl 3); rcases (show i = 0 ∨ i = 1 ∨ i = 2 by omega) with rfl | rfl | rfl <;> rfl)))
      · repeat
          conv => whnf
          first
            | refine cS rfl rfl ?_
            | refine cT (beq_self_eq_true _) ?_
            | refine bI (by omega) ?_
            | refine cDT (by omega) ?_
            | refine cDF (by omega) ?_
            | refine cNT (by omega) ?_
            | refine cNF (by omega) ?_
            | refine bU8 (by omega) ?_
            | refine bU32 (by omega) ?_
        conv => whnf
        refine ⟨(i + 1, u), ⟨⟨by show i + 1 ≤ len; omega, hs'⟩, by show len - (i + 1) < len - i; omega⟩, ?_⟩
        conv => whnf
        refine Le.id rfl ?_ ?_
        all_goals (repeat' (first
           | exact leT_empty
           | exact trivial
           | exact rfl
           | exact .inl rfl
           | exact .inr rfl
           | exact .inr ⟨rfl, rfl⟩
           | exact Nat.le_refl _
           | exact Nat.zero_le _
           | exact (fun _ _ => rfl)
           | refine And.intro ?_ ?_
           | (intro i hi; exact absurd hi (Nat.not_lt_zero i))
           | (intro i hi; have hi := Nat.lt_of_lt_of_le hi (show _ ≤ 1 from Nat.le_refl 1); obtain rfl : i = 0 := (by omega); rfl)
           | (intro i hi; have hi := Nat.lt_of_lt_of_le hi (show _ ≤ 2 from Nat.le_refl 2); rcases (show i = 0 ∨ i = 1 by omega) with rfl | rfl <;> rfl)
           | (intro i hi; have hi := Nat.lt_of_lt_of_le hi (show _ ≤ 3 from Nat.le_refl 3); rcases (show i = 0 ∨ i = 1 ∨ i = 2 by omega) with rfl | rfl | rfl <;> rfl)))
    · repeat
        conv => whnf
        first
          | refine cS rfl rfl ?_
          | refine cT (beq_self_eq_true _) ?_
          | refine bI (by omega) ?_
          | refine cDT (by omega) ?_
          | refine cDF (by omega) ?_
          | refine cNT (by omega) ?_
          | refine cNF (by omega) ?_
          | refine bU8 (by omega) ?_
          | refine bU32 (by omega) ?_
      conv => whnf
      try rw [zi i]
      refine .det (s, L i) [2, 3] unitR (hT (rowI len L) (rowL len2 G) (chg s (L i) 1) s [rowN s, ownN 6 s.n]) hs rfl ?_ ?_ rfl rfl ?_
      · repeat' (first
          | exact leT_empty
          | exact trivial
          | exact rfl
          | exact .inl rfl
          | exact .inr rfl
          | exact .inr ⟨rfl, rfl⟩
          | exact Nat.le_refl _
          | exact Nat.zero_le _
          | exact (fun _ _ => rfl)
          | refine And.intro ?_ ?_
          | (intro i hi; exact absurd hi (Nat.not_lt_zero i))
          | (intro i hi; have hi := Nat.lt_of_lt_of_le hi (show _ ≤ 1 from Nat.le_refl 1); obtain rfl : i = 0 := (by omega); rfl)
          | (intro i hi; have hi := Nat.lt_of_lt_of_le hi (show _ ≤ 2 from Nat.le_refl 2); rcases (show i = 0 ∨ i = 1 by omega) with rfl | rfl <;> rfl)
          | (intro i hi; have hi := Nat.lt_of_lt_of_le hi (show _ ≤ 3 from Nat.le_refl 3); rcases (show i = 0 ∨ i = 1 ∨ i = 2 by omega) with rfl | rfl | rfl <;> rfl))
      · repeat' (first
          | exact leT_empty
          | exact trivial
          | exact rfl
          | exact .inl rfl
          | exact .inr rfl
          | exact .inr ⟨rfl, rfl⟩
          | exact Nat.le_refl _
          | exact Nat.zero_le _
          | exact (fun _ _ => rfl)
          | refine And.intro ?_ ?_
          | (intro i hi; exact absurd hi (Nat.not_lt_zero i))
          | (intro i hi; have hi := Nat.lt_of_lt_of_le hi (show _ ≤ 1 from Nat.le_refl 1); obtain rfl : i = 0 := (by omega); rfl)
          | (intro i hi; have hi := Nat.lt_of_lt_of_le hi (show _ ≤ 2 from Nat.le_refl 2); rcases (show i = 0 ∨ i = 1 by omega) with rfl | rfl <;> rfl)
          | (intro i hi; have hi := Nat.lt_of_lt_of_le hi (show _ ≤ 3 from Nat.le_refl 3); rcases (show i = 0 ∨ i = 1 ∨ i = 2 by omega) with rfl | rfl | rfl <;> rfl))
      repeat
        conv => whnf
        first
          | refine cS rfl rfl ?_
          | refine cT (beq_self_eq_true _) ?_
          | refine bI (by omega) ?_
          | refine cDT (by omega) ?_
          | refine cDF (by omega) ?_
          | refine cNT (by omega) ?_
          | refine cNF (by omega) ?_
          | refine bU8 (by omega) ?_
          | refine bU32 (by omega) ?_
      conv => whnf
      try rw [zi i]
      refine .det (s, L i, 1) [4, 5] unitR (hT (rowI len L) (rowL len2 G) (chg s (L i) 1) (chg s (L i) 1) [rowN s, ownN 6 s.n]) ⟨hs, by dsimp only; omega, by dsimp only; omega⟩ rfl ?_ ?_ rfl rfl ?_
      · repeat' (first
          | exact leT_empty
          | exact trivial
          | exact rfl
          | exact .inl rfl
          | exact .inr rfl
          | exact .inr ⟨rfl, rfl⟩
          | exact Nat.le_refl _
          | exact Nat.zero_le _
          | exact (fun _ _ => rfl)
          | refine And.intro ?_ ?_
          | (intro i hi; exact absurd hi (Nat.not_lt_zero i))
          | (intro i hi; have hi := Nat.lt_of_lt_of_le hi (show _ ≤ 1 from Nat.le_refl 1); obtain rfl : i = 0 := (by omega); rfl)
          | (intro i hi; have hi := Nat.lt_of_lt_of_le hi (show _ ≤ 2 from Nat.le_refl 2); rcases (show i = 0 ∨ i = 1 by omega) with rfl | rfl <;> rfl)
          | (intro i hi; have hi := Nat.lt_of_lt_of_le hi (show _ ≤ 3 from Nat.le_refl 3); rcases (show i = 0 ∨ i = 1 ∨ i = 2 by omega) with rfl | rfl | rfl <;> rfl))
      · repeat' (first
          | exact leT_empty
          | exact trivial
          | exact rfl
          | exact .inl rfl
          | exact .inr rfl
          | exact .inr ⟨rfl, rfl⟩
          | exact Nat.le_refl _
          | exact Nat.zero_le _
          | exact (fun _ _ => rfl)
          | refine And.intro ?_ ?_
          | (intro i hi; exact absurd hi (Nat.not_lt_zero i))
          | (intro i hi; have hi := Nat.lt_of_lt_of_le hi (show _ ≤ 1 from Nat.le_refl 1); obtain rfl : i = 0 := (by omega); rfl)
          | (intro i hi; have hi := Nat.lt_of_lt_of_le hi (show _ ≤ 2 from Nat.le_refl 2); rcases (show i = 0 ∨ i = 1 by omega) with rfl | rfl <;> rfl)
          | (intro i hi; have hi := Nat.lt_of_lt_of_le hi (show _ ≤ 3 from Nat.le_refl 3); rcases (show i = 0 ∨ i = 1 ∨ i = 2 by omega) with rfl | rfl | rfl <;> rfl))
      have hs' := chg_ok hs (L i) 1
      generalize chg s (L i) 1 = u at *
      have hn' := hs'.1
      repeat
        conv => whnf
        first
          | refine cS rfl rfl ?_
          | refine cT (beq_self_eq_true _) ?_
          | refine bI (by omega) ?_
          | refine cDT (by omega) ?_
          | refine cDF (by omega) ?_
          | refine cNT (by omega) ?_
          | refine cNF (by omega) ?_
          | refine bU8 (by omega) ?_
          | refine bU32 (by omega) ?_
      conv => whnf
      refine .det (s, 0) [6, 7] unitR (hT (rowI len L) (rowL len2 G) u u [rowN (chg s 0 1), ownN 6 s.n]) hs rfl ?_ ?_ rfl rfl ?_
      · repeat' (first
          | exact leT_empty
          | exact trivial
          | exact rfl
          | exact .inl rfl
          | exact .inr rfl
          | exact .inr ⟨rfl, rfl⟩
          | exact Nat.le_refl _
          | exact Nat.zero_le _
          | exact (fun _ _ => rfl)
          | refine And.intro ?_ ?_
          | (intro i hi; exact absurd hi (Nat.not_lt_zero i))
          | (intro i hi; have hi := Nat.lt_of_lt_of_le hi (show _ ≤ 1 from Nat.le_refl 1); obtain rfl : i = 0 := (by omega); rfl)
          | (intro i hi; have hi := Nat.lt_of_lt_of_le hi (show _ ≤ 2 from Nat.le_refl 2); rcases (show i = 0 ∨ i = 1 by omega) with rfl | rfl <;> rfl)
          | (intro i hi; have hi := Nat.lt_of_lt_of_le hi (show _ ≤ 3 from Nat.le_refl 3); rcases (show i = 0 ∨ i = 1 ∨ i = 2 by omega) with rfl | rfl | rfl <;> rfl))
      · repeat' (first
          | exact leT_empty
          | exact trivial
          | exact rfl
          | exact .inl rfl
          | exact .inr rfl
          | exact .inr ⟨rfl, rfl⟩
          | exact Nat.le_refl _
          | exact Nat.zero_le _
          | exact (fun _ _ => rfl)
          | refine And.intro ?_ ?_
          | (intro i hi; exact absurd hi (Nat.not_lt_zero i))
          | (intro i hi; have hi := Nat.lt_of_lt_of_le hi (show _ ≤ 1 from Nat.le_refl 1); obtain rfl : i = 0 := (by omega); rfl)
          | (intro i hi; have hi := Nat.lt_of_lt_of_le hi (show _ ≤ 2 from Nat.le_refl 2); rcases (show i = 0 ∨ i = 1 by omega) with rfl | rfl <;> rfl)
          | (intro i hi; have hi := Nat.lt_of_lt_of_le hi (show _ ≤ 3 from Nat.le_refl 3); rcases (show i = 0 ∨ i = 1 ∨ i = 2 by omega) with rfl | rfl | rfl <;> rfl))
      repeat
        conv => whnf
        first
          | refine cS rfl rfl ?_
          | refine cT (beq_self_eq_true _) ?_
          | refine bI (by omega) ?_
          | refine cDT (by omega) ?_
          | refine cDF (by omega) ?_
          | refine cNT (by omega) ?_
          | refine cNF (by omega) ?_
          | refine bU8 (by omega) ?_
          | refine bU32 (by omega) ?_
      conv => whnf
      refine .det u [2, 3] (.t (.one (.slc 8 0 1 0 u.n u.n false))) (hT (rowI len L) (rowL len2 G) u u [rowN (chg s 0 1), ownN 6 s.n, rowN u]) hs' rfl ?_ ?_ rfl rfl ?_
      · repeat' (first
          | exact leT_empty
          | exact trivial
          | exact rfl
          | exact .inl rfl
          | exact .inr rfl
          | exact .inr ⟨rfl, rfl⟩
          | exact Nat.le_refl _
          | exact Nat.zero_le _
          | exact (fun _ _ => rfl)
          | refine And.intro ?_ ?_
          | (intro i hi; exact absurd hi (Nat.not_lt_zero i))
          | (intro i hi; have hi := Nat.lt_of_lt_of_le hi (show _ ≤ 1 from Nat.le_refl 1); obtain rfl : i = 0 := (by omega); rfl)
          | (intro i hi; have hi := Nat.lt_of_lt_of_le hi (show _ ≤ 2 from Nat.le_refl 2); rcases (show i = 0 ∨ i = 1 by omega) with rfl | rfl <;> rfl)
          | (intro i hi; have hi := Nat.lt_of_lt_of_le hi (show _ ≤ 3 from Nat.le_refl 3); rcases (show i = 0 ∨ i = 1 ∨ i = 2 by omega) with rfl | rfl | rfl <;> rfl))
      · repeat' (first
          | exact leT_empty
          | exact trivial
          | exact rfl
          | exact .inl rfl
          | exact .inr rfl
          | exact .inr ⟨rfl, rfl⟩
          | exact Nat.le_refl _
          | exact Nat.zero_le _
          | exact (fun _ _ => rfl)
          | refine And.intro ?_ ?_
          | (intro i hi; exact absurd hi (Nat.not_lt_zero i))
          | (intro i hi; have hi := Nat.lt_of_lt_of_le hi (show _ ≤ 1 from Nat.le_refl 1); obtain rfl : i = 0 := (by omega); rfl)
          | (intro i hi; have hi := Nat.lt_of_lt_of_le hi (show _ ≤ 2 from Nat.le_refl 2); rcases (show i = 0 ∨ i = 1 by omega) with rfl | rfl <;> rfl)
          | (intro i hi; have hi := Nat.lt_of_lt_of_le hi (show _ ≤ 3 from Nat.le_refl 3); rcases (show i = 0 ∨ i = 1 ∨ i = 2 by omega) with rfl | rfl | rfl <;> rfl))
      repeat
        conv => whnf
        first
          | refine cS rfl rfl ?_
          | refine cT (beq_self_eq_true _) ?_
          | refine bI (by omega) ?_
          | refine cDT (by omega) ?_
          | refine cDF (by omega) ?_
          | refine cNT (by omega) ?_
          | refine cNF (by omega) ?_
          | refine bU8 (by omega) ?_
          | refine bU32 (by omega) ?_
      conv => whnf
      refine .det u [4, 5] (pairR (spreadN u, topN u)) (hT (rowI len L) (rowL len2 G) u u [rowN (chg s 0 1), ownN 6 s.n, rowN u]) hs' rfl ?_ ?_ rfl rfl ?_
      · repeat' (first
          | exact leT_empty
          | exact trivial
          | exact rfl
          | exact .inl rfl
          | exact .inr rfl
          | exact .inr ⟨rfl, rfl⟩
          | exact Nat.le_refl _
          | exact Nat.zero_le _
          | exact (fun _ _ => rfl)
          | refine And.intro ?_ ?_
          | (intro i hi; exact absurd hi (Nat.not_lt_zero i))
          | (intro i hi; have hi := Nat.lt_of_lt_of_le hi (show _ ≤ 1 from Nat.le_refl 1); obtain rfl : i = 0 := (by omega); rfl)
          | (intro i hi; have hi := Nat.lt_of_lt_of_le hi (show _ ≤ 2 from Nat.le_refl 2); rcases (show i = 0 ∨ i = 1 by omega) with rfl | rfl <;> rfl)
          | (intro i hi; have hi := Nat.lt_of_lt_of_le hi (show _ ≤ 3 from Nat.le_refl 3); rcases (show i = 0 ∨ i = 1 ∨ i = 2 by omega) with rfl | rfl | rfl <;> rfl))
      · repeat' (first
          | exact leT_empty
          | exact trivial
          | exact rfl
          | exact .inl rfl
          | exact .inr rfl
          | exact .inr ⟨rfl, rfl⟩
          | exact Nat.le_refl _
          | exact Nat.zero_le _
          | exact (fun _ _ => rfl)
          | refine And.intro ?_ ?_
          | (intro i hi; exact absurd hi (Nat.not_lt_zero i))
          | (intro i hi; have hi := Nat.lt_of_lt_of_le hi (show _ ≤ 1 from Nat.le_refl 1); obtain rfl : i = 0 := (by omega); rfl)
          | (intro i hi; have hi := Nat.lt_of_lt_of_le hi (show _ ≤ 2 from Nat.le_refl 2); rcases (show i = 0 ∨ i = 1 by omega) with rfl | rfl <;> rfl)
          | (intro i hi; have hi := Nat.lt_of_lt_of_le hi (show _ ≤ 3 from Nat.le_refl 3); rcases (show i = 0 ∨ i = 1 ∨ i = 2 by omega) with rfl | rfl | rfl <;> rfl))
      repeat
        conv => whnf
        first
          | refine cS rfl rfl ?_
          | refine cT (beq_self_eq_true _) ?_
          | refine bI (by omega) ?_
          | refine cDT (by omega) ?_
          | refine cDF (by omega) ?_
          | refine cNT (by omega) ?_
          | refine cNF (by omega) ?_
          | refine bU8 (by omega) ?_
          | refine bU32 (by omega) ?_
      conv => whnf
      refine .det u [2, 3] (iv .i64 (spreadN u)) (hT (rowI len L) (rowL len2 G) u u [rowN (chg s 0 1), ownN 6 s.n, rowN u]) hs' rfl ?_ ?_ rfl rfl ?_
      · repeat' (first
          | exact leT_empty
          | exact trivial
          | exact rfl
          | exact .inl rfl
          | exact .inr rfl
          | exact .inr ⟨rfl, rfl⟩
          | exact Nat.le_refl _
          | exact Nat.zero_le _
          | exact (fun _ _ => rfl)
          | refine And.intro ?_ ?_
          | (intro i hi; exact absurd hi (Nat.not_lt_zero i))
          | (intro i hi; have hi := Nat.lt_of_lt_of_le hi (show _ ≤ 1 from Nat.le_refl 1); obtain rfl : i = 0 := (by omega); rfl)
          | (intro i hi; have hi := Nat.lt_of_lt_of_le hi (show _ ≤ 2 from Nat.le_refl 2); rcases (show i = 0 ∨ i = 1 by omega) with rfl | rfl <;> rfl)
          | (intro i hi; have hi := Nat.lt_of_lt_of_le hi (show _ ≤ 3 from Nat.le_refl 3); rcases (show i = 0 ∨ i = 1 ∨ i = 2 by omega) with rfl | rfl | rfl <;> rfl))
      · repeat' (first
          | exact leT_empty
          | exact trivial
          | exact rfl
          | exact .inl rfl
          | exact .inr rfl
          | exact .inr ⟨rfl, rfl⟩
          | exact Nat.le_refl _
          | exact Nat.zero_le _
          | exact (fun _ _ => rfl)
          | refine And.intro ?_ ?_
          | (intro i hi; exact absurd hi (Nat.not_lt_zero i))
          | (intro i hi; have hi := Nat.lt_of_lt_of_le hi (show _ ≤ 1 from Nat.le_refl 1); obtain rfl : i = 0 := (by omega); rfl)
          | (intro i hi; have hi := Nat.lt_of_lt_of_le hi (show _ ≤ 2 from Nat.le_refl 2); rcases (show i = 0 ∨ i = 1 by omega) with rfl | rfl <;> rfl)
          | (intro i hi; have hi := Nat.lt_of_lt_of_le hi (show _ ≤ 3 from Nat.le_refl 3); rcases (show i = 0 ∨ i = 1 ∨ i = 2 by omega) with rfl | rfl | rfl <;> rfl))
      repeat
        conv => whnf
        first
          | refine cS rfl rfl ?_
          | refine cT (beq_self_eq_true _) ?_
          | refine bI (by omega) ?_
          | refine cDT (by omega) ?_
          | refine cDF (by omega) ?_
          | refine cNT (by omega) ?_
          | refine cNF (by omega) ?_
          | refine bU8 (by omega) ?_
          | refine bU32 (by omega) ?_
      conv => whnf
      try rw [zi i]
      repeat
        conv => whnf
        first
          | refine cS rfl rfl ?_
          | refine cT (beq_self_eq_true _) ?_
          | refine bI (by omega) ?_
          | refine cDT (by omega) ?_
          | refine cDF (by omega) ?_
          | refine cNT (by omega) ?_
          | refine cNF (by omega) ?_
          | refine bU8 (by omega) ?_
          | refine bU32 (by omega) ?_
      conv => whnf
      refine .det (u, L i) [2, 3] (iv .i64 (getN u (L i))) (hT (rowI len L) (rowL len2 G) u u [rowN (chg s 0 1), ownN 6 s.n, rowN u]) hs' rfl ?_ ?_ rfl rfl ?_
      · repeat' (first
          | exact leT_empty
          | exact trivial
          | exact rfl
          | exact .inl rfl
          | exact .inr rfl
          | exact .inr ⟨rfl, rfl⟩
          | exact Nat.le_refl _
          | exact Nat.zero_le _
          | exact (fun _ _ => rfl)
          | refine And.intro ?_ ?_
          | (intro i hi; exact absurd hi (Nat.not_lt_zero i))
          | (intro i hi; have hi := Nat.lt_of_lt_of_le hi (show _ ≤ 1 from Nat.le_refl 1); obtain rfl : i = 0 := (by omega); rfl)
          | (intro i hi; have hi := Nat.lt_of_lt_of_le hi (show _ ≤ 2 from Nat.le_refl 2); rcases (show i = 0 ∨ i = 1 by omega) with rfl | rfl <;> rfl)
          | (intro i hi; have hi := Nat.lt_of_lt_of_le hi (show _ ≤ 3 from Nat.le_refl 3); rcases (show i = 0 ∨ i = 1 ∨ i = 2 by omega) with rfl | rfl | rfl <;> rfl))
      · repeat' (first
          | exact leT_empty
          | exact trivial
          | exact rfl
          | exact .inl rfl
          | exact .inr rfl
          | exact .inr ⟨rfl, rfl⟩
          | exact Nat.le_refl _
          | exact Nat.zero_le _
          | exact (fun _ _ => rfl)
          | refine And.intro ?_ ?_
          | (intro i hi; exact absurd hi (Nat.not_lt_zero i))
          | (intro i hi; have hi := Nat.lt_of_lt_of_le hi (show _ ≤ 1 from Nat.le_refl 1); obtain rfl : i = 0 := (by omega); rfl)
          | (intro i hi; have hi := Nat.lt_of_lt_of_le hi (show _ ≤ 2 from Nat.le_refl 2); rcases (show i = 0 ∨ i = 1 by omega) with rfl | rfl <;> rfl)
          | (intro i hi; have hi := Nat.lt_of_lt_of_le hi (show _ ≤ 3 from Nat.le_refl 3); rcases (show i = 0 ∨ i = 1 ∨ i = 2 by omega) with rfl | rfl | rfl <;> rfl))
      repeat
        conv => whnf
        first
          | refine cS rfl rfl ?_
          | refine cT (beq_self_eq_true _) ?_
          | refine bI (by omega) ?_
          | refine cDT (by omega) ?_
          | refine cDF (by omega) ?_
          | refine cNT (by omega) ?_
          | refine cNF (by omega) ?_
          | refine bU8 (by omega) ?_
          | refine bU32 (by omega) ?_
      conv => whnf
      try rw [zi i]
      repeat
        conv => whnf
        first
          | refine cS rfl rfl ?_
          | refine cT (beq_self_eq_true _) ?_
          | refine bI (by omega) ?_
          | refine cDT (by omega) ?_
          | refine cDF (by omega) ?_
          | refine cNT (by omega) ?_
          | refine cNF (by omega) ?_
          | refine bU8 (by omega) ?_
          | refine bU32 (by omega) ?_
      conv => whnf
      refine .det (u, L i) [4, 5] (iv .i64 (getN u (L i))) (hT (rowI len L) (rowL len2 G) u u [rowN (chg s 0 1), ownN 6 s.n, rowN u]) hs' rfl ?_ ?_ rfl rfl ?_
      · repeat' (first
          | exact leT_empty
          | exact trivial
          | exact rfl
          | exact .inl rfl
          | exact .inr rfl
          | exact .inr ⟨rfl, rfl⟩
          | exact Nat.le_refl _
          | exact Nat.zero_le _
          | exact (fun _ _ => rfl)
          | refine And.intro ?_ ?_
          | (intro i hi; exact absurd hi (Nat.not_lt_zero i))
          | (intro i hi; have hi := Nat.lt_of_lt_of_le hi (show _ ≤ 1 from Nat.le_refl 1); obtain rfl : i = 0 := (by omega); rfl)
          | (intro i hi; have hi := Nat.lt_of_lt_of_le hi (show _ ≤ 2 from Nat.le_refl 2); rcases (show i = 0 ∨ i = 1 by omega) with rfl | rfl <;> rfl)
          | (intro i hi; have hi := Nat.lt_of_lt_of_le hi (show _ ≤ 3 from Nat.le_refl 3); rcases (show i = 0 ∨ i = 1 ∨ i = 2 by omega) with rfl | rfl | rfl <;> rfl))
      · repeat' (first
          | exact leT_empty
          | exact trivial
          | exact rfl
          | exact .inl rfl
          | exact .inr rfl
          | exact .inr ⟨rfl, rfl⟩
          | exact Nat.le_refl _
          | exact Nat.zero_le _
          | exact (fun _ _ => rfl)
          | refine And.intro ?_ ?_
          | (intro i hi; exact absurd hi (Nat.not_lt_zero i))
          | (intro i hi; have hi := Nat.lt_of_lt_of_le hi (show _ ≤ 1 from Nat.le_refl 1); obtain rfl : i = 0 := (by omega); rfl)
          | (intro i hi; have hi := Nat.lt_of_lt_of_le hi (show _ ≤ 2 from Nat.le_refl 2); rcases (show i = 0 ∨ i = 1 by omega) with rfl | rfl <;> rfl)
          | (intro i hi; have hi := Nat.lt_of_lt_of_le hi (show _ ≤ 3 from Nat.le_refl 3); rcases (show i = 0 ∨ i = 1 ∨ i = 2 by omega) with rfl | rfl | rfl <;> rfl))
      repeat
        conv => whnf
        first
          | refine cS rfl rfl ?_
          | refine cT (beq_self_eq_true _) ?_
          | refine bI (by omega) ?_
          | refine cDT (by omega) ?_
          | refine cDF (by omega) ?_
          | refine cNT (by omega) ?_
          | refine cNF (by omega) ?_
          | refine bU8 (by omega) ?_
          | refine bU32 (by omega) ?_
      conv => whnf
      refine .rd (fun k : Nat => k ≤ u.n) (fun k => [(14, iv .i64 k)]) (fun k => u.n - k) 0 (Nat.zero_le _) ?_ (fun k hk => ?_)
      · conv => whnf
        refine Le.id rfl ?_ ?_
        all_goals (repeat' (first
           | exact leT_empty
           | exact trivial
           | exact rfl
           | exact .inl rfl
           | exact .inr rfl
           | exact .inr ⟨rfl, rfl⟩
           | exact Nat.le_refl _
           | exact Nat.zero_le _
           | exact (fun _ _ => rfl)
           | refine And.intro ?_ ?_
           | (intro i hi; exact absurd hi (Nat.not_lt_zero i))
           | (intro i hi; have hi := Nat.lt_of_lt_of_le hi (show _ ≤ 1 from Nat.le_refl 1); obtain rfl : i = 0 := (by omega); rfl)
           | (intro i hi; have hi := Nat.lt_of_lt_of_le hi (show _ ≤ 2 from Nat.le_refl 2); rcases (show i = 0 ∨ i = 1 by omega) with rfl | rfl <;> rfl)
           | (intro i hi; have hi := Nat.lt_of_lt_of_le hi (show _ ≤ 3 from Nat.le_refl 3); rcases (show i = 0 ∨ i = 1 ∨ i = 2 by omega) with rfl | rfl | rfl <;> rfl)))
      conv => whnf
      refine cD (fun h6 => ?_) (fun h6 => ?_)
      · repeat
          conv => whnf
          first
            | refine cS rfl rfl ?_
            | refine cT (beq_self_eq_true _) ?_
            | refine bI (by omega) ?_
            | refine cDT (by omega) ?_
            | refine cDF (by omega) ?_
            | refine cNT (by omega) ?_
            | refine cNF (by omega) ?_
            | refine bU8 (by omega) ?_
            | refine bU32 (by omega) ?_
        conv => whnf
        refine ⟨k + 1, ⟨by omega, by omega⟩, ?_⟩
        conv => whnf
        refine Le.id rfl ?_ ?_
        all_goals (repeat' (first
           | exact leT_empty
           | exact trivial
           | exact rfl
           | exact .inl rfl
           | exact .inr rfl
           | exact .inr ⟨rfl, rfl⟩
           | exact Nat.le_refl _
           | exact Nat.zero_le _
           | exact (fun _ _ => rfl)
           | refine And.intro ?_ ?_
           | (intro i hi; exact absurd hi (Nat.not_lt_zero i))
           | (intro i hi; have hi := Nat.lt_of_lt_of_le hi (show _ ≤ 1 from Nat.le_refl 1); obtain rfl : i = 0 := (by omega); rfl)
           | (intro i hi; have hi := Nat.lt_of_lt_of_le hi (show _ ≤ 2 from Nat.le_refl 2); rcases (show i = 0 ∨ i = 1 by omega) with rfl | rfl <;> rfl)
           | (intro i hi; have hi := Nat.lt_of_lt_of_le hi (show _ ≤ 3 from Nat.le_refl 3); rcases (show i = 0 ∨ i = 1 ∨ i = 2 by omega) with rfl | rfl | rfl <;> rfl)))
      · repeat
          conv => whnf
          first
            | refine cS rfl rfl ?_
            | refine cT (beq_self_eq_true _) ?_
            | refine bI (by omega) ?_
            | refine cDT (by omega) ?_
            | refine cDF (by omega) ?_
            | refine cNT (by omega) ?_
            | refine cNF (by omega) ?_
            | refine bU8 (by omega) ?_
            | refine bU32 (by omega) ?_
        conv => whnf
        refine ⟨(i + 1, u), ⟨⟨by show i + 1 ≤ len; omega, hs'⟩, by show len - (i + 1) < len - i; omega⟩, ?_⟩
        conv => whnf
        refine Le.id rfl ?_ ?_
        all_goals (repeat' (first
           | exact leT_empty
           | exact trivial
           | exact rfl
           | exact .inl rfl
           | exact .inr rfl
           | exact .inr ⟨rfl, rfl⟩
           | exact Nat.le_refl _
           | exact Nat.zero_le _
           | exact (fun _ _ => rfl)
           | refine And.intro ?_ ?_
           | (intro i hi; exact absurd hi (Nat.not_lt_zero i))
           | (intro i hi; have hi := Nat.lt_of_lt_of_le hi (show _ ≤ 1 from Nat.le_refl 1); obtain rfl : i = 0 := (by omega); rfl)
           | (intro i hi; have hi := Nat.lt_of_lt_of_le hi (show _ ≤ 2 from Nat.le_refl 2); rcases (show i = 0 ∨ i = 1 by omega) with rfl | rfl <;> rfl)
           | (intro i hi; have hi := Nat.lt_of_lt_of_le hi (show _ ≤ 3 from Nat.le_refl 3); rcases (show i = 0 ∨ i = 1 ∨ i = 2 by omega) with rfl | rfl | rfl <;> rfl)))
  have hz := zeroT_ok hs
  have zn : (zeroT s).n = s.n := rfl
  have zf : ∀ q, (zeroT s).f q = 0 := fun _ => rfl
  repeat
    conv => whnf
    first
      | refine cS rfl rfl ?_
      | refine cT (beq_self_eq_true _) ?_
      | refine bI (by omega) ?_
      | refine cDT (by omega) ?_
      | refine cDF (by omega) ?_
      | refine cNT (by omega) ?_
      | refine cNF (by omega) ?_
      | refine bU8 (by omega) ?_
      | refine bU32 (by omega) ?_
  conv => whnf
  refine .det s [2, 3] unitR (hT (rowI len L) (rowL len2 G) (zeroT s) s []) hs rfl ?_ ?_ rfl rfl ?_
  · repeat' (first
      | exact leT_empty
      | exact trivial
      | exact rfl
      | exact .inl rfl
      | exact .inr rfl
      | exact .inr ⟨rfl, rfl⟩
      | exact Nat.le_refl _
      | exact Nat.zero_le _
      | exact (fun _ _ => rfl)
      | refine And.intro ?_ ?_
      | (intro i hi; exact absurd hi (Nat.not_lt_zero i))
      | (intro i hi; have hi := Nat.lt_of_lt_of_le hi (show _ ≤ 1 from Nat.le_refl 1); obtain rfl : i = 0 := (by omega); rfl)
      | (intro i hi; have hi := Nat.lt_of_lt_of_le hi (show _ ≤ 2 from Nat.le_refl 2); rcases (show i = 0 ∨ i = 1 by omega) with rfl | rfl <;> rfl)
      | (intro i hi; have hi := Nat.lt_of_lt_of_le hi (show _ ≤ 3 from Nat.le_refl 3); rcases (show i = 0 ∨ i = 1 ∨ i = 2 by omega) with rfl | rfl | rfl <;> rfl))
  · repeat' (first
      | exact leT_empty
      | exact trivial
      | exact rfl
      | exact .inl rfl
      | exact .inr rfl
      | exact .inr ⟨rfl, rfl⟩
      | exact Nat.le_refl _
      | exact Nat.zero_le _
      | exact (fun _ _ => rfl)
      | refine And.intro ?_ ?_
      | (intro i hi; exact absurd hi (Nat.not_lt_zero i))
      | (intro i hi; have hi := Nat.lt_of_lt_of_le hi (show _ ≤ 1 from Nat.le_refl 1); obtain rfl : i = 0 := (by omega); rfl)
      | (intro i hi; have hi := Nat.lt_of_lt_of_le hi (show _ ≤ 2 from Nat.le_refl 2); rcases (show i = 0 ∨ i = 1 by omega) with rfl | rfl <;> rfl)
      | (intro i hi; have hi := Nat.lt_of_lt_of_le hi (show _ ≤ 3 from Nat.le_refl 3); rcases (show i = 0 ∨ i = 1 ∨ i = 2 by omega) with rfl | rfl | rfl <;> rfl))
  repeat
    conv => whnf
    first
      | refine cS rfl rfl ?_
      | refine cT (beq_self_eq_true _) ?_
      | refine bI (by omega) ?_
      | refine cDT (by omega) ?_
      | refine cDF (by omega) ?_
      | refine cNT (by omega) ?_
      | refine cNF (by omega) ?_
      | refine bU8 (by omega) ?_
      | refine bU32 (by omega) ?_
  conv => whnf
  refine .det (zeroT s) [2, 3] (.t (.one (.slc 6 0 1 0 s.n s.n false))) (hT (rowI len L) (rowL len2 G) (zeroT s) s [rowN (zeroT s)]) hz rfl ?_ ?_ rfl rfl ?_
  · repeat' (first
      | exact leT_empty
      | exact trivial
      | exact rfl
      | exact .inl rfl
      | exact .inr rfl
      | exact .inr ⟨rfl, rfl⟩
      | exact Nat.le_refl _
      | exact Nat.zero_le _
      | exact (fun _ _ => rfl)
      | refine And.intro ?_ ?_
      | (intro i hi; exact absurd hi (Nat.not_lt_zero i))
      | (intro i hi; have hi := Nat.lt_of_lt_of_le hi (show _ ≤ 1 from Nat.le_refl 1); obtain rfl : i = 0 := (by omega); rfl)
      | (intro i hi; have hi := Nat.lt_of_lt_of_le hi (show _ ≤ 2 from Nat.le_refl 2); rcases (show i = 0 ∨ i = 1 by omega) with rfl | rfl <;> rfl)
      | (intro i hi; have hi := Nat.lt_of_lt_of_le hi (show _ ≤ 3 from Nat.le_refl 3); rcases (show i = 0 ∨ i = 1 ∨ i = 2 by omega) with rfl | rfl | rfl <;> rfl))
  · repeat' (first
      | exact leT_empty
      | exact trivial
      | exact rfl
      | exact .inl rfl
      | exact .inr rfl
      | exact .inr ⟨rfl, rfl⟩
      | exact Nat.le_refl _
      | exact Nat.zero_le _
      | exact (fun _ _ => rfl)
      | refine And.intro ?_ ?_
      | (intro i hi; exact absurd hi (Nat.not_lt_zero i))
      | (intro i hi; have hi := Nat.lt_of_lt_of_le hi (show _ ≤ 1 from Nat.le_refl 1); obtain rfl : i = 0 := (by omega); rfl)
      | (intro i hi; have hi := Nat.lt_of_lt_of_le hi (show _ ≤ 2 from Nat.le_refl 2); rcases (show i = 0 ∨ i = 1 by omega) with rfl | rfl <;> rfl)
      | (intro i hi; have hi := Nat.lt_of_lt_of_le hi (show _ ≤ 3 from Nat.le_refl 3); rcases (show i = 0 ∨ i = 1 ∨ i = 2 by omega) with rfl | rfl | rfl <;> rfl))
  repeat
    conv => whnf
    first
      | refine cS rfl rfl ?_
      | refine cT (beq_self_eq_true _) ?_
      | refine bI (by omega) ?_
      | refine cDT (by omega) ?_
      | refine cDF (by omega) ?_
      | refine cNT (by omega) ?_
      | refine cNF (by omega) ?_
      | refine bU8 (by omega) ?_
      | refine bU32 (by omega) ?_
  conv => whnf
  refine .rd (fun k : Nat => k ≤ s.n) (fun k => [(16, iv .i64 k)]) (fun k => s.n - k) 0 (Nat.zero_le _) ?_ (fun k hk => ?_)
  · conv => whnf
    refine Le.id rfl ?_ ?_
    all_goals (repeat' (first
       | exact leT_empty
       | exact trivial
       | exact rfl
       | exact .inl rfl
       | exact .inr rfl
       | exact .inr ⟨rfl, rfl⟩
       | exact Nat.le_refl _
       | exact Nat.zero_le _
       | exact (fun _ _ => rfl)
       | refine And.intro ?_ ?_
       | (intro i hi; exact absurd hi (Nat.not_lt_zero i))
       | (intro i hi; have hi := Nat.lt_of_lt_of_le hi (show _ ≤ 1 from Nat.le_refl 1); obtain rfl : i = 0 := (by omega); rfl)
       | (intro i hi; have hi := Nat.lt_of_lt_of_le hi (show _ ≤ 2 from Nat.le_refl 2); rcases (show i = 0 ∨ i = 1 by omega) with rfl | rfl <;> rfl)
       | (intro i hi; have hi := Nat.lt_of_lt_of_le hi (show _ ≤ 3 from Nat.le_refl 3); rcases (show i = 0 ∨ i = 1 ∨ i = 2 by omega) with rfl | rfl | rfl <;> rfl)))
  conv => whnf
  refine cD (fun h6 => ?_) (fun h6 => ?_)
  · repeat
      conv => whnf
      first
        | refine cS rfl rfl ?_
        | refine cT (beq_self_eq_true _) ?_
        | refine bI (by omega) ?_
        | refine cDT (by omega) ?_
        | refine cDF (by omega) ?_
        | refine cNT (by omega) ?_
        | refine cNF (by omega) ?_
        | refine bU8 (by omega) ?_
        | refine bU32 (by omega) ?_
    conv => whnf
    try rw [zf]
    repeat
      conv => whnf
      first
        | refine cS rfl rfl ?_
        | refine cT (beq_self_eq_true _) ?_
        | refine bI (by omega) ?_
        | refine cDT (by omega) ?_
        | refine cDF (by omega) ?_
        | refine cNT (by omega) ?_
        | refine cNF (by omega) ?_
        | refine bU8 (by omega) ?_
        | refine bU32 (by omega) ?_
    conv => whnf
    refine ⟨k + 1, ⟨by omega, by omega⟩, ?_⟩
    conv => whnf
    refine Le.id rfl ?_ ?_
    all_goals (repeat' (first
       | exact leT_empty
       | exact trivial
       | exact rfl
       | exact .inl rfl
       | exact .inr rfl
       | exact .inr ⟨rfl, rfl⟩
       | exact Nat.le_refl _
       | exact Nat.zero_le _
       | exact (fun _ _ => rfl)
       | refine And.intro ?_ ?_
       | (intro i hi; exact absurd hi (Nat.not_lt_zero i))
       | (intro i hi; have hi := Nat.lt_of_lt_of_le hi (show _ ≤ 1 from Nat.le_refl 1); obtain rfl : i = 0 := (by omega); rfl)
       | (intro i hi; have hi := Nat.lt_of_lt_of_le hi (show _ ≤ 2 from Nat.le_refl 2); rcases (show i = 0 ∨ i = 1 by omega) with rfl | rfl <;> rfl)
       | (intro i hi; have hi := Nat.lt_of_lt_of_le hi (show _ ≤ 3 from Nat.le_refl 3); rcases (show i = 0 ∨ i = 1 ∨ i = 2 by omega) with rfl | rfl | rfl <;> rfl)))
  repeat
    conv => whnf
    first
      | refine cS rfl rfl ?_
      | refine cT (beq_self_eq_true _) ?_
      | refine bI (by omega) ?_
      | refine cDT (by omega) ?_
      | refine cDF (by omega) ?_
      | refine cNT (by omega) ?_
      | refine cNF (by omega) ?_
      | refine bU8 (by omega) ?_
      | refine bU32 (by omega) ?_
  conv => whnf
  exact congrArg bv (decide_eq_true rfl)
theorem cl_ok : ∃ cl : Cl, ClOk Try.prog cl ∧ ∀ D, OkAll pas D → cl F.law19_StatusPlays [] (xsP 0 pas D) (hsP pas D) fun x _ => x = bv true := by
  refine ⟨clRunX 8 tt outs19t tabL 2, clRunX_ok (d := 8) ttOk outs19t_ok tabL_ok 2, fun D hD => ?_⟩
  match D, hD with
  | [d0, d1, d2], hD =>
    obtain ⟨h0, h1, h2, _⟩ := hD
    obtain ⟨n, rfl, _⟩ := one_i64 h0
    obtain ⟨len, cap, nl, V, rfl, _, _, hV⟩ := one_sl h1
    obtain ⟨len2, cap2, nl2, V2, rfl, _, _, hV2⟩ := one_sl h2
    exact walk n len cap nl (vI V) len2 cap2 nl2 (vB V2)
theorem own' : ownKnob Try.prog.godebug = none := own
theorem lifted (os : Os) (started : os.Started) (H : Type) (enc : TypeId × Value → H) :
    ReturnsInHanded {} Try.checked os 4 .any (Rows.statusPlaysSpec.pre6 enc Try.prog Try.f4 Rows.statusPlaysRow.domain false) (Rows.statusPlaysSpec.post enc Try.prog Try.f4 false true false false) := by
  refine returnsInHanded_of_change (C := Try.checked) own started (by kernel_rfl) Try.func4
    (ChangeSpec.witness6 (enc := enc) (C := Try.checked) false ⟨#[], #[.int .i64 0, .slice none 0 0, .slice none 0 0], []⟩ 8 (by kernel_rfl) (by kernel_rfl) (by kernel_rfl) (by kernel_rfl)) ?_
  intro W base args ds gs before hval hW _ _
  obtain ⟨cl, hc, hw⟩ := cl_ok
  exact row_of (ps := pas) (by kernel_rfl) (by kernel_rfl) rfl rfl (fun ds h => by
    match ds, h with
    | [_, _, _], _ => rfl) hval hW hc hw
theorem closed : joinedFacts Try.prog 4 Try.f4 Rows.statusPlaysSpec Rows.statusPlaysRow = true := by
  simp only [joinedFacts, Bool.and_eq_true]
  repeat' apply And.intro
  all_goals first
    | with_reducible exact mayEnter_ok
    | with_reducible exact laid_ok
    | with_reducible exact rowed_ok
    | ((with_reducible refine beq_r lifts_ok ?_); rfl)
    | ((with_reducible refine beq_l make_ok ?_); kernel_rfl)
    | (as_aux_lemma => kernel_rfl)
theorem named : Try.prog.funcNamed Rows.statusPlaysRow.func = some 4 := by kernel_rfl
theorem inst : Try.f4.isInstance Try.prog Rows.statusPlaysRow.origin Rows.statusPlaysRow.targs := of_decide_eq_true (by kernel_rfl)
theorem wrap : Try.f4.isWrapper Try.prog Rows.statusPlaysRow.wrapper Rows.statusPlaysRow.mainSum := by
  unfold Func.isWrapper; first | (rw [if_pos (by decide +kernel)]; kernel_rfl) | (rw [if_neg (by decide +kernel)]; exact ⟨rfl, rfl⟩)
theorem over : Rows.statusPlaysRow.holds Try.pinned (OpenSpec.ofChange Rows.statusPlaysSpec) :=
  OpenClaim.holds_of_wide 4 Try.f4 rfl rfl rfl rfl rfl rfl rfl ⟨rfl, rfl, rfl, rfl, rfl⟩ rfl rfl rfl rfl rfl named Try.func4 closed inst wrap
    (fun os started H enc _ => lifted os started H enc)
/-- The statement. -/
theorem proved : Rows.StatusPlaysSaid := over
#print axioms proved
end Go.Proofs.Ytbdifadabipfiaa.statusPlays
