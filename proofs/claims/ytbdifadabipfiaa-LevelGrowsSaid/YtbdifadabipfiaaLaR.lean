/- LevelGrows: one more that is bad never makes it better; all as bad as each other is no spread: true at every input; no conditions. -/
import Derived.Test.YtbdifadabipfiaaLaO
namespace Go.Proofs.Ytbdifadabipfiaa.levelGrows
open Go Go.Eng Go.Proofs Go.Proofs.Ytbdifadabipfiaa.Tb Go.Proofs.Ytbdifadabipfiaa.Co Go.Proofs.Ytbdifadabipfiaa.La Go.Pu
set_option maxRecDepth 100000
set_option maxHeartbeats 2000000
theorem minN_le {f : Nat → Int} : ∀ {n q : Nat}, q ≤ n → minN f n ≤ f q
  | 0, q, h => by obtain rfl : q = 0 := by omega
                  exact Int.le_refl _
  | n + 1, q, h => by
    simp only [minN]
    by_cases e : q = n + 1
    · subst e; omega
    · have := minN_le (f := f) (n := n) (q := q) (by omega); omega
theorem minN_at {f : Nat → Int} : ∀ {n : Nat}, ∃ q, q ≤ n ∧ f q = minN f n
  | 0 => ⟨0, Nat.le_refl _, rfl⟩
  | n + 1 => by
    obtain ⟨q, h1, h2⟩ := minN_at (f := f) (n := n)
    simp only [minN]
    by_cases e : f (n + 1) ≤ minN f n
    · exact ⟨n + 1, Nat.le_refl _, by omega⟩
    · exact ⟨q, by omega, by omega⟩
/-- The first stands at a, the others at 0. -/
def lv (k : Nat) (a : Int) : Int := if a = 7 then 2 else if 2 < (if k = 1 then 0 else a) then 1 else 0
theorem level_one {s : Tb} {a : Int} (hk : 1 ≤ s.n) (ha : 0 ≤ a) (h0 : s.f 0 = a) (h1 : ∀ q, q < s.n → q ≠ 0 → s.f q = 0) : levelN s false false = lv s.n a := by
  have e1 : maxN s.f (s.n - 1) = a := by
    have g1 := maxN_ge (f := s.f) (n := s.n - 1) (q := 0) (by omega)
    obtain ⟨q, g2, g3⟩ := maxN_at (f := s.f) (n := s.n - 1)
    by_cases e : q = 0
    · subst e; omega
    · have := h1 q (by omega) e; omega
  have e2 : minN s.f (s.n - 1) = if s.n = 1 then a else 0 := by
    by_cases e : s.n = 1
    · rw [if_pos e, e]; exact h0
    · rw [if_neg e]
      have g1 := minN_le (f := s.f) (n := s.n - 1) (q := 1) (by omega)
      have g4 := h1 1 (by omega) (by omega)
      obtain ⟨q, g2, g3⟩ := minN_at (f := s.f) (n := s.n - 1)
      by_cases e : q = 0
      · subst e; omega
      · have := h1 q (by omega) e; omega
  have e3 : topN s = a := by unfold topN; rw [if_neg (by omega), e1]
  have e4 : spreadN s = if s.n = 1 then 0 else a := by
    unfold spreadN; rw [if_neg (by omega), e1, e2]
    by_cases e : s.n = 1
    · rw [if_pos e, if_pos e]; omega
    · rw [if_neg e, if_neg e]; omega
  unfold levelN lv
  rw [e3, e4, if_neg (by simp)]
theorem level_all {s : Tb} {a : Int} (hk : 1 ≤ s.n) (h1 : ∀ q, q < s.n → s.f q = a) : levelN s false false = if a = 7 then 2 else 0 := by
  have e1 : maxN s.f (s.n - 1) = a := by
    obtain ⟨q, g2, g3⟩ := maxN_at (f := s.f) (n := s.n - 1)
    have := h1 q (by omega); omega
  have e2 : minN s.f (s.n - 1) = a := by
    obtain ⟨q, g2, g3⟩ := minN_at (f := s.f) (n := s.n - 1)
    have := h1 q (by omega); omega
  have e3 : topN s = a := by unfold topN; rw [if_neg (by omega), e1]
  have e4 : spreadN s = 0 := by unfold spreadN; rw [if_neg (by omega), e1, e2]; omega
  unfold levelN
  rw [e3, e4, if_neg (by simp)]
  by_cases e : a = 7
  · rw [if_pos e, if_pos e]
  · rw [if_neg e, if_neg e]; rfl
theorem chg_at {s : Tb} {m b : Int} {q : Nat} : (chg s m b).f q = if (q : Int) = m then min (max (s.f q + b) 0) 7 else s.f q := rfl
structure St (k i : Nat) (s u : Tb) : Prop where
  s1 : s.Ok
  u1 : u.Ok
  s2 : s.n = k
  u2 : u.n = k
  s3 : s.f 0 = min (i : Int) 7
  s4 : ∀ q, q < k → q ≠ 0 → s.f q = 0
  u3 : ∀ q, q < k → u.f q = min (i : Int) 7
noncomputable abbrev tabL : List (FuncId × Eng.Fn) := [(F.law20_LevelGrows, fn.law20_LevelGrows u0)]
theorem tabL_ok {d : Nat} : TabOk d tabL tt := .cons (ok.law20_LevelGrows u0) (TabOk.nil)
abbrev pas : List Pa := [.one u8, .one (.s [.int .u8])]
theorem walk (a : Int) (ha : 0 ≤ a ∧ a ≤ 255) (len cap : Nat) (nl : Bool) (L : Nat → Int) : clRunX 7 tt outs20t tabL 2 F.law20_LevelGrows [] [iv .u8 a, .t (.one (.slc 0 0 1 0 len cap nl))] [rowB len L] (fun x _ => x = bv true) := by
  conv => whnf
  refine true_use ?_
  conv => whnf
  refine cD (fun h1 => ?_) (fun h1 => ?_)
  · conv => whnf
    exact rfl
  have e6 : 0 ≤ a.tmod 6 ∧ a.tmod 6 ≤ 5 := by rw [Int.tmod_eq_emod_of_nonneg ha.1]; omega
  obtain ⟨k, hk, hk1, hk6⟩ : ∃ k : Nat, a.tmod 6 + 1 = k ∧ 1 ≤ k ∧ k ≤ 6 := ⟨(a.tmod 6 + 1).toNat, by omega, by omega, by omega⟩
  repeat
    conv => whnf
    first
      | refine cS rfl rfl ?_
      | refine cT (beq_self_eq_true _) ?_
      | refine bI (by omega) ?_
      | refine cDT (by omega) ?_
      | refine cDF (by omega) ?_
      | refine cNT (by omega) ?_
      | refine cNF (by omega) ?_
      | refine bU8 (by omega) ?_
      | refine bU32 (by omega) ?_
  try rw [hk]
  have hn : (newT (k : Int)).n = k := by show (min (max (k : Int) 0) 12).toNat = k; omega
  repeat
    conv => whnf
    first
      | refine cS rfl rfl ?_
      | refine cT (beq_self_eq_true _) ?_
      | refine bI (by omega) ?_
      | refine cDT (by omega) ?_
      | refine cDF (by omega) ?_
      | refine cNT (by omega) ?_
      | refine cNF (by omega) ?_
      | refine bU8 (by omega) ?_
      | refine bU32 (by omega) ?_
  conv => whnf
  refine .det (k : Int) [] (.t (.one (.ptr 2 0))) [rowB len L, rowN (newT (k : Int)), ownN 1 (newT (k : Int)).n] trivial rfl ?_ ?_ rfl rfl ?_
  · repeat' (first
      | exact leT_empty
      | exact trivial
      | exact rfl
      | exact .inl rfl
      | exact .inr rfl
      | exact .inr ⟨rfl, rfl⟩
      | exact Nat.le_refl _
      | exact Nat.zero_le _
      | exact (fun _ _ => rfl)
      | refine And.intro ?_ ?_
      | (intro i hi; exact absurd hi (Nat.not_lt_zero i))
      | (intro i hi; have hi := Nat.lt_of_lt_of_le hi (show _ ≤ 1 from Nat.le_refl 1); obtain rfl : i = 0 := (by omega); rfl)
      | (intro i hi; have hi := Nat.lt_of_lt_of_le hi (show _ ≤ 2 from Nat.le_refl 2); rcases (show i = 0 ∨ i = 1 by omega) with rfl | rfl <;> rfl)
      | (intro i hi; have hi := Nat.lt_of_lt_of_le hi (show _ ≤ 3 from Nat.le_refl 3); rcases (show i = 0 ∨ i = 1 ∨ i = 2 by omega) with rfl | rfl | rfl <;> rfl))
  · repeat' (first
      | exact leT_empty
      | exact trivial
      | exact rfl
      | exact .inl rfl
      | exact .inr rfl
      | exact .inr ⟨rfl, rfl⟩
      | exact Nat.le_refl _
      | exact Nat.zero_le _
      | exact (fun _ _ => rfl)
      | refine And.intro ?_ ?_
      | (intro i hi; exact absurd hi (Nat.not_lt_zero i))
      | (intro i hi; have hi := Nat.lt_of_lt_of_le hi (show _ ≤ 1 from Nat.le_refl 1); obtain rfl : i = 0 := (by omega); rfl)
      | (intro i hi; have hi := Nat.lt_of_lt_of_le hi (show _ ≤ 2 from Nat.le_refl 2); rcases (show i = 0 ∨ i = 1 by omega) with rfl | rfl <;> rfl)
      | (intro i hi; have hi := Nat.lt_of_lt_of_le hi (show _ ≤ 3 from Nat.le_refl 3); rcases (show i = 0 ∨ i = 1 ∨ i = 2 by omega) with rfl | rfl | rfl <;> rfl))
  repeat
    conv => whnf
    first
      | refine cS rfl rfl ?_
      | refine cT (beq_self_eq_true _) ?_
      | refine bI (by omega) ?_
      | refine cDT (by omega) ?_
      | refine cDF (by omega) ?_
      | refine cNT (by omega) ?_
      | refine cNF (by omega) ?_
      | refine bU8 (by omega) ?_
      | refine bU32 (by omega) ?_
  conv => whnf
  refine .det (k : Int) [] (.t (.one (.ptr 4 0))) (hTwo (rowB len L) (newT (k : Int)) (newT (k : Int))) trivial rfl ?_ ?_ rfl rfl ?_
  · repeat' (first
      | exact leT_empty
      | exact trivial
      | exact rfl
      | exact .inl rfl
      | exact .inr rfl
      | exact .inr ⟨rfl, rfl⟩
      | exact Nat.le_refl _
      | exact Nat.zero_le _
      | exact (fun _ _ => rfl)
      | refine And.intro ?_ ?_
      | (intro i hi; exact absurd hi (Nat.not_lt_zero i))
      | (intro i hi; have hi := Nat.lt_of_lt_of_le hi (show _ ≤ 1 from Nat.le_refl 1); obtain rfl : i = 0 := (by omega); rfl)
      | (intro i hi; have hi := Nat.lt_of_lt_of_le hi (show _ ≤ 2 from Nat.le_refl 2); rcases (show i = 0 ∨ i = 1 by omega) with rfl | rfl <;> rfl)
      | (intro i hi; have hi := Nat.lt_of_lt_of_le hi (show _ ≤ 3 from Nat.le_refl 3); rcases (show i = 0 ∨ i = 1 ∨ i = 2 by omega) with rfl | rfl | rfl <;> rfl))
  · repeat' (first
      | exact leT_empty
      | exact trivial
      | exact rfl
      | exact .inl rfl
      | exact .inr rfl
      | exact .inr ⟨rfl, rfl⟩
      | exact Nat.le_refl _
      | exact Nat.zero_le _
      | exact (fun _ _ => rfl)
      | refine And.intro ?_ ?_
      | (intro i hi; exact absurd hi (Nat.not_lt_zero i))
      | (intro i hi; have hi := Nat.lt_of_lt_of_le hi (show _ ≤ 1 from Nat.le_refl 1); obtain rfl : i = 0 := (by omega); rfl)
      | (intro i hi; have hi := Nat.lt_of_lt_of_le hi (show _ ≤ 2 from Nat.le_refl 2); rcases (show i = 0 ∨ i = 1 by omega) with rfl | rfl <;> rfl)
      | (intro i hi; have hi := Nat.lt_of_lt_of_le hi (show _ ≤ 3 from Nat.le_refl 3); rcases (show i = 0 ∨ i = 1 ∨ i = 2 by omega) with rfl | rfl | rfl <;> rfl))
  repeat
    conv => whnf
    first
      | refine cS rfl rfl ?_
      | refine cT (beq_self_eq_true _) ?_
      | refine bI (by omega) ?_
      | refine cDT (by omega) ?_
      | refine cDF (by omega) ?_
      | refine cNT (by omega) ?_
      | refine cNF (by omega) ?_
      | refine bU8 (by omega) ?_
      | refine bU32 (by omega) ?_
  conv => whnf
  refine .inv (fun p : Nat × Int × Tb × Tb => p.1 ≤ len ∧ p.2.1 = lv k (min (p.1 : Int) 7) ∧ St k p.1 p.2.2.1 p.2.2.2) (fun p => [(8, iv .i64 p.2.1), (9, iv .i64 p.1)]) (fun p => hTwo (rowB len L) p.2.2.1 p.2.2.2) (fun p => len - p.1) (0, 0, newT (k : Int), newT (k : Int))
    ⟨Nat.zero_le _, by show (0 : Int) = lv k 0; unfold lv; rw [if_neg (by decide), if_neg (by split <;> decide)], ⟨newT_ok _, newT_ok _, hn, hn, rfl, fun _ _ _ => rfl, fun _ _ => rfl⟩⟩ ?_ (fun p ⟨hi, hl, hs⟩ => ?_)
  · conv => whnf
    refine Le.id rfl ?_ ?_
    all_goals (repeat' (first
       | exact leT_empty
       | exact trivial
       | exact rfl
       | exact .inl rfl
       | exact .inr rfl
       | exact .inr ⟨rfl, rfl⟩
       | exact Nat.le_refl _
       | exact Nat.zero_le _
       | exact (fun _ _ => rfl)
       | refine And.intro ?_ ?_
       | (intro i hi; exact absurd hi (Nat.not_lt_zero i))
       | (intro i hi; have hi := Nat.lt_of_lt_of_le hi (show _ ≤ 1 from Nat.le_refl 1); obtain rfl : i = 0 := (by omega); rfl)
       | (intro i hi; have hi := Nat.lt_of_lt_of_le hi (show _ ≤ 2 from Nat.le_refl 2); rcases (show i = 0 ∨ i = 1 by omega) with rfl | rfl <;> rfl)
       | (intro i hi; have hi := Nat.lt_of_lt_of_le hi (show _ ≤ 3 from Nat.le_refl 3); rcases (show i = 0 ∨ i = 1 ∨ i = 2 by omega) with rfl | rfl | rfl <;> rfl)))
  generalize p.1 = i at *
  generalize p.2.1 = l at *
  generalize p.2.2.1 = s at *
  generalize p.2.2.2 = u at *
  obtain ⟨s1, u1, s2, u2, s3, s4, u3⟩ := hs
  conv => whnf
  refine cD (fun h5 => ?_) (fun h5 => ?_)
  rotate_left
  · repeat
      conv => whnf
      first
        | refine cS rfl rfl ?_
        | refine cT (beq_self_eq_true _) ?_
        | refine bI (by omega) ?_
        | refine cDT (by omega) ?_
        | refine cDF (by omega) ?_
        | refine cNT (by omega) ?_
        | refine cNF (by omega) ?_
        | refine bU8 (by omega) ?_
        | refine bU32 (by omega) ?_
    conv => whnf
    exact rfl
  have c1 := chg_ok s1 0 1
  have c2 : (chg s 0 1).f 0 = min ((i + 1 : Nat) : Int) 7 := by rw [chg_at, if_pos (show ((0 : Nat) : Int) = 0 from rfl), s3]; omega
  have c3 : ∀ q, q < k → q ≠ 0 → (chg s 0 1).f q = 0 := fun q hq h0 => by rw [chg_at, if_neg (by omega), s4 q hq h0]
  have c4 : levelN (chg s 0 1) false false = lv k (min ((i + 1 : Nat) : Int) 7) := by
    have := level_one (s := chg s 0 1) (a := min ((i + 1 : Nat) : Int) 7) (by show 1 ≤ s.n; omega) (by omega) c2 (fun q hq h0 => c3 q (by rw [← s2]; exact hq) h0)
    rw [this]; show lv s.n _ = _; rw [s2]
  repeat
    conv => whnf
    first
      | refine cS rfl rfl ?_
      | refine cT (beq_self_eq_true _) ?_
      | refine bI (by omega) ?_
      | refine cDT (by omega) ?_
      | refine cDF (by omega) ?_
      | refine cNT (by omega) ?_
      | refine cNF (by omega) ?_
      | refine bU8 (by omega) ?_
      | refine bU32 (by omega) ?_
  conv => whnf
  refine .det (s, (0 : Int)) [1, 2] unitR (hTwo (rowB len L) (chg s 0 1) u) s1 rfl ?_ ?_ rfl rfl ?_
  · repeat' (first
      | exact leT_empty
      | exact trivial
      | exact rfl
      | exact .inl rfl
      | exact .inr rfl
      | exact .inr ⟨rfl, rfl⟩
      | exact Nat.le_refl _
      | exact Nat.zero_le _
      | exact (fun _ _ => rfl)
      | refine And.intro ?_ ?_
      | (intro i hi; exact absurd hi (Nat.not_lt_zero i))
      | (intro i hi; have hi := Nat.lt_of_lt_of_le hi (show _ ≤ 1 from Nat.le_refl 1); obtain rfl : i = 0 := (by omega); rfl)
      | (intro i hi; have hi := Nat.lt_of_lt_of_le hi (show _ ≤ 2 from Nat.le_refl 2); rcases (show i = 0 ∨ i = 1 by omega) with rfl | rfl <;> rfl)
      | (intro i hi; have hi := Nat.lt_of_lt_of_le hi (show _ ≤ 3 from Nat.le_refl 3); rcases (show i = 0 ∨ i = 1 ∨ i = 2 by omega) with rfl | rfl | rfl <;> rfl))
  · repeat' (first
      | exact leT_empty
      | exact trivial
      | exact rfl
      | exact .inl rfl
      | exact .inr rfl
      | exact .inr ⟨rfl, rfl⟩
      | exact Nat.le_refl _
      | exact Nat.zero_le _
      | exact (fun _ _ => rfl)
      | refine And.intro ?_ ?_
      | (intro i hi; exact absurd hi (Nat.not_lt_zero i))
      | (intro i hi; have hi := Nat.lt_of_lt_of_le hi (show _ ≤ 1 from Nat.le_refl 1); obtain rfl : i = 0 := (by omega); rfl)
      | (intro i hi; have hi := Nat.lt_of_lt_of_le hi (show _ ≤ 2 from Nat.le_refl 2); rcases (show i = 0 ∨ i = 1 by omega) with rfl | rfl <;> rfl)
      | (intro i hi; have hi := Nat.lt_of_lt_of_le hi (show _ ≤ 3 from Nat.le_refl 3); rcases (show i = 0 ∨ i = 1 ∨ i = 2 by omega) with rfl | rfl | rfl <;> rfl))
  repeat
    conv => whnf
    first
      | refine cS rfl rfl ?_
      | refine cT (beq_self_eq_true _) ?_
      | refine bI (by omega) ?_
      | refine cDT (by omega) ?_
      | refine cDF (by omega) ?_
      | refine cNT (by omega) ?_
      | refine cNF (by omega) ?_
      | refine bU8 (by omega) ?_
      | refine bU32 (by omega) ?_
  conv => whnf
  refine .det (chg s 0 1, false, false) [1, 2] (iv .i64 (levelN (chg s 0 1) false false)) (hTwo (rowB len L) (chg s 0 1) u) c1 rfl ?_ ?_ rfl rfl ?_
  · repeat' (first
      | exact leT_empty
      | exact trivial
      | exact rfl
      | exact .inl rfl
      | exact .inr rfl
      | exact .inr ⟨rfl, rfl⟩
      | exact Nat.le_refl _
      | exact Nat.zero_le _
      | exact (fun _ _ => rfl)
      | refine And.intro ?_ ?_
      | (intro i hi; exact absurd hi (Nat.not_lt_zero i))
      | (intro i hi; have hi := Nat.lt_of_lt_of_le hi (show _ ≤ 1 from Nat.le_refl 1); obtain rfl : i = 0 := (by omega); rfl)
      | (intro i hi; have hi := Nat.lt_of_lt_of_le hi (show _ ≤ 2 from Nat.le_refl 2); rcases (show i = 0 ∨ i = 1 by omega) with rfl | rfl <;> rfl)
      | (intro i hi; have hi := Nat.lt_of_lt_of_le hi (show _ ≤ 3 from Nat.le_refl 3); rcases (show i = 0 ∨ i = 1 ∨ i = 2 by omega) with rfl | rfl | rfl <;> rfl))
  · repeat' (first
      | exact leT_empty
      | exact trivial
      | exact rfl
      | exact .inl rfl
      | exact .inr rfl
      | exact .inr ⟨rfl, rfl⟩
      | exact Nat.le_refl _
      | exact Nat.zero_le _
      | exact (fun _ _ => rfl)
      | refine And.intro ?_ ?_
      | (intro i hi; exact absurd hi (Nat.not_lt_zero i))
      | (intro i hi; have hi := Nat.lt_of_lt_of_le hi (show _ ≤ 1 from Nat.le_refl 1); obtain rfl : i = 0 := (by omega); rfl)
      | (intro i hi; have hi := Nat.lt_of_lt_of_le hi (show _ ≤ 2 from Nat.le_refl 2); rcases (show i = 0 ∨ i = 1 by omega) with rfl | rfl <;> rfl)
      | (intro i hi; have hi := Nat.lt_of_lt_of_le hi (show _ ≤ 3 from Nat.le_refl 3); rcases (show i = 0 ∨ i = 1 ∨ i = 2 by omega) with rfl | rfl | rfl <;> rfl))
  rw [c4]
  have hgrow : 1 < k → ¬ lv k (min ((i + 1 : Nat) : Int) 7) < l := fun h => by
    subst hl
    unfold lv
    rw [if_neg (show ¬ k = 1 by omega), if_neg (show ¬ k = 1 by omega)]
    split <;> split <;> (try split) <;> (try split) <;> omega
  conv => whnf
  have hin : ∀ (j : Nat) (hK : True), True := fun _ _ => trivial
  refine cD (fun h6 => ?_) (fun h6 => ?_)
  all_goals
    repeat
      conv => whnf
      first
        | refine cS rfl rfl ?_
        | refine cT (beq_self_eq_true _) ?_
        | refine bI (by omega) ?_
        | refine cDT (by omega) ?_
        | refine cDF (by omega) ?_
        | refine cNT (by omega) ?_
        | refine cNF (by omega) ?_
        | refine bU8 (by omega) ?_
        | refine bU32 (by omega) ?_
    conv => whnf
    try refine cDF (hgrow (by omega)) ?_
    repeat
      conv => whnf
      first
        | refine cS rfl rfl ?_
        | refine cT (beq_self_eq_true _) ?_
        | refine bI (by omega) ?_
        | refine cDT (by omega) ?_
        | refine cDF (by omega) ?_
        | refine cNT (by omega) ?_
        | refine cNF (by omega) ?_
        | refine bU8 (by omega) ?_
        | refine bU32 (by omega) ?_
    conv => whnf
    refine .inv (fun p : Nat × Tb => p.1 ≤ k ∧ p.2.Ok ∧ p.2.n = k ∧ ∀ q, q < k → p.2.f q = if q < p.1 then min ((i + 1 : Nat) : Int) 7 else min (i : Int) 7) (fun p => [(11, iv .i64 p.1)]) (fun p => hTwo (rowB len L) (chg s 0 1) p.2) (fun p => k - p.1) (0, u)
      ⟨Nat.zero_le _, u1, u2, fun q hq => by rw [if_neg (Nat.not_lt_zero q)]; exact u3 q hq⟩ ?_ (fun p ⟨hj, hv1, hv2, hv3⟩ => ?_)
    · conv => whnf
      refine Le.id rfl ?_ ?_
      all_goals (repeat' (first
         | exact leT_empty
         | exact trivial
         | exact rfl
         | exact .inl rfl
         | exact .inr rfl
         | exact .inr ⟨rfl, rfl⟩
         | exact Nat.le_refl _
         | exact Nat.zero_le _
         | exact (fun _ _ => rfl)
         | refine And.intro ?_ ?_
         | (intro i hi; exact absurd hi (Nat.not_lt_zero i))
         | (intro i hi; have hi := Nat.lt_of_lt_of_le hi (show _ ≤ 1 from Nat.le_refl 1); obtain rfl : i = 0 := (by omega); rfl)
         | (intro i hi; have hi := Nat.lt_of_lt_of_le hi (show _ ≤ 2 from Nat.le_refl 2); rcases (show i = 0 ∨ i = 1 by omega) with rfl | rfl <;> rfl)
         | (intro i hi; have hi := Nat.lt_of_lt_of_le hi (show _ ≤ 3 from Nat.le_refl 3); rcases (show i = 0 ∨ i = 1 ∨ i = 2 by omega) with rfl | rfl | rfl <;> rfl)))
    generalize p.1 = j at *
    generalize p.2 = v at *
    conv => whnf
    refine cD (fun h7 => ?_) (fun h7 => ?_)
    · repeat
        conv => whnf
        first
          | refine cS rfl rfl ?_
          | refine cT (beq_self_eq_true _) ?_
          | refine bI (by omega) ?_
          | refine cDT (by omega) ?_
          | refine cDF (by omega) ?_
          | refine cNT (by omega) ?_
          | refine cNF (by omega) ?_
          | refine bU8 (by omega) ?_
          | refine bU32 (by omega) ?_
      conv => whnf
      refine .det (v, (j : Int)) [3, 4] unitR (hTwo (rowB len L) (chg s 0 1) (chg v j 1)) hv1 rfl ?_ ?_ rfl rfl ?_
      · repeat' (first
          | exact leT_empty
          | exact trivial
          | exact rfl
          | exact .inl rfl
          | exact .inr rfl
          | exact .inr ⟨rfl, rfl⟩
          | exact Nat.le_refl _
          | exact Nat.zero_le _
          | exact (fun _ _ => rfl)
          | refine And.intro ?_ ?_
          | (intro i hi; exact absurd hi (Nat.not_lt_zero i))
          | (intro i hi; have hi := Nat.lt_of_lt_of_le hi (show _ ≤ 1 from Nat.le_refl 1); obtain rfl : i = 0 := (by omega); rfl)
          | (intro i hi; have hi := Nat.lt_of_lt_of_le hi (show _ ≤ 2 from Nat.le_refl 2); rcases (show i = 0 ∨ i = 1 by omega) with rfl | rfl <;> rfl)
          | (intro i hi; have hi := Nat.lt_of_lt_of_le hi (show _ ≤ 3 from Nat.le_refl 3); rcases (show i = 0 ∨ i = 1 ∨ i = 2 by omega) with rfl | rfl | rfl <;> rfl))
      · repeat' (first
          | exact leT_empty
          | exact trivial
          | exact rfl
          | exact .inl rfl
          | exact .inr rfl
          | exact .inr ⟨rfl, rfl⟩
          | exact Nat.le_refl _
          | exact Nat.zero_le _
          | exact (fun _ _ => rfl)
          | refine And.intro ?_ ?_
          | (intro i hi; exact absurd hi (Nat.not_lt_zero i))
          | (intro i hi; have hi := Nat.lt_of_lt_of_le hi (show _ ≤ 1 from Nat.le_refl 1); obtain rfl : i = 0 := (by omega); rfl)
          | (intro i hi; have hi := Nat.lt_of_lt_of_le hi (show _ ≤ 2 from Nat.le_refl 2); rcases (show i = 0 ∨ i = 1 by omega) with rfl | rfl <;> rfl)
          | (intro i hi; have hi := Nat.lt_of_lt_of_le hi (show _ ≤ 3 from Nat.le_refl 3); rcases (show i = 0 ∨ i = 1 ∨ i = 2 by omega) with rfl | rfl | rfl <;> rfl))
      repeat
        conv => whnf
        first
          | refine cS rfl rfl ?_
          | refine cT (beq_self_eq_true _) ?_
          | refine bI (by omega) ?_
          | refine cDT (by omega) ?_
          | refine cDF (by omega) ?_
          | refine cNT (by omega) ?_
          | refine cNF (by omega) ?_
          | refine bU8 (by omega) ?_
          | refine bU32 (by omega) ?_
      conv => whnf
      refine ⟨(j + 1, chg v j 1), ⟨⟨by show j + 1 ≤ k; omega, chg_ok hv1 _ _, hv2, fun q hq => ?_⟩, by show k - (j + 1) < k - j; omega⟩, ?_⟩
      · show (chg v j 1).f q = if q < j + 1 then _ else _
        rw [chg_at, hv3 q hq]
        by_cases e : q = j
        · subst e; rw [if_pos rfl, if_neg (Nat.lt_irrefl q), if_pos (Nat.lt_succ_self q)]; omega
        · rw [if_neg (by omega)]
          by_cases e2 : q < j
          · rw [if_pos e2, if_pos (by omega)]
          · rw [if_neg e2, if_neg (by omega)]
      conv => whnf
      refine Le.id rfl ?_ ?_
      all_goals (repeat' (first
         | exact leT_empty
         | exact trivial
         | exact rfl
         | exact .inl rfl
         | exact .inr rfl
         | exact .inr ⟨rfl, rfl⟩
         | exact Nat.le_refl _
         | exact Nat.zero_le _
         | exact (fun _ _ => rfl)
         | refine And.intro ?_ ?_
         | (intro i hi; exact absurd hi (Nat.not_lt_zero i))
         | (intro i hi; have hi := Nat.lt_of_lt_of_le hi (show _ ≤ 1 from Nat.le_refl 1); obtain rfl : i = 0 := (by omega); rfl)
         | (intro i hi; have hi := Nat.lt_of_lt_of_le hi (show _ ≤ 2 from Nat.le_refl 2); rcases (show i = 0 ∨ i = 1 by omega) with rfl | rfl <;> rfl)
         | (intro i hi; have hi := Nat.lt_of_lt_of_le hi (show _ ≤ 3 from Nat.le_refl 3); rcases (show i = 0 ∨ i = 1 ∨ i = 2 by omega) with rfl | rfl | rfl <;> rfl)))
    obtain rfl : j = k := by omega
    have d1 : levelN v false false = if min ((i + 1 : Nat) : Int) 7 = 7 then 2 else 0 := level_all (by omega) fun q hq => by rw [hv3 q (by omega), if_pos (by omega)]
    conv => whnf
    refine cD (fun h8 => ?_) (fun h8 => ?_)
    · rw [if_pos (by omega)] at d1
      repeat
        conv => whnf
        first
          | refine cS rfl rfl ?_
          | refine cT (beq_self_eq_true _) ?_
          | refine bI (by omega) ?_
          | refine cDT (by omega) ?_
          | refine cDF (by omega) ?_
          | refine cNT (by omega) ?_
          | refine cNF (by omega) ?_
          | refine bU8 (by omega) ?_
          | refine bU32 (by omega) ?_
      conv => whnf
      refine .det (v, false, false) [3, 4] (iv .i64 (levelN v false false)) (hTwo (rowB len L) (chg s 0 1) v) hv1 rfl ?_ ?_ rfl rfl ?_
      · repeat' (first
          | exact leT_empty
          | exact trivial
          | exact rfl
          | exact .inl rfl
          | exact .inr rfl
          | exact .inr ⟨rfl, rfl⟩
          | exact Nat.le_refl _
          | exact Nat.zero_le _
          | exact (fun _ _ => rfl)
          | refine And.intro ?_ ?_
          | (intro i hi; exact absurd hi (Nat.not_lt_zero i))
          | (intro i hi; have hi := Nat.lt_of_lt_of_le hi (show _ ≤ 1 from Nat.le_refl 1); obtain rfl : i = 0 := (by omega); rfl)
          | (intro i hi; have hi := Nat.lt_of_lt_of_le hi (show _ ≤ 2 from Nat.le_refl 2); rcases (show i = 0 ∨ i = 1 by omega) with rfl | rfl <;> rfl)
          | (intro i hi; have hi := Nat.lt_of_lt_of_le hi (show _ ≤ 3 from Nat.le_refl 3); rcases (show i = 0 ∨ i = 1 ∨ i = 2 by omega) with rfl | rfl | rfl <;> rfl))
      · repeat' (first
          | exact leT_empty
          | exact trivial
          | exact rfl
          | exact .inl rfl
          | exact .inr rfl
          | exact .inr ⟨rfl, rfl⟩
          | exact Nat.le_refl _
          | exact Nat.zero_le _
          | exact (fun _ _ => rfl)
          | refine And.intro ?_ ?_
          | (intro i hi; exact absurd hi (Nat.not_lt_zero i))
          | (intro i hi; have hi := Nat.lt_of_lt_of_le hi (show _ ≤ 1 from Nat.le_refl 1); obtain rfl : i = 0 := (by omega); rfl)
          | (intro i hi; have hi := Nat.lt_of_lt_of_le hi (show _ ≤ 2 from Nat.le_refl 2); rcases (show i = 0 ∨ i = 1 by omega) with rfl | rfl <;> rfl)
          | (intro i hi; have hi := Nat.lt_of_lt_of_le hi (show _ ≤ 3 from Nat.le_refl 3); rcases (show i = 0 ∨ i = 1 ∨ i = 2 by omega) with rfl | rfl | rfl <;> rfl))
      rw [d1]
      repeat
        conv => whnf
        first
          | refine cS rfl rfl ?_
          | refine cT (beq_self_eq_true _) ?_
          | refine bI (by omega) ?_
          | refine cDT (by omega) ?_
          | refine cDF (by omega) ?_
          | refine cNT (by omega) ?_
          | refine cNF (by omega) ?_
          | refine bU8 (by omega) ?_
          | refine bU32 (by omega) ?_
      conv => whnf
      refine ⟨(i + 1, lv j (min ((i + 1 : Nat) : Int) 7), chg s 0 1, v), ⟨⟨by show i + 1 ≤ len; omega, rfl, ⟨c1, hv1, s2, hv2, c2, c3, fun q hq => by rw [hv3 q hq, if_pos hq]⟩⟩, by show len - (i + 1) < len - i; omega⟩, ?_⟩
      conv => whnf
      refine Le.id rfl ?_ ?_
      all_goals (repeat' (first
         | exact leT_empty
         | exact trivial
         | exact rfl
         | exact .inl rfl
         | exact .inr rfl
         | exact .inr ⟨rfl, rfl⟩
         | exact Nat.le_refl _
         | exact Nat.zero_le _
         | exact (fun _ _ => rfl)
         | refine And.intro ?_ ?_
         | (intro i hi; exact absurd hi (Nat.not_lt_zero i))
         | (intro i hi; have hi := Nat.lt_of_lt_of_le hi (show _ ≤ 1 from Nat.le_refl 1); obtain rfl : i = 0 := (by omega); rfl)
         | (intro i hi; have hi := Nat.lt_of_lt_of_le hi (show _ ≤ 2 from Nat.le_refl 2); rcases (show i = 0 ∨ i = 1 by omega) with rfl | rfl <;> rfl)
         | (intro i hi; have hi := Nat.lt_of_lt_of_le hi (show _ ≤ 3 from Nat.le_refl 3); rcases (show i = 0 ∨ i = 1 ∨ i = 2 by omega) with rfl | rfl | rfl <;> rfl)))
    · rw [if_neg (by omega)] at d1
      repeat
        conv => whnf
        first
          | refine cS rfl rfl ?_
          | refine cT (beq_self_eq_true _) ?_
          | refine bI (by omega) ?_
          | refine cDT (by omega) ?_
          | refine cDF (by omega) ?_
          | refine cNT (by omega) ?_
          | refine cNF (by omega) ?_
          | refine bU8 (by omega) ?_
          | refine bU32 (by omega) ?_
      conv => whnf
      refine .det (v, false, false) [3, 4] (iv .i64 (levelN v false false)) (hTwo (rowB len L) (chg s 0 1) v) hv1 rfl ?_ ?_ rfl rfl ?_
      · repeat' (first
          | exact leT_empty
          | exact trivial
          | exact rfl
          | exact .inl rfl
          | exact .inr rfl
          | exact .inr ⟨rfl, rfl⟩
          | exact Nat.le_refl _
          | exact Nat.zero_le _
          | exact (fun _ _ => rfl)
          | refine And.intro ?_ ?_
          | (intro i hi; exact absurd hi (Nat.not_lt_zero i))
          | (intro i hi; have hi := Nat.lt_of_lt_of_le hi (show _ ≤ 1 from Nat.le_refl 1); obtain rfl : i = 0 := (by omega); rfl)
          | (intro i hi; have hi := Nat.lt_of_lt_of_le hi (show _ ≤ 2 from Nat.le_refl 2); rcases (show i = 0 ∨ i = 1 by omega) with rfl | rfl <;> rfl)
          | (intro i hi; have hi := Nat.lt_of_lt_of_le hi (show _ ≤ 3 from Nat.le_refl 3); rcases (show i = 0 ∨ i = 1 ∨ i = 2 by omega) with rfl | rfl | rfl <;> rfl))
      · repeat' (first
          | exact leT_empty
          | exact trivial
          | exact rfl
          | exact .inl rfl
          | exact .inr rfl
          | exact .inr ⟨rfl, rfl⟩
          | exact Nat.le_refl _
          | exact Nat.zero_le _
          | exact (fun _ _ => rfl)
          | refine And.intro ?_ ?_
          | (intro i hi; exact absurd hi (Nat.not_lt_zero i))
          | (intro i hi; have hi := Nat.lt_of_lt_of_le hi (show _ ≤ 1 from Nat.le_refl 1); obtain rfl : i = 0 := (by omega); rfl)
          | (intro i hi; have hi := Nat.lt_of_lt_of_le hi (show _ ≤ 2 from Nat.le_refl 2); rcases (show i = 0 ∨ i = 1 by omega) with rfl | rfl <;> rfl)
          | (intro i hi; have hi := Nat.lt_of_lt_of_le hi (show _ ≤ 3 from Nat.le_refl 3); rcases (show i = 0 ∨ i = 1 ∨ i = 2 by omega) with rfl | rfl | rfl <;> rfl))
      rw [d1]
      repeat
        conv => whnf
        first
          | refine cS rfl rfl ?_
          | refine cT (beq_self_eq_true _) ?_
          | refine bI (by omega) ?_
          | refine cDT (by omega) ?_
          | refine cDF (by omega) ?_
          | refine cNT (by omega) ?_
          | refine cNF (by omega) ?_
          | refine bU8 (by omega) ?_
          | refine bU32 (by omega) ?_
      conv => whnf
      refine ⟨(i + 1, lv j (min ((i + 1 : Nat) : Int) 7), chg s 0 1, v), ⟨⟨by show i + 1 ≤ len; omega, rfl, ⟨c1, hv1, s2, hv2, c2, c3, fun q hq => by rw [hv3 q hq, if_pos hq]⟩⟩, by show len - (i + 1) < len - i; omega⟩, ?_⟩
      conv => whnf
      refine Le.id rfl ?_ ?_
      all_goals (repeat' (first
         | exact leT_empty
         | exact trivial
         | exact rfl
         | exact .inl rfl
         | exact .inr rfl
         | exact .inr ⟨rfl, rfl⟩
         | exact Nat.le_refl _
         | exact Nat.zero_le _
         | exact (fun _ _ => rfl)
         | refine And.intro ?_ ?_
         | (intro i hi; exact absurd hi (Nat.not_lt_zero i))
         | (intro i hi; have hi := Nat.lt_of_lt_of_le hi (show _ ≤ 1 from Nat.le_refl 1); obtain rfl : i = 0 := (by omega); rfl)
         | (intro i hi; have hi := Nat.lt_of_lt_of_le hi (show _ ≤ 2 from Nat.le_refl 2); rcases (show i = 0 ∨ i = 1 by omega) with rfl | rfl <;> rfl)
         | (intro i hi; have hi := Nat.lt_of_lt_of_le hi (show _ ≤ 3 from Nat.le_refl 3); rcases (show i = 0 ∨ i = 1 ∨ i = 2 by omega) with rfl | rfl | rfl <;> rfl)))
theorem cl_ok : ∃ cl : Cl, ClOk Try.prog cl ∧ ∀ D, OkAll pas D → cl F.law20_LevelGrows [] (xsP 0 pas D) (hsP pas D) fun x _ => x = bv true := by
  refine ⟨clRunX 7 tt outs20t tabL 2, clRunX_ok (d := 7) ttOk outs20t_ok tabL_ok 2, fun D hD => ?_⟩
  match D, hD with
  | [d0, d1], hD =>
    obtain ⟨h0, h1, _⟩ := hD
    obtain ⟨a, rfl, ha⟩ := one_u8 h0
    obtain ⟨len, cap, nl, V, rfl, _, _, hV⟩ := one_sl h1
    exact walk a ha len cap nl (vI V)
theorem own' : ownKnob Try.prog.godebug = none := own
theorem lifted (os : Os) (started : os.Started) (H : Type) (enc : TypeId × Value → H) :
    ReturnsInHanded {} Try.checked os 7 .any (Rows.levelGrowsSpec.pre6 enc Try.prog Try.f7 Rows.levelGrowsRow.domain false) (Rows.levelGrowsSpec.post enc Try.prog Try.f7 false true false false) := by
  refine returnsInHanded_of_change (C := Try.checked) own started (by kernel_rfl) Try.func7
    (ChangeSpec.witness6 (enc := enc) (C := Try.checked) false ⟨#[], #[.int .u8 0, .slice none 0 0], []⟩ 8 (by kernel_rfl) (by kernel_rfl) (by kernel_rfl) (by kernel_rfl)) ?_
  intro W base args ds gs before hval hW _ _
  obtain ⟨cl, hc, hw⟩ := cl_ok
  exact row_of (ps := pas) (by kernel_rfl) (by kernel_rfl) rfl rfl (fun ds h => by
    match ds, h with
    | [_, _], _ => rfl) hval hW hc hw
theorem closed : joinedFacts Try.prog 7 Try.f7 Rows.levelGrowsSpec Rows.levelGrowsRow = true := by
  simp only [joinedFacts, Bool.and_eq_true]
  repeat' apply And.intro
  all_goals first
    | with_reducible exact mayEnter_ok
    | with_reducible exact laid_ok
    | with_reducible exact rowed_ok
    | ((with_reducible refine beq_r lifts_ok ?_); rfl)
    | ((with_reducible refine beq_l make_ok ?_); kernel_rfl)
    | (as_aux_lemma => kernel_rfl)
theorem named : Try.prog.funcNamed Rows.levelGrowsRow.func = some 7 := by kernel_rfl
theorem inst : Try.f7.isInstance Try.prog Rows.levelGrowsRow.origin Rows.levelGrowsRow.targs := of_decide_eq_true (by kernel_rfl)
theorem wrap : Try.f7.isWrapper Try.prog Rows.levelGrowsRow.wrapper Rows.levelGrowsRow.mainSum := by
  unfold Func.isWrapper; first | (rw [if_pos (by decide +kernel)]; kernel_rfl) | (rw [if_neg (by decide +kernel)]; exact ⟨rfl, rfl⟩)
theorem over : Rows.levelGrowsRow.holds Try.pinned (OpenSpec.ofChange Rows.levelGrowsSpec) :=
  OpenClaim.holds_of_wide 7 Try.f7 rfl rfl rfl rfl rfl rfl rfl ⟨rfl, rfl, rfl, rfl, rfl⟩ rfl rfl rfl rfl rfl named Try.func7 closed inst wrap
    (fun os started H enc _ => lifted os started H enc)
/-- The statement. -/
theorem proved : Rows.LevelGrowsSaid := over
#print axioms proved
end Go.Proofs.Ytbdifadabipfiaa.levelGrows
