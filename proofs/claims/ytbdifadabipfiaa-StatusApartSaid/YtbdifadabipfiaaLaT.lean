/- StatusApart: counters grow each by itself; what there is none of changes nothing; a copy goes its own way: true at every input; no conditions. -/
import Derived.Test.YtbdifadabipfiaaLaO
namespace Go.Proofs.Ytbdifadabipfiaa.statusApart
open Go Go.Eng Go.Proofs Go.Proofs.Ytbdifadabipfiaa.Tb Go.Proofs.Ytbdifadabipfiaa.Co Go.Proofs.Ytbdifadabipfiaa.La Go.Pu
set_option maxRecDepth 100000
set_option maxHeartbeats 4000000
noncomputable abbrev tabL : List (FuncId × Eng.Fn) := [(F.law19_StatusApart, fn.law19_StatusApart u0)]
theorem tabL_ok {d : Nat} : TabOk d tabL tt := .cons (ok.law19_StatusApart u0) (TabOk.nil)
abbrev pas : List Pa := [.one (.s [.int .u8])]
/-- The law's own counters, beside the table's. -/
abbrev arrN (f : Nat → Int) : HE := .ob (.own [.arr 5 fun q => iC (f q)])
abbrev hA (x : HE) (s : Tb) (f : Nat → Int) (r : List HE) : Heap := x :: rowN s :: ownN 1 s.n :: arrN f :: r
def upf (f : Nat → Int) (k : Nat) (v : Int) (q : Nat) : Int := if q = k then v else f q
theorem upf_eq (f : Nat → Int) (k : Nat) (v : Int) : (fun q => if q = k then iC v else iC (f q)) = fun q => iC (upf f k v q) := by
  funext q
  unfold upf
  split <;> rfl
theorem walk (len cap : Nat) (nl : Bool) (L : Nat → Int) (hL : ∀ i, i < len → 0 ≤ L i ∧ L i ≤ 255) :
    clRunX 7 tt outs19t tabL 2 F.law19_StatusApart [] [.t (.one (.slc 0 0 1 0 len cap nl))] [rowB len L] (fun x _ => x = bv true) := by
  conv => whnf
  refine true_use ?_
  conv => whnf
  refine cD (fun h1 => ?_) (fun h1 => ?_)
  · conv => whnf
    exact rfl
  have t0 := newT_ok 5
  have hn : (newT 5).n = 5 := rfl
  repeat
    conv => whnf
    first
      | refine cS rfl rfl ?_
      | refine cT (beq_self_eq_true _) ?_
      | refine bI (by omega) ?_
      | refine cDT (by omega) ?_
      | refine cDF (by omega) ?_
      | refine cNT (by omega) ?_
      | refine cNF (by omega) ?_
      | refine bU8 (by omega) ?_
      | refine bU32 (by omega) ?_
  conv => whnf
  refine .det 5 [] (.t (.one (.ptr 2 0))) [rowB len L, rowN (newT 5), ownN 1 (newT 5).n] trivial rfl ?_ ?_ rfl rfl ?_
  · repeat' (first
      | exact leT_empty
      | exact trivial
      | exact rfl
      | exact .inl rfl
      | exact .inr rfl
      | exact .inr ⟨rfl, rfl⟩
      | exact Nat.le_refl _
      | exact Nat.zero_le _
      | exact (fun _ _ => rfl)
      | assumption
      | refine And.intro ?_ ?_
      | (intro i hi; exact absurd hi (Nat.not_lt_zero i))
      | (intro i hi; have hi := Nat.lt_of_lt_of_le hi (show _ ≤ 1 from Nat.le_refl 1); obtain rfl : i = 0 := (by omega); rfl)
      | (intro i hi; have hi := Nat.lt_of_lt_of_le hi (show _ ≤ 2 from Nat.le_refl 2); rcases (show i = 0 ∨ i = 1 by omega) with rfl | rfl <;> rfl)
      | (intro i hi; have hi := Nat.lt_of_lt_of_le hi (show _ ≤ 3 from Nat.le_refl 3); rcases (show i = 0 ∨ i = 1 ∨ i = 2 by omega) with rfl | rfl | rfl <;> rfl))
  · repeat' (first
      | exact leT_empty
      | exact trivial
      | exact rfl
      | exact .inl rfl
      | exact .inr rfl
      | exact .inr ⟨rfl, rfl⟩
      | exact Nat.le_refl _
      | exact Nat.zero_le _
      | exact (fun _ _ => rfl)
      | assumption
      | refine And.intro ?_ ?_
      | (intro i hi; exact absurd hi (Nat.not_lt_zero i))
      | (intro i hi; have hi := Nat.lt_of_lt_of_le hi (show _ ≤ 1 from Nat.le_refl 1); obtain rfl : i = 0 := (by omega); rfl)
      | (intro i hi; have hi := Nat.lt_of_lt_of_le hi (show _ ≤ 2 from Nat.le_refl 2); rcases (show i = 0 ∨ i = 1 by omega) with rfl | rfl <;> rfl)
      | (intro i hi; have hi := Nat.lt_of_lt_of_le hi (show _ ≤ 3 from Nat.le_refl 3); rcases (show i = 0 ∨ i = 1 ∨ i = 2 by omega) with rfl | rfl | rfl <;> rfl))
  repeat
    conv => whnf
    first
      | refine cS rfl rfl ?_
      | refine cT (beq_self_eq_true _) ?_
      | refine bI (by omega) ?_
      | refine cDT (by omega) ?_
      | refine cDF (by omega) ?_
      | refine cNT (by omega) ?_
      | refine cNF (by omega) ?_
      | refine bU8 (by omega) ?_
      | refine bU32 (by omega) ?_
  conv => whnf
  refine .inv (fun p : Nat × Tb × (Nat → Int) => p.1 ≤ len ∧ p.2.1.Ok ∧ p.2.1.n = 5 ∧ ∀ q, q < 5 → p.2.2 q = p.2.1.f q) (fun p => [(5, iv .i64 p.1)]) (fun p => hA (rowB len L) p.2.1 p.2.2 []) (fun p => len - p.1) (0, newT 5, fun _ => 0) ⟨Nat.zero_le _, t0, hn, fun _ _ => rfl⟩ ?_ (fun p ⟨hi, hs, hsn, hf⟩ => ?_)
  · conv => whnf
    refine Le.id rfl ?_ ?_
    all_goals (repeat' (first
       | exact leT_empty
       | exact trivial
       | exact rfl
       | exact .inl rfl
       | exact .inr rfl
       | exact .inr ⟨rfl, rfl⟩
       | exact Nat.le_refl _
       | exact Nat.zero_le _
       | exact (fun _ _ => rfl)
       | assumption
       | refine And.intro ?_ ?_
       | (intro i hi; exact absurd hi (Nat.not_lt_zero i))
       | (intro i hi; have hi := Nat.lt_of_lt_of_le hi (show _ ≤ 1 from Nat.le_refl 1); obtain rfl : i = 0 := (by omega); rfl)
       | (intro i hi; have hi := Nat.lt_of_lt_of_le hi (show _ ≤ 2 from Nat.le_refl 2); rcases (show i = 0 ∨ i = 1 by omega) with rfl | rfl <;> rfl)
       | (intro i hi; have hi := Nat.lt_of_lt_of_le hi (show _ ≤ 3 from Nat.le_refl 3); rcases (show i = 0 ∨ i = 1 ∨ i = 2 by omega) with rfl | rfl | rfl <;> rfl)))
  generalize p.1 = i at *
  generalize p.2.1 = s at *
  generalize p.2.2 = f at *
  have hfb : ∀ q, q < 5 → 0 ≤ f q ∧ f q ≤ 7 := fun q hq => by rw [hf q hq]; exact hs.2 q (by omega)
  conv => whnf
  refine cD (fun h5 => ?_) (fun h5 => ?_)
  · have hx := hL i (by omega)
    have hm : 0 ≤ (L i).tmod 8 ∧ (L i).tmod 8 ≤ 7 := by rw [Int.tmod_eq_emod_of_nonneg hx.1]; omega
    have hm2 : 0 ≤ (L i).tdiv 8 ∧ (L i).tdiv 8 ≤ 31 := by rw [Int.tdiv_eq_ediv_of_nonneg hx.1]; omega
    have hm3 : 0 ≤ ((L i).tdiv 8).tmod 3 ∧ ((L i).tdiv 8).tmod 3 ≤ 2 := by rw [Int.tmod_eq_emod_of_nonneg hm2.1]; omega
    repeat
      conv => whnf
      first
        | refine cS rfl rfl ?_
        | refine cT (beq_self_eq_true _) ?_
        | refine bI (by omega) ?_
        | refine cDT (by omega) ?_
        | refine cDF (by omega) ?_
        | refine cNT (by omega) ?_
        | refine cNF (by omega) ?_
        | refine bU8 (by omega) ?_
        | refine bU32 (by omega) ?_
    conv => whnf
    try rw [zi i]
    repeat
      conv => whnf
      first
        | refine cS rfl rfl ?_
        | refine cT (beq_self_eq_true _) ?_
        | refine bI (by omega) ?_
        | refine cDT (by omega) ?_
        | refine cDF (by omega) ?_
        | refine cNT (by omega) ?_
        | refine cNF (by omega) ?_
        | refine bU8 (by omega) ?_
        | refine bU32 (by omega) ?_
    conv => whnf
    refine .det s [1, 2] (.t (.one (.ptr 5 0))) (hA (rowB len L) s f [rowN s, ownN 4 s.n]) hs rfl ?_ ?_ rfl rfl ?_
    · repeat' (first
        | exact leT_empty
        | exact trivial
        | exact rfl
        | exact .inl rfl
        | exact .inr rfl
        | exact .inr ⟨rfl, rfl⟩
        | exact Nat.le_refl _
        | exact Nat.zero_le _
        | exact (fun _ _ => rfl)
        | assumption
        | refine And.intro ?_ ?_
        | (intro i hi; exact absurd hi (Nat.not_lt_zero i))
        | (intro i hi; have hi := Nat.lt_of_lt_of_le hi (show _ ≤ 1 from Nat.le_refl 1); obtain rfl : i = 0 := (by omega); rfl)
        | (intro i hi; have hi := Nat.lt_of_lt_of_le hi (show _ ≤ 2 from Nat.le_refl 2); rcases (show i = 0 ∨ i = 1 by omega) with rfl | rfl <;> rfl)
        | (intro i hi; have hi := Nat.lt_of_lt_of_le hi (show _ ≤ 3 from Nat.le_refl 3); rcases (show i = 0 ∨ i = 1 ∨ i = 2 by omega) with rfl | rfl | rfl <;> rfl))
    · repeat' (first
        | exact leT_empty
        | exact trivial
        | exact rfl
        | exact .inl rfl
        | exact .inr rfl
        | exact .inr ⟨rfl, rfl⟩
        | exact Nat.le_refl _
        | exact Nat.zero_le _
        | exact (fun _ _ => rfl)
        | assumption
        | refine And.intro ?_ ?_
        | (intro i hi; exact absurd hi (Nat.not_lt_zero i))
        | (intro i hi; have hi := Nat.lt_of_lt_of_le hi (show _ ≤ 1 from Nat.le_refl 1); obtain rfl : i = 0 := (by omega); rfl)
        | (intro i hi; have hi := Nat.lt_of_lt_of_le hi (show _ ≤ 2 from Nat.le_refl 2); rcases (show i = 0 ∨ i = 1 by omega) with rfl | rfl <;> rfl)
        | (intro i hi; have hi := Nat.lt_of_lt_of_le hi (show _ ≤ 3 from Nat.le_refl 3); rcases (show i = 0 ∨ i = 1 ∨ i = 2 by omega) with rfl | rfl | rfl <;> rfl))
    generalize hk : (L i).tmod 8 - 1 = k at *
    repeat
      conv => whnf
      first
        | refine cS rfl rfl ?_
        | refine cT (beq_self_eq_true _) ?_
        | refine bI (by omega) ?_
        | refine cDT (by omega) ?_
        | refine cDF (by omega) ?_
        | refine cNT (by omega) ?_
        | refine cNF (by omega) ?_
        | refine bU8 (by omega) ?_
        | refine bU32 (by omega) ?_
    conv => whnf
    try rw [zi i]
    repeat
      conv => whnf
      first
        | refine cS rfl rfl ?_
        | refine cT (beq_self_eq_true _) ?_
        | refine bI (by omega) ?_
        | refine cDT (by omega) ?_
        | refine cDF (by omega) ?_
        | refine cNT (by omega) ?_
        | refine cNF (by omega) ?_
        | refine bU8 (by omega) ?_
        | refine bU32 (by omega) ?_
    conv => whnf
    refine cD (fun h6 => ?_) (fun h6 => ?_)
    · repeat
        conv => whnf
        first
          | refine cS rfl rfl ?_
          | refine cT (beq_self_eq_true _) ?_
          | refine bI (by omega) ?_
          | refine cDT (by omega) ?_
          | refine cDF (by omega) ?_
          | refine cNT (by omega) ?_
          | refine cNF (by omega) ?_
          | refine bU8 (by omega) ?_
          | refine bU32 (by omega) ?_
      conv => whnf
      refine .det (s, k) [1, 2] unitR (hA (rowB len L) (chg s k (-1)) f [rowN s, ownN 4 s.n]) hs rfl ?_ ?_ rfl rfl ?_
      · repeat' (first
          | exact leT_empty
          | exact trivial
          | exact rfl
          | exact .inl rfl
          | exact .inr rfl
          | exact .inr ⟨rfl, rfl⟩
          | exact Nat.le_refl _
          | exact Nat.zero_le _
          | exact (fun _ _ => rfl)
          | assumption
          | refine And.intro ?_ ?_
          | (intro i hi; exact absurd hi (Nat.not_lt_zero i))
          | (intro i hi; have hi := Nat.lt_of_lt_of_le hi (show _ ≤ 1 from Nat.le_refl 1); obtain rfl : i = 0 := (by omega); rfl)
          | (intro i hi; have hi := Nat.lt_of_lt_of_le hi (show _ ≤ 2 from Nat.le_refl 2); rcases (show i = 0 ∨ i = 1 by omega) with rfl | rfl <;> rfl)
          | (intro i hi; have hi := Nat.lt_of_lt_of_le hi (show _ ≤ 3 from Nat.le_refl 3); rcases (show i = 0 ∨ i = 1 ∨ i = 2 by omega) with rfl | rfl | rfl <;> rfl))
      · repeat' (first
          | exact leT_empty
          | exact trivial
          | exact rfl
          | exact .inl rfl
          | exact .inr rfl
          | exact .inr ⟨rfl, rfl⟩
          | exact Nat.le_refl _
          | exact Nat.zero_le _
          | exact (fun _ _ => rfl)
          | assumption
          | refine And.intro ?_ ?_
          | (intro i hi; exact absurd hi (Nat.not_lt_zero i))
          | (intro i hi; have hi := Nat.lt_of_lt_of_le hi (show _ ≤ 1 from Nat.le_refl 1); obtain rfl : i = 0 := (by omega); rfl)
          | (intro i hi; have hi := Nat.lt_of_lt_of_le hi (show _ ≤ 2 from Nat.le_refl 2); rcases (show i = 0 ∨ i = 1 by omega) with rfl | rfl <;> rfl)
          | (intro i hi; have hi := Nat.lt_of_lt_of_le hi (show _ ≤ 3 from Nat.le_refl 3); rcases (show i = 0 ∨ i = 1 ∨ i = 2 by omega) with rfl | rfl | rfl <;> rfl))
      have hu := chg_ok hs k (-1)
      have hun : (chg s k (-1)).n = 5 := hsn
      have hat : ∀ q, (chg s k (-1)).f q = if (q : Int) = k then min (max (s.f q + (-1)) 0) 7 else s.f q := fun _ => rfl
      generalize chg s k (-1) = u at *
      by_cases h7 : 0 ≤ k ∧ k < 5
      · obtain ⟨kn, rfl⟩ : ∃ kn : Nat, k = kn := ⟨k.toNat, by omega⟩
        have fk := hfb kn (by omega)
        have ga : ∀ q, q < 5 → upf f kn (max 0 (f kn - 1)) q = u.f q := fun q hq => by
          unfold upf
          rw [hat q]
          by_cases e : q = kn
          · have hb := hs.2 q (by omega)
            subst e; rw [if_pos rfl, if_pos rfl, hf q hq]; omega
          · rw [if_neg e, if_neg (by omega), hf q hq]
        repeat
          conv => whnf
          first
            | refine cS rfl rfl ?_
            | refine cT (beq_self_eq_true _) ?_
            | refine bI (by omega) ?_
            | refine cDT (by omega) ?_
            | refine cDF (by omega) ?_
            | refine cNT (by omega) ?_
            | refine cNF (by omega) ?_
            | refine bU8 (by omega) ?_
            | refine bU32 (by omega) ?_
        conv => whnf
        try rw [tn]
        repeat
          conv => whnf
          first
            | refine cS rfl rfl ?_
            | refine cT (beq_self_eq_true _) ?_
            | refine bI (by omega) ?_
            | refine cDT (by omega) ?_
            | refine cDF (by omega) ?_
            | refine cNT (by omega) ?_
            | refine cNF (by omega) ?_
            | refine bU8 (by omega) ?_
            | refine bU32 (by omega) ?_
        conv => whnf
        rw [upf_eq]
        try rw [tn]
        generalize upf f kn (max 0 (f kn - 1)) = g at *
        repeat
          conv => whnf
          first
            | refine cS rfl rfl ?_
            | refine cT (beq_self_eq_true _) ?_
            | refine bI (by omega) ?_
            | refine cDT (by omega) ?_
            | refine cDF (by omega) ?_
            | refine cNT (by omega) ?_
            | refine cNF (by omega) ?_
            | refine bU8 (by omega) ?_
            | refine bU32 (by omega) ?_
        conv => whnf
        refine .det s [4, 5] unitR (hA (rowB len L) u g [rowN (zeroT s), ownN 4 s.n]) hs rfl ?_ ?_ rfl rfl ?_
        · repeat' (first
            | exact leT_empty
            | exact trivial
            | exact rfl
            | exact .inl rfl
            | exact .inr rfl
            | exact .inr ⟨rfl, rfl⟩
            | exact Nat.le_refl _
            | exact Nat.zero_le _
            | exact (fun _ _ => rfl)
            | assumption
            | refine And.intro ?_ ?_
            | (intro i hi; exact absurd hi (Nat.not_lt_zero i))
            | (intro i hi; have hi := Nat.lt_of_lt_of_le hi (show _ ≤ 1 from Nat.le_refl 1); obtain rfl : i = 0 := (by omega); rfl)
            | (intro i hi; have hi := Nat.lt_of_lt_of_le hi (show _ ≤ 2 from Nat.le_refl 2); rcases (show i = 0 ∨ i = 1 by omega) with rfl | rfl <;> rfl)
            | (intro i hi; have hi := Nat.lt_of_lt_of_le hi (show _ ≤ 3 from Nat.le_refl 3); rcases (show i = 0 ∨ i = 1 ∨ i = 2 by omega) with rfl | rfl | rfl <;> rfl))
        · repeat' (first
            | exact leT_empty
            | exact trivial
            | exact rfl
            | exact .inl rfl
            | exact .inr rfl
            | exact .inr ⟨rfl, rfl⟩
            | exact Nat.le_refl _
            | exact Nat.zero_le _
            | exact (fun _ _ => rfl)
            | assumption
            | refine And.intro ?_ ?_
            | (intro i hi; exact absurd hi (Nat.not_lt_zero i))
            | (intro i hi; have hi := Nat.lt_of_lt_of_le hi (show _ ≤ 1 from Nat.le_refl 1); obtain rfl : i = 0 := (by omega); rfl)
            | (intro i hi; have hi := Nat.lt_of_lt_of_le hi (show _ ≤ 2 from Nat.le_refl 2); rcases (show i = 0 ∨ i = 1 by omega) with rfl | rfl <;> rfl)
            | (intro i hi; have hi := Nat.lt_of_lt_of_le hi (show _ ≤ 3 from Nat.le_refl 3); rcases (show i = 0 ∨ i = 1 ∨ i = 2 by omega) with rfl | rfl | rfl <;> rfl))
        repeat
          conv => whnf
          first
            | refine cS rfl rfl ?_
            | refine cT (beq_self_eq_true _) ?_
            | refine bI (by omega) ?_
            | refine cDT (by omega) ?_
            | refine cDF (by omega) ?_
            | refine cNT (by omega) ?_
            | refine cNF (by omega) ?_
            | refine bU8 (by omega) ?_
            | refine bU32 (by omega) ?_
        conv => whnf
        refine .rd (fun j : Nat => j ≤ 5) (fun j => [(8, iv .i64 j)]) (fun j => 5 - j) 0 (Nat.zero_le _) ?_ (fun j hj => ?_)
        · conv => whnf
          refine Le.id rfl ?_ ?_
          all_goals (repeat' (first
             | exact leT_empty
             | exact trivial
             | exact rfl
             | exact .inl rfl
             | exact .inr rfl
             | exact .inr ⟨rfl, rfl⟩
             | exact Nat.le_refl _
             | exact Nat.zero_le _
             | exact (fun _ _ => rfl)
             | assumption
             | refine And.intro ?_ ?_
             | (intro i hi; exact absurd hi (Nat.not_lt_zero i))
             | (intro i hi; have hi := Nat.lt_of_lt_of_le hi (show _ ≤ 1 from Nat.le_refl 1); obtain rfl : i = 0 := (by omega); rfl)
             | (intro i hi; have hi := Nat.lt_of_lt_of_le hi (show _ ≤ 2 from Nat.le_refl 2); rcases (show i = 0 ∨ i = 1 by omega) with rfl | rfl <;> rfl)
             | (intro i hi; have hi := Nat.lt_of_lt_of_le hi (show _ ≤ 3 from Nat.le_refl 3); rcases (show i = 0 ∨ i = 1 ∨ i = 2 by omega) with rfl | rfl | rfl <;> rfl)))
        conv => whnf
        refine cD (fun h9 => ?_) (fun h9 => ?_)
        · have gj : getN u j = u.f j := if_pos ⟨by omega, by omega⟩
          have gz : getN (zeroT s) j = 0 := by unfold getN; split <;> rfl
          have g2 := ga j (by omega)
          repeat
            conv => whnf
            first
              | refine cS rfl rfl ?_
              | refine cT (beq_self_eq_true _) ?_
              | refine bI (by omega) ?_
              | refine cDT (by omega) ?_
              | refine cDF (by omega) ?_
              | refine cNT (by omega) ?_
              | refine cNF (by omega) ?_
              | refine bU8 (by omega) ?_
              | refine bU32 (by omega) ?_
          conv => whnf
          refine .det (u, (j : Int)) [1, 2] (iv .i64 (getN u j)) (hA (rowB len L) u g [rowN (zeroT s), ownN 4 s.n]) hu rfl ?_ ?_ rfl rfl ?_
          · repeat' (first
              | exact leT_empty
              | exact trivial
              | exact rfl
              | exact .inl rfl
              | exact .inr rfl
              | exact .inr ⟨rfl, rfl⟩
              | exact Nat.le_refl _
              | exact Nat.zero_le _
              | exact (fun _ _ => rfl)
              | assumption
              | refine And.intro ?_ ?_
              | (intro i hi; exact absurd hi (Nat.not_lt_zero i))
              | (intro i hi; have hi := Nat.lt_of_lt_of_le hi (show _ ≤ 1 from Nat.le_refl 1); obtain rfl : i = 0 := (by omega); rfl)
              | (intro i hi; have hi := Nat.lt_of_lt_of_le hi (show _ ≤ 2 from Nat.le_refl 2); rcases (show i = 0 ∨ i = 1 by omega) with rfl | rfl <;> rfl)
              | (intro i hi; have hi := Nat.lt_of_lt_of_le hi (show _ ≤ 3 from Nat.le_refl 3); rcases (show i = 0 ∨ i = 1 ∨ i = 2 by omega) with rfl | rfl | rfl <;> rfl))
          · repeat' (first
              | exact leT_empty
              | exact trivial
              | exact rfl
              | exact .inl rfl
              | exact .inr rfl
              | exact .inr ⟨rfl, rfl⟩
              | exact Nat.le_refl _
              | exact Nat.zero_le _
              | exact (fun _ _ => rfl)
              | assumption
              | refine And.intro ?_ ?_
              | (intro i hi; exact absurd hi (Nat.not_lt_zero i))
              | (intro i hi; have hi := Nat.lt_of_lt_of_le hi (show _ ≤ 1 from Nat.le_refl 1); obtain rfl : i = 0 := (by omega); rfl)
              | (intro i hi; have hi := Nat.lt_of_lt_of_le hi (show _ ≤ 2 from Nat.le_refl 2); rcases (show i = 0 ∨ i = 1 by omega) with rfl | rfl <;> rfl)
              | (intro i hi; have hi := Nat.lt_of_lt_of_le hi (show _ ≤ 3 from Nat.le_refl 3); rcases (show i = 0 ∨ i = 1 ∨ i = 2 by omega) with rfl | rfl | rfl <;> rfl))
          rw [gj]
          repeat
            conv => whnf
            first
              | refine cS rfl rfl ?_
              | refine cT (beq_self_eq_true _) ?_
              | refine bI (by omega) ?_
              | refine cDT (by omega) ?_
              | refine cDF (by omega) ?_
              | refine cNT (by omega) ?_
              | refine cNF (by omega) ?_
              | refine bU8 (by omega) ?_
              | refine bU32 (by omega) ?_
          conv => whnf
          try rw [tn]
          repeat
            conv => whnf
            first
              | refine cS rfl rfl ?_
              | refine cT (beq_self_eq_true _) ?_
              | refine bI (by omega) ?_
              | refine cDT (by omega) ?_
              | refine cDF (by omega) ?_
              | refine cNT (by omega) ?_
              | refine cNF (by omega) ?_
              | refine bU8 (by omega) ?_
              | refine bU32 (by omega) ?_
          conv => whnf
          refine .det (zeroT s, (j : Int)) [4, 5] (iv .i64 (getN (zeroT s) j)) (hA (rowB len L) u g [rowN (zeroT s), ownN 4 s.n]) (zeroT_ok hs) rfl ?_ ?_ rfl rfl ?_
          · repeat' (first
              | exact leT_empty
              | exact trivial
              | exact rfl
              | exact .inl rfl
              | exact .inr rfl
              | exact .inr ⟨rfl, rfl⟩
              | exact Nat.le_refl _
              | exact Nat.zero_le _
              | exact (fun _ _ => rfl)
              | assumption
              | refine And.intro ?_ ?_
              | (intro i hi; exact absurd hi (Nat.not_lt_zero i))
              | (intro i hi; have hi := Nat.lt_of_lt_of_le hi (show _ ≤ 1 from Nat.le_refl 1); obtain rfl : i = 0 := (by omega); rfl)
              | (intro i hi; have hi := Nat.lt_of_lt_of_le hi (show _ ≤ 2 from Nat.le_refl 2); rcases (show i = 0 ∨ i = 1 by omega) with rfl | rfl <;> rfl)
              | (intro i hi; have hi := Nat.lt_of_lt_of_le hi (show _ ≤ 3 from Nat.le_refl 3); rcases (show i = 0 ∨ i = 1 ∨ i = 2 by omega) with rfl | rfl | rfl <;> rfl))
          · repeat' (first
              | exact leT_empty
              | exact trivial
              | exact rfl
              | exact .inl rfl
              | exact .inr rfl
              | exact .inr ⟨rfl, rfl⟩
              | exact Nat.le_refl _
              | exact Nat.zero_le _
              | exact (fun _ _ => rfl)
              | assumption
              | refine And.intro ?_ ?_
              | (intro i hi; exact absurd hi (Nat.not_lt_zero i))
              | (intro i hi; have hi := Nat.lt_of_lt_of_le hi (show _ ≤ 1 from Nat.le_refl 1); obtain rfl : i = 0 := (by omega); rfl)
              | (intro i hi; have hi := Nat.lt_of_lt_of_le hi (show _ ≤ 2 from Nat.le_refl 2); rcases (show i = 0 ∨ i = 1 by omega) with rfl | rfl <;> rfl)
              | (intro i hi; have hi := Nat.lt_of_lt_of_le hi (show _ ≤ 3 from Nat.le_refl 3); rcases (show i = 0 ∨ i = 1 ∨ i = 2 by omega) with rfl | rfl | rfl <;> rfl))
          rw [gz]
          repeat
            conv => whnf
            first
              | refine cS rfl rfl ?_
              | refine cT (beq_self_eq_true _) ?_
              | refine bI (by omega) ?_
              | refine cDT (by omega) ?_
              | refine cDF (by omega) ?_
              | refine cNT (by omega) ?_
              | refine cNF (by omega) ?_
              | refine bU8 (by omega) ?_
              | refine bU32 (by omega) ?_
          conv => whnf
          refine ⟨j + 1, ⟨by omega, by omega⟩, ?_⟩
          conv => whnf
          refine Le.id rfl ?_ ?_
          all_goals (repeat' (first
             | exact leT_empty
             | exact trivial
             | exact rfl
             | exact .inl rfl
             | exact .inr rfl
             | exact .inr ⟨rfl, rfl⟩
             | exact Nat.le_refl _
             | exact Nat.zero_le _
             | exact (fun _ _ => rfl)
             | assumption
             | refine And.intro ?_ ?_
             | (intro i hi; exact absurd hi (Nat.not_lt_zero i))
             | (intro i hi; have hi := Nat.lt_of_lt_of_le hi (show _ ≤ 1 from Nat.le_refl 1); obtain rfl : i = 0 := (by omega); rfl)
             | (intro i hi; have hi := Nat.lt_of_lt_of_le hi (show _ ≤ 2 from Nat.le_refl 2); rcases (show i = 0 ∨ i = 1 by omega) with rfl | rfl <;> rfl)
             | (intro i hi; have hi := Nat.lt_of_lt_of_le hi (show _ ≤ 3 from Nat.le_refl 3); rcases (show i = 0 ∨ i = 1 ∨ i = 2 by omega) with rfl | rfl | rfl <;> rfl)))
        · repeat
            conv => whnf
            first
              | refine cS rfl rfl ?_
              | refine cT (beq_self_eq_true _) ?_
              | refine bI (by omega) ?_
              | refine cDT (by omega) ?_
              | refine cDF (by omega) ?_
              | refine cNT (by omega) ?_
              | refine cNF (by omega) ?_
              | refine bU8 (by omega) ?_
              | refine bU32 (by omega) ?_
          conv => whnf
          refine ⟨(i + 1, u, g), ⟨⟨by show i + 1 ≤ len; omega, hu, hun, ga⟩, by show len - (i + 1) < len - i; omega⟩, ?_⟩
          conv => whnf
          refine Le.id rfl ?_ ?_
          all_goals (repeat' (first
             | exact leT_empty
             | exact trivial
             | exact rfl
             | exact .inl rfl
             | exact .inr rfl
             | exact .inr ⟨rfl, rfl⟩
             | exact Nat.le_refl _
             | exact Nat.zero_le _
             | exact (fun _ _ => rfl)
             | assumption
             | refine And.intro ?_ ?_
             | (intro i hi; exact absurd hi (Nat.not_lt_zero i))
             | (intro i hi; have hi := Nat.lt_of_lt_of_le hi (show _ ≤ 1 from Nat.le_refl 1); obtain rfl : i = 0 := (by omega); rfl)
             | (intro i hi; have hi := Nat.lt_of_lt_of_le hi (show _ ≤ 2 from Nat.le_refl 2); rcases (show i = 0 ∨ i = 1 by omega) with rfl | rfl <;> rfl)
             | (intro i hi; have hi := Nat.lt_of_lt_of_le hi (show _ ≤ 3 from Nat.le_refl 3); rcases (show i = 0 ∨ i = 1 ∨ i = 2 by omega) with rfl | rfl | rfl <;> rfl)))
      · have ga : ∀ q, q < 5 → f q = u.f q := fun q hq => by rw [hat q, if_neg (by omega), hf q hq]
        generalize f = g at *
        by_cases h8 : 0 ≤ k
        all_goals
          repeat
            conv => whnf
            first
              | refine cS rfl rfl ?_
              | refine cT (beq_self_eq_true _) ?_
              | refine bI (by omega) ?_
              | refine cDT (by omega) ?_
              | refine cDF (by omega) ?_
              | refine cNT (by omega) ?_
              | refine cNF (by omega) ?_
              | refine bU8 (by omega) ?_
              | refine bU32 (by omega) ?_
          conv => whnf
          refine .det s [4, 5] unitR (hA (rowB len L) u g [rowN (zeroT s), ownN 4 s.n]) hs rfl ?_ ?_ rfl rfl ?_
          · repeat' (first
              | exact leT_empty
              | exact trivial
              | exact rfl
              | exact .inl rfl
              | exact .inr rfl
              | exact .inr ⟨rfl, rfl⟩
              | exact Nat.le_refl _
              | exact Nat.zero_le _
              | exact (fun _ _ => rfl)
              | assumption
              | refine And.intro ?_ ?_
              | (intro i hi; exact absurd hi (Nat.not_lt_zero i))
              | (intro i hi; have hi := Nat.lt_of_lt_of_le hi (show _ ≤ 1 from Nat.le_refl 1); obtain rfl : i = 0 := (by omega); rfl)
              | (intro i hi; have hi := Nat.lt_of_lt_of_le hi (show _ ≤ 2 from Nat.le_refl 2); rcases (show i = 0 ∨ i = 1 by omega) with rfl | rfl <;> rfl)
              | (intro i hi; have hi := Nat.lt_of_lt_of_le hi (show _ ≤ 3 from Nat.le_refl 3); rcases (show i = 0 ∨ i = 1 ∨ i = 2 by omega) with rfl | rfl | rfl <;> rfl))
          · repeat' (first
              | exact leT_empty
              | exact trivial
              | exact rfl
              | exact .inl rfl
              | exact .inr rfl
              | exact .inr ⟨rfl, rfl⟩
              | exact Nat.le_refl _
              | exact Nat.zero_le _
              | exact (fun _ _ => rfl)
              | assumption
              | refine And.intro ?_ ?_
              | (intro i hi; exact absurd hi (Nat.not_lt_zero i))
              | (intro i hi; have hi := Nat.lt_of_lt_of_le hi (show _ ≤ 1 from Nat.le_refl 1); obtain rfl : i = 0 := (by omega); rfl)
              | (intro i hi; have hi := Nat.lt_of_lt_of_le hi (show _ ≤ 2 from Nat.le_refl 2); rcases (show i = 0 ∨ i = 1 by omega) with rfl | rfl <;> rfl)
              | (intro i hi; have hi := Nat.lt_of_lt_of_le hi (show _ ≤ 3 from Nat.le_refl 3); rcases (show i = 0 ∨ i = 1 ∨ i = 2 by omega) with rfl | rfl | rfl <;> rfl))
          repeat
            conv => whnf
            first
              | refine cS rfl rfl ?_
              | refine cT (beq_self_eq_true _) ?_
              | refine bI (by omega) ?_
              | refine cDT (by omega) ?_
              | refine cDF (by omega) ?_
              | refine cNT (by omega) ?_
              | refine cNF (by omega) ?_
              | refine bU8 (by omega) ?_
              | refine bU32 (by omega) ?_
          conv => whnf
          refine .rd (fun j : Nat => j ≤ 5) (fun j => [(8, iv .i64 j)]) (fun j => 5 - j) 0 (Nat.zero_le _) ?_ (fun j hj => ?_)
          · conv => whnf
            refine Le.id rfl ?_ ?_
            all_goals (repeat' (first
               | exact leT_empty
               | exact trivial
               | exact rfl
               | exact .inl rfl
               | exact .inr rfl
               | exact .inr ⟨rfl, rfl⟩
               | exact Nat.le_refl _
               | exact Nat.zero_le _
               | exact (fun _ _ => rfl)
               | assumption
               | refine And.intro ?_ ?_
               | (intro i hi; exact absurd hi (Nat.not_lt_zero i))
               | (intro i hi; have hi := Nat.lt_of_lt_of_le hi (show _ ≤ 1 from Nat.le_refl 1); obtain rfl : i = 0 := (by omega); rfl)
               | (intro i hi; have hi := Nat.lt_of_lt_of_le hi (show _ ≤ 2 from Nat.le_refl 2); rcases (show i = 0 ∨ i = 1 by omega) with rfl | rfl <;> rfl)
               | (intro i hi; have hi := Nat.lt_of_lt_of_le hi (show _ ≤ 3 from Nat.le_refl 3); rcases (show i = 0 ∨ i = 1 ∨ i = 2 by omega) with rfl | rfl | rfl <;> rfl)))
          conv => whnf
          refine cD (fun h9 => ?_) (fun h9 => ?_)
          · have gj : getN u j = u.f j := if_pos ⟨by omega, by omega⟩
            have gz : getN (zeroT s) j = 0 := by unfold getN; split <;> rfl
            have g2 := ga j (by omega)
            repeat
              conv => whnf
              first
                | refine cS rfl rfl ?_
                | refine cT (beq_self_eq_true _) ?_
                | refine bI (by omega) ?_
                | refine cDT (by omega) ?_
                | refine cDF (by omega) ?_
                | refine cNT (by omega) ?_
                | refine cNF (by omega) ?_
                | refine bU8 (by omega) ?_
                | refine bU32 (by omega) ?_
            conv => whnf
            refine .det (u, (j : Int)) [1, 2] (iv .i64 (getN u j)) (hA (rowB len L) u g [rowN (zeroT s), ownN 4 s.n]) hu rfl ?_ ?_ rfl rfl ?_
            · repeat' (first
                | exact leT_empty
                | exact trivial
                | exact rfl
                | exact .inl rfl
                | exact .inr rfl
                | exact .inr ⟨rfl, rfl⟩
                | exact Nat.le_refl _
                | exact Nat.zero_le _
                | exact (fun _ _ => rfl)
                | assumption
                | refine And.intro ?_ ?_
                | (intro i hi; exact absurd hi (Nat.not_lt_zero i))
                | (intro i hi; have hi := Nat.lt_of_lt_of_le hi (show _ ≤ 1 from Nat.le_refl 1); obtain rfl : i = 0 := (by omega); rfl)
                | (intro i hi; have hi := Nat.lt_of_lt_of_le hi (show _ ≤ 2 from Nat.le_refl 2); rcases (show i = 0 ∨ i = 1 by omega) with rfl | rfl <;> rfl)
                | (intro i hi; have hi := Nat.lt_of_lt_of_le hi (show _ ≤ 3 from Nat.le_refl 3); rcases (show i = 0 ∨ i = 1 ∨ i = 2 by omega) with rfl | rfl | rfl <;> rfl))
            · repeat' (first
                | exact leT_empty
                | exact trivial
                | exact rfl
                | exact .inl rfl
                | exact .inr rfl
                | exact .inr ⟨rfl, rfl⟩
                | exact Nat.le_refl _
                | exact Nat.zero_le _
                | exact (fun _ _ => rfl)
                | assumption
                | refine And.intro ?_ ?_
                | (intro i hi; exact absurd hi (Nat.not_lt_zero i))
                | (intro i hi; have hi := Nat.lt_of_lt_of_le hi (show _ ≤ 1 from Nat.le_refl 1); obtain rfl : i = 0 := (by omega); rfl)
                | (intro i hi; have hi := Nat.lt_of_lt_of_le hi (show _ ≤ 2 from Nat.le_refl 2); rcases (show i = 0 ∨ i = 1 by omega) with rfl | rfl <;> rfl)
                | (intro i hi; have hi := Nat.lt_of_lt_of_le hi (show _ ≤ 3 from Nat.le_refl 3); rcases (show i = 0 ∨ i = 1 ∨ i = 2 by omega) with rfl | rfl | rfl <;> rfl))
            rw [gj]
            repeat
              conv => whnf
              first
                | refine cS rfl rfl ?_
                | refine cT (beq_self_eq_true _) ?_
                | refine bI (by omega) ?_
                | refine cDT (by omega) ?_
                | refine cDF (by omega) ?_
                | refine cNT (by omega) ?_
                | refine cNF (by omega) ?_
                | refine bU8 (by omega) ?_
                | refine bU32 (by omega) ?_
            conv => whnf
            try rw [tn]
            repeat
              conv => whnf
              first
                | refine cS rfl rfl ?_
                | refine cT (beq_self_eq_true _) ?_
                | refine bI (by omega) ?_
                | refine cDT (by omega) ?_
                | refine cDF (by omega) ?_
                | refine cNT (by omega) ?_
                | refine cNF (by omega) ?_
                | refine bU8 (by omega) ?_
                | refine bU32 (by omega) ?_
            conv => whnf
            refine .det (zeroT s, (j : Int)) [4, 5] (iv .i64 (getN (zeroT s) j)) (hA (rowB len L) u g [rowN (zeroT s), ownN 4 s.n]) (zeroT_ok hs) rfl ?_ ?_ rfl rfl ?_
            · repeat' (first
                | exact leT_empty
                | exact trivial
                | exact rfl
                | exact .inl rfl
                | exact .inr rfl
                | exact .inr ⟨rfl, rfl⟩
                | exact Nat.le_refl _
                | exact Nat.zero_le _
                | exact (fun _ _ => rfl)
                | assumption
                | refine And.intro ?_ ?_
                | (intro i hi; exact absurd hi (Nat.not_lt_zero i))
                | (intro i hi; have hi := Nat.lt_of_lt_of_le hi (show _ ≤ 1 from Nat.le_refl 1); obtain rfl : i = 0 := (by omega); rfl)
                | (intro i hi; have hi := Nat.lt_of_lt_of_le hi (show _ ≤ 2 from Nat.le_refl 2); rcases (show i = 0 ∨ i = 1 by omega) with rfl | rfl <;> rfl)
                | (intro i hi; have hi := Nat.lt_of_lt_of_le hi (show _ ≤ 3 from Nat.le_refl 3); rcases (show i = 0 ∨ i = 1 ∨ i = 2 by omega) with rfl | rfl | rfl <;> rfl))
            · repeat' (first
                | exact leT_empty
                | exact trivial
                | exact rfl
                | exact .inl rfl
                | exact .inr rfl
                | exact .inr ⟨rfl, rfl⟩
                | exact Nat.le_refl _
                | exact Nat.zero_le _
                | exact (fun _ _ => rfl)
                | assumption
                | refine And.intro ?_ ?_
                | (intro i hi; exact absurd hi (Nat.not_lt_zero i))
                | (intro i hi; have hi := Nat.lt_of_lt_of_le hi (show _ ≤ 1 from Nat.le_refl 1); obtain rfl : i = 0 := (by omega); rfl)
                | (intro i hi; have hi := Nat.lt_of_lt_of_le hi (show _ ≤ 2 from Nat.le_refl 2); rcases (show i = 0 ∨ i = 1 by omega) with rfl | rfl <;> rfl)
                | (intro i hi; have hi := Nat.lt_of_lt_of_le hi (show _ ≤ 3 from Nat.le_refl 3); rcases (show i = 0 ∨ i = 1 ∨ i = 2 by omega) with rfl | rfl | rfl <;> rfl))
            rw [gz]
            repeat
              conv => whnf
              first
                | refine cS rfl rfl ?_
                | refine cT (beq_self_eq_true _) ?_
                | refine bI (by omega) ?_
                | refine cDT (by omega) ?_
                | refine cDF (by omega) ?_
                | refine cNT (by omega) ?_
                | refine cNF (by omega) ?_
                | refine bU8 (by omega) ?_
                | refine bU32 (by omega) ?_
            conv => whnf
            refine ⟨j + 1, ⟨by omega, by omega⟩, ?_⟩
            conv => whnf
            refine Le.id rfl ?_ ?_
            all_goals (repeat' (first
               | exact leT_empty
               | exact trivial
               | exact rfl
               | exact .inl rfl
               | exact .inr rfl
               | exact .inr ⟨rfl, rfl⟩
               | exact Nat.le_refl _
               | exact Nat.zero_le _
               | exact (fun _ _ => rfl)
               | assumption
               | refine And.intro ?_ ?_
               | (intro i hi; exact absurd hi (Nat.not_lt_zero i))
               | (intro i hi; have hi := Nat.lt_of_lt_of_le hi (show _ ≤ 1 from Nat.le_refl 1); obtain rfl : i = 0 := (by omega); rfl)
               | (intro i hi; have hi := Nat.lt_of_lt_of_le hi (show _ ≤ 2 from Nat.le_refl 2); rcases (show i = 0 ∨ i = 1 by omega) with rfl | rfl <;> rfl)
               | (intro i hi; have hi := Nat.lt_of_lt_of_le hi (show _ ≤ 3 from Nat.le_refl 3); rcases (show i = 0 ∨ i = 1 ∨ i = 2 by omega) with rfl | rfl | rfl <;> rfl)))
          · repeat
              conv => whnf
              first
                | refine cS rfl rfl ?_
                | refine cT (beq_self_eq_true _) ?_
                | refine bI (by omega) ?_
                | refine cDT (by omega) ?_
                | refine cDF (by omega) ?_
                | refine cNT (by omega) ?_
                | refine cNF (by omega) ?_
                | refine bU8 (by omega) ?_
                | refine bU32 (by omega) ?_
            conv => whnf
            refine ⟨(i + 1, u, g), ⟨⟨by show i + 1 ≤ len; omega, hu, hun, ga⟩, by show len - (i + 1) < len - i; omega⟩, ?_⟩
            conv => whnf
            refine Le.id rfl ?_ ?_
            all_goals (repeat' (first
               | exact leT_empty
               | exact trivial
               | exact rfl
               | exact .inl rfl
               | exact .inr rfl
               | exact .inr ⟨rfl, rfl⟩
               | exact Nat.le_refl _
               | exact Nat.zero_le _
               | exact (fun _ _ => rfl)
               | assumption
               | refine And.intro ?_ ?_
               | (intro i hi; exact absurd hi (Nat.not_lt_zero i))
               | (intro i hi; have hi := Nat.lt_of_lt_of_le hi (show _ ≤ 1 from Nat.le_refl 1); obtain rfl : i = 0 := (by omega); rfl)
               | (intro i hi; have hi := Nat.lt_of_lt_of_le hi (show _ ≤ 2 from Nat.le_refl 2); rcases (show i = 0 ∨ i = 1 by omega) with rfl | rfl <;> rfl)
               | (intro i hi; have hi := Nat.lt_of_lt_of_le hi (show _ ≤ 3 from Nat.le_refl 3); rcases (show i = 0 ∨ i = 1 ∨ i = 2 by omega) with rfl | rfl | rfl <;> rfl)))
    · repeat
        conv => whnf
        first
          | refine cS rfl rfl ?_
          | refine cT (beq_self_eq_true _) ?_
          | refine bI (by omega) ?_
          | refine cDT (by omega) ?_
          | refine cDF (by omega) ?_
          | refine cNT (by omega) ?_
          | refine cNF (by omega) ?_
          | refine bU8 (by omega) ?_
          | refine bU32 (by omega) ?_
      conv => whnf
      refine .det (s, k) [1, 2] unitR (hA (rowB len L) (chg s k 1) f [rowN s, ownN 4 s.n]) hs rfl ?_ ?_ rfl rfl ?_
      · repeat' (first
          | exact leT_empty
          | exact trivial
          | exact rfl
          | exact .inl rfl
          | exact .inr rfl
          | exact .inr ⟨rfl, rfl⟩
          | exact Nat.le_refl _
          | exact Nat.zero_le _
          | exact (fun _ _ => rfl)
          | assumption
          | refine And.intro ?_ ?_
          | (intro i hi; exact absurd hi (Nat.not_lt_zero i))
          | (intro i hi; have hi := Nat.lt_of_lt_of_le hi (show _ ≤ 1 from Nat.le_refl 1); obtain rfl : i = 0 := (by omega); rfl)
          | (intro i hi; have hi := Nat.lt_of_lt_of_le hi (show _ ≤ 2 from Nat.le_refl 2); rcases (show i = 0 ∨ i = 1 by omega) with rfl | rfl <;> rfl)
          | (intro i hi; have hi := Nat.lt_of_lt_of_le hi (show _ ≤ 3 from Nat.le_refl 3); rcases (show i = 0 ∨ i = 1 ∨ i = 2 by omega) with rfl | rfl | rfl <;> rfl))
      · repeat' (first
          | exact leT_empty
          | exact trivial
          | exact rfl
          | exact .inl rfl
          | exact .inr rfl
          | exact .inr ⟨rfl, rfl⟩
          | exact Nat.le_refl _
          | exact Nat.zero_le _
          | exact (fun _ _ => rfl)
          | assumption
          | refine And.intro ?_ ?_
          | (intro i hi; exact absurd hi (Nat.not_lt_zero i))
          | (intro i hi; have hi := Nat.lt_of_lt_of_le hi (show _ ≤ 1 from Nat.le_refl 1); obtain rfl : i = 0 := (by omega); rfl)
          | (intro i hi; have hi := Nat.lt_of_lt_of_le hi (show _ ≤ 2 from Nat.le_refl 2); rcases (show i = 0 ∨ i = 1 by omega) with rfl | rfl <;> rfl)
          | (intro i hi; have hi := Nat.lt_of_lt_of_le hi (show _ ≤ 3 from Nat.le_refl 3); rcases (show i = 0 ∨ i = 1 ∨ i = 2 by omega) with rfl | rfl | rfl <;> rfl))
      have hu := chg_ok hs k 1
      have hun : (chg s k 1).n = 5 := hsn
      have hat : ∀ q, (chg s k 1).f q = if (q : Int) = k then min (max (s.f q + 1) 0) 7 else s.f q := fun _ => rfl
      generalize chg s k 1 = u at *
      by_cases h7 : 0 ≤ k ∧ k < 5
      · obtain ⟨kn, rfl⟩ : ∃ kn : Nat, k = kn := ⟨k.toNat, by omega⟩
        have fk := hfb kn (by omega)
        have ga : ∀ q, q < 5 → upf f kn (min 7 (f kn + 1)) q = u.f q := fun q hq => by
          unfold upf
          rw [hat q]
          by_cases e : q = kn
          · have hb := hs.2 q (by omega)
            subst e; rw [if_pos rfl, if_pos rfl, hf q hq]; omega
          · rw [if_neg e, if_neg (by omega), hf q hq]
        repeat
          conv => whnf
          first
            | refine cS rfl rfl ?_
            | refine cT (beq_self_eq_true _) ?_
            | refine bI (by omega) ?_
            | refine cDT (by omega) ?_
            | refine cDF (by omega) ?_
            | refine cNT (by omega) ?_
            | refine cNF (by omega) ?_
            | refine bU8 (by omega) ?_
            | refine bU32 (by omega) ?_
        conv => whnf
        try rw [tn]
        repeat
          conv => whnf
          first
            | refine cS rfl rfl ?_
            | refine cT (beq_self_eq_true _) ?_
            | refine bI (by omega) ?_
            | refine cDT (by omega) ?_
            | refine cDF (by omega) ?_
            | refine cNT (by omega) ?_
            | refine cNF (by omega) ?_
            | refine bU8 (by omega) ?_
            | refine bU32 (by omega) ?_
        conv => whnf
        rw [upf_eq]
        try rw [tn]
        generalize upf f kn (min 7 (f kn + 1)) = g at *
        repeat
          conv => whnf
          first
            | refine cS rfl rfl ?_
            | refine cT (beq_self_eq_true _) ?_
            | refine bI (by omega) ?_
            | refine cDT (by omega) ?_
            | refine cDF (by omega) ?_
            | refine cNT (by omega) ?_
            | refine cNF (by omega) ?_
            | refine bU8 (by omega) ?_
            | refine bU32 (by omega) ?_
        conv => whnf
        refine .det s [4, 5] unitR (hA (rowB len L) u g [rowN (zeroT s), ownN 4 s.n]) hs rfl ?_ ?_ rfl rfl ?_
        · repeat' (first
            | exact leT_empty
            | exact trivial
            | exact rfl
            | exact .inl rfl
            | exact .inr rfl
            | exact .inr ⟨rfl, rfl⟩
            | exact Nat.le_refl _
            | exact Nat.zero_le _
            | exact (fun _ _ => rfl)
            | assumption
            | refine And.intro ?_ ?_
            | (intro i hi; exact absurd hi (Nat.not_lt_zero i))
            | (intro i hi; have hi := Nat.lt_of_lt_of_le hi (show _ ≤ 1 from Nat.le_refl 1); obtain rfl : i = 0 := (by omega); rfl)
            | (intro i hi; have hi := Nat.lt_of_lt_of_le hi (show _ ≤ 2 from Nat.le_refl 2); rcases (show i = 0 ∨ i = 1 by omega) with rfl | rfl <;> rfl)
            | (intro i hi; have hi := Nat.lt_of_lt_of_le hi (show _ ≤ 3 from Nat.le_refl 3); rcases (show i = 0 ∨ i = 1 ∨ i = 2 by omega) with rfl | rfl | rfl <;> rfl))
        · repeat' (first
            | exact leT_empty
            | exact trivial
            | exact rfl
            | exact .inl rfl
            | exact .inr rfl
            | exact .inr ⟨rfl, rfl⟩
            | exact Nat.le_refl _
            | exact Nat.zero_le _
            | exact (fun _ _ => rfl)
            | assumption
            | refine And.intro ?_ ?_
            | (intro i hi; exact absurd hi (Nat.not_lt_zero i))
            | (intro i hi; have hi := Nat.lt_of_lt_of_le hi (show _ ≤ 1 from Nat.le_refl 1); obtain rfl : i = 0 := (by omega); rfl)
            | (intro i hi; have hi := Nat.lt_of_lt_of_le hi (show _ ≤ 2 from Nat.le_refl 2); rcases (show i = 0 ∨ i = 1 by omega) with rfl | rfl <;> rfl)
            | (intro i hi; have hi := Nat.lt_of_lt_of_le hi (show _ ≤ 3 from Nat.le_refl 3); rcases (show i = 0 ∨ i = 1 ∨ i = 2 by omega) with rfl | rfl | rfl <;> rfl))
        repeat
          conv => whnf
          first
            | refine cS rfl rfl ?_
            | refine cT (beq_self_eq_true _) ?_
            | refine bI (by omega) ?_
            | refine cDT (by omega) ?_
            | refine cDF (by omega) ?_
            | refine cNT (by omega) ?_
            | refine cNF (by omega) ?_
            | refine bU8 (by omega) ?_
            | refine bU32 (by omega) ?_
        conv => whnf
        refine .rd (fun j : Nat => j ≤ 5) (fun j => [(8, iv .i64 j)]) (fun j => 5 - j) 0 (Nat.zero_le _) ?_ (fun j hj => ?_)
        · conv => whnf
          refine Le.id rfl ?_ ?_
          all_goals (repeat' (first
             | exact leT_empty
             | exact trivial
             | exact rfl
             | exact .inl rfl
             | exact .inr rfl
             | exact .inr ⟨rfl, rfl⟩
             | exact Nat.le_refl _
             | exact Nat.zero_le _
             | exact (fun _ _ => rfl)
             | assumption
             | refine And.intro ?_ ?_
             | (intro i hi; exact absurd hi (Nat.not_lt_zero i))
             | (intro i hi; have hi := Nat.lt_of_lt_of_le hi (show _ ≤ 1 from Nat.le_refl 1); obtain rfl : i = 0 := (by omega); rfl)
             | (intro i hi; have hi := Nat.lt_of_lt_of_le hi (show _ ≤ 2 from Nat.le_refl 2); rcases (show i = 0 ∨ i = 1 by omega) with rfl | rfl <;> rfl)
             | (intro i hi; have hi := Nat.lt_of_lt_of_le hi (show _ ≤ 3 from Nat.le_refl 3); rcases (show i = 0 ∨ i = 1 ∨ i = 2 by omega) with rfl | rfl | rfl <;> rfl)))
        conv => whnf
        refine cD (fun h9 => ?_) (fun h9 => ?_)
        · have gj : getN u j = u.f j := if_pos ⟨by omega, by omega⟩
          have gz : getN (zeroT s) j = 0 := by unfold getN; split <;> rfl
          have g2 := ga j (by omega)
          repeat
            conv => whnf
            first
              | refine cS rfl rfl ?_
              | refine cT (beq_self_eq_true _) ?_
              | refine bI (by omega) ?_
              | refine cDT (by omega) ?_
              | refine cDF (by omega) ?_
              | refine cNT (by omega) ?_
              | refine cNF (by omega) ?_
              | refine bU8 (by omega) ?_
              | refine bU32 (by omega) ?_
          conv => whnf
          refine .det (u, (j : Int)) [1, 2] (iv .i64 (getN u j)) (hA (rowB len L) u g [rowN (zeroT s), ownN 4 s.n]) hu rfl ?_ ?_ rfl rfl ?_
          · repeat' (first
              | exact leT_empty
              | exact trivial
              | exact rfl
              | exact .inl rfl
              | exact .inr rfl
              | exact .inr ⟨rfl, rfl⟩
              | exact Nat.le_refl _
              | exact Nat.zero_le _
              | exact (fun _ _ => rfl)
              | assumption
              | refine And.intro ?_ ?_
              | (intro i hi; exact absurd hi (Nat.not_lt_zero i))
              | (intro i hi; have hi := Nat.lt_of_lt_of_le hi (show _ ≤ 1 from Nat.le_refl 1); obtain rfl : i = 0 := (by omega); rfl)
              | (intro i hi; have hi := Nat.lt_of_lt_of_le hi (show _ ≤ 2 from Nat.le_refl 2); rcases (show i = 0 ∨ i = 1 by omega) with rfl | rfl <;> rfl)
              | (intro i hi; have hi := Nat.lt_of_lt_of_le hi (show _ ≤ 3 from Nat.le_refl 3); rcases (show i = 0 ∨ i = 1 ∨ i = 2 by omega) with rfl | rfl | rfl <;> rfl))
          · repeat' (first
              | exact leT_empty
              | exact trivial
              | exact rfl
              | exact .inl rfl
              | exact .inr rfl
              | exact .inr ⟨rfl, rfl⟩
              | exact Nat.le_refl _
              | exact Nat.zero_le _
              | exact (fun _ _ => rfl)
              | assumption
              | refine And.intro ?_ ?_
              | (intro i hi; exact absurd hi (Nat.not_lt_zero i))
              | (intro i hi; have hi := Nat.lt_of_lt_of_le hi (show _ ≤ 1 from Nat.le_refl 1); obtain rfl : i = 0 := (by omega); rfl)
              | (intro i hi; have hi := Nat.lt_of_lt_of_le hi (show _ ≤ 2 from Nat.le_refl 2); rcases (show i = 0 ∨ i = 1 by omega) with rfl | rfl <;> rfl)
              | (intro i hi; have hi := Nat.lt_of_lt_of_le hi (show _ ≤ 3 from Nat.le_refl 3); rcases (show i = 0 ∨ i = 1 ∨ i = 2 by omega) with rfl | rfl | rfl <;> rfl))
          rw [gj]
          repeat
            conv => whnf
            first
              | refine cS rfl rfl ?_
              | refine cT (beq_self_eq_true _) ?_
              | refine bI (by omega) ?_
              | refine cDT (by omega) ?_
              | refine cDF (by omega) ?_
              | refine cNT (by omega) ?_
              | refine cNF (by omega) ?_
              | refine bU8 (by omega) ?_
              | refine bU32 (by omega) ?_
          conv => whnf
          try rw [tn]
          repeat
            conv => whnf
            first
              | refine cS rfl rfl ?_
              | refine cT (beq_self_eq_true _) ?_
              | refine bI (by omega) ?_
              | refine cDT (by omega) ?_
              | refine cDF (by omega) ?_
              | refine cNT (by omega) ?_
              | refine cNF (by omega) ?_
              | refine bU8 (by omega) ?_
              | refine bU32 (by omega) ?_
          conv => whnf
          refine .det (zeroT s, (j : Int)) [4, 5] (iv .i64 (getN (zeroT s) j)) (hA (rowB len L) u g [rowN (zeroT s), ownN 4 s.n]) (zeroT_ok hs) rfl ?_ ?_ rfl rfl ?_
          · repeat' (first
              | exact leT_empty
              | exact trivial
              | exact rfl
              | exact .inl rfl
              | exact .inr rfl
              | exact .inr ⟨rfl, rfl⟩
              | exact Nat.le_refl _
              | exact Nat.zero_le _
              | exact (fun _ _ => rfl)
              | assumption
              | refine And.intro ?_ ?_
              | (intro i hi; exact absurd hi (Nat.not_lt_zero i))
              | (intro i hi; have hi := Nat.lt_of_lt_of_le hi (show _ ≤ 1 from Nat.le_refl 1); obtain rfl : i = 0 := (by omega); rfl)
              | (intro i hi; have hi := Nat.lt_of_lt_of_le hi (show _ ≤ 2 from Nat.le_refl 2); rcases (show i = 0 ∨ i = 1 by omega) with rfl | rfl <;> rfl)
              | (intro i hi; have hi := Nat.lt_of_lt_of_le hi (show _ ≤ 3 from Nat.le_refl 3); rcases (show i = 0 ∨ i = 1 ∨ i = 2 by omega) with rfl | rfl | rfl <;> rfl))
          · repeat' (first
              | exact leT_empty
              | exact trivial
              | exact rfl
              | exact .inl rfl
              | exact .inr rfl
              | exact .inr ⟨rfl, rfl⟩
              | exact Nat.le_refl _
              | exact Nat.zero_le _
              | exact (fun _ _ => rfl)
              | assumption
              | refine And.intro ?_ ?_
              | (intro i hi; exact absurd hi (Nat.not_lt_zero i))
              | (intro i hi; have hi := Nat.lt_of_lt_of_le hi (show _ ≤ 1 from Nat.le_refl 1); obtain rfl : i = 0 := (by omega); rfl)
              | (intro i hi; have hi := Nat.lt_of_lt_of_le hi (show _ ≤ 2 from Nat.le_refl 2); rcases (show i = 0 ∨ i = 1 by omega) with rfl | rfl <;> rfl)
              | (intro i hi; have hi := Nat.lt_of_lt_of_le hi (show _ ≤ 3 from Nat.le_refl 3); rcases (show i = 0 ∨ i = 1 ∨ i = 2 by omega) with rfl | rfl | rfl <;> rfl))
          rw [gz]
          repeat
            conv => whnf
            first
              | refine cS rfl rfl ?_
              | refine cT (beq_self_eq_true _) ?_
              | refine bI (by omega) ?_
              | refine cDT (by omega) ?_
              | refine cDF (by omega) ?_
              | refine cNT (by omega) ?_
              | refine cNF (by omega) ?_
              | refine bU8 (by omega) ?_
              | refine bU32 (by omega) ?_
          conv => whnf
          refine ⟨j + 1, ⟨by omega, by omega⟩, ?_⟩
          conv => whnf
          refine Le.id rfl ?_ ?_
          all_goals (repeat' (first
             | exact leT_empty
             | exact trivial
             | exact rfl
             | exact .inl rfl
             | exact .inr rfl
             | exact .inr ⟨rfl, rfl⟩
             | exact Nat.le_refl _
             | exact Nat.zero_le _
             | exact (fun _ _ => rfl)
             | assumption
             | refine And.intro ?_ ?_
             | (intro i hi; exact absurd hi (Nat.not_lt_zero i))
             | (intro i hi; have hi := Nat.lt_of_lt_of_le hi (show _ ≤ 1 from Nat.le_refl 1); obtain rfl : i = 0 := (by omega); rfl)
             | (intro i hi; have hi := Nat.lt_of_lt_of_le hi (show _ ≤ 2 from Nat.le_refl 2); rcases (show i = 0 ∨ i = 1 by omega) with rfl | rfl <;> rfl)
             | (intro i hi; have hi := Nat.lt_of_lt_of_le hi (show _ ≤ 3 from Nat.le_refl 3); rcases (show i = 0 ∨ i = 1 ∨ i = 2 by omega) with rfl | rfl | rfl <;> rfl)))
        · repeat
            conv => whnf
            first
              | refine cS rfl rfl ?_
              | refine cT (beq_self_eq_true _) ?_
              | refine bI (by omega) ?_
              | refine cDT (by omega) ?_
              | refine cDF (by omega) ?_
              | refine cNT (by omega) ?_
              | refine cNF (by omega) ?_
              | refine bU8 (by omega) ?_
              | refine bU32 (by omega) ?_
          conv => whnf
          refine ⟨(i + 1, u, g), ⟨⟨by show i + 1 ≤ len; omega, hu, hun, ga⟩, by show len - (i + 1) < len - i; omega⟩, ?_⟩
          conv => whnf
          refine Le.id rfl ?_ ?_
          all_goals (repeat' (first
             | exact leT_empty
             | exact trivial
             | exact rfl
             | exact .inl rfl
             | exact .inr rfl
             | exact .inr ⟨rfl, rfl⟩
             | exact Nat.le_refl _
             | exact Nat.zero_le _
             | exact (fun _ _ => rfl)
             | assumption
             | refine And.intro ?_ ?_
             | (intro i hi; exact absurd hi (Nat.not_lt_zero i))
             | (intro i hi; have hi := Nat.lt_of_lt_of_le hi (show _ ≤ 1 from Nat.le_refl 1); obtain rfl : i = 0 := (by omega); rfl)
             | (intro i hi; have hi := Nat.lt_of_lt_of_le hi (show _ ≤ 2 from Nat.le_refl 2); rcases (show i = 0 ∨ i = 1 by omega) with rfl | rfl <;> rfl)
             | (intro i hi; have hi := Nat.lt_of_lt_of_le hi (show _ ≤ 3 from Nat.le_refl 3); rcases (show i = 0 ∨ i = 1 ∨ i = 2 by omega) with rfl | rfl | rfl <;> rfl)))
      · have ga : ∀ q, q < 5 → f q = u.f q := fun q hq => by rw [hat q, if_neg (by omega), hf q hq]
        generalize f = g at *
        by_cases h8 : 0 ≤ k
        all_goals
          repeat
            conv => whnf
            first
              | refine cS rfl rfl ?_
              | refine cT (beq_self_eq_true _) ?_
              | refine bI (by omega) ?_
              | refine cDT (by omega) ?_
              | refine cDF (by omega) ?_
              | refine cNT (by omega) ?_
              | refine cNF (by omega) ?_
              | refine bU8 (by omega) ?_
              | refine bU32 (by omega) ?_
          conv => whnf
          refine .det s [4, 5] unitR (hA (rowB len L) u g [rowN (zeroT s), ownN 4 s.n]) hs rfl ?_ ?_ rfl rfl ?_
          · repeat' (first
              | exact leT_empty
              | exact trivial
              | exact rfl
              | exact .inl rfl
              | exact .inr rfl
              | exact .inr ⟨rfl, rfl⟩
              | exact Nat.le_refl _
              | exact Nat.zero_le _
              | exact (fun _ _ => rfl)
              | assumption
              | refine And.intro ?_ ?_
              | (intro i hi; exact absurd hi (Nat.not_lt_zero i))
              | (intro i hi; have hi := Nat.lt_of_lt_of_le hi (show _ ≤ 1 from Nat.le_refl 1); obtain rfl : i = 0 := (by omega); rfl)
              | (intro i hi; have hi := Nat.lt_of_lt_of_le hi (show _ ≤ 2 from Nat.le_refl 2); rcases (show i = 0 ∨ i = 1 by omega) with rfl | rfl <;> rfl)
              | (intro i hi; have hi := Nat.lt_of_lt_of_le hi (show _ ≤ 3 from Nat.le_refl 3); rcases (show i = 0 ∨ i = 1 ∨ i = 2 by omega) with rfl | rfl | rfl <;> rfl))
          · repeat' (first
              | exact leT_empty
              | exact trivial
              | exact rfl
              | exact .inl rfl
              | exact .inr rfl
              | exact .inr ⟨rfl, rfl⟩
              | exact Nat.le_refl _
              | exact Nat.zero_le _
              | exact (fun _ _ => rfl)
              | assumption
              | refine And.intro ?_ ?_
              | (intro i hi; exact absurd hi (Nat.not_lt_zero i))
              | (intro i hi; have hi := Nat.lt_of_lt_of_le hi (show _ ≤ 1 from Nat.le_refl 1); obtain rfl : i = 0 := (by omega); rfl)
              | (intro i hi; have hi := Nat.lt_of_lt_of_le hi (show _ ≤ 2 from Nat.le_refl 2); rcases (show i = 0 ∨ i = 1 by omega) with rfl | rfl <;> rfl)
              | (intro i hi; have hi := Nat.lt_of_lt_of_le hi (show _ ≤ 3 from Nat.le_refl 3); rcases (show i = 0 ∨ i = 1 ∨ i = 2 by omega) with rfl | rfl | rfl <;> rfl))
          repeat
            conv => whnf
            first
              | refine cS rfl rfl ?_
              | refine cT (beq_self_eq_true _) ?_
              | refine bI (by omega) ?_
              | refine cDT (by omega) ?_
              | refine cDF (by omega) ?_
              | refine cNT (by omega) ?_
              | refine cNF (by omega) ?_
              | refine bU8 (by omega) ?_
              | refine bU32 (by omega) ?_
          conv => whnf
          refine .rd (fun j : Nat => j ≤ 5) (fun j => [(8, iv .i64 j)]) (fun j => 5 - j) 0 (Nat.zero_le _) ?_ (fun j hj => ?_)
          · conv => whnf
            refine Le.id rfl ?_ ?_
            all_goals (repeat' (first
               | exact leT_empty
               | exact trivial
               | exact rfl
               | exact .inl rfl
               | exact .inr rfl
               | exact .inr ⟨rfl, rfl⟩
               | exact Nat.le_refl _
               | exact Nat.zero_le _
               | exact (fun _ _ => rfl)
               | assumption
               | refine And.intro ?_ ?_
               | (intro i hi; exact absurd hi (Nat.not_lt_zero i))
               | (intro i hi; have hi := Nat.lt_of_lt_of_le hi (show _ ≤ 1 from Nat.le_refl 1); obtain rfl : i = 0 := (by omega); rfl)
               | (intro i hi; have hi := Nat.lt_of_lt_of_le hi (show _ ≤ 2 from Nat.le_refl 2); rcases (show i = 0 ∨ i = 1 by omega) with rfl | rfl <;> rfl)
               | (intro i hi; have hi := Nat.lt_of_lt_of_le hi (show _ ≤ 3 from Nat.le_refl 3); rcases (show i = 0 ∨ i = 1 ∨ i = 2 by omega) with rfl | rfl | rfl <;> rfl)))
          conv => whnf
          refine cD (fun h9 => ?_) (fun h9 => ?_)
          · have gj : getN u j = u.f j := if_pos ⟨by omega, by omega⟩
            have gz : getN (zeroT s) j = 0 := by unfold getN; split <;> rfl
            have g2 := ga j (by omega)
            repeat
              conv => whnf
              first
                | refine cS rfl rfl ?_
                | refine cT (beq_self_eq_true _) ?_
                | refine bI (by omega) ?_
                | refine cDT (by omega) ?_
                | refine cDF (by omega) ?_
                | refine cNT (by omega) ?_
                | refine cNF (by omega) ?_
                | refine bU8 (by omega) ?_
                | refine bU32 (by omega) ?_
            conv => whnf
            refine .det (u, (j : Int)) [1, 2] (iv .i64 (getN u j)) (hA (rowB len L) u g [rowN (zeroT s), ownN 4 s.n]) hu rfl ?_ ?_ rfl rfl ?_
            · repeat' (first
                | exact leT_empty
                | exact trivial
                | exact rfl
                | exact .inl rfl
                | exact .inr rfl
                | exact .inr ⟨rfl, rfl⟩
                | exact Nat.le_refl _
                | exact Nat.zero_le _
                | exact (fun _ _ => rfl)
                | assumption
                | refine And.intro ?_ ?_
                | (intro i hi; exact absurd hi (Nat.not_lt_zero i))
                | (intro i hi; have hi := Nat.lt_of_lt_of_le hi (show _ ≤ 1 from Nat.le_refl 1); obtain rfl : i = 0 := (by omega); rfl)
                | (intro i hi; have hi := Nat.lt_of_lt_of_le hi (show _ ≤ 2 from Nat.le_refl 2); rcases (show i = 0 ∨ i = 1 by omega) with rfl | rfl <;> rfl)
                | (intro i hi; have hi := Nat.lt_of_lt_of_le hi (show _ ≤ 3 from Nat.le_refl 3); rcases (show i = 0 ∨ i = 1 ∨ i = 2 by omega) with rfl | rfl | rfl <;> rfl))
            · repeat' (first
                | exact leT_empty
                | exact trivial
                | exact rfl
                | exact .inl rfl
                | exact .inr rfl
                | exact .inr ⟨rfl, rfl⟩
                | exact Nat.le_refl _
                | exact Nat.zero_le _
                | exact (fun _ _ => rfl)
                | assumption
                | refine And.intro ?_ ?_
                | (intro i hi; exact absurd hi (Nat.not_lt_zero i))
                | (intro i hi; have hi := Nat.lt_of_lt_of_le hi (show _ ≤ 1 from Nat.le_refl 1); obtain rfl : i = 0 := (by omega); rfl)
                | (intro i hi; have hi := Nat.lt_of_lt_of_le hi (show _ ≤ 2 from Nat.le_refl 2); rcases (show i = 0 ∨ i = 1 by omega) with rfl | rfl <;> rfl)
                | (intro i hi; have hi := Nat.lt_of_lt_of_le hi (show _ ≤ 3 from Nat.le_refl 3); rcases (show i = 0 ∨ i = 1 ∨ i = 2 by omega) with rfl | rfl | rfl <;> rfl))
            rw [gj]
            repeat
              conv => whnf
              first
                | refine cS rfl rfl ?_
                | refine cT (beq_self_eq_true _) ?_
                | refine bI (by omega) ?_
                | refine cDT (by omega) ?_
                | refine cDF (by omega) ?_
                | refine cNT (by omega) ?_
                | refine cNF (by omega) ?_
                | refine bU8 (by omega) ?_
                | refine bU32 (by omega) ?_
            conv => whnf
            try rw [tn]
            repeat
              conv => whnf
              first
                | refine cS rfl rfl ?_
                | refine cT (beq_self_eq_true _) ?_
                | refine bI (by omega) ?_
                | refine cDT (by omega) ?_
                | refine cDF (by omega) ?_
                | refine cNT (by omega) ?_
                | refine cNF (by omega) ?_
                | refine bU8 (by omega) ?_
                | refine bU32 (by omega) ?_
            conv => whnf
            refine .det (zeroT s, (j : Int)) [4, 5] (iv .i64 (getN (zeroT s) j)) (hA (rowB len L) u g [rowN (zeroT s), ownN 4 s.n]) (zeroT_ok hs) rfl ?_ ?_ rfl rfl ?_
            · repeat' (first
                | exact leT_empty
                | exact trivial
                | exact rfl
                | exact .inl rfl
                | exact .inr rfl
                | exact .inr ⟨rfl, rfl⟩
                | exact Nat.le_refl _
                | exact Nat.zero_le _
                | exact (fun _ _ => rfl)
                | assumption
                | refine And.intro ?_ ?_
                | (intro i hi; exact absurd hi (Nat.not_lt_zero i))
                | (intro i hi; have hi := Nat.lt_of_lt_of_le hi (show _ ≤ 1 from Nat.le_refl 1); obtain rfl : i = 0 := (by omega); rfl)
                | (intro i hi; have hi := Nat.lt_of_lt_of_le hi (show _ ≤ 2 from Nat.le_refl 2); rcases (show i = 0 ∨ i = 1 by omega) with rfl | rfl <;> rfl)
                | (intro i hi; have hi := Nat.lt_of_lt_of_le hi (show _ ≤ 3 from Nat.le_refl 3); rcases (show i = 0 ∨ i = 1 ∨ i = 2 by omega) with rfl | rfl | rfl <;> rfl))
            · repeat' (first
                | exact leT_empty
                | exact trivial
                | exact rfl
                | exact .inl rfl
                | exact .inr rfl
                | exact .inr ⟨rfl, rfl⟩
                | exact Nat.le_refl _
                | exact Nat.zero_le _
                | exact (fun _ _ => rfl)
                | assumption
                | refine And.intro ?_ ?_
                | (intro i hi; exact absurd hi (Nat.not_lt_zero i))
                | (intro i hi; have hi := Nat.lt_of_lt_of_le hi (show _ ≤ 1 from Nat.le_refl 1); obtain rfl : i = 0 := (by omega); rfl)
                | (intro i hi; have hi := Nat.lt_of_lt_of_le hi (show _ ≤ 2 from Nat.le_refl 2); rcases (show i = 0 ∨ i = 1 by omega) with rfl | rfl <;> rfl)
                | (intro i hi; have hi := Nat.lt_of_lt_of_le hi (show _ ≤ 3 from Nat.le_refl 3); rcases (show i = 0 ∨ i = 1 ∨ i = 2 by omega) with rfl | rfl | rfl <;> rfl))
            rw [gz]
            repeat
              conv => whnf
              first
                | refine cS rfl rfl ?_
                | refine cT (beq_self_eq_true _) ?_
                | refine bI (by omega) ?_
                | refine cDT (by omega) ?_
                | refine cDF (by omega) ?_
                | refine cNT (by omega) ?_
                | refine cNF (by omega) ?_
                | refine bU8 (by omega) ?_
                | refine bU32 (by omega) ?_
            conv => whnf
            refine ⟨j + 1, ⟨by omega, by omega⟩, ?_⟩
            conv => whnf
            refine Le.id rfl ?_ ?_
            all_goals (repeat' (first
               | exact leT_empty
               | exact trivial
               | exact rfl
               | exact .inl rfl
               | exact .inr rfl
               | exact .inr ⟨rfl, rfl⟩
               | exact Nat.le_refl _
               | exact Nat.zero_le _
               | exact (fun _ _ => rfl)
               | assumption
               | refine And.intro ?_ ?_
               | (intro i hi; exact absurd hi (Nat.not_lt_zero i))
               | (intro i hi; have hi := Nat.lt_of_lt_of_le hi (show _ ≤ 1 from Nat.le_refl 1); obtain rfl : i = 0 := (by omega); rfl)
               | (intro i hi; have hi := Nat.lt_of_lt_of_le hi (show _ ≤ 2 from Nat.le_refl 2); rcases (show i = 0 ∨ i = 1 by omega) with rfl | rfl <;> rfl)
               | (intro i hi; have hi := Nat.lt_of_lt_of_le hi (show _ ≤ 3 from Nat.le_refl 3); rcases (show i = 0 ∨ i = 1 ∨ i = 2 by omega) with rfl | rfl | rfl <;> rfl)))
          · repeat
              conv => whnf
              first
                | refine cS rfl rfl ?_
                | refine cT (beq_self_eq_true _) ?_
                | refine bI (by omega) ?_
                | refine cDT (by omega) ?_
                | refine cDF (by omega) ?_
                | refine cNT (by omega) ?_
                | refine cNF (by omega) ?_
                | refine bU8 (by omega) ?_
                | refine bU32 (by omega) ?_
            conv => whnf
            refine ⟨(i + 1, u, g), ⟨⟨by show i + 1 ≤ len; omega, hu, hun, ga⟩, by show len - (i + 1) < len - i; omega⟩, ?_⟩
            conv => whnf
            refine Le.id rfl ?_ ?_
            all_goals (repeat' (first
               | exact leT_empty
               | exact trivial
               | exact rfl
               | exact .inl rfl
               | exact .inr rfl
               | exact .inr ⟨rfl, rfl⟩
               | exact Nat.le_refl _
               | exact Nat.zero_le _
               | exact (fun _ _ => rfl)
               | assumption
               | refine And.intro ?_ ?_
               | (intro i hi; exact absurd hi (Nat.not_lt_zero i))
               | (intro i hi; have hi := Nat.lt_of_lt_of_le hi (show _ ≤ 1 from Nat.le_refl 1); obtain rfl : i = 0 := (by omega); rfl)
               | (intro i hi; have hi := Nat.lt_of_lt_of_le hi (show _ ≤ 2 from Nat.le_refl 2); rcases (show i = 0 ∨ i = 1 by omega) with rfl | rfl <;> rfl)
               | (intro i hi; have hi := Nat.lt_of_lt_of_le hi (show _ ≤ 3 from Nat.le_refl 3); rcases (show i = 0 ∨ i = 1 ∨ i = 2 by omega) with rfl | rfl | rfl <;> rfl)))
  have hgm : getN s (-1) = 0 := if_neg (by omega)
  have hg5 : getN s 5 = 0 := if_neg (by omega)
  repeat
    conv => whnf
    first
      | refine cS rfl rfl ?_
      | refine cT (beq_self_eq_true _) ?_
      | refine bI (by omega) ?_
      | refine cDT (by omega) ?_
      | refine cDF (by omega) ?_
      | refine cNT (by omega) ?_
      | refine cNF (by omega) ?_
      | refine bU8 (by omega) ?_
      | refine bU32 (by omega) ?_
  conv => whnf
  refine .det (s, -1) [1, 2] (iv .i64 (getN s (-1))) (hA (rowB len L) s f []) hs rfl ?_ ?_ rfl rfl ?_
  · repeat' (first
      | exact leT_empty
      | exact trivial
      | exact rfl
      | exact .inl rfl
      | exact .inr rfl
      | exact .inr ⟨rfl, rfl⟩
      | exact Nat.le_refl _
      | exact Nat.zero_le _
      | exact (fun _ _ => rfl)
      | assumption
      | refine And.intro ?_ ?_
      | (intro i hi; exact absurd hi (Nat.not_lt_zero i))
      | (intro i hi; have hi := Nat.lt_of_lt_of_le hi (show _ ≤ 1 from Nat.le_refl 1); obtain rfl : i = 0 := (by omega); rfl)
      | (intro i hi; have hi := Nat.lt_of_lt_of_le hi (show _ ≤ 2 from Nat.le_refl 2); rcases (show i = 0 ∨ i = 1 by omega) with rfl | rfl <;> rfl)
      | (intro i hi; have hi := Nat.lt_of_lt_of_le hi (show _ ≤ 3 from Nat.le_refl 3); rcases (show i = 0 ∨ i = 1 ∨ i = 2 by omega) with rfl | rfl | rfl <;> rfl))
  · repeat' (first
      | exact leT_empty
      | exact trivial
      | exact rfl
      | exact .inl rfl
      | exact .inr rfl
      | exact .inr ⟨rfl, rfl⟩
      | exact Nat.le_refl _
      | exact Nat.zero_le _
      | exact (fun _ _ => rfl)
      | assumption
      | refine And.intro ?_ ?_
      | (intro i hi; exact absurd hi (Nat.not_lt_zero i))
      | (intro i hi; have hi := Nat.lt_of_lt_of_le hi (show _ ≤ 1 from Nat.le_refl 1); obtain rfl : i = 0 := (by omega); rfl)
      | (intro i hi; have hi := Nat.lt_of_lt_of_le hi (show _ ≤ 2 from Nat.le_refl 2); rcases (show i = 0 ∨ i = 1 by omega) with rfl | rfl <;> rfl)
      | (intro i hi; have hi := Nat.lt_of_lt_of_le hi (show _ ≤ 3 from Nat.le_refl 3); rcases (show i = 0 ∨ i = 1 ∨ i = 2 by omega) with rfl | rfl | rfl <;> rfl))
  rw [hgm]
  repeat
    conv => whnf
    first
      | refine cS rfl rfl ?_
      | refine cT (beq_self_eq_true _) ?_
      | refine bI (by omega) ?_
      | refine cDT (by omega) ?_
      | refine cDF (by omega) ?_
      | refine cNT (by omega) ?_
      | refine cNF (by omega) ?_
      | refine bU8 (by omega) ?_
      | refine bU32 (by omega) ?_
  conv => whnf
  refine .det (s, 5) [1, 2] (iv .i64 (getN s 5)) (hA (rowB len L) s f []) hs rfl ?_ ?_ rfl rfl ?_
  · repeat' (first
      | exact leT_empty
      | exact trivial
      | exact rfl
      | exact .inl rfl
      | exact .inr rfl
      | exact .inr ⟨rfl, rfl⟩
      | exact Nat.le_refl _
      | exact Nat.zero_le _
      | exact (fun _ _ => rfl)
      | assumption
      | refine And.intro ?_ ?_
      | (intro i hi; exact absurd hi (Nat.not_lt_zero i))
      | (intro i hi; have hi := Nat.lt_of_lt_of_le hi (show _ ≤ 1 from Nat.le_refl 1); obtain rfl : i = 0 := (by omega); rfl)
      | (intro i hi; have hi := Nat.lt_of_lt_of_le hi (show _ ≤ 2 from Nat.le_refl 2); rcases (show i = 0 ∨ i = 1 by omega) with rfl | rfl <;> rfl)
      | (intro i hi; have hi := Nat.lt_of_lt_of_le hi (show _ ≤ 3 from Nat.le_refl 3); rcases (show i = 0 ∨ i = 1 ∨ i = 2 by omega) with rfl | rfl | rfl <;> rfl))
  · repeat' (first
      | exact leT_empty
      | exact trivial
      | exact rfl
      | exact .inl rfl
      | exact .inr rfl
      | exact .inr ⟨rfl, rfl⟩
      | exact Nat.le_refl _
      | exact Nat.zero_le _
      | exact (fun _ _ => rfl)
      | assumption
      | refine And.intro ?_ ?_
      | (intro i hi; exact absurd hi (Nat.not_lt_zero i))
      | (intro i hi; have hi := Nat.lt_of_lt_of_le hi (show _ ≤ 1 from Nat.le_refl 1); obtain rfl : i = 0 := (by omega); rfl)
      | (intro i hi; have hi := Nat.lt_of_lt_of_le hi (show _ ≤ 2 from Nat.le_refl 2); rcases (show i = 0 ∨ i = 1 by omega) with rfl | rfl <;> rfl)
      | (intro i hi; have hi := Nat.lt_of_lt_of_le hi (show _ ≤ 3 from Nat.le_refl 3); rcases (show i = 0 ∨ i = 1 ∨ i = 2 by omega) with rfl | rfl | rfl <;> rfl))
  rw [hg5]
  repeat
    conv => whnf
    first
      | refine cS rfl rfl ?_
      | refine cT (beq_self_eq_true _) ?_
      | refine bI (by omega) ?_
      | refine cDT (by omega) ?_
      | refine cDF (by omega) ?_
      | refine cNT (by omega) ?_
      | refine cNF (by omega) ?_
      | refine bU8 (by omega) ?_
      | refine bU32 (by omega) ?_
  conv => whnf
  refine .det s [1, 2] (.t (.one (.slc 4 0 1 0 s.n s.n false))) (hA (rowB len L) s f [rowN s]) hs rfl ?_ ?_ rfl rfl ?_
  · repeat' (first
      | exact leT_empty
      | exact trivial
      | exact rfl
      | exact .inl rfl
      | exact .inr rfl
      | exact .inr ⟨rfl, rfl⟩
      | exact Nat.le_refl _
      | exact Nat.zero_le _
      | exact (fun _ _ => rfl)
      | assumption
      | refine And.intro ?_ ?_
      | (intro i hi; exact absurd hi (Nat.not_lt_zero i))
      | (intro i hi; have hi := Nat.lt_of_lt_of_le hi (show _ ≤ 1 from Nat.le_refl 1); obtain rfl : i = 0 := (by omega); rfl)
      | (intro i hi; have hi := Nat.lt_of_lt_of_le hi (show _ ≤ 2 from Nat.le_refl 2); rcases (show i = 0 ∨ i = 1 by omega) with rfl | rfl <;> rfl)
      | (intro i hi; have hi := Nat.lt_of_lt_of_le hi (show _ ≤ 3 from Nat.le_refl 3); rcases (show i = 0 ∨ i = 1 ∨ i = 2 by omega) with rfl | rfl | rfl <;> rfl))
  · repeat' (first
      | exact leT_empty
      | exact trivial
      | exact rfl
      | exact .inl rfl
      | exact .inr rfl
      | exact .inr ⟨rfl, rfl⟩
      | exact Nat.le_refl _
      | exact Nat.zero_le _
      | exact (fun _ _ => rfl)
      | assumption
      | refine And.intro ?_ ?_
      | (intro i hi; exact absurd hi (Nat.not_lt_zero i))
      | (intro i hi; have hi := Nat.lt_of_lt_of_le hi (show _ ≤ 1 from Nat.le_refl 1); obtain rfl : i = 0 := (by omega); rfl)
      | (intro i hi; have hi := Nat.lt_of_lt_of_le hi (show _ ≤ 2 from Nat.le_refl 2); rcases (show i = 0 ∨ i = 1 by omega) with rfl | rfl <;> rfl)
      | (intro i hi; have hi := Nat.lt_of_lt_of_le hi (show _ ≤ 3 from Nat.le_refl 3); rcases (show i = 0 ∨ i = 1 ∨ i = 2 by omega) with rfl | rfl | rfl <;> rfl))
  repeat
    conv => whnf
    first
      | refine cS rfl rfl ?_
      | refine cT (beq_self_eq_true _) ?_
      | refine bI (by omega) ?_
      | refine cDT (by omega) ?_
      | refine cDF (by omega) ?_
      | refine cNT (by omega) ?_
      | refine cNF (by omega) ?_
      | refine bU8 (by omega) ?_
      | refine bU32 (by omega) ?_
  conv => whnf
  exact congrArg bv (decide_eq_true (by rw [hsn]; rfl))
theorem cl_ok : ∃ cl : Cl, ClOk Try.prog cl ∧ ∀ D, OkAll pas D → cl F.law19_StatusApart [] (xsP 0 pas D) (hsP pas D) fun x _ => x = bv true := by
  refine ⟨clRunX 7 tt outs19t tabL 2, clRunX_ok (d := 7) ttOk outs19t_ok tabL_ok 2, fun D hD => ?_⟩
  match D, hD with
  | [d0], hD =>
    obtain ⟨h0, _⟩ := hD
    obtain ⟨len, cap, nl, V, rfl, _, _, hV⟩ := one_sl h0
    exact walk len cap nl (vI V) (vI_u8 hV)
theorem own' : ownKnob Try.prog.godebug = none := own
theorem lifted (os : Os) (started : os.Started) (H : Type) (enc : TypeId × Value → H) :
    ReturnsInHanded {} Try.checked os 5 .any (Rows.statusApartSpec.pre6 enc Try.prog Try.f5 Rows.statusApartRow.domain false) (Rows.statusApartSpec.post enc Try.prog Try.f5 false true false false) := by
  refine returnsInHanded_of_change (C := Try.checked) own started (by kernel_rfl) Try.func5
    (ChangeSpec.witness6 (enc := enc) (C := Try.checked) false ⟨#[], #[.slice none 0 0], []⟩ 8 (by kernel_rfl) (by kernel_rfl) (by kernel_rfl) (by kernel_rfl)) ?_
  intro W base args ds gs before hval hW _ _
  obtain ⟨cl, hc, hw⟩ := cl_ok
  exact row_of (ps := pas) (by kernel_rfl) (by kernel_rfl) rfl rfl (fun ds h => by
    match ds, h with
    | [_], _ => rfl) hval hW hc hw
theorem closed : joinedFacts Try.prog 5 Try.f5 Rows.statusApartSpec Rows.statusApartRow = true := by
  simp only [joinedFacts, Bool.and_eq_true]
  repeat' apply And.intro
  all_goals first
    | with_reducible exact mayEnter_ok
    | with_reducible exact laid_ok
    | with_reducible exact rowed_ok
    | ((with_reducible refine beq_r lifts_ok ?_); rfl)
    | ((with_reducible refine beq_l make_ok ?_); kernel_rfl)
    | (as_aux_lemma => kernel_rfl)
theorem named : Try.prog.funcNamed Rows.statusApartRow.func = some 5 := by kernel_rfl
theorem inst : Try.f5.isInstance Try.prog Rows.statusApartRow.origin Rows.statusApartRow.targs := of_decide_eq_true (by kernel_rfl)
theorem wrap : Try.f5.isWrapper Try.prog Rows.statusApartRow.wrapper Rows.statusApartRow.mainSum := by
  unfold Func.isWrapper; first | (rw [if_pos (by decide +kernel)]; kernel_rfl) | (rw [if_neg (by decide +kernel)]; exact ⟨rfl, rfl⟩)
theorem over : Rows.statusApartRow.holds Try.pinned (OpenSpec.ofChange Rows.statusApartSpec) :=
  OpenClaim.holds_of_wide 5 Try.f5 rfl rfl rfl rfl rfl rfl rfl ⟨rfl, rfl, rfl, rfl, rfl⟩ rfl rfl rfl rfl rfl named Try.func5 closed inst wrap
    (fun os started H enc _ => lifted os started H enc)
/-- The statement. -/
theorem proved : Rows.StatusApartSaid := over
#print axioms proved
end Go.Proofs.Ytbdifadabipfiaa.statusApart
