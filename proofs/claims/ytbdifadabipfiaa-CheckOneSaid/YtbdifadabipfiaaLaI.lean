/- CheckOne: one thing spoilt in a matrix that passes is told, by its own error: true at every input; no conditions. -/
import Derived.Test.YtbdifadabipfiaaLaJ
namespace Go.Proofs.Ytbdifadabipfiaa.checkOne
open Go Go.Eng Go.Proofs Go.Proofs.Ytbdifadabipfiaa.Tb Go.Proofs.Ytbdifadabipfiaa.Co Go.Proofs.Ytbdifadabipfiaa.La Go.Pu
set_option maxRecDepth 100000
set_option maxHeartbeats 16000000
theorem idx {b : Int} {n : Nat} (hb : 0 ≤ b) (hn : 1 ≤ n) : ∃ q : Nat, b.tmod n = q ∧ q < n := by
  have h1 : 0 ≤ b.tmod n := Int.tmod_nonneg _ hb
  have h2 : b.tmod n < n := Int.tmod_lt_of_pos _ (by omega)
  exact ⟨(b.tmod n).toNat, by omega, by omega⟩
noncomputable abbrev tabL : List (FuncId × Eng.Fn) := [(F.law14_CheckOne, fn.law14_CheckOne u0), (F.law14_few, fn.law14_few u0)]
theorem tabL_ok {d : Nat} : TabOk d tabL tt := .cons (ok.law14_CheckOne u0) (.cons (ok.law14_few u0) (TabOk.nil))
abbrev pas : List Pa := [.agg matSh, .one u8, .one u8]
theorem walk (m : Mat) (c : Caps) (hm : m.Ok) (hc : capsOk m c) (a b : Int) (ha : 0 ≤ a ∧ a ≤ 255) (hb : 0 ≤ b ∧ b ≤ 255) : clRunC 8 tt outsL14 tabL 3 F.law14_CheckOne [] [matT m c 0 1 2, iv .u8 a, iv .u8 b] (matH m []) (fun x _ => x = bv true) := by
  have hnW := hm.nW
  conv => whnf
  refine true_use ?_
  conv => whnf
  refine cD (fun h1 => ?_) (fun h1 => ?_)
  rotate_left
  · conv => whnf
    exact rfl
  conv => whnf
  refine cD (fun h2 => ?_) (fun h2 => ?_)
  rotate_left
  · conv => whnf
    exact rfl
  conv => whnf
  refine cN (fun h3 => ?_) (fun h3 => ?_)
  · conv => whnf
    exact rfl
  conv => whnf
  refine check_use (m := m) (c := c) hm hc ?_
  conv => whnf
  refine cN (fun h4 => ?_) (fun h4 => ?_)
  · conv => whnf
    exact rfl
  have P := pass_of h4
  have hS := P.is.size
  have hL := P.is.head
  unfold sizeP at hS
  unfold headP at hL
  have hRef := hm.ref
  unfold U32 at hRef
  have e8 : 0 ≤ b.tmod 8 ∧ b.tmod 8 ≤ 7 := by rw [Int.tmod_eq_emod_of_nonneg hb.1]; omega
  have e5 : 0 ≤ a.tmod 5 ∧ a.tmod 5 ≤ 4 := by rw [Int.tmod_eq_emod_of_nonneg ha.1]; omega
  repeat
    conv => whnf
    first
      | refine cS rfl rfl ?_
      | refine cT (beq_self_eq_true _) ?_
      | refine bI (by omega) ?_
      | refine cDT (by omega) ?_
      | refine cDF (by omega) ?_
      | refine cNT (by omega) ?_
      | refine cNF (by omega) ?_
      | refine bU8 (by omega) ?_
      | refine bU32 (by omega) ?_
  conv => whnf
  refine cT (decide_eq_true (by show m.nM * 8 ≤ 1099511627776; omega)) ?_
  intro c1 hc1
  repeat
    conv => whnf
    first
      | refine cS rfl rfl ?_
      | refine cT (beq_self_eq_true _) ?_
      | refine bI (by omega) ?_
      | refine cDT (by omega) ?_
      | refine cDF (by omega) ?_
      | refine cNT (by omega) ?_
      | refine cNF (by omega) ?_
      | refine bU8 (by omega) ?_
      | refine bU32 (by omega) ?_
  conv => whnf
  refine cT (decide_eq_true (by show m.nG * 24 ≤ 1099511627776; omega)) ?_
  intro c2 hc2
  repeat
    conv => whnf
    first
      | refine cS rfl rfl ?_
      | refine cT (beq_self_eq_true _) ?_
      | refine bI (by omega) ?_
      | refine cDT (by omega) ?_
      | refine cDF (by omega) ?_
      | refine cNT (by omega) ?_
      | refine cNF (by omega) ?_
      | refine bU8 (by omega) ?_
      | refine bU32 (by omega) ?_
  conv => whnf
  refine cT (decide_eq_true (by show m.nW * 48 ≤ 1099511627776; omega)) ?_
  intro c3 hc3
  repeat
    conv => whnf
    first
      | refine cS rfl rfl ?_
      | refine cT (beq_self_eq_true _) ?_
      | refine bI (by omega) ?_
      | refine cDT (by omega) ?_
      | refine cDF (by omega) ?_
      | refine cNT (by omega) ?_
      | refine cNF (by omega) ?_
      | refine bU8 (by omega) ?_
      | refine bU32 (by omega) ?_
  rcases (show a.tmod 5 = 0 ∨ a.tmod 5 = 1 ∨ a.tmod 5 = 2 ∨ a.tmod 5 = 3 ∨ a.tmod 5 = 4 by omega) with hv | hv | hv | hv | hv
  · obtain ⟨q, hq, hql⟩ := idx (b := b) (n := m.nM) hb.1 (by omega)
    repeat
      conv => whnf
      first
        | refine cS rfl rfl ?_
        | refine cT (beq_self_eq_true _) ?_
        | refine bI (by omega) ?_
        | refine cDT (by omega) ?_
        | refine cDF (by omega) ?_
        | refine cNT (by omega) ?_
        | refine cNF (by omega) ?_
        | refine bU8 (by omega) ?_
        | refine bU32 (by omega) ?_
    conv => whnf
    try rw [hq]
    repeat
      conv => whnf
      first
        | refine cS rfl rfl ?_
        | refine cT (beq_self_eq_true _) ?_
        | refine bI (by omega) ?_
        | refine cDT (by omega) ?_
        | refine cDF (by omega) ?_
        | refine cNT (by omega) ?_
        | refine cNF (by omega) ?_
        | refine bU8 (by omega) ?_
        | refine bU32 (by omega) ?_
    conv => whnf
    rw [zi q]
    refine AskC.use (m0 m q, ⟨c1, c2, c3, decide (m.nM = 0), decide (m.nG = 0), decide (m.nW = 0)⟩) [6, 7, 8] ⟨m0_ok hm, ⟨hc1, hc2, hc3⟩⟩ rfl ?_ ?_ ?_
    · repeat' (first
        | exact leT_empty
        | exact trivial
        | exact rfl
        | exact .inl rfl
        | exact .inr rfl
        | exact .inr ⟨rfl, rfl⟩
        | exact Nat.le_refl _
        | exact (fun _ _ => rfl)
        | refine And.intro ?_ ?_
        | (intro i hi; simp only [Nat.zero_add]; rfl)
        | assumption)
      intro i hi
      show (if i = q then [iC m.nodes] else [iC (m.M (0 + i))]) = [iC (if i = q then m.nodes else m.M i)]
      rw [Nat.zero_add]
      by_cases hi2 : i = q
      · rw [if_pos hi2, if_pos hi2]
      · rw [if_neg hi2, if_neg hi2]
    · repeat' (first
        | exact leT_empty
        | exact trivial
        | exact rfl
        | exact .inl rfl
        | exact .inr rfl
        | exact .inr ⟨rfl, rfl⟩
        | exact Nat.le_refl _
        | exact (fun _ _ => rfl)
        | refine And.intro ?_ ?_
        | (intro i hi; simp only [Nat.zero_add]; rfl)
        | assumption)
    rw [show pairR (chk (m0 m q, (⟨c1, c2, c3, decide (m.nM = 0), decide (m.nG = 0), decide (m.nW = 0)⟩ : Caps)).1) = pairR ((q : Int), 141) from congrArg pairR (m0_chk P hql)]
    repeat
      conv => whnf
      first
        | refine cS rfl rfl ?_
        | refine cT (beq_self_eq_true _) ?_
        | refine bI (by omega) ?_
        | refine cDT (by omega) ?_
        | refine cDF (by omega) ?_
        | refine cNT (by omega) ?_
        | refine cNF (by omega) ?_
        | refine bU8 (by omega) ?_
        | refine bU32 (by omega) ?_
    conv => whnf
    exact congrArg bv (decide_eq_true hq.symm)
  · repeat
      conv => whnf
      first
        | refine cS rfl rfl ?_
        | refine cT (beq_self_eq_true _) ?_
        | refine bI (by omega) ?_
        | refine cDT (by omega) ?_
        | refine cDF (by omega) ?_
        | refine cNT (by omega) ?_
        | refine cNF (by omega) ?_
        | refine bU8 (by omega) ?_
        | refine bU32 (by omega) ?_
    conv => whnf
    refine AskC.use (m1 m, ⟨c1, c2, c3, decide (m.nM = 0), decide (m.nG = 0), decide (m.nW = 0)⟩) [6, 7, 8] ⟨m1_ok hm, ⟨hc1, hc2, hc3⟩⟩ rfl ?_ ?_ ?_
    · repeat' (first
        | exact leT_empty
        | exact trivial
        | exact rfl
        | exact .inl rfl
        | exact .inr rfl
        | exact .inr ⟨rfl, rfl⟩
        | exact Nat.le_refl _
        | exact (fun _ _ => rfl)
        | refine And.intro ?_ ?_
        | (intro i hi; simp only [Nat.zero_add]; rfl)
        | assumption)
    · repeat' (first
        | exact leT_empty
        | exact trivial
        | exact rfl
        | exact .inl rfl
        | exact .inr rfl
        | exact .inr ⟨rfl, rfl⟩
        | exact Nat.le_refl _
        | exact (fun _ _ => rfl)
        | refine And.intro ?_ ?_
        | (intro i hi; simp only [Nat.zero_add]; rfl)
        | assumption)
    rw [show pairR (chk (m1 m, (⟨c1, c2, c3, decide (m.nM = 0), decide (m.nG = 0), decide (m.nW = 0)⟩ : Caps)).1) = pairR (0, 120) from congrArg pairR m1_chk]
    repeat
      conv => whnf
      first
        | refine cS rfl rfl ?_
        | refine cT (beq_self_eq_true _) ?_
        | refine bI (by omega) ?_
        | refine cDT (by omega) ?_
        | refine cDF (by omega) ?_
        | refine cNT (by omega) ?_
        | refine cNF (by omega) ?_
        | refine bU8 (by omega) ?_
        | refine bU32 (by omega) ?_
    conv => whnf
    exact rfl
  · obtain ⟨q, hq, hql⟩ := idx (b := b) (n := m.nM) hb.1 (by omega)
    repeat
      conv => whnf
      first
        | refine cS rfl rfl ?_
        | refine cT (beq_self_eq_true _) ?_
        | refine bI (by omega) ?_
        | refine cDT (by omega) ?_
        | refine cDF (by omega) ?_
        | refine cNT (by omega) ?_
        | refine cNF (by omega) ?_
        | refine bU8 (by omega) ?_
        | refine bU32 (by omega) ?_
    conv => whnf
    refine cD (fun h5 => ?_) (fun h5 => ?_)
    · conv => whnf
      exact rfl
    repeat
      conv => whnf
      first
        | refine cS rfl rfl ?_
        | refine cT (beq_self_eq_true _) ?_
        | refine bI (by omega) ?_
        | refine cDT (by omega) ?_
        | refine cDF (by omega) ?_
        | refine cNT (by omega) ?_
        | refine cNF (by omega) ?_
        | refine bU8 (by omega) ?_
        | refine bU32 (by omega) ?_
    conv => whnf
    try rw [hq]
    repeat
      conv => whnf
      first
        | refine cS rfl rfl ?_
        | refine cT (beq_self_eq_true _) ?_
        | refine bI (by omega) ?_
        | refine cDT (by omega) ?_
        | refine cDF (by omega) ?_
        | refine cNT (by omega) ?_
        | refine cNF (by omega) ?_
        | refine bU8 (by omega) ?_
        | refine bU32 (by omega) ?_
    conv => whnf
    refine cT (decide_eq_true (by show (m.nM + 1) * 8 ≤ 1099511627776; omega)) ?_
    repeat
      conv => whnf
      first
        | refine cS rfl rfl ?_
        | refine cT (beq_self_eq_true _) ?_
        | refine bI (by omega) ?_
        | refine cDT (by omega) ?_
        | refine cDF (by omega) ?_
        | refine cNT (by omega) ?_
        | refine cNF (by omega) ?_
        | refine bU8 (by omega) ?_
        | refine bU32 (by omega) ?_
    conv => whnf
    intro cap hcap
    repeat
      conv => whnf
      first
        | refine cS rfl rfl ?_
        | refine cT (beq_self_eq_true _) ?_
        | refine bI (by omega) ?_
        | refine cDT (by omega) ?_
        | refine cDF (by omega) ?_
        | refine cNT (by omega) ?_
        | refine cNF (by omega) ?_
        | refine bU8 (by omega) ?_
        | refine bU32 (by omega) ?_
    conv => whnf
    rw [show 0 + (0 + (q : Int).toNat) = q by omega]
    refine AskC.use (m2 m q, ⟨cap, c2, c3, decide (m.nM = 0) && decide (1 = 0), decide (m.nG = 0), decide (m.nW = 0)⟩) [10, 7, 8] ⟨m2_ok hm hql (by omega), ⟨hcap, hc2, hc3⟩⟩ rfl ?_ ?_ ?_
    · repeat' (first
        | exact leT_empty
        | exact trivial
        | exact rfl
        | exact .inl rfl
        | exact .inr rfl
        | exact .inr ⟨rfl, rfl⟩
        | exact Nat.le_refl _
        | exact (fun _ _ => rfl)
        | refine And.intro ?_ ?_
        | (intro i hi; simp only [Nat.zero_add]; rfl)
        | assumption)
      intro i hi
      show (if i < m.nM then [iC (m.M (0 + (0 + i)))] else nthD [] [[iC (m.M q)]] (0 + (i - m.nM))) = [iC (if i < m.nM then m.M i else m.M q)]
      have hi : i < m.nM + 1 := hi
      by_cases hi2 : i < m.nM
      · rw [if_pos hi2, if_pos hi2, Nat.zero_add, Nat.zero_add]
      · rw [if_neg hi2, if_neg hi2, show 0 + (i - m.nM) = 0 by omega]
        rfl
    · repeat' (first
        | exact leT_empty
        | exact trivial
        | exact rfl
        | exact .inl rfl
        | exact .inr rfl
        | exact .inr ⟨rfl, rfl⟩
        | exact Nat.le_refl _
        | exact (fun _ _ => rfl)
        | refine And.intro ?_ ?_
        | (intro i hi; simp only [Nat.zero_add]; rfl)
        | assumption)
    rw [show pairR (chk (m2 m q, (⟨cap, c2, c3, decide (m.nM = 0) && decide (1 = 0), decide (m.nG = 0), decide (m.nW = 0)⟩ : Caps)).1) = pairR ((m.nM : Int), 142) from congrArg pairR (m2_chk P hql (by omega))]
    repeat
      conv => whnf
      first
        | refine cS rfl rfl ?_
        | refine cT (beq_self_eq_true _) ?_
        | refine bI (by omega) ?_
        | refine cDT (by omega) ?_
        | refine cDF (by omega) ?_
        | refine cNT (by omega) ?_
        | refine cNF (by omega) ?_
        | refine bU8 (by omega) ?_
        | refine bU32 (by omega) ?_
    conv => whnf
    exact congrArg bv (decide_eq_true (by show (m.nM : Int) = ((m.nM + 1 : Nat) : Int) - 1; omega))
  · repeat
      conv => whnf
      first
        | refine cS rfl rfl ?_
        | refine cT (beq_self_eq_true _) ?_
        | refine bI (by omega) ?_
        | refine cDT (by omega) ?_
        | refine cDF (by omega) ?_
        | refine cNT (by omega) ?_
        | refine cNF (by omega) ?_
        | refine bU8 (by omega) ?_
        | refine bU32 (by omega) ?_
    conv => whnf
    refine cD (fun h5 => ?_) (fun h5 => ?_)
    · conv => whnf
      exact rfl
    repeat
      conv => whnf
      first
        | refine cS rfl rfl ?_
        | refine cT (beq_self_eq_true _) ?_
        | refine bI (by omega) ?_
        | refine cDT (by omega) ?_
        | refine cDF (by omega) ?_
        | refine cNT (by omega) ?_
        | refine cNF (by omega) ?_
        | refine bU8 (by omega) ?_
        | refine bU32 (by omega) ?_
    conv => whnf
    refine cD (fun h6 => ?_) (fun h6 => ?_)
    · conv => whnf
      exact rfl
    obtain ⟨q, hq, hql⟩ := idx (b := b) (n := m.nW) hb.1 (by omega)
    repeat
      conv => whnf
      first
        | refine cS rfl rfl ?_
        | refine cT (beq_self_eq_true _) ?_
        | refine bI (by omega) ?_
        | refine cDT (by omega) ?_
        | refine cDF (by omega) ?_
        | refine cNT (by omega) ?_
        | refine cNF (by omega) ?_
        | refine bU8 (by omega) ?_
        | refine bU32 (by omega) ?_
    conv => whnf
    try rw [hq]
    repeat
      conv => whnf
      first
        | refine cS rfl rfl ?_
        | refine cT (beq_self_eq_true _) ?_
        | refine bI (by omega) ?_
        | refine cDT (by omega) ?_
        | refine cDF (by omega) ?_
        | refine cNT (by omega) ?_
        | refine cNF (by omega) ?_
        | refine bU8 (by omega) ?_
        | refine bU32 (by omega) ?_
    conv => whnf
    refine cT (decide_eq_true (by show (m.nW + 1) * 48 ≤ 1099511627776; omega)) ?_
    repeat
      conv => whnf
      first
        | refine cS rfl rfl ?_
        | refine cT (beq_self_eq_true _) ?_
        | refine bI (by omega) ?_
        | refine cDT (by omega) ?_
        | refine cDF (by omega) ?_
        | refine cNT (by omega) ?_
        | refine cNF (by omega) ?_
        | refine bU8 (by omega) ?_
        | refine bU32 (by omega) ?_
    conv => whnf
    intro cap hcap
    repeat
      conv => whnf
      first
        | refine cS rfl rfl ?_
        | refine cT (beq_self_eq_true _) ?_
        | refine bI (by omega) ?_
        | refine cDT (by omega) ?_
        | refine cDF (by omega) ?_
        | refine cNT (by omega) ?_
        | refine cNF (by omega) ?_
        | refine bU8 (by omega) ?_
        | refine bU32 (by omega) ?_
    conv => whnf
    rw [show 0 + (0 + (q : Int).toNat) = q by omega]
    refine AskC.use (m3 m q, ⟨c1, c2, cap, decide (m.nM = 0), decide (m.nG = 0), decide (m.nW = 0) && decide (1 = 0)⟩) [6, 7, 10] ⟨m3_ok hm hql (by omega), ⟨hc1, hc2, hcap⟩⟩ rfl ?_ ?_ ?_
    · repeat' (first
        | exact leT_empty
        | exact trivial
        | exact rfl
        | exact .inl rfl
        | exact .inr rfl
        | exact .inr ⟨rfl, rfl⟩
        | exact Nat.le_refl _
        | exact (fun _ _ => rfl)
        | refine And.intro ?_ ?_
        | (intro i hi; simp only [Nat.zero_add]; rfl)
        | assumption)
      intro i hi
      show (if i < m.nW then winL (m.W (0 + (0 + i))) else nthD [] [winL (m.W q)] (0 + (i - m.nW))) = winL (if i < m.nW then m.W i else m.W q)
      have hi : i < m.nW + 1 := hi
      by_cases hi2 : i < m.nW
      · rw [if_pos hi2, if_pos hi2, Nat.zero_add, Nat.zero_add]
      · rw [if_neg hi2, if_neg hi2, show 0 + (i - m.nW) = 0 by omega]
        rfl
    · repeat' (first
        | exact leT_empty
        | exact trivial
        | exact rfl
        | exact .inl rfl
        | exact .inr rfl
        | exact .inr ⟨rfl, rfl⟩
        | exact Nat.le_refl _
        | exact (fun _ _ => rfl)
        | refine And.intro ?_ ?_
        | (intro i hi; simp only [Nat.zero_add]; rfl)
        | assumption)
    rw [show pairR (chk (m3 m q, (⟨c1, c2, cap, decide (m.nM = 0), decide (m.nG = 0), decide (m.nW = 0) && decide (1 = 0)⟩ : Caps)).1) = pairR ((m.nW : Int), 143) from congrArg pairR (m3_chk P hql (by omega))]
    repeat
      conv => whnf
      first
        | refine cS rfl rfl ?_
        | refine cT (beq_self_eq_true _) ?_
        | refine bI (by omega) ?_
        | refine cDT (by omega) ?_
        | refine cDF (by omega) ?_
        | refine cNT (by omega) ?_
        | refine cNF (by omega) ?_
        | refine bU8 (by omega) ?_
        | refine bU32 (by omega) ?_
    conv => whnf
    exact congrArg bv (decide_eq_true (by show (m.nW : Int) = ((m.nW + 1 : Nat) : Int) - 1; omega))
  · repeat
      conv => whnf
      first
        | refine cS rfl rfl ?_
        | refine cT (beq_self_eq_true _) ?_
        | refine bI (by omega) ?_
        | refine cDT (by omega) ?_
        | refine cDF (by omega) ?_
        | refine cNT (by omega) ?_
        | refine cNF (by omega) ?_
        | refine bU8 (by omega) ?_
        | refine bU32 (by omega) ?_
    conv => whnf
    refine cD (fun h5 => ?_) (fun h5 => ?_)
    · conv => whnf
      exact rfl
    obtain ⟨q, hq, hql⟩ := idx (b := b) (n := m.nG) hb.1 (by omega)
    repeat
      conv => whnf
      first
        | refine cS rfl rfl ?_
        | refine cT (beq_self_eq_true _) ?_
        | refine bI (by omega) ?_
        | refine cDT (by omega) ?_
        | refine cDF (by omega) ?_
        | refine cNT (by omega) ?_
        | refine cNF (by omega) ?_
        | refine bU8 (by omega) ?_
        | refine bU32 (by omega) ?_
    conv => whnf
    try rw [hq]
    repeat
      conv => whnf
      first
        | refine cS rfl rfl ?_
        | refine cT (beq_self_eq_true _) ?_
        | refine bI (by omega) ?_
        | refine cDT (by omega) ?_
        | refine cDF (by omega) ?_
        | refine cNT (by omega) ?_
        | refine cNF (by omega) ?_
        | refine bU8 (by omega) ?_
        | refine bU32 (by omega) ?_
    conv => whnf
    have h48 : m.ref + b.tmod 8 < 2048 := by
      have := hL.2.2.2.2.2.2.2.2.2.2.2.2.2.2
      rw [Int.tmod_eq_emod_of_nonneg hRef.1] at this
      omega
    rw [show 0 + (0 + (q : Int).toNat) = q by omega, zi q]
    refine AskC.use (m4 m q (m.ref + b.tmod 8), ⟨c1, c2, c3, decide (m.nM = 0), decide (m.nG = 0), decide (m.nW = 0)⟩) [6, 7, 8] ⟨m4_ok hm hql (by unfold U32; omega), ⟨hc1, hc2, hc3⟩⟩ rfl ?_ ?_ ?_
    · repeat' (first
        | exact leT_empty
        | exact trivial
        | exact rfl
        | exact .inl rfl
        | exact .inr rfl
        | exact .inr ⟨rfl, rfl⟩
        | exact Nat.le_refl _
        | exact (fun _ _ => rfl)
        | refine And.intro ?_ ?_
        | (intro i hi; simp only [Nat.zero_add]; rfl)
        | assumption)
      intro i hi
      show (if i = q then msgL ⟨m.ref + b.tmod 8, (m.G q).ow, (m.G q).ev⟩ else msgL (m.G (0 + i))) = msgL (if i = q then ⟨m.ref + b.tmod 8, (m.G q).ow, (m.G q).ev⟩ else m.G i)
      rw [Nat.zero_add]
      by_cases hi2 : i = q
      · rw [if_pos hi2, if_pos hi2]
      · rw [if_neg hi2, if_neg hi2]
    · repeat' (first
        | exact leT_empty
        | exact trivial
        | exact rfl
        | exact .inl rfl
        | exact .inr rfl
        | exact .inr ⟨rfl, rfl⟩
        | exact Nat.le_refl _
        | exact (fun _ _ => rfl)
        | refine And.intro ?_ ?_
        | (intro i hi; simp only [Nat.zero_add]; rfl)
        | assumption)
    rw [show pairR (chk (m4 m q (m.ref + b.tmod 8), (⟨c1, c2, c3, decide (m.nM = 0), decide (m.nG = 0), decide (m.nW = 0)⟩ : Caps)).1) = pairR ((q : Int), 142) from congrArg pairR (m4_chk P hql (by omega) (by omega) h48)]
    repeat
      conv => whnf
      first
        | refine cS rfl rfl ?_
        | refine cT (beq_self_eq_true _) ?_
        | refine bI (by omega) ?_
        | refine cDT (by omega) ?_
        | refine cDF (by omega) ?_
        | refine cNT (by omega) ?_
        | refine cNF (by omega) ?_
        | refine bU8 (by omega) ?_
        | refine bU32 (by omega) ?_
    conv => whnf
    exact congrArg bv (decide_eq_true hq.symm)
theorem cl_ok : ∃ cl : Cl, ClOk Try.prog cl ∧ ∀ D, OkAll pas D → cl F.law14_CheckOne [] (xsP 0 pas D) (hsP pas D) fun x _ => x = bv true := by
  refine ⟨clRunC 8 tt outsL14 tabL 3, clRunC_ok (d := 8) ttOk outsL14_ok tabL_ok 3, fun D hD => ?_⟩
  match D, hD with
  | [d0, d1, d2], hD =>
    obtain ⟨h0, h1, h2, _⟩ := hD
    obtain ⟨m, c, hm, hc, e0, e1⟩ := open_mat h0
    obtain ⟨a, rfl, ha⟩ := one_u8 h1
    obtain ⟨b, rfl, hb⟩ := one_u8 h2
    have hw := walk m c hm hc a b ha hb
    show clRunC 8 tt outsL14 tabL 3 11 [] (xP 0 (.agg matSh) d0 :: _) (hs matSh d0 ++ _) _
    rw [e0, e1]
    exact hw
theorem own' : ownKnob Try.prog.godebug = none := own
theorem lifted (os : Os) (started : os.Started) (H : Type) (enc : TypeId × Value → H) :
    ReturnsInHanded {} Try.checked os 11 .any (Rows.checkOneSpec.pre6 enc Try.prog Try.f11 Rows.checkOneRow.domain false) (Rows.checkOneSpec.post enc Try.prog Try.f11 false true false false) := by
  refine returnsInHanded_of_change (C := Try.checked) own started (by kernel_rfl) Try.func11
    (ChangeSpec.witness6 (enc := enc) (C := Try.checked) false ⟨#[], #[.agg #[.int .i64 0, .int .i64 0, .int .i64 0, .int .i64 0, .int .i64 0, .int .i64 0, .int .i64 0, .int .u32 0, .slice none 0 0, .slice none 0 0, .slice none 0 0], .int .u8 0, .int .u8 0], []⟩ 8 (by kernel_rfl) (by kernel_rfl) (by kernel_rfl) (by kernel_rfl)) ?_
  intro W base args ds gs before hval hW _ _
  obtain ⟨cl, hc, hw⟩ := cl_ok
  exact row_of (ps := pas) (by kernel_rfl) (by kernel_rfl) rfl rfl (fun ds h => by
    match ds, h with
    | [_, _, _], _ => rfl) hval hW hc hw
theorem closed : joinedFacts Try.prog 11 Try.f11 Rows.checkOneSpec Rows.checkOneRow = true := by
  simp only [joinedFacts, Bool.and_eq_true]
  repeat' apply And.intro
  all_goals first
    | with_reducible exact mayEnter_ok
    | with_reducible exact laid_ok
    | with_reducible exact rowed_ok
    | ((with_reducible refine beq_r lifts_ok ?_); rfl)
    | ((with_reducible refine beq_l make_ok ?_); kernel_rfl)
    | (as_aux_lemma => kernel_rfl)
theorem named : Try.prog.funcNamed Rows.checkOneRow.func = some 11 := by kernel_rfl
theorem inst : Try.f11.isInstance Try.prog Rows.checkOneRow.origin Rows.checkOneRow.targs := of_decide_eq_true (by kernel_rfl)
theorem wrap : Try.f11.isWrapper Try.prog Rows.checkOneRow.wrapper Rows.checkOneRow.mainSum := by
  unfold Func.isWrapper; first | (rw [if_pos (by decide +kernel)]; kernel_rfl) | (rw [if_neg (by decide +kernel)]; exact ⟨rfl, rfl⟩)
theorem over : Rows.checkOneRow.holds Try.pinned (OpenSpec.ofChange Rows.checkOneSpec) :=
  OpenClaim.holds_of_wide 11 Try.f11 rfl rfl rfl rfl rfl rfl rfl ⟨rfl, rfl, rfl, rfl, rfl⟩ rfl rfl rfl rfl rfl named Try.func11 closed inst wrap
    (fun os started H enc _ => lifted os started H enc)
/-- The statement. -/
theorem proved : Rows.CheckOneSaid := over
#print axioms proved
end Go.Proofs.Ytbdifadabipfiaa.checkOne
