/- Contracts: what is due, the other way; rows alike. -/
import Derived.Test.YtbdifadabipfiaaCoW
namespace Go.Proofs.Ytbdifadabipfiaa.Co
open Go Go.Eng Go.Proofs Go.Proofs.Ytbdifadabipfiaa.Tb Go.Pu
set_option maxRecDepth 100000
set_option maxHeartbeats 8000000
theorem trg_eq (s t : Trg) : (decide (s.kind = t.kind) && (decide (s.at_ = t.at_) && (decide (s.cyc = t.cyc) && (decide (s.rep = t.rep) && (decide (s.msg = t.msg) && (decide (s.til = t.til) && true)))))) = decide (s = t) := by
  cases s; cases t
  simp only [Bool.and_true, Trg.mk.injEq, Bool.decide_and]
def sameB (A : Nat → Trg) (n : Nat) (B : Nat → Trg) (k : Nat) : Bool := decide (n = k ∧ ∀ q, q < n → A q = B q)
abbrev sameC : Con ((Nat → Trg) × Nat × Nat × Bool × (Nat → Trg) × Nat × Nat × Bool) := RoCon (fun p => [slT 0 p.2.1 p.2.2.1 p.2.2.2.1, slT 1 p.2.2.2.2.2.1 p.2.2.2.2.2.2.1 p.2.2.2.2.2.2.2]) (fun p => [rdT p.1 p.2.1, rdT p.2.2.2.2.1 p.2.2.2.2.2.1]) (fun p => p.2.1 ≤ 9223372036854775807) fun p => bv (sameB p.1 p.2.1 p.2.2.2.2.1 p.2.2.2.2.2.1)
noncomputable abbrev tabSm : List (FuncId × Eng.Fn) := [(F.law15_same, fn.law15_same u0)]
theorem tabSm_ok {d : Nat} : TabOk d tabSm tt := .cons (ok.law15_same u0) (TabOk.nil)
theorem same_run (A : Nat → Trg) (n cap : Nat) (nl : Bool) (B : Nat → Trg) (k cap2 : Nat) (nl2 : Bool) (hn : n ≤ 9223372036854775807) : clRunX 5 tt outsNo tabSm 2 F.law15_same [] [slT 0 n cap nl, slT 1 k cap2 nl2] [rdT A n, rdT B k] (fun x h => Trim 2 x h fun x h => x = bv (sameB A n B k) ∧ h = [rdT A n, rdT B k]) := by
  repeat((conv=>whnf);first|((with_reducible refine qS ?_ ?_ ?_);exact rfl;exact rfl)|with_reducible refine qB ?_|((with_reducible refine qI ?_ ?_);omega)|((with_reducible refine qDT ?_ ?_);omega)|((with_reducible refine qDF ?_ ?_);omega)|((with_reducible refine qNT ?_ ?_);omega)|((with_reducible refine qNF ?_ ?_);omega)|((with_reducible refine qU8 ?_ ?_);omega)|((with_reducible refine qU32 ?_ ?_);omega)|((with_reducible refine qU64 ?_ ?_);omega)|((with_reducible refine qU16 ?_ ?_);omega))
  conv => whnf
  refine cN (fun h1 => ?_) (fun h1 => ?_)
  · have e : sameB A n B k = false := decide_eq_false fun h => h1 (by omega)
    rw [e]
    repeat((conv=>whnf);first|((with_reducible refine qS ?_ ?_ ?_);exact rfl;exact rfl)|with_reducible refine qB ?_|((with_reducible refine qI ?_ ?_);omega)|((with_reducible refine qDT ?_ ?_);omega)|((with_reducible refine qDF ?_ ?_);omega)|((with_reducible refine qNT ?_ ?_);omega)|((with_reducible refine qNF ?_ ?_);omega)|((with_reducible refine qU8 ?_ ?_);omega)|((with_reducible refine qU32 ?_ ?_);omega)|((with_reducible refine qU64 ?_ ?_);omega)|((with_reducible refine qU16 ?_ ?_);omega))
    conv => whnf
    refine Trim.det ?_
    refine Le.id rfl ?_ ?_
    · repeat'(first|exact leT_empty|exact trivial|exact rfl|exact .inl rfl|exact .inr rfl|exact .inr ⟨rfl,rfl⟩|exact Nat.le_refl _|exact Nat.zero_le _|exact fun _ _=>rfl|assumption|refine And.intro ?_ ?_|exact ul0|exact ul1 rfl|exact ul2 rfl rfl|exact ul3 rfl rfl rfl)
    · repeat'(first|exact leT_empty|exact trivial|exact rfl|exact .inl rfl|exact .inr rfl|exact .inr ⟨rfl,rfl⟩|exact Nat.le_refl _|exact Nat.zero_le _|exact fun _ _=>rfl|assumption|refine And.intro ?_ ?_|exact ul0|exact ul1 rfl|exact ul2 rfl rfl|exact ul3 rfl rfl rfl)
  obtain rfl : n = k := by omega
  repeat((conv=>whnf);first|((with_reducible refine qS ?_ ?_ ?_);exact rfl;exact rfl)|with_reducible refine qB ?_|((with_reducible refine qI ?_ ?_);omega)|((with_reducible refine qDT ?_ ?_);omega)|((with_reducible refine qDF ?_ ?_);omega)|((with_reducible refine qNT ?_ ?_);omega)|((with_reducible refine qNF ?_ ?_);omega)|((with_reducible refine qU8 ?_ ?_);omega)|((with_reducible refine qU32 ?_ ?_);omega)|((with_reducible refine qU64 ?_ ?_);omega)|((with_reducible refine qU16 ?_ ?_);omega))
  conv => whnf
  refine .rd (fun i : Nat => i ≤ n ∧ ∀ q, q < i → A q = B q) (fun i => [(5, iv .i64 i)]) (fun i => n - i) 0 ⟨Nat.zero_le _, all_0⟩ ?_ (fun i ⟨hi, hp⟩ => ?_)
  · conv => whnf
    refine Le.id rfl ?_ ?_
    all_goals(repeat'(first|exact leT_empty|exact trivial|exact rfl|exact .inl rfl|exact .inr rfl|exact .inr ⟨rfl,rfl⟩|exact Nat.le_refl _|exact Nat.zero_le _|exact fun _ _=>rfl|assumption|refine And.intro ?_ ?_|exact ul0|exact ul1 rfl|exact ul2 rfl rfl|exact ul3 rfl rfl rfl))
  conv => whnf
  refine cD (fun h5 => ?_) (fun h5 => ?_)
  rotate_left
  · have e : sameB A n B n = true := decide_eq_true ⟨rfl, fun q hq => hp q (by omega)⟩
    rw [e]
    repeat((conv=>whnf);first|((with_reducible refine qS ?_ ?_ ?_);exact rfl;exact rfl)|with_reducible refine qB ?_|((with_reducible refine qI ?_ ?_);omega)|((with_reducible refine qDT ?_ ?_);omega)|((with_reducible refine qDF ?_ ?_);omega)|((with_reducible refine qNT ?_ ?_);omega)|((with_reducible refine qNF ?_ ?_);omega)|((with_reducible refine qU8 ?_ ?_);omega)|((with_reducible refine qU32 ?_ ?_);omega)|((with_reducible refine qU64 ?_ ?_);omega)|((with_reducible refine qU16 ?_ ?_);omega))
    conv => whnf
    refine Trim.det ?_
    refine Le.id rfl ?_ ?_
    · repeat'(first|exact leT_empty|exact trivial|exact rfl|exact .inl rfl|exact .inr rfl|exact .inr ⟨rfl,rfl⟩|exact Nat.le_refl _|exact Nat.zero_le _|exact fun _ _=>rfl|assumption|refine And.intro ?_ ?_|exact ul0|exact ul1 rfl|exact ul2 rfl rfl|exact ul3 rfl rfl rfl)
    · repeat'(first|exact leT_empty|exact trivial|exact rfl|exact .inl rfl|exact .inr rfl|exact .inr ⟨rfl,rfl⟩|exact Nat.le_refl _|exact Nat.zero_le _|exact fun _ _=>rfl|assumption|refine And.intro ?_ ?_|exact ul0|exact ul1 rfl|exact ul2 rfl rfl|exact ul3 rfl rfl rfl)
  repeat((conv=>whnf);first|((with_reducible refine qS ?_ ?_ ?_);exact rfl;exact rfl)|with_reducible refine qB ?_|((with_reducible refine qI ?_ ?_);omega)|((with_reducible refine qDT ?_ ?_);omega)|((with_reducible refine qDF ?_ ?_);omega)|((with_reducible refine qNT ?_ ?_);omega)|((with_reducible refine qNF ?_ ?_);omega)|((with_reducible refine qU8 ?_ ?_);omega)|((with_reducible refine qU32 ?_ ?_);omega)|((with_reducible refine qU64 ?_ ?_);omega)|((with_reducible refine qU16 ?_ ?_);omega))
  conv => whnf
  rw [trg_eq]
  rw [show 0 + ((i : Int)).toNat = i by omega]
  refine cN (fun h6 => ?_) (fun h6 => ?_)
  · have e : sameB A n B n = false := decide_eq_false fun h => h6 (h.2 i (by omega))
    rw [e]
    repeat((conv=>whnf);first|((with_reducible refine qS ?_ ?_ ?_);exact rfl;exact rfl)|with_reducible refine qB ?_|((with_reducible refine qI ?_ ?_);omega)|((with_reducible refine qDT ?_ ?_);omega)|((with_reducible refine qDF ?_ ?_);omega)|((with_reducible refine qNT ?_ ?_);omega)|((with_reducible refine qNF ?_ ?_);omega)|((with_reducible refine qU8 ?_ ?_);omega)|((with_reducible refine qU32 ?_ ?_);omega)|((with_reducible refine qU64 ?_ ?_);omega)|((with_reducible refine qU16 ?_ ?_);omega))
    conv => whnf
    refine Trim.det ?_
    refine Le.id rfl ?_ ?_
    · repeat'(first|exact leT_empty|exact trivial|exact rfl|exact .inl rfl|exact .inr rfl|exact .inr ⟨rfl,rfl⟩|exact Nat.le_refl _|exact Nat.zero_le _|exact fun _ _=>rfl|assumption|refine And.intro ?_ ?_|exact ul0|exact ul1 rfl|exact ul2 rfl rfl|exact ul3 rfl rfl rfl)
    · repeat'(first|exact leT_empty|exact trivial|exact rfl|exact .inl rfl|exact .inr rfl|exact .inr ⟨rfl,rfl⟩|exact Nat.le_refl _|exact Nat.zero_le _|exact fun _ _=>rfl|assumption|refine And.intro ?_ ?_|exact ul0|exact ul1 rfl|exact ul2 rfl rfl|exact ul3 rfl rfl rfl)
  repeat((conv=>whnf);first|((with_reducible refine qS ?_ ?_ ?_);exact rfl;exact rfl)|with_reducible refine qB ?_|((with_reducible refine qI ?_ ?_);omega)|((with_reducible refine qDT ?_ ?_);omega)|((with_reducible refine qDF ?_ ?_);omega)|((with_reducible refine qNT ?_ ?_);omega)|((with_reducible refine qNF ?_ ?_);omega)|((with_reducible refine qU8 ?_ ?_);omega)|((with_reducible refine qU32 ?_ ?_);omega)|((with_reducible refine qU64 ?_ ?_);omega)|((with_reducible refine qU16 ?_ ?_);omega))
  conv => whnf
  refine ⟨i + 1, ⟨⟨by omega, all_up hp h6⟩, by omega⟩, ?_⟩
  conv => whnf
  refine Le.id rfl ?_ ?_
  all_goals(repeat'(first|exact leT_empty|exact trivial|exact rfl|exact .inl rfl|exact .inr rfl|exact .inr ⟨rfl,rfl⟩|exact Nat.le_refl _|exact Nat.zero_le _|exact fun _ _=>rfl|assumption|refine And.intro ?_ ?_|exact ul0|exact ul1 rfl|exact ul2 rfl rfl|exact ul3 rfl rfl rfl))
theorem same_ok : ConOk Try.prog F.law15_same sameC := con_of_run (clRunX_ok (d := 5) ttOk outsNo_ok tabSm_ok 2) (fn_enters (ok.law15_same (D := 5) u0 _ (clRunX_ok (d := 5) ttOk .nil TabOk.nil 1))) fun p hp => same_run p.1 p.2.1 p.2.2.1 p.2.2.2.1 p.2.2.2.2.1 p.2.2.2.2.2.1 p.2.2.2.2.2.2.1 p.2.2.2.2.2.2.2 hp
/-! ### What is due, the other way -/
abbrev outR (b k cap : Nat) : R := match k with
  | 0 => nilS
  | k + 1 => slT b (k + 1) cap false
abbrev outsDr : List (FuncId × Cx) := [(F.ref12_Comes, AskC comesC)]
theorem outsDr_ok : OutsOk Try.prog outsDr := .cons (ask_ok comesR_ok) .nil
noncomputable abbrev tabDr : List (FuncId × Eng.Fn) := [(F.ref12_Due, fn.ref12_Due u0)]
theorem tabDr_ok {d : Nat} : TabOk d tabDr tt := .cons (ok.ref12_Due u0) (TabOk.nil)
theorem dueR_run (T : Nat → Trg) (n cap : Nat) (nl : Bool) (cy a b : Int) (hn : n ≤ 100) (hcy : I64 cy) : clRunX 6 tt outsDr tabDr 2 F.ref12_Due [] [slT 0 n cap nl, iv .i64 cy, iv .i64 a, iv .i64 b] [rdT T n] (fun x h => Trim 1 x h fun x h => ∃ q, (dueL T cy a b n).length ≤ q ∧ x = outR 1 (dueL T cy a b n).length q ∧ h = rdT T n :: rowsC (at0L (dueL T cy a b n)) (dueL T cy a b n).length q) := by
  repeat((conv=>whnf);first|((with_reducible refine qS ?_ ?_ ?_);exact rfl;exact rfl)|with_reducible refine qB ?_|((with_reducible refine qI ?_ ?_);omega)|((with_reducible refine qDT ?_ ?_);omega)|((with_reducible refine qDF ?_ ?_);omega)|((with_reducible refine qNT ?_ ?_);omega)|((with_reducible refine qNF ?_ ?_);omega)|((with_reducible refine qU8 ?_ ?_);omega)|((with_reducible refine qU32 ?_ ?_);omega)|((with_reducible refine qU64 ?_ ?_);omega)|((with_reducible refine qU16 ?_ ?_);omega))
  conv => whnf
  refine .inv (fun p : Nat × Nat => p.1 ≤ n ∧ (dueL T cy a b p.1).length ≤ p.2) (fun p => [(9, outR 1 (dueL T cy a b p.1).length p.2), (10, iv .i64 p.1)]) (fun p => rdT T n :: rowsC (at0L (dueL T cy a b p.1)) (dueL T cy a b p.1).length p.2) (fun p => n - p.1) (0, 0) ⟨Nat.zero_le _, Nat.le_refl _⟩ ?_ (fun p ⟨hi, hl⟩ => ?_)
  · conv => whnf
    refine Le.id rfl ?_ ?_
    all_goals(repeat'(first|exact leT_empty|exact trivial|exact rfl|exact .inl rfl|exact .inr rfl|exact .inr ⟨rfl,rfl⟩|exact Nat.le_refl _|exact Nat.zero_le _|exact fun _ _=>rfl|assumption|refine And.intro ?_ ?_|exact ul0|exact ul1 rfl|exact ul2 rfl rfl|exact ul3 rfl rfl rfl))
  generalize p.1 = i at *
  generalize p.2 = cp at *
  have hlen := dueL_len T cy a b i
  have ew : dueL T cy a b (i + 1) = if dueB (T i) cy a b then dueL T cy a b i ++ [T i] else dueL T cy a b i := rfl
  obtain ⟨k, hk⟩ : ∃ k, (dueL T cy a b i).length = k := ⟨_, rfl⟩
  rw [hk] at hl hlen ⊢
  rcases k with _ | k
  · conv => whnf
    refine cD (fun h5 => ?_) (fun h5 => ?_)
    · repeat((conv=>whnf);first|((with_reducible refine qS ?_ ?_ ?_);exact rfl;exact rfl)|with_reducible refine qB ?_|((with_reducible refine qI ?_ ?_);omega)|((with_reducible refine qDT ?_ ?_);omega)|((with_reducible refine qDF ?_ ?_);omega)|((with_reducible refine qNT ?_ ?_);omega)|((with_reducible refine qNF ?_ ?_);omega)|((with_reducible refine qU8 ?_ ?_);omega)|((with_reducible refine qU32 ?_ ?_);omega)|((with_reducible refine qU64 ?_ ?_);omega)|((with_reducible refine qU16 ?_ ?_);omega))
      conv => whnf
      try rw [zi i]
      repeat((conv=>whnf);first|((with_reducible refine qS ?_ ?_ ?_);exact rfl;exact rfl)|with_reducible refine qB ?_|((with_reducible refine qI ?_ ?_);omega)|((with_reducible refine qDT ?_ ?_);omega)|((with_reducible refine qDF ?_ ?_);omega)|((with_reducible refine qNT ?_ ?_);omega)|((with_reducible refine qNF ?_ ?_);omega)|((with_reducible refine qU8 ?_ ?_);omega)|((with_reducible refine qU32 ?_ ?_);omega)|((with_reducible refine qU64 ?_ ?_);omega)|((with_reducible refine qU16 ?_ ?_);omega))
      conv => whnf
      refine cD (fun h6 => ?_) (fun h6 => ?_)
      rotate_left
      · rw [if_neg (by unfold dueB; rw [decide_eq_false (by omega)]; simp)] at ew
        repeat((conv=>whnf);first|((with_reducible refine qS ?_ ?_ ?_);exact rfl;exact rfl)|with_reducible refine qB ?_|((with_reducible refine qI ?_ ?_);omega)|((with_reducible refine qDT ?_ ?_);omega)|((with_reducible refine qDF ?_ ?_);omega)|((with_reducible refine qNT ?_ ?_);omega)|((with_reducible refine qNF ?_ ?_);omega)|((with_reducible refine qU8 ?_ ?_);omega)|((with_reducible refine qU32 ?_ ?_);omega)|((with_reducible refine qU64 ?_ ?_);omega)|((with_reducible refine qU16 ?_ ?_);omega))
        conv => whnf
        refine ⟨(i + 1, cp), ⟨⟨by show i + 1 ≤ n; omega, by rw [ew, hk]; omega⟩, by show n - (i + 1) < n - i; omega⟩, ?_⟩
        rw [ew, hk]
        conv => whnf
        refine Le.id rfl ?_ ?_
        all_goals(repeat'(first|exact leT_empty|exact trivial|exact rfl|exact .inl rfl|exact .inr rfl|exact .inr ⟨rfl,rfl⟩|exact Nat.le_refl _|exact Nat.zero_le _|exact fun _ _=>rfl|assumption|refine And.intro ?_ ?_|exact ul0|exact ul1 rfl|exact ul2 rfl rfl|exact ul3 rfl rfl rfl))
      try rw [zi i]
      repeat((conv=>whnf);first|((with_reducible refine qS ?_ ?_ ?_);exact rfl;exact rfl)|with_reducible refine qB ?_|((with_reducible refine qI ?_ ?_);omega)|((with_reducible refine qDT ?_ ?_);omega)|((with_reducible refine qDF ?_ ?_);omega)|((with_reducible refine qNT ?_ ?_);omega)|((with_reducible refine qNF ?_ ?_);omega)|((with_reducible refine qU8 ?_ ?_);omega)|((with_reducible refine qU32 ?_ ?_);omega)|((with_reducible refine qU64 ?_ ?_);omega)|((with_reducible refine qU16 ?_ ?_);omega))
      conv => whnf
      try rw [zi i]
      refine cD (fun h7 => ?_) (fun h7 => ?_)
      rotate_left
      · rw [if_neg (by unfold dueB; rw [decide_eq_false (by omega)]; simp)] at ew
        repeat((conv=>whnf);first|((with_reducible refine qS ?_ ?_ ?_);exact rfl;exact rfl)|with_reducible refine qB ?_|((with_reducible refine qI ?_ ?_);omega)|((with_reducible refine qDT ?_ ?_);omega)|((with_reducible refine qDF ?_ ?_);omega)|((with_reducible refine qNT ?_ ?_);omega)|((with_reducible refine qNF ?_ ?_);omega)|((with_reducible refine qU8 ?_ ?_);omega)|((with_reducible refine qU32 ?_ ?_);omega)|((with_reducible refine qU64 ?_ ?_);omega)|((with_reducible refine qU16 ?_ ?_);omega))
        conv => whnf
        refine ⟨(i + 1, cp), ⟨⟨by show i + 1 ≤ n; omega, by rw [ew, hk]; omega⟩, by show n - (i + 1) < n - i; omega⟩, ?_⟩
        rw [ew, hk]
        conv => whnf
        refine Le.id rfl ?_ ?_
        all_goals(repeat'(first|exact leT_empty|exact trivial|exact rfl|exact .inl rfl|exact .inr rfl|exact .inr ⟨rfl,rfl⟩|exact Nat.le_refl _|exact Nat.zero_le _|exact fun _ _=>rfl|assumption|refine And.intro ?_ ?_|exact ul0|exact ul1 rfl|exact ul2 rfl rfl|exact ul3 rfl rfl rfl))
      repeat((conv=>whnf);first|((with_reducible refine qS ?_ ?_ ?_);exact rfl;exact rfl)|with_reducible refine qB ?_|((with_reducible refine qI ?_ ?_);omega)|((with_reducible refine qDT ?_ ?_);omega)|((with_reducible refine qDF ?_ ?_);omega)|((with_reducible refine qNT ?_ ?_);omega)|((with_reducible refine qNF ?_ ?_);omega)|((with_reducible refine qU8 ?_ ?_);omega)|((with_reducible refine qU32 ?_ ?_);omega)|((with_reducible refine qU64 ?_ ?_);omega)|((with_reducible refine qU16 ?_ ?_);omega))
      conv => whnf
      try rw [zi i]
      refine comes_use hcy ?_
      rcases Bool.eq_false_or_eq_true (comes (T i).cyc (T i).rep cy) with hcm | hcm <;> rw [hcm]
      rotate_left
      · rw [if_neg (by unfold dueB; rw [hcm]; simp)] at ew
        repeat((conv=>whnf);first|((with_reducible refine qS ?_ ?_ ?_);exact rfl;exact rfl)|with_reducible refine qB ?_|((with_reducible refine qI ?_ ?_);omega)|((with_reducible refine qDT ?_ ?_);omega)|((with_reducible refine qDF ?_ ?_);omega)|((with_reducible refine qNT ?_ ?_);omega)|((with_reducible refine qNF ?_ ?_);omega)|((with_reducible refine qU8 ?_ ?_);omega)|((with_reducible refine qU32 ?_ ?_);omega)|((with_reducible refine qU64 ?_ ?_);omega)|((with_reducible refine qU16 ?_ ?_);omega))
        conv => whnf
        refine ⟨(i + 1, cp), ⟨⟨by show i + 1 ≤ n; omega, by rw [ew, hk]; omega⟩, by show n - (i + 1) < n - i; omega⟩, ?_⟩
        rw [ew, hk]
        conv => whnf
        refine Le.id rfl ?_ ?_
        all_goals(repeat'(first|exact leT_empty|exact trivial|exact rfl|exact .inl rfl|exact .inr rfl|exact .inr ⟨rfl,rfl⟩|exact Nat.le_refl _|exact Nat.zero_le _|exact fun _ _=>rfl|assumption|refine And.intro ?_ ?_|exact ul0|exact ul1 rfl|exact ul2 rfl rfl|exact ul3 rfl rfl rfl))
      rw [if_pos (by unfold dueB; rw [hcm, decide_eq_true ⟨h6, h7⟩]; rfl)] at ew
      have el : (dueL T cy a b (i + 1)).length = 0 + 1 := by rw [ew, List.length_append, hk]; rfl
      repeat((conv=>whnf);first|((with_reducible refine qS ?_ ?_ ?_);exact rfl;exact rfl)|with_reducible refine qB ?_|((with_reducible refine qI ?_ ?_);omega)|((with_reducible refine qDT ?_ ?_);omega)|((with_reducible refine qDF ?_ ?_);omega)|((with_reducible refine qNT ?_ ?_);omega)|((with_reducible refine qNF ?_ ?_);omega)|((with_reducible refine qU8 ?_ ?_);omega)|((with_reducible refine qU32 ?_ ?_);omega)|((with_reducible refine qU64 ?_ ?_);omega)|((with_reducible refine qU16 ?_ ?_);omega))
      conv => whnf
      try rw [zi i]
      repeat((conv=>whnf);first|((with_reducible refine qS ?_ ?_ ?_);exact rfl;exact rfl)|with_reducible refine qB ?_|((with_reducible refine qI ?_ ?_);omega)|((with_reducible refine qDT ?_ ?_);omega)|((with_reducible refine qDF ?_ ?_);omega)|((with_reducible refine qNT ?_ ?_);omega)|((with_reducible refine qNF ?_ ?_);omega)|((with_reducible refine qU8 ?_ ?_);omega)|((with_reducible refine qU32 ?_ ?_);omega)|((with_reducible refine qU64 ?_ ?_);omega)|((with_reducible refine qU16 ?_ ?_);omega))
      conv => whnf
      intro cap' hc'
      repeat((conv=>whnf);first|((with_reducible refine qS ?_ ?_ ?_);exact rfl;exact rfl)|with_reducible refine qB ?_|((with_reducible refine qI ?_ ?_);omega)|((with_reducible refine qDT ?_ ?_);omega)|((with_reducible refine qDF ?_ ?_);omega)|((with_reducible refine qNT ?_ ?_);omega)|((with_reducible refine qNF ?_ ?_);omega)|((with_reducible refine qU8 ?_ ?_);omega)|((with_reducible refine qU32 ?_ ?_);omega)|((with_reducible refine qU64 ?_ ?_);omega)|((with_reducible refine qU16 ?_ ?_);omega))
      conv => whnf
      refine ⟨(i + 1, cap'), ⟨⟨by show i + 1 ≤ n; omega, by rw [el]; omega⟩, by show n - (i + 1) < n - i; omega⟩, ?_⟩
      rw [el]
      conv => whnf
      refine Le.nm [0, 2] rfl ?_ ?_
      · refine ⟨⟨.inl rfl, Nat.le_refl _, fun _ _ => rfl⟩, ⟨rfl, rfl, rfl, fun q hq => ?_⟩, trivial⟩
        rw [ew]
        exact app0 (t := T i) (List.eq_nil_of_length_eq_zero hk) hq
      · repeat'(first|exact leT_empty|exact trivial|exact rfl|exact .inl rfl|exact .inr rfl|exact .inr ⟨rfl,rfl⟩|exact Nat.le_refl _|exact Nat.zero_le _|exact fun _ _=>rfl|assumption|refine And.intro ?_ ?_|exact ul0|exact ul1 rfl|exact ul2 rfl rfl|exact ul3 rfl rfl rfl)
    obtain rfl : i = n := by omega
    repeat((conv=>whnf);first|((with_reducible refine qS ?_ ?_ ?_);exact rfl;exact rfl)|with_reducible refine qB ?_|((with_reducible refine qI ?_ ?_);omega)|((with_reducible refine qDT ?_ ?_);omega)|((with_reducible refine qDF ?_ ?_);omega)|((with_reducible refine qNT ?_ ?_);omega)|((with_reducible refine qNF ?_ ?_);omega)|((with_reducible refine qU8 ?_ ?_);omega)|((with_reducible refine qU32 ?_ ?_);omega)|((with_reducible refine qU64 ?_ ?_);omega)|((with_reducible refine qU16 ?_ ?_);omega))
    conv => whnf
    refine Trim.fam cp (by rw [hk]; exact hl) ?_
    rw [hk]
    refine Le.id rfl ?_ ?_
    · repeat'(first|exact leT_empty|exact trivial|exact rfl|exact .inl rfl|exact .inr rfl|exact .inr ⟨rfl,rfl⟩|exact Nat.le_refl _|exact Nat.zero_le _|exact fun _ _=>rfl|assumption|refine And.intro ?_ ?_|exact ul0|exact ul1 rfl|exact ul2 rfl rfl|exact ul3 rfl rfl rfl)
    · repeat'(first|exact leT_empty|exact trivial|exact rfl|exact .inl rfl|exact .inr rfl|exact .inr ⟨rfl,rfl⟩|exact Nat.le_refl _|exact Nat.zero_le _|exact fun _ _=>rfl|assumption|refine And.intro ?_ ?_|exact ul0|exact ul1 rfl|exact ul2 rfl rfl|exact ul3 rfl rfl rfl)
  · conv => whnf
    refine cD (fun h5 => ?_) (fun h5 => ?_)
    · repeat((conv=>whnf);first|((with_reducible refine qS ?_ ?_ ?_);exact rfl;exact rfl)|with_reducible refine qB ?_|((with_reducible refine qI ?_ ?_);omega)|((with_reducible refine qDT ?_ ?_);omega)|((with_reducible refine qDF ?_ ?_);omega)|((with_reducible refine qNT ?_ ?_);omega)|((with_reducible refine qNF ?_ ?_);omega)|((with_reducible refine qU8 ?_ ?_);omega)|((with_reducible refine qU32 ?_ ?_);omega)|((with_reducible refine qU64 ?_ ?_);omega)|((with_reducible refine qU16 ?_ ?_);omega))
      conv => whnf
      try rw [zi i]
      repeat((conv=>whnf);first|((with_reducible refine qS ?_ ?_ ?_);exact rfl;exact rfl)|with_reducible refine qB ?_|((with_reducible refine qI ?_ ?_);omega)|((with_reducible refine qDT ?_ ?_);omega)|((with_reducible refine qDF ?_ ?_);omega)|((with_reducible refine qNT ?_ ?_);omega)|((with_reducible refine qNF ?_ ?_);omega)|((with_reducible refine qU8 ?_ ?_);omega)|((with_reducible refine qU32 ?_ ?_);omega)|((with_reducible refine qU64 ?_ ?_);omega)|((with_reducible refine qU16 ?_ ?_);omega))
      conv => whnf
      refine cD (fun h6 => ?_) (fun h6 => ?_)
      rotate_left
      · rw [if_neg (by unfold dueB; rw [decide_eq_false (by omega)]; simp)] at ew
        repeat((conv=>whnf);first|((with_reducible refine qS ?_ ?_ ?_);exact rfl;exact rfl)|with_reducible refine qB ?_|((with_reducible refine qI ?_ ?_);omega)|((with_reducible refine qDT ?_ ?_);omega)|((with_reducible refine qDF ?_ ?_);omega)|((with_reducible refine qNT ?_ ?_);omega)|((with_reducible refine qNF ?_ ?_);omega)|((with_reducible refine qU8 ?_ ?_);omega)|((with_reducible refine qU32 ?_ ?_);omega)|((with_reducible refine qU64 ?_ ?_);omega)|((with_reducible refine qU16 ?_ ?_);omega))
        conv => whnf
        refine ⟨(i + 1, cp), ⟨⟨by show i + 1 ≤ n; omega, by rw [ew, hk]; omega⟩, by show n - (i + 1) < n - i; omega⟩, ?_⟩
        rw [ew, hk]
        conv => whnf
        refine Le.id rfl ?_ ?_
        all_goals(repeat'(first|exact leT_empty|exact trivial|exact rfl|exact .inl rfl|exact .inr rfl|exact .inr ⟨rfl,rfl⟩|exact Nat.le_refl _|exact Nat.zero_le _|exact fun _ _=>rfl|assumption|refine And.intro ?_ ?_|exact ul0|exact ul1 rfl|exact ul2 rfl rfl|exact ul3 rfl rfl rfl))
      try rw [zi i]
      repeat((conv=>whnf);first|((with_reducible refine qS ?_ ?_ ?_);exact rfl;exact rfl)|with_reducible refine qB ?_|((with_reducible refine qI ?_ ?_);omega)|((with_reducible refine qDT ?_ ?_);omega)|((with_reducible refine qDF ?_ ?_);omega)|((with_reducible refine qNT ?_ ?_);omega)|((with_reducible refine qNF ?_ ?_);omega)|((with_reducible refine qU8 ?_ ?_);omega)|((with_reducible refine qU32 ?_ ?_);omega)|((with_reducible refine qU64 ?_ ?_);omega)|((with_reducible refine qU16 ?_ ?_);omega))
      conv => whnf
      try rw [zi i]
      refine cD (fun h7 => ?_) (fun h7 => ?_)
      rotate_left
      · rw [if_neg (by unfold dueB; rw [decide_eq_false (by omega)]; simp)] at ew
        repeat((conv=>whnf);first|((with_reducible refine qS ?_ ?_ ?_);exact rfl;exact rfl)|with_reducible refine qB ?_|((with_reducible refine qI ?_ ?_);omega)|((with_reducible refine qDT ?_ ?_);omega)|((with_reducible refine qDF ?_ ?_);omega)|((with_reducible refine qNT ?_ ?_);omega)|((with_reducible refine qNF ?_ ?_);omega)|((with_reducible refine qU8 ?_ ?_);omega)|((with_reducible refine qU32 ?_ ?_);omega)|((with_reducible refine qU64 ?_ ?_);omega)|((with_reducible refine qU16 ?_ ?_);omega))
        conv => whnf
        refine ⟨(i + 1, cp), ⟨⟨by show i + 1 ≤ n; omega, by rw [ew, hk]; omega⟩, by show n - (i + 1) < n - i; omega⟩, ?_⟩
        rw [ew, hk]
        conv => whnf
        refine Le.id rfl ?_ ?_
        all_goals(repeat'(first|exact leT_empty|exact trivial|exact rfl|exact .inl rfl|exact .inr rfl|exact .inr ⟨rfl,rfl⟩|exact Nat.le_refl _|exact Nat.zero_le _|exact fun _ _=>rfl|assumption|refine And.intro ?_ ?_|exact ul0|exact ul1 rfl|exact ul2 rfl rfl|exact ul3 rfl rfl rfl))
      repeat((conv=>whnf);first|((with_reducible refine qS ?_ ?_ ?_);exact rfl;exact rfl)|with_reducible refine qB ?_|((with_reducible refine qI ?_ ?_);omega)|((with_reducible refine qDT ?_ ?_);omega)|((with_reducible refine qDF ?_ ?_);omega)|((with_reducible refine qNT ?_ ?_);omega)|((with_reducible refine qNF ?_ ?_);omega)|((with_reducible refine qU8 ?_ ?_);omega)|((with_reducible refine qU32 ?_ ?_);omega)|((with_reducible refine qU64 ?_ ?_);omega)|((with_reducible refine qU16 ?_ ?_);omega))
      conv => whnf
      try rw [zi i]
      refine comes_use hcy ?_
      rcases Bool.eq_false_or_eq_true (comes (T i).cyc (T i).rep cy) with hcm | hcm <;> rw [hcm]
      rotate_left
      · rw [if_neg (by unfold dueB; rw [hcm]; simp)] at ew
        repeat((conv=>whnf);first|((with_reducible refine qS ?_ ?_ ?_);exact rfl;exact rfl)|with_reducible refine qB ?_|((with_reducible refine qI ?_ ?_);omega)|((with_reducible refine qDT ?_ ?_);omega)|((with_reducible refine qDF ?_ ?_);omega)|((with_reducible refine qNT ?_ ?_);omega)|((with_reducible refine qNF ?_ ?_);omega)|((with_reducible refine qU8 ?_ ?_);omega)|((with_reducible refine qU32 ?_ ?_);omega)|((with_reducible refine qU64 ?_ ?_);omega)|((with_reducible refine qU16 ?_ ?_);omega))
        conv => whnf
        refine ⟨(i + 1, cp), ⟨⟨by show i + 1 ≤ n; omega, by rw [ew, hk]; omega⟩, by show n - (i + 1) < n - i; omega⟩, ?_⟩
        rw [ew, hk]
        conv => whnf
        refine Le.id rfl ?_ ?_
        all_goals(repeat'(first|exact leT_empty|exact trivial|exact rfl|exact .inl rfl|exact .inr rfl|exact .inr ⟨rfl,rfl⟩|exact Nat.le_refl _|exact Nat.zero_le _|exact fun _ _=>rfl|assumption|refine And.intro ?_ ?_|exact ul0|exact ul1 rfl|exact ul2 rfl rfl|exact ul3 rfl rfl rfl))
      rw [if_pos (by unfold dueB; rw [hcm, decide_eq_true ⟨h6, h7⟩]; rfl)] at ew
      have el : (dueL T cy a b (i + 1)).length = (k + 1) + 1 := by rw [ew, List.length_append, hk]; rfl
      repeat((conv=>whnf);first|((with_reducible refine qS ?_ ?_ ?_);exact rfl;exact rfl)|with_reducible refine qB ?_|((with_reducible refine qI ?_ ?_);omega)|((with_reducible refine qDT ?_ ?_);omega)|((with_reducible refine qDF ?_ ?_);omega)|((with_reducible refine qNT ?_ ?_);omega)|((with_reducible refine qNF ?_ ?_);omega)|((with_reducible refine qU8 ?_ ?_);omega)|((with_reducible refine qU32 ?_ ?_);omega)|((with_reducible refine qU64 ?_ ?_);omega)|((with_reducible refine qU16 ?_ ?_);omega))
      conv => whnf
      try rw [zi i]
      repeat((conv=>whnf);first|((with_reducible refine qS ?_ ?_ ?_);exact rfl;exact rfl)|with_reducible refine qB ?_|((with_reducible refine qI ?_ ?_);omega)|((with_reducible refine qDT ?_ ?_);omega)|((with_reducible refine qDF ?_ ?_);omega)|((with_reducible refine qNT ?_ ?_);omega)|((with_reducible refine qNF ?_ ?_);omega)|((with_reducible refine qU8 ?_ ?_);omega)|((with_reducible refine qU32 ?_ ?_);omega)|((with_reducible refine qU64 ?_ ?_);omega)|((with_reducible refine qU16 ?_ ?_);omega))
      conv => whnf
      refine cT (decide_eq_true (by show (k + 1 + 1) * 48 ≤ 1099511627776; omega)) ?_
      repeat((conv=>whnf);first|((with_reducible refine qS ?_ ?_ ?_);exact rfl;exact rfl)|with_reducible refine qB ?_|((with_reducible refine qI ?_ ?_);omega)|((with_reducible refine qDT ?_ ?_);omega)|((with_reducible refine qDF ?_ ?_);omega)|((with_reducible refine qNT ?_ ?_);omega)|((with_reducible refine qNF ?_ ?_);omega)|((with_reducible refine qU8 ?_ ?_);omega)|((with_reducible refine qU32 ?_ ?_);omega)|((with_reducible refine qU64 ?_ ?_);omega)|((with_reducible refine qU16 ?_ ?_);omega))
      conv => whnf
      intro cap' hc'
      repeat((conv=>whnf);first|((with_reducible refine qS ?_ ?_ ?_);exact rfl;exact rfl)|with_reducible refine qB ?_|((with_reducible refine qI ?_ ?_);omega)|((with_reducible refine qDT ?_ ?_);omega)|((with_reducible refine qDF ?_ ?_);omega)|((with_reducible refine qNT ?_ ?_);omega)|((with_reducible refine qNF ?_ ?_);omega)|((with_reducible refine qU8 ?_ ?_);omega)|((with_reducible refine qU32 ?_ ?_);omega)|((with_reducible refine qU64 ?_ ?_);omega)|((with_reducible refine qU16 ?_ ?_);omega))
      conv => whnf
      refine ⟨(i + 1, cap'), ⟨⟨by show i + 1 ≤ n; omega, by rw [el]; omega⟩, by show n - (i + 1) < n - i; omega⟩, ?_⟩
      rw [el]
      conv => whnf
      refine Le.nm [0, 3] rfl ?_ ?_
      · refine ⟨⟨.inl rfl, Nat.le_refl _, fun _ _ => rfl⟩, ⟨rfl, rfl, rfl, fun q hq => ?_⟩, trivial⟩
        rw [ew]
        exact appF (t := T i) (n := k + 1) hk (fun _ _ => rfl) hq
      · repeat'(first|exact leT_empty|exact trivial|exact rfl|exact .inl rfl|exact .inr rfl|exact .inr ⟨rfl,rfl⟩|exact Nat.le_refl _|exact Nat.zero_le _|exact fun _ _=>rfl|assumption|refine And.intro ?_ ?_|exact ul0|exact ul1 rfl|exact ul2 rfl rfl|exact ul3 rfl rfl rfl)
    obtain rfl : i = n := by omega
    repeat((conv=>whnf);first|((with_reducible refine qS ?_ ?_ ?_);exact rfl;exact rfl)|with_reducible refine qB ?_|((with_reducible refine qI ?_ ?_);omega)|((with_reducible refine qDT ?_ ?_);omega)|((with_reducible refine qDF ?_ ?_);omega)|((with_reducible refine qNT ?_ ?_);omega)|((with_reducible refine qNF ?_ ?_);omega)|((with_reducible refine qU8 ?_ ?_);omega)|((with_reducible refine qU32 ?_ ?_);omega)|((with_reducible refine qU64 ?_ ?_);omega)|((with_reducible refine qU16 ?_ ?_);omega))
    conv => whnf
    refine Trim.fam cp (by rw [hk]; exact hl) ?_
    rw [hk]
    refine Le.id rfl ?_ ?_
    · repeat'(first|exact leT_empty|exact trivial|exact rfl|exact .inl rfl|exact .inr rfl|exact .inr ⟨rfl,rfl⟩|exact Nat.le_refl _|exact Nat.zero_le _|exact fun _ _=>rfl|assumption|refine And.intro ?_ ?_|exact ul0|exact ul1 rfl|exact ul2 rfl rfl|exact ul3 rfl rfl rfl)
    · repeat'(first|exact leT_empty|exact trivial|exact rfl|exact .inl rfl|exact .inr rfl|exact .inr ⟨rfl,rfl⟩|exact Nat.le_refl _|exact Nat.zero_le _|exact fun _ _=>rfl|assumption|refine And.intro ?_ ?_|exact ul0|exact ul1 rfl|exact ul2 rfl rfl|exact ul3 rfl rfl rfl)
abbrev dueRC : Con ((Nat → Trg) × Nat × Nat × Bool × Int × Int × Int) := FamCon (β := Nat) (fun p => [slT 0 p.2.1 p.2.2.1 p.2.2.2.1, iv .i64 p.2.2.2.2.1, iv .i64 p.2.2.2.2.2.1, iv .i64 p.2.2.2.2.2.2]) (fun p => [rdT p.1 p.2.1]) (fun p => p.2.1 ≤ 100 ∧ I64 p.2.2.2.2.1) (fun p q => (dueL p.1 p.2.2.2.2.1 p.2.2.2.2.2.1 p.2.2.2.2.2.2 p.2.1).length ≤ q) (fun p q => outR 1 (dueL p.1 p.2.2.2.2.1 p.2.2.2.2.2.1 p.2.2.2.2.2.2 p.2.1).length q) (fun p q => rdT p.1 p.2.1 :: rowsC (at0L (dueL p.1 p.2.2.2.2.1 p.2.2.2.2.2.1 p.2.2.2.2.2.2 p.2.1)) (dueL p.1 p.2.2.2.2.1 p.2.2.2.2.2.1 p.2.2.2.2.2.2 p.2.1).length q)
theorem dueR_ok : ConOk Try.prog F.ref12_Due dueRC := con_of_run (clRunX_ok (d := 6) ttOk outsDr_ok tabDr_ok 2) (fn_enters (ok.ref12_Due (D := 6) u0 _ (clRunX_ok (d := 6) ttOk .nil TabOk.nil 1))) fun p hp => dueR_run p.1 p.2.1 p.2.2.1 p.2.2.2.1 p.2.2.2.2.1 p.2.2.2.2.2.1 p.2.2.2.2.2.2 hp.1 hp.2
theorem dueR_ask {T : Nat → Trg} {n cap : Nat} {nl : Bool} {cy a b : Int} (l : List Nat) {xs : List R} {h : Heap} {K : R → Heap → Prop} (D : List Trg) (hD : dueL T cy a b n = D) (hn : n ≤ 100) (hcy : I64 cy)
    (hs : (([rdT T n] : Heap).all obB && sepB l [rdT T n]) = true) (hH : leH (sig h l) h l [rdT T n]) (hX : leXs 1 (sig h l) xs [slT 0 n cap nl, iv .i64 cy, iv .i64 a, iv .i64 b])
    (hk : ∀ q, D.length ≤ q → K (renR (back h [rdT T n] l) (outR 1 D.length q)) (mrg (back h [rdT T n] l) h l [rdT T n] (rdT T n :: rowsC (at0L D) D.length q))) : AskC dueRC xs h K := by
  refine ⟨(T, n, cap, nl, cy, a, b), l, ⟨hn, hcy⟩, hs, hH, hX, fun x h'' hq => ?_⟩
  obtain ⟨q, hq, e1, e2⟩ := hq
  have e1 : x = outR 1 (dueL T cy a b n).length q := e1
  have e2 : h'' = rdT T n :: rowsC (at0L (dueL T cy a b n)) (dueL T cy a b n).length q := e2
  have hq : (dueL T cy a b n).length ≤ q := hq
  rw [hD] at e1 e2 hq
  subst e1; subst e2
  exact hk q hq
theorem sameB_refl (A : Nat → Trg) (n : Nat) : sameB A n A n = true := decide_eq_true ⟨rfl, fun _ _ => rfl⟩
end Go.Proofs.Ytbdifadabipfiaa.Co
