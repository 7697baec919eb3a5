/- Contracts: what is due. -/
import Derived.Test.YtbdifadabipfiaaCoV
namespace Go.Proofs.Ytbdifadabipfiaa.Co
open Go Go.Eng Go.Proofs Go.Proofs.Ytbdifadabipfiaa.Tb Go.Pu
set_option maxRecDepth 100000
set_option maxHeartbeats 8000000
abbrev rdT (T : Nat → Trg) (n : Nat) : HE := .ob (.ro 6 n (fun i => trgL (T i)))
abbrev outsDu : List (FuncId × Cx) := [(F.matrix_Comes, AskC comesC)]
theorem outsDu_ok : OutsOk Try.prog outsDu := .cons (ask_ok comes_ok) .nil
noncomputable abbrev tabDu : List (FuncId × Eng.Fn) := [(F.plan_Due, fn.plan_Due u0)]
theorem tabDu_ok {d : Nat} : TabOk d tabDu tt := .cons (ok.plan_Due u0) (TabOk.nil)
theorem due_run (T : Nat → Trg) (n cap : Nat) (nl : Bool) (cy a b : Int) (hn : n ≤ 100) (hcy : I64 cy) : clRunX 6 tt outsDu tabDu 2 F.plan_Due [] [slT 0 n cap nl, iv .i64 cy, iv .i64 a, iv .i64 b] [rdT T n] (fun x h => Trim 1 x h fun x h => x = slT 1 (dueL T cy a b n).length n false ∧ h = [rdT T n, rowT (at0L (dueL T cy a b n)) n n]) := by
  repeat((conv=>whnf);first|((with_reducible refine qS ?_ ?_ ?_);exact rfl;exact rfl)|with_reducible refine qB ?_|((with_reducible refine qI ?_ ?_);omega)|((with_reducible refine qDT ?_ ?_);omega)|((with_reducible refine qDF ?_ ?_);omega)|((with_reducible refine qNT ?_ ?_);omega)|((with_reducible refine qNF ?_ ?_);omega)|((with_reducible refine qU8 ?_ ?_);omega)|((with_reducible refine qU32 ?_ ?_);omega)|((with_reducible refine qU64 ?_ ?_);omega)|((with_reducible refine qU16 ?_ ?_);omega))
  conv => whnf
  refine cDT ?_ ?_
  · refine ⟨by omega, by omega, ?_, by omega⟩
    dsimp only
    omega
  try rw [tn]
  repeat((conv=>whnf);first|((with_reducible refine qS ?_ ?_ ?_);exact rfl;exact rfl)|with_reducible refine qB ?_|((with_reducible refine qI ?_ ?_);omega)|((with_reducible refine qDT ?_ ?_);omega)|((with_reducible refine qDF ?_ ?_);omega)|((with_reducible refine qNT ?_ ?_);omega)|((with_reducible refine qNF ?_ ?_);omega)|((with_reducible refine qU8 ?_ ?_);omega)|((with_reducible refine qU32 ?_ ?_);omega)|((with_reducible refine qU64 ?_ ?_);omega)|((with_reducible refine qU16 ?_ ?_);omega))
  conv => whnf
  refine .inv (fun i : Nat => i ≤ n) (fun i => [(10, iv .i64 (dueL T cy a b i).length), (18, iv .i64 i)]) (fun i => [rdT T n, rowT (at0L (dueL T cy a b i)) n n]) (fun i => n - i) 0 (Nat.zero_le _) ?_ (fun i hi => ?_)
  · conv => whnf
    refine Le.id rfl ?_ ?_
    all_goals(repeat'(first|exact leT_empty|exact trivial|exact rfl|exact .inl rfl|exact .inr rfl|exact .inr ⟨rfl,rfl⟩|exact Nat.le_refl _|exact Nat.zero_le _|exact fun _ _=>rfl|assumption|refine And.intro ?_ ?_|exact ul0|exact ul1 rfl|exact ul2 rfl rfl|exact ul3 rfl rfl rfl))
  have hk := dueL_len T cy a b i
  have ew : dueL T cy a b (i + 1) = if dueB (T i) cy a b then dueL T cy a b i ++ [T i] else dueL T cy a b i := rfl
  conv => whnf
  refine cD (fun h5 => ?_) (fun h5 => ?_)
  · repeat((conv=>whnf);first|((with_reducible refine qS ?_ ?_ ?_);exact rfl;exact rfl)|with_reducible refine qB ?_|((with_reducible refine qI ?_ ?_);omega)|((with_reducible refine qDT ?_ ?_);omega)|((with_reducible refine qDF ?_ ?_);omega)|((with_reducible refine qNT ?_ ?_);omega)|((with_reducible refine qNF ?_ ?_);omega)|((with_reducible refine qU8 ?_ ?_);omega)|((with_reducible refine qU32 ?_ ?_);omega)|((with_reducible refine qU64 ?_ ?_);omega)|((with_reducible refine qU16 ?_ ?_);omega))
    conv => whnf
    try rw [zi i]
    repeat((conv=>whnf);first|((with_reducible refine qS ?_ ?_ ?_);exact rfl;exact rfl)|with_reducible refine qB ?_|((with_reducible refine qI ?_ ?_);omega)|((with_reducible refine qDT ?_ ?_);omega)|((with_reducible refine qDF ?_ ?_);omega)|((with_reducible refine qNT ?_ ?_);omega)|((with_reducible refine qNF ?_ ?_);omega)|((with_reducible refine qU8 ?_ ?_);omega)|((with_reducible refine qU32 ?_ ?_);omega)|((with_reducible refine qU64 ?_ ?_);omega)|((with_reducible refine qU16 ?_ ?_);omega))
    conv => whnf
    refine cD (fun h6 => ?_) (fun h6 => ?_)
    rotate_left
    · rw [if_neg (by unfold dueB; rw [decide_eq_false (by omega)]; simp)] at ew
      repeat((conv=>whnf);first|((with_reducible refine qS ?_ ?_ ?_);exact rfl;exact rfl)|with_reducible refine qB ?_|((with_reducible refine qI ?_ ?_);omega)|((with_reducible refine qDT ?_ ?_);omega)|((with_reducible refine qDF ?_ ?_);omega)|((with_reducible refine qNT ?_ ?_);omega)|((with_reducible refine qNF ?_ ?_);omega)|((with_reducible refine qU8 ?_ ?_);omega)|((with_reducible refine qU32 ?_ ?_);omega)|((with_reducible refine qU64 ?_ ?_);omega)|((with_reducible refine qU16 ?_ ?_);omega))
      conv => whnf
      refine ⟨i + 1, ⟨by omega, by omega⟩, ?_⟩
      rw [ew]
      conv => whnf
      refine Le.id rfl ?_ ?_
      all_goals(repeat'(first|exact leT_empty|exact trivial|exact rfl|exact .inl rfl|exact .inr rfl|exact .inr ⟨rfl,rfl⟩|exact Nat.le_refl _|exact Nat.zero_le _|exact fun _ _=>rfl|assumption|refine And.intro ?_ ?_|exact ul0|exact ul1 rfl|exact ul2 rfl rfl|exact ul3 rfl rfl rfl))
    repeat((conv=>whnf);first|((with_reducible refine qS ?_ ?_ ?_);exact rfl;exact rfl)|with_reducible refine qB ?_|((with_reducible refine qI ?_ ?_);omega)|((with_reducible refine qDT ?_ ?_);omega)|((with_reducible refine qDF ?_ ?_);omega)|((with_reducible refine qNT ?_ ?_);omega)|((with_reducible refine qNF ?_ ?_);omega)|((with_reducible refine qU8 ?_ ?_);omega)|((with_reducible refine qU32 ?_ ?_);omega)|((with_reducible refine qU64 ?_ ?_);omega)|((with_reducible refine qU16 ?_ ?_);omega))
    conv => whnf
    refine cD (fun h7 => ?_) (fun h7 => ?_)
    rotate_left
    · rw [if_neg (by unfold dueB; rw [decide_eq_false (by omega)]; simp)] at ew
      repeat((conv=>whnf);first|((with_reducible refine qS ?_ ?_ ?_);exact rfl;exact rfl)|with_reducible refine qB ?_|((with_reducible refine qI ?_ ?_);omega)|((with_reducible refine qDT ?_ ?_);omega)|((with_reducible refine qDF ?_ ?_);omega)|((with_reducible refine qNT ?_ ?_);omega)|((with_reducible refine qNF ?_ ?_);omega)|((with_reducible refine qU8 ?_ ?_);omega)|((with_reducible refine qU32 ?_ ?_);omega)|((with_reducible refine qU64 ?_ ?_);omega)|((with_reducible refine qU16 ?_ ?_);omega))
      conv => whnf
      refine ⟨i + 1, ⟨by omega, by omega⟩, ?_⟩
      rw [ew]
      conv => whnf
      refine Le.id rfl ?_ ?_
      all_goals(repeat'(first|exact leT_empty|exact trivial|exact rfl|exact .inl rfl|exact .inr rfl|exact .inr ⟨rfl,rfl⟩|exact Nat.le_refl _|exact Nat.zero_le _|exact fun _ _=>rfl|assumption|refine And.intro ?_ ?_|exact ul0|exact ul1 rfl|exact ul2 rfl rfl|exact ul3 rfl rfl rfl))
    repeat((conv=>whnf);first|((with_reducible refine qS ?_ ?_ ?_);exact rfl;exact rfl)|with_reducible refine qB ?_|((with_reducible refine qI ?_ ?_);omega)|((with_reducible refine qDT ?_ ?_);omega)|((with_reducible refine qDF ?_ ?_);omega)|((with_reducible refine qNT ?_ ?_);omega)|((with_reducible refine qNF ?_ ?_);omega)|((with_reducible refine qU8 ?_ ?_);omega)|((with_reducible refine qU32 ?_ ?_);omega)|((with_reducible refine qU64 ?_ ?_);omega)|((with_reducible refine qU16 ?_ ?_);omega))
    conv => whnf
    refine comes_use hcy ?_
    rcases Bool.eq_false_or_eq_true (comes (T i).cyc (T i).rep cy) with hcm | hcm <;> rw [hcm]
    rotate_left
    · rw [if_neg (by unfold dueB; rw [hcm]; simp)] at ew
      repeat((conv=>whnf);first|((with_reducible refine qS ?_ ?_ ?_);exact rfl;exact rfl)|with_reducible refine qB ?_|((with_reducible refine qI ?_ ?_);omega)|((with_reducible refine qDT ?_ ?_);omega)|((with_reducible refine qDF ?_ ?_);omega)|((with_reducible refine qNT ?_ ?_);omega)|((with_reducible refine qNF ?_ ?_);omega)|((with_reducible refine qU8 ?_ ?_);omega)|((with_reducible refine qU32 ?_ ?_);omega)|((with_reducible refine qU64 ?_ ?_);omega)|((with_reducible refine qU16 ?_ ?_);omega))
      conv => whnf
      refine ⟨i + 1, ⟨by omega, by omega⟩, ?_⟩
      rw [ew]
      conv => whnf
      refine Le.id rfl ?_ ?_
      all_goals(repeat'(first|exact leT_empty|exact trivial|exact rfl|exact .inl rfl|exact .inr rfl|exact .inr ⟨rfl,rfl⟩|exact Nat.le_refl _|exact Nat.zero_le _|exact fun _ _=>rfl|assumption|refine And.intro ?_ ?_|exact ul0|exact ul1 rfl|exact ul2 rfl rfl|exact ul3 rfl rfl rfl))
    rw [if_pos (by unfold dueB; rw [hcm, decide_eq_true ⟨h6, h7⟩]; rfl)] at ew
    have el : (dueL T cy a b (i + 1)).length = (dueL T cy a b i).length + 1 := by rw [ew, List.length_append]; rfl
    obtain ⟨k, hkk⟩ : ∃ k, (dueL T cy a b i).length = k := ⟨_, rfl⟩
    have em : (((dueL T cy a b i).length : Nat) : Int) + ((min 1 (n - (((dueL T cy a b i).length : Nat) : Int).toNat) : Nat) : Int) = (((dueL T cy a b (i + 1)).length : Nat) : Int) := by rw [el]; omega
    repeat((conv=>whnf);first|((with_reducible refine qS ?_ ?_ ?_);exact rfl;exact rfl)|with_reducible refine qB ?_|((with_reducible refine qI ?_ ?_);omega)|((with_reducible refine qDT ?_ ?_);omega)|((with_reducible refine qDF ?_ ?_);omega)|((with_reducible refine qNT ?_ ?_);omega)|((with_reducible refine qNF ?_ ?_);omega)|((with_reducible refine qU8 ?_ ?_);omega)|((with_reducible refine qU32 ?_ ?_);omega)|((with_reducible refine qU64 ?_ ?_);omega)|((with_reducible refine qU16 ?_ ?_);omega))
    conv => whnf
    rw [em]
    refine ⟨i + 1, ⟨by omega, by omega⟩, ?_⟩
    conv => whnf
    refine Le.id rfl ?_ ?_
    · refine ⟨⟨.inl rfl, Nat.le_refl _, fun _ _ => rfl⟩, ⟨rfl, rfl, rfl, fun q hq => ?_⟩, trivial⟩
      rw [ew]
      show (if 0 + (((dueL T cy a b i).length : Nat) : Int).toNat ≤ q ∧ q < 0 + (((dueL T cy a b i).length : Nat) : Int).toNat + min 1 (n - (((dueL T cy a b i).length : Nat) : Int).toNat) then nthD [] [trgL (T i)] (0 + (q - (0 + (((dueL T cy a b i).length : Nat) : Int).toNat))) else trgL (at0L (dueL T cy a b i) q)) = trgL (at0L (dueL T cy a b i ++ [T i]) q)
      rw [at0L_app, hkk]
      by_cases c : q = k
      · rw [if_pos c, if_pos (by omega), show 0 + (q - (0 + ((k : Nat) : Int).toNat)) = 0 by omega]; rfl
      · rw [if_neg c, if_neg (by omega)]
    · repeat'(first|exact leT_empty|exact trivial|exact rfl|exact .inl rfl|exact .inr rfl|exact .inr ⟨rfl,rfl⟩|exact Nat.le_refl _|exact Nat.zero_le _|exact fun _ _=>rfl|assumption|refine And.intro ?_ ?_|exact ul0|exact ul1 rfl|exact ul2 rfl rfl|exact ul3 rfl rfl rfl)
  obtain rfl : i = n := by omega
  repeat((conv=>whnf);first|((with_reducible refine qS ?_ ?_ ?_);exact rfl;exact rfl)|with_reducible refine qB ?_|((with_reducible refine qI ?_ ?_);omega)|((with_reducible refine qDT ?_ ?_);omega)|((with_reducible refine qDF ?_ ?_);omega)|((with_reducible refine qNT ?_ ?_);omega)|((with_reducible refine qNF ?_ ?_);omega)|((with_reducible refine qU8 ?_ ?_);omega)|((with_reducible refine qU32 ?_ ?_);omega)|((with_reducible refine qU64 ?_ ?_);omega)|((with_reducible refine qU16 ?_ ?_);omega))
  conv => whnf
  refine Trim.det ?_
  refine Le.id rfl ?_ ?_
  · repeat'(first|exact leT_empty|exact trivial|exact rfl|exact .inl rfl|exact .inr rfl|exact .inr ⟨rfl,rfl⟩|exact Nat.le_refl _|exact Nat.zero_le _|exact fun _ _=>rfl|assumption|refine And.intro ?_ ?_|exact ul0|exact ul1 rfl|exact ul2 rfl rfl|exact ul3 rfl rfl rfl)
  · repeat'(first|exact leT_empty|exact trivial|exact rfl|exact .inl rfl|exact .inr rfl|exact .inr ⟨rfl,rfl⟩|exact Nat.le_refl _|exact Nat.zero_le _|exact fun _ _=>rfl|assumption|refine And.intro ?_ ?_|exact ul0|exact ul1 rfl|exact ul2 rfl rfl|exact ul3 rfl rfl rfl)
abbrev dueC : Con ((Nat → Trg) × Nat × Nat × Bool × Int × Int × Int) := DetCon (fun p => [slT 0 p.2.1 p.2.2.1 p.2.2.2.1, iv .i64 p.2.2.2.2.1, iv .i64 p.2.2.2.2.2.1, iv .i64 p.2.2.2.2.2.2]) (fun p => [rdT p.1 p.2.1]) (fun p => p.2.1 ≤ 100 ∧ I64 p.2.2.2.2.1) (fun p => slT 1 (dueL p.1 p.2.2.2.2.1 p.2.2.2.2.2.1 p.2.2.2.2.2.2 p.2.1).length p.2.1 false) (fun p => [rdT p.1 p.2.1, rowT (at0L (dueL p.1 p.2.2.2.2.1 p.2.2.2.2.2.1 p.2.2.2.2.2.2 p.2.1)) p.2.1 p.2.1])
theorem due_ok : ConOk Try.prog F.plan_Due dueC := con_of_run (clRunX_ok (d := 6) ttOk outsDu_ok tabDu_ok 2) (fn_enters (ok.plan_Due (D := 6) u0 _ (clRunX_ok (d := 6) ttOk .nil TabOk.nil 1))) fun p hp => due_run p.1 p.2.1 p.2.2.1 p.2.2.2.1 p.2.2.2.2.1 p.2.2.2.2.2.1 p.2.2.2.2.2.2 hp.1 hp.2
end Go.Proofs.Ytbdifadabipfiaa.Co
