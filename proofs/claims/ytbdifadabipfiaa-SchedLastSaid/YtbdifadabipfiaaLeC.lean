/- SchedLast: of several that are due at once the last one that may send is open; a new cycle opens none: true at every input; no conditions. -/
import Derived.Test.YtbdifadabipfiaaLeA
namespace Go.Proofs.Ytbdifadabipfiaa.schedLast
open Go Go.Eng Go.Proofs Go.Proofs.Ytbdifadabipfiaa.Tb Go.Proofs.Ytbdifadabipfiaa.Co Go.Proofs.Ytbdifadabipfiaa.La Go.Pu
set_option maxRecDepth 100000
set_option maxHeartbeats 16000000
noncomputable abbrev tabL : List (FuncId × Eng.Fn) := [(F.law23_SchedLast, fn.law23_SchedLast u0), (F.law23_few, fn.law23_few u0), (F.sched_New, fn.sched_New u0), (F.sched_Sched_Begin, fn.sched_Sched_Begin u0), (F.sched_Sched_Open, fn.sched_Sched_Open u0), (F.sched_Sched_Over, fn.sched_Sched_Over u0), (F.sched_Sched_Close, fn.sched_Sched_Close u0)]
theorem tabL_ok {d : Nat} : TabOk d tabL tt := .cons (ok.law23_SchedLast u0) (.cons (ok.law23_few u0) (.cons (ok.sched_New u0) (.cons (ok.sched_Sched_Begin u0) (.cons (ok.sched_Sched_Open u0) (.cons (ok.sched_Sched_Over u0) (.cons (ok.sched_Sched_Close u0) (TabOk.nil)))))))
abbrev pas : List Pa := [.agg matSh, .one u8, .one u16]
abbrev hS (m : Mat) (c : Caps) (r : Heap) : Heap := matH m (boxM m c :: boxM m c :: boxM m c :: r)
theorem walk (m : Mat) (c : Caps) (a b : Int) (hm : m.Ok) (hc : capsOk m c) (ha : 0 ≤ a ∧ a ≤ 255) (hb : 0 ≤ b ∧ b ≤ 65535) : clRunX 7 tt outsL23 tabL 4 F.law23_SchedLast [] [matT m c 0 1 2, iv .u8 a, iv .u16 b] (matH m []) (fun x _ => x = bv true) := by
  have hnW := hm.nW
  have hnG := hm.nG
  conv => whnf
  refine true_use ?_
  repeat((conv=>whnf);first|((with_reducible refine qS ?_ ?_ ?_);exact rfl;exact rfl)|with_reducible refine qB ?_|((with_reducible refine qI ?_ ?_);omega)|((with_reducible refine qDT ?_ ?_);omega)|((with_reducible refine qDF ?_ ?_);omega)|((with_reducible refine qNT ?_ ?_);omega)|((with_reducible refine qNF ?_ ?_);omega)|((with_reducible refine qU8 ?_ ?_);omega)|((with_reducible refine qU32 ?_ ?_);omega)|((with_reducible refine qU64 ?_ ?_);omega)|((with_reducible refine qU16 ?_ ?_);omega))
  conv => whnf
  refine checkR_use (m := m) (c := c) hm ?_
  repeat((conv=>whnf);first|((with_reducible refine qS ?_ ?_ ?_);exact rfl;exact rfl)|with_reducible refine qB ?_|((with_reducible refine qI ?_ ?_);omega)|((with_reducible refine qDT ?_ ?_);omega)|((with_reducible refine qDF ?_ ?_);omega)|((with_reducible refine qNT ?_ ?_);omega)|((with_reducible refine qNF ?_ ?_);omega)|((with_reducible refine qU8 ?_ ?_);omega)|((with_reducible refine qU32 ?_ ?_);omega)|((with_reducible refine qU64 ?_ ?_);omega)|((with_reducible refine qU16 ?_ ?_);omega))
  conv => whnf
  refine cD (fun h1 => ?_) (fun h1 => ?_)
  rotate_left
  · repeat((conv=>whnf);first|((with_reducible refine qS ?_ ?_ ?_);exact rfl;exact rfl)|with_reducible refine qB ?_|((with_reducible refine qI ?_ ?_);omega)|((with_reducible refine qDT ?_ ?_);omega)|((with_reducible refine qDF ?_ ?_);omega)|((with_reducible refine qNT ?_ ?_);omega)|((with_reducible refine qNF ?_ ?_);omega)|((with_reducible refine qU8 ?_ ?_);omega)|((with_reducible refine qU32 ?_ ?_);omega)|((with_reducible refine qU64 ?_ ?_);omega)|((with_reducible refine qU16 ?_ ?_);omega))
    conv => whnf
    exact rfl
  conv => whnf
  refine cD (fun h2 => ?_) (fun h2 => ?_)
  rotate_left
  · repeat((conv=>whnf);first|((with_reducible refine qS ?_ ?_ ?_);exact rfl;exact rfl)|with_reducible refine qB ?_|((with_reducible refine qI ?_ ?_);omega)|((with_reducible refine qDT ?_ ?_);omega)|((with_reducible refine qDF ?_ ?_);omega)|((with_reducible refine qNT ?_ ?_);omega)|((with_reducible refine qNF ?_ ?_);omega)|((with_reducible refine qU8 ?_ ?_);omega)|((with_reducible refine qU32 ?_ ?_);omega)|((with_reducible refine qU64 ?_ ?_);omega)|((with_reducible refine qU16 ?_ ?_);omega))
    conv => whnf
    exact rfl
  conv => whnf
  refine cN (fun h3 => ?_) (fun h3 => ?_)
  · repeat((conv=>whnf);first|((with_reducible refine qS ?_ ?_ ?_);exact rfl;exact rfl)|with_reducible refine qB ?_|((with_reducible refine qI ?_ ?_);omega)|((with_reducible refine qDT ?_ ?_);omega)|((with_reducible refine qDF ?_ ?_);omega)|((with_reducible refine qNT ?_ ?_);omega)|((with_reducible refine qNF ?_ ?_);omega)|((with_reducible refine qU8 ?_ ?_);omega)|((with_reducible refine qU32 ?_ ?_);omega)|((with_reducible refine qU64 ?_ ?_);omega)|((with_reducible refine qU16 ?_ ?_);omega))
    conv => whnf
    exact rfl
  by_cases h : (chk m).2 = 0
  rotate_left
  · repeat((conv=>whnf);first|((with_reducible refine qS ?_ ?_ ?_);exact rfl;exact rfl)|with_reducible refine qB ?_|((with_reducible refine qI ?_ ?_);omega)|((with_reducible refine qDT ?_ ?_);omega)|((with_reducible refine qDF ?_ ?_);omega)|((with_reducible refine qNT ?_ ?_);omega)|((with_reducible refine qNF ?_ ?_);omega)|((with_reducible refine qU8 ?_ ?_);omega)|((with_reducible refine qU32 ?_ ?_);omega)|((with_reducible refine qU64 ?_ ?_);omega)|((with_reducible refine qU16 ?_ ?_);omega))
    conv => whnf
    exact rfl
  have hP := pass_of h
  have hi := hP.is
  have b0 : I64 0 := ⟨by decide, by decide⟩
  have hl := hi.head
  unfold headP at hl
  have hx : 0 ≤ a.tmod m.nodes ∧ a.tmod m.nodes ≤ 7 := by
    rw [Int.tmod_eq_emod_of_nonneg (by omega)]
    have := Int.emod_lt_of_pos a (show 0 < m.nodes by omega)
    have := Int.emod_nonneg a (show m.nodes ≠ 0 by omega)
    omega
  have hy : 0 ≤ b.tmod 5000 ∧ b.tmod 5000 ≤ 4999 := by rw [Int.tmod_eq_emod_of_nonneg (by omega)]; omega
  repeat((conv=>whnf);first|((with_reducible refine qS ?_ ?_ ?_);exact rfl;exact rfl)|with_reducible refine qB ?_|((with_reducible refine qI ?_ ?_);omega)|((with_reducible refine qDT ?_ ?_);omega)|((with_reducible refine qDF ?_ ?_);omega)|((with_reducible refine qNT ?_ ?_);omega)|((with_reducible refine qNF ?_ ?_);omega)|((with_reducible refine qU8 ?_ ?_);omega)|((with_reducible refine qU32 ?_ ?_);omega)|((with_reducible refine qU64 ?_ ?_);omega)|((with_reducible refine qU16 ?_ ?_);omega))
  conv => whnf
  generalize a.tmod m.nodes = who at *
  obtain ⟨y, hy0⟩ : ∃ y, b.tmod 5000 = y := ⟨_, rfl⟩
  rw [hy0] at hy
  have hwI : I64 who := ⟨by omega, by omega⟩
  have otil := fun k hk => open_til hP (who := who) (c := 0) (a := 0) (b := y) (k := k) hk
  obtain ⟨P, hPF⟩ : ∃ P, planF m who = P := ⟨_, rfl⟩
  obtain ⟨n, hLn⟩ : ∃ n, (rowL0 m who).length = n := ⟨_, rfl⟩
  have hn19 := rowL0_len m who
  have hnw := hi.size.2.2.2
  rw [hLn] at hn19
  obtain ⟨D, hD⟩ : ∃ D, dueL P 0 0 y n = D := ⟨_, rfl⟩
  obtain ⟨k, hk⟩ : ∃ k, D.length = k := ⟨_, rfl⟩
  obtain ⟨o, ho⟩ : ∃ o, opnT (at0L D) trg0 k = o := ⟨_, rfl⟩
  obtain ⟨i, hi0⟩ : ∃ i, opnB (at0L D) false k = i := ⟨_, rfl⟩
  have ln1 := dueL_len P 0 0 y n
  rw [hD, hk] at ln1
  have ot := otil k (by rw [hPF, hLn, hD, hk])
  rw [hPF, hLn, hD, ho] at ot
  repeat((conv=>whnf);first|((with_reducible refine qS ?_ ?_ ?_);exact rfl;exact rfl)|with_reducible refine qB ?_|((with_reducible refine qI ?_ ?_);omega)|((with_reducible refine qDT ?_ ?_);omega)|((with_reducible refine qDF ?_ ?_);omega)|((with_reducible refine qNT ?_ ?_);omega)|((with_reducible refine qNF ?_ ?_);omega)|((with_reducible refine qU8 ?_ ?_);omega)|((with_reducible refine qU32 ?_ ?_);omega)|((with_reducible refine qU64 ?_ ?_);omega)|((with_reducible refine qU16 ?_ ?_);omega))
  conv => whnf
  refine plan_at2 (m := m) (c := c) (who := who) [0, 1, 2] n P (fun cap => slT 6 n cap false) (fun cap => hS m c [rowT P n cap]) hm hc hwI h hLn hPF rfl ?_ ?_ (fun _ => rfl) (fun _ => rfl) (fun cap hcap => ?_)
  · repeat'(first|exact leT_empty|exact trivial|exact rfl|exact .inl rfl|exact .inr rfl|exact .inr ⟨rfl,rfl⟩|exact Nat.le_refl _|exact Nat.zero_le _|exact fun _ _=>rfl|assumption|refine And.intro ?_ ?_|exact ul0|exact ul1 rfl|exact ul2 rfl rfl|exact ul3 rfl rfl rfl)
  · repeat'(first|exact leT_empty|exact trivial|exact rfl|exact .inl rfl|exact .inr rfl|exact .inr ⟨rfl,rfl⟩|exact Nat.le_refl _|exact Nat.zero_le _|exact fun _ _=>rfl|assumption|refine And.intro ?_ ?_|exact ul0|exact ul1 rfl|exact ul2 rfl rfl|exact ul3 rfl rfl rfl)
  repeat((conv=>whnf);first|((with_reducible refine qS ?_ ?_ ?_);exact rfl;exact rfl)|with_reducible refine qB ?_|((with_reducible refine qI ?_ ?_);omega)|((with_reducible refine qDT ?_ ?_);omega)|((with_reducible refine qDF ?_ ?_);omega)|((with_reducible refine qNT ?_ ?_);omega)|((with_reducible refine qNF ?_ ?_);omega)|((with_reducible refine qU8 ?_ ?_);omega)|((with_reducible refine qU32 ?_ ?_);omega)|((with_reducible refine qU64 ?_ ?_);omega)|((with_reducible refine qU16 ?_ ?_);omega))
  conv => whnf
  rw [hy0]
  repeat((conv=>whnf);first|((with_reducible refine qS ?_ ?_ ?_);exact rfl;exact rfl)|with_reducible refine qB ?_|((with_reducible refine qI ?_ ?_);omega)|((with_reducible refine qDT ?_ ?_);omega)|((with_reducible refine qDF ?_ ?_);omega)|((with_reducible refine qNT ?_ ?_);omega)|((with_reducible refine qNF ?_ ?_);omega)|((with_reducible refine qU8 ?_ ?_);omega)|((with_reducible refine qU32 ?_ ?_);omega)|((with_reducible refine qU64 ?_ ?_);omega)|((with_reducible refine qU16 ?_ ?_);omega))
  conv => whnf
  refine now_ask (T := P) (n := n) (cap := cap) (cy := 0) (a := 0) (b := y) (o := trg0) (is := false) [7, 6] D k o i (slT 8 k n false) (hS m c [rowT P n cap, schO (plC 6 n cap) 0 y o i, rowT (at0L D) n n]) (by omega) (by omega) b0 hD hk ho hi0 rfl ?_ ?_ rfl rfl ?_
  · repeat'(first|exact leT_empty|exact trivial|exact rfl|exact .inl rfl|exact .inr rfl|exact .inr ⟨rfl,rfl⟩|exact Nat.le_refl _|exact Nat.zero_le _|exact fun _ _=>rfl|assumption|refine And.intro ?_ ?_|exact ul0|exact ul1 rfl|exact ul2 rfl rfl|exact ul3 rfl rfl rfl)
  · repeat'(first|exact leT_empty|exact trivial|exact rfl|exact .inl rfl|exact .inr rfl|exact .inr ⟨rfl,rfl⟩|exact Nat.le_refl _|exact Nat.zero_le _|exact fun _ _=>rfl|assumption|refine And.intro ?_ ?_|exact ul0|exact ul1 rfl|exact ul2 rfl rfl|exact ul3 rfl rfl rfl)
  repeat((conv=>whnf);first|((with_reducible refine qS ?_ ?_ ?_);exact rfl;exact rfl)|with_reducible refine qB ?_|((with_reducible refine qI ?_ ?_);omega)|((with_reducible refine qDT ?_ ?_);omega)|((with_reducible refine qDF ?_ ?_);omega)|((with_reducible refine qNT ?_ ?_);omega)|((with_reducible refine qNF ?_ ?_);omega)|((with_reducible refine qU8 ?_ ?_);omega)|((with_reducible refine qU32 ?_ ?_);omega)|((with_reducible refine qU64 ?_ ?_);omega)|((with_reducible refine qU16 ?_ ?_);omega))
  conv => whnf
  refine .inv (fun q : Nat => q ≤ k) (fun q => [(12, bv (opnB (at0L D) false q)), (13, iv .i64 q)]) (fun q => hS m c [rowT P n cap, schO (plC 6 n cap) 0 y o i, rowT (at0L D) n n, boxG (opnT (at0L D) trg0 q)]) (fun q => k - q) 0 (Nat.zero_le _) ?_ (fun q hq => ?_)
  · conv => whnf
    refine Le.id rfl ?_ ?_
    all_goals(repeat'(first|exact leT_empty|exact trivial|exact rfl|exact .inl rfl|exact .inr rfl|exact .inr ⟨rfl,rfl⟩|exact Nat.le_refl _|exact Nat.zero_le _|exact fun _ _=>rfl|assumption|refine And.intro ?_ ?_|exact ul0|exact ul1 rfl|exact ul2 rfl rfl|exact ul3 rfl rfl rfl))
  have eT := opn_T (at0L D) trg0 q
  have eTN := opn_TN (at0L D) trg0 q
  have eB := opn_B (at0L D) false q
  have eBN := opn_BN (at0L D) false q
  generalize hu : opnT (at0L D) trg0 q = u at *
  generalize hv : opnB (at0L D) false q = v at *
  conv => whnf
  refine cD (fun h8 => ?_) (fun h8 => ?_)
  · have z0 : 0 + ((q : Int)).toNat = q := by omega
    generalize hDF : at0L D = DF at *
    repeat((conv=>whnf);first|((with_reducible refine qS ?_ ?_ ?_);exact rfl;exact rfl)|with_reducible refine qB ?_|((with_reducible refine qI ?_ ?_);omega)|((with_reducible refine qDT ?_ ?_);omega)|((with_reducible refine qDF ?_ ?_);omega)|((with_reducible refine qNT ?_ ?_);omega)|((with_reducible refine qNF ?_ ?_);omega)|((with_reducible refine qU8 ?_ ?_);omega)|((with_reducible refine qU32 ?_ ?_);omega)|((with_reducible refine qU64 ?_ ?_);omega)|((with_reducible refine qU16 ?_ ?_);omega))
    conv => whnf
    rw [z0]
    by_cases hs : sndB (DF q) = true
    · have eT := eT hs
      have eB := eB hs
      have hk := of_decide_eq_true hs
      rcases hk with hk | hk
      · repeat((conv=>whnf);first|((with_reducible refine qS ?_ ?_ ?_);exact rfl;exact rfl)|with_reducible refine qB ?_|((with_reducible refine qI ?_ ?_);omega)|((with_reducible refine qDT ?_ ?_);omega)|((with_reducible refine qDF ?_ ?_);omega)|((with_reducible refine qNT ?_ ?_);omega)|((with_reducible refine qNF ?_ ?_);omega)|((with_reducible refine qU8 ?_ ?_);omega)|((with_reducible refine qU32 ?_ ?_);omega)|((with_reducible refine qU64 ?_ ?_);omega)|((with_reducible refine qU16 ?_ ?_);omega))
        conv => whnf
        try rw [z0]
        repeat((conv=>whnf);first|((with_reducible refine qS ?_ ?_ ?_);exact rfl;exact rfl)|with_reducible refine qB ?_|((with_reducible refine qI ?_ ?_);omega)|((with_reducible refine qDT ?_ ?_);omega)|((with_reducible refine qDF ?_ ?_);omega)|((with_reducible refine qNT ?_ ?_);omega)|((with_reducible refine qNF ?_ ?_);omega)|((with_reducible refine qU8 ?_ ?_);omega)|((with_reducible refine qU32 ?_ ?_);omega)|((with_reducible refine qU64 ?_ ?_);omega)|((with_reducible refine qU16 ?_ ?_);omega))
        conv => whnf
        refine ⟨q + 1, ⟨by omega, by omega⟩, ?_⟩
        rw [eT, eB]
        conv => whnf
        refine Le.id rfl ?_ ?_
        all_goals(repeat'(first|exact leT_empty|exact trivial|exact rfl|exact .inl rfl|exact .inr rfl|exact .inr ⟨rfl,rfl⟩|exact Nat.le_refl _|exact Nat.zero_le _|exact fun _ _=>rfl|assumption|refine And.intro ?_ ?_|exact ul0|exact ul1 rfl|exact ul2 rfl rfl|exact ul3 rfl rfl rfl))
      · repeat((conv=>whnf);first|((with_reducible refine qS ?_ ?_ ?_);exact rfl;exact rfl)|with_reducible refine qB ?_|((with_reducible refine qI ?_ ?_);omega)|((with_reducible refine qDT ?_ ?_);omega)|((with_reducible refine qDF ?_ ?_);omega)|((with_reducible refine qNT ?_ ?_);omega)|((with_reducible refine qNF ?_ ?_);omega)|((with_reducible refine qU8 ?_ ?_);omega)|((with_reducible refine qU32 ?_ ?_);omega)|((with_reducible refine qU64 ?_ ?_);omega)|((with_reducible refine qU16 ?_ ?_);omega))
        conv => whnf
        try rw [z0]
        repeat((conv=>whnf);first|((with_reducible refine qS ?_ ?_ ?_);exact rfl;exact rfl)|with_reducible refine qB ?_|((with_reducible refine qI ?_ ?_);omega)|((with_reducible refine qDT ?_ ?_);omega)|((with_reducible refine qDF ?_ ?_);omega)|((with_reducible refine qNT ?_ ?_);omega)|((with_reducible refine qNF ?_ ?_);omega)|((with_reducible refine qU8 ?_ ?_);omega)|((with_reducible refine qU32 ?_ ?_);omega)|((with_reducible refine qU64 ?_ ?_);omega)|((with_reducible refine qU16 ?_ ?_);omega))
        conv => whnf
        try rw [z0]
        repeat((conv=>whnf);first|((with_reducible refine qS ?_ ?_ ?_);exact rfl;exact rfl)|with_reducible refine qB ?_|((with_reducible refine qI ?_ ?_);omega)|((with_reducible refine qDT ?_ ?_);omega)|((with_reducible refine qDF ?_ ?_);omega)|((with_reducible refine qNT ?_ ?_);omega)|((with_reducible refine qNF ?_ ?_);omega)|((with_reducible refine qU8 ?_ ?_);omega)|((with_reducible refine qU32 ?_ ?_);omega)|((with_reducible refine qU64 ?_ ?_);omega)|((with_reducible refine qU16 ?_ ?_);omega))
        conv => whnf
        refine ⟨q + 1, ⟨by omega, by omega⟩, ?_⟩
        rw [eT, eB]
        conv => whnf
        refine Le.id rfl ?_ ?_
        all_goals(repeat'(first|exact leT_empty|exact trivial|exact rfl|exact .inl rfl|exact .inr rfl|exact .inr ⟨rfl,rfl⟩|exact Nat.le_refl _|exact Nat.zero_le _|exact fun _ _=>rfl|assumption|refine And.intro ?_ ?_|exact ul0|exact ul1 rfl|exact ul2 rfl rfl|exact ul3 rfl rfl rfl))
    · have eT := eTN hs
      have eB := eBN hs
      have hk : ¬ ((DF q).kind = 1 ∨ (DF q).kind = 2) := fun h => hs (decide_eq_true h)
      repeat((conv=>whnf);first|((with_reducible refine qS ?_ ?_ ?_);exact rfl;exact rfl)|with_reducible refine qB ?_|((with_reducible refine qI ?_ ?_);omega)|((with_reducible refine qDT ?_ ?_);omega)|((with_reducible refine qDF ?_ ?_);omega)|((with_reducible refine qNT ?_ ?_);omega)|((with_reducible refine qNF ?_ ?_);omega)|((with_reducible refine qU8 ?_ ?_);omega)|((with_reducible refine qU32 ?_ ?_);omega)|((with_reducible refine qU64 ?_ ?_);omega)|((with_reducible refine qU16 ?_ ?_);omega))
      conv => whnf
      try rw [z0]
      repeat((conv=>whnf);first|((with_reducible refine qS ?_ ?_ ?_);exact rfl;exact rfl)|with_reducible refine qB ?_|((with_reducible refine qI ?_ ?_);omega)|((with_reducible refine qDT ?_ ?_);omega)|((with_reducible refine qDF ?_ ?_);omega)|((with_reducible refine qNT ?_ ?_);omega)|((with_reducible refine qNF ?_ ?_);omega)|((with_reducible refine qU8 ?_ ?_);omega)|((with_reducible refine qU32 ?_ ?_);omega)|((with_reducible refine qU64 ?_ ?_);omega)|((with_reducible refine qU16 ?_ ?_);omega))
      conv => whnf
      refine ⟨q + 1, ⟨by omega, by omega⟩, ?_⟩
      rw [eT, eB]
      conv => whnf
      refine Le.id rfl ?_ ?_
      all_goals(repeat'(first|exact leT_empty|exact trivial|exact rfl|exact .inl rfl|exact .inr rfl|exact .inr ⟨rfl,rfl⟩|exact Nat.le_refl _|exact Nat.zero_le _|exact fun _ _=>rfl|assumption|refine And.intro ?_ ?_|exact ul0|exact ul1 rfl|exact ul2 rfl rfl|exact ul3 rfl rfl rfl))
  obtain rfl : q = k := by omega
  rw [ho] at hu
  rw [hi0] at hv
  subst hu
  subst hv
  cases i
  · repeat((conv=>whnf);first|((with_reducible refine qS ?_ ?_ ?_);exact rfl;exact rfl)|with_reducible refine qB ?_|((with_reducible refine qI ?_ ?_);omega)|((with_reducible refine qDT ?_ ?_);omega)|((with_reducible refine qDF ?_ ?_);omega)|((with_reducible refine qNT ?_ ?_);omega)|((with_reducible refine qNF ?_ ?_);omega)|((with_reducible refine qU8 ?_ ?_);omega)|((with_reducible refine qU32 ?_ ?_);omega)|((with_reducible refine qU64 ?_ ?_);omega)|((with_reducible refine qU16 ?_ ?_);omega))
    conv => whnf
    rw [trg_eq, show decide (o = o) = true from decide_eq_true rfl]
    repeat((conv=>whnf);first|((with_reducible refine qS ?_ ?_ ?_);exact rfl;exact rfl)|with_reducible refine qB ?_|((with_reducible refine qI ?_ ?_);omega)|((with_reducible refine qDT ?_ ?_);omega)|((with_reducible refine qDF ?_ ?_);omega)|((with_reducible refine qNT ?_ ?_);omega)|((with_reducible refine qNF ?_ ?_);omega)|((with_reducible refine qU8 ?_ ?_);omega)|((with_reducible refine qU32 ?_ ?_);omega)|((with_reducible refine qU64 ?_ ?_);omega)|((with_reducible refine qU16 ?_ ?_);omega))
    conv => whnf
    exact rfl
  · repeat((conv=>whnf);first|((with_reducible refine qS ?_ ?_ ?_);exact rfl;exact rfl)|with_reducible refine qB ?_|((with_reducible refine qI ?_ ?_);omega)|((with_reducible refine qDT ?_ ?_);omega)|((with_reducible refine qDF ?_ ?_);omega)|((with_reducible refine qNT ?_ ?_);omega)|((with_reducible refine qNF ?_ ?_);omega)|((with_reducible refine qU8 ?_ ?_);omega)|((with_reducible refine qU32 ?_ ?_);omega)|((with_reducible refine qU64 ?_ ?_);omega)|((with_reducible refine qU16 ?_ ?_);omega))
    conv => whnf
    rw [trg_eq, show decide (o = o) = true from decide_eq_true rfl]
    repeat((conv=>whnf);first|((with_reducible refine qS ?_ ?_ ?_);exact rfl;exact rfl)|with_reducible refine qB ?_|((with_reducible refine qI ?_ ?_);omega)|((with_reducible refine qDT ?_ ?_);omega)|((with_reducible refine qDF ?_ ?_);omega)|((with_reducible refine qNT ?_ ?_);omega)|((with_reducible refine qNF ?_ ?_);omega)|((with_reducible refine qU8 ?_ ?_);omega)|((with_reducible refine qU32 ?_ ?_);omega)|((with_reducible refine qU64 ?_ ?_);omega)|((with_reducible refine qU16 ?_ ?_);omega))
    conv => whnf
    rw [show decide (o.til < o.til + 1) = true from decide_eq_true (by omega)]
    repeat((conv=>whnf);first|((with_reducible refine qS ?_ ?_ ?_);exact rfl;exact rfl)|with_reducible refine qB ?_|((with_reducible refine qI ?_ ?_);omega)|((with_reducible refine qDT ?_ ?_);omega)|((with_reducible refine qDF ?_ ?_);omega)|((with_reducible refine qNT ?_ ?_);omega)|((with_reducible refine qNF ?_ ?_);omega)|((with_reducible refine qU8 ?_ ?_);omega)|((with_reducible refine qU32 ?_ ?_);omega)|((with_reducible refine qU64 ?_ ?_);omega)|((with_reducible refine qU16 ?_ ?_);omega))
    conv => whnf
    exact rfl
theorem cl_ok : ∃ cl : Cl, ClOk Try.prog cl ∧ ∀ D, OkAll pas D → cl F.law23_SchedLast [] (xsP 0 pas D) (hsP pas D) fun x _ => x = bv true := by
  refine ⟨clRunX 7 tt outsL23 tabL 4, clRunX_ok (d := 7) ttOk outsL23_ok tabL_ok 4, fun D hD => ?_⟩
  match D, hD with
  | [d0, d1, d2], hD =>
    obtain ⟨h0, h1, h2, _⟩ := hD
    obtain ⟨m, c, hm, hc, e0, e1⟩ := open_mat h0
    obtain ⟨a, rfl, ha⟩ := one_u8 h1
    obtain ⟨b, rfl, hb⟩ := one_u16 h2
    have hw := walk m c a b hm hc ha hb
    show clRunX 7 tt outsL23 tabL 4 31 [] (xP 0 (.agg matSh) d0 :: _) (hs matSh d0 ++ _) _
    rw [e0, e1]
    exact hw
theorem own' : ownKnob Try.prog.godebug = none := own
theorem lifted (os : Os) (started : os.Started) (H : Type) (enc : TypeId × Value → H) :
    ReturnsInHanded {} Try.checked os 31 .any (Rows.schedLastSpec.pre6 enc Try.prog Try.f31 Rows.schedLastRow.domain false) (Rows.schedLastSpec.post enc Try.prog Try.f31 false true false false) := by
  refine returnsInHanded_of_change (C := Try.checked) own started (by kernel_rfl) Try.func31
    (ChangeSpec.witness6 (enc := enc) (C := Try.checked) false ⟨#[], #[.agg #[.int .i64 0, .int .i64 0, .int .i64 0, .int .i64 0, .int .i64 0, .int .i64 0, .int .i64 0, .int .u32 0, .slice none 0 0, .slice none 0 0, .slice none 0 0], .int .u8 0, .int .u16 0], []⟩ 8 (by kernel_rfl) (by kernel_rfl) (by kernel_rfl) (by kernel_rfl)) ?_
  intro W base args ds gs before hval hW _ _
  obtain ⟨cl, hc, hw⟩ := cl_ok
  exact row_of (ps := pas) (by kernel_rfl) (by kernel_rfl) rfl rfl (fun ds h => by
    match ds, h with
    | [_, _, _], _ => rfl) hval hW hc hw
theorem closed : joinedFacts Try.prog 31 Try.f31 Rows.schedLastSpec Rows.schedLastRow = true := by
  simp only [joinedFacts, Bool.and_eq_true]
  repeat' apply And.intro
  all_goals first
    | with_reducible exact mayEnter_ok
    | with_reducible exact laid_ok
    | with_reducible exact rowed_ok
    | ((with_reducible refine beq_r lifts_ok ?_); rfl)
    | ((with_reducible refine beq_l make_ok ?_); kernel_rfl)
    | (as_aux_lemma => kernel_rfl)
theorem named : Try.prog.funcNamed Rows.schedLastRow.func = some 31 := by kernel_rfl
theorem inst : Try.f31.isInstance Try.prog Rows.schedLastRow.origin Rows.schedLastRow.targs := of_decide_eq_true (by kernel_rfl)
theorem wrap : Try.f31.isWrapper Try.prog Rows.schedLastRow.wrapper Rows.schedLastRow.mainSum := by
  unfold Func.isWrapper; first | (rw [if_pos (by decide +kernel)]; kernel_rfl) | (rw [if_neg (by decide +kernel)]; exact ⟨rfl, rfl⟩)
theorem over : Rows.schedLastRow.holds Try.pinned (OpenSpec.ofChange Rows.schedLastSpec) :=
  OpenClaim.holds_of_wide 31 Try.f31 rfl rfl rfl rfl rfl rfl rfl ⟨rfl, rfl, rfl, rfl, rfl⟩ rfl rfl rfl rfl rfl named Try.func31 closed inst wrap
    (fun os started H enc _ => lifted os started H enc)
/-- The statement. -/
theorem proved : Rows.SchedLastSaid := over
#print axioms proved
end Go.Proofs.Ytbdifadabipfiaa.schedLast
