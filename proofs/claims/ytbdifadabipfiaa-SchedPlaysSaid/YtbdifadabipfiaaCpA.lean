/- Contracts: a node's plan, the other way. -/
import Derived.Test.YtbdifadabipfiaaCoZ
namespace Go.Proofs.Ytbdifadabipfiaa.Co
open Go Go.Eng Go.Proofs Go.Proofs.Ytbdifadabipfiaa.Tb Go.Pu
set_option maxRecDepth 100000
set_option maxHeartbeats 8000000
theorem lay3 {L : List Trg} {t1 t2 t3 : Trg} {k : Nat} (hk : L.length = k) {B0 B1 B2 B3 : Nat → Trg} (h0 : sortF (at0L L) k = B0) (h1 : insF (behF B0 k t1) k = B1) (h2 : insF (behF B1 (k + 1) t2) (k + 1) = B2) (h3 : insF (behF B2 (k + 1 + 1) t3) (k + 1 + 1) = B3) (q : Nat) (hq : q < k + 1 + 1 + 1) : B3 q = sortF (at0L (L ++ [t1] ++ [t2] ++ [t3])) (k + 1 + 1 + 1) q := by
  have e1 : ∀ q, q < k + 1 → B1 q = sortF (at0L (L ++ [t1])) (k + 1) q := fun q hq => by
    rw [← h1]
    exact lay_next hk (fun q _ => by rw [h0]) hq
  have l1 : (L ++ [t1]).length = k + 1 := by rw [List.length_append, hk]; rfl
  have l2 : (L ++ [t1] ++ [t2]).length = k + 1 + 1 := by rw [List.length_append, l1]; rfl
  have e2 : ∀ q, q < k + 1 + 1 → B2 q = sortF (at0L (L ++ [t1] ++ [t2])) (k + 1 + 1) q := fun q hq => by
    rw [← h2]
    exact lay_next l1 e1 hq
  rw [← h3]
  exact lay_next l2 e2 hq
abbrev outsPq : List (FuncId × Cx) := [(F.ref12_Check, AskC checkRC), (F.ref12_laid, AskC laidC), (F.ref12_Rank, AskC rankC), (F.ref12_Beat, AskC beatC), (F.ref12_Watch, AskC watchC), (F.ref12_Step, AskC stepC)]
theorem outsPq_ok : OutsOk Try.prog outsPq := .cons (ask_ok checkR_ok) (.cons (ask_ok laid_ok) (.cons (ask_ok rankR_ok) (.cons (ask_ok beatR_ok) (.cons (ask_ok watchR_ok) (.cons (ask_ok stepR_ok) .nil)))))
noncomputable abbrev tabPq : List (FuncId × Eng.Fn) := [(F.ref12_Plan, fn.ref12_Plan u0)]
theorem tabPq_ok {d : Nat} : TabOk d tabPq tt := .cons (ok.ref12_Plan u0) (TabOk.nil)
abbrev boxW (w : Win) : HE := .ob (.own [.c (iC w.kind), .c (iC w.st), .c (iC w.en), .c (iC w.cyc), .c (iC w.rep), .c (iC w.msg)])
abbrev boxT (t : Trg) : HE := .ob (.own [.c (iC t.kind), .c (iC t.at_), .c (iC t.cyc), .c (iC t.rep), .c (iC t.msg), .c (iC t.til)])
theorem planR_run (m : Mat) (c : Caps) (who : Int) (hm : m.Ok) (hc : capsOk m c) (hw : I64 who) : clRunX 7 tt outsPq tabPq 2 F.ref12_Plan [] [matT m c 0 1 2, iv .i64 who] (matH m []) (fun x h => Trim 3 x h fun x h => ∃ cap, (rowL0 m who).length ≤ cap ∧ x = (if (chk m).2 = 0 then slT 3 (rowL0 m who).length cap false else nilS) ∧ h = (if (chk m).2 = 0 then matH m [rowT (planF m who) (rowL0 m who).length cap] else matH m [])) := by
  repeat((conv=>whnf);first|((with_reducible refine qS ?_ ?_ ?_);exact rfl;exact rfl)|with_reducible refine qB ?_|((with_reducible refine qI ?_ ?_);omega)|((with_reducible refine qDT ?_ ?_);omega)|((with_reducible refine qDF ?_ ?_);omega)|((with_reducible refine qNT ?_ ?_);omega)|((with_reducible refine qNF ?_ ?_);omega)|((with_reducible refine qU8 ?_ ?_);omega)|((with_reducible refine qU32 ?_ ?_);omega)|((with_reducible refine qU64 ?_ ?_);omega)|((with_reducible refine qU16 ?_ ?_);omega))
  conv => whnf
  refine checkR_use (m := m) (c := c) hm ?_
  repeat((conv=>whnf);first|((with_reducible refine qS ?_ ?_ ?_);exact rfl;exact rfl)|with_reducible refine qB ?_|((with_reducible refine qI ?_ ?_);omega)|((with_reducible refine qDT ?_ ?_);omega)|((with_reducible refine qDF ?_ ?_);omega)|((with_reducible refine qNT ?_ ?_);omega)|((with_reducible refine qNF ?_ ?_);omega)|((with_reducible refine qU8 ?_ ?_);omega)|((with_reducible refine qU32 ?_ ?_);omega)|((with_reducible refine qU64 ?_ ?_);omega)|((with_reducible refine qU16 ?_ ?_);omega))
  conv => whnf
  refine cN (fun h1 => ?_) (fun h1 => ?_)
  · repeat((conv=>whnf);first|((with_reducible refine qS ?_ ?_ ?_);exact rfl;exact rfl)|with_reducible refine qB ?_|((with_reducible refine qI ?_ ?_);omega)|((with_reducible refine qDT ?_ ?_);omega)|((with_reducible refine qDF ?_ ?_);omega)|((with_reducible refine qNT ?_ ?_);omega)|((with_reducible refine qNF ?_ ?_);omega)|((with_reducible refine qU8 ?_ ?_);omega)|((with_reducible refine qU32 ?_ ?_);omega)|((with_reducible refine qU64 ?_ ?_);omega)|((with_reducible refine qU16 ?_ ?_);omega))
    conv => whnf
    refine Trim.fam (rowL0 m who).length (Nat.le_refl _) ?_
    rw [if_neg h1, if_neg h1]
    refine Le.id rfl ?_ ?_
    · repeat'(first|exact leT_empty|exact trivial|exact rfl|exact .inl rfl|exact .inr rfl|exact .inr ⟨rfl,rfl⟩|exact Nat.le_refl _|exact Nat.zero_le _|exact fun _ _=>rfl|assumption|refine And.intro ?_ ?_|exact ul0|exact ul1 rfl|exact ul2 rfl rfl|exact ul3 rfl rfl rfl)
    · repeat'(first|exact leT_empty|exact trivial|exact rfl|exact .inl rfl|exact .inr rfl|exact .inr ⟨rfl,rfl⟩|exact Nat.le_refl _|exact Nat.zero_le _|exact fun _ _=>rfl|assumption|refine And.intro ?_ ?_|exact ul0|exact ul1 rfl|exact ul2 rfl rfl|exact ul3 rfl rfl rfl)
  have hP := pass_of h1
  have hi0 := hP.is
  have hnW : m.nW ≤ 16 := hi0.size.2.2.2
  have hnG := hm.nG
  have hlH := hi0.head
  unfold headP at hlH
  have hst := step_bd (m := m)
  repeat((conv=>whnf);first|((with_reducible refine qS ?_ ?_ ?_);exact rfl;exact rfl)|with_reducible refine qB ?_|((with_reducible refine qI ?_ ?_);omega)|((with_reducible refine qDT ?_ ?_);omega)|((with_reducible refine qDF ?_ ?_);omega)|((with_reducible refine qNT ?_ ?_);omega)|((with_reducible refine qNF ?_ ?_);omega)|((with_reducible refine qU8 ?_ ?_);omega)|((with_reducible refine qU32 ?_ ?_);omega)|((with_reducible refine qU64 ?_ ?_);omega)|((with_reducible refine qU16 ?_ ?_);omega))
  conv => whnf
  refine .inv (fun p : Nat × Nat => p.1 ≤ m.nW ∧ (wTrgs m who p.1).length ≤ p.2) (fun p => [(7, outR 4 (wTrgs m who p.1).length p.2), (8, iv .i64 p.1)]) (fun p => matH m (boxM m c :: rowsC (sortF (at0L (wTrgs m who p.1)) (wTrgs m who p.1).length) (wTrgs m who p.1).length p.2)) (fun p => m.nW - p.1) (0, 0) ⟨Nat.zero_le _, Nat.le_refl _⟩ ?_ (fun p ⟨hi, hl⟩ => ?_)
  · conv => whnf
    refine Le.id rfl ?_ ?_
    all_goals(repeat'(first|exact leT_empty|exact trivial|exact rfl|exact .inl rfl|exact .inr rfl|exact .inr ⟨rfl,rfl⟩|exact Nat.le_refl _|exact Nat.zero_le _|exact fun _ _=>rfl|assumption|refine And.intro ?_ ?_|exact ul0|exact ul1 rfl|exact ul2 rfl rfl|exact ul3 rfl rfl rfl))
  generalize p.1 = i at *
  generalize p.2 = cap at *
  obtain ⟨k, hk⟩ : ∃ k, (wTrgs m who i).length = k := ⟨_, rfl⟩
  have hlen := wTrgs_len m who i
  rw [hk] at hl hlen ⊢
  rcases k with _ | k
  · conv => whnf
    refine cD (fun h5 => ?_) (fun h5 => ?_)
    · have hw := hP.w (i := i) (by omega)
      have hwp := hw.1
      unfold winP at hwp
      have ew : wTrgs m who (i + 1) = if (m.W i).kind = 3 then wTrgs m who i else wTrgs m who i ++ [trgW m who (m.W i)] := rfl
      have etw : trgW m who (m.W i) = if (m.W i).kind = 2 then ⟨2, (m.W i).st, (m.W i).cyc, (m.W i).rep, (m.W i).msg, (m.W i).en - Pu.step m⟩ else if (m.G (m.W i).msg.toNat).ow = who then ⟨1, (m.W i).st, (m.W i).cyc, (m.W i).rep, (m.W i).msg, (m.W i).st + m.enable⟩ else ⟨3, (m.W i).en - 1, (m.W i).cyc, (m.W i).rep, (m.W i).msg, 0⟩ := rfl
      repeat((conv=>whnf);first|((with_reducible refine qS ?_ ?_ ?_);exact rfl;exact rfl)|with_reducible refine qB ?_|((with_reducible refine qI ?_ ?_);omega)|((with_reducible refine qDT ?_ ?_);omega)|((with_reducible refine qDF ?_ ?_);omega)|((with_reducible refine qNT ?_ ?_);omega)|((with_reducible refine qNF ?_ ?_);omega)|((with_reducible refine qU8 ?_ ?_);omega)|((with_reducible refine qU32 ?_ ?_);omega)|((with_reducible refine qU64 ?_ ?_);omega)|((with_reducible refine qU16 ?_ ?_);omega))
      conv => whnf
      try rw [zi i]
      by_cases k3 : (m.W i).kind = 3
      · rw [if_pos k3] at ew
        repeat((conv=>whnf);first|((with_reducible refine qS ?_ ?_ ?_);exact rfl;exact rfl)|with_reducible refine qB ?_|((with_reducible refine qI ?_ ?_);omega)|((with_reducible refine qDT ?_ ?_);omega)|((with_reducible refine qDF ?_ ?_);omega)|((with_reducible refine qNT ?_ ?_);omega)|((with_reducible refine qNF ?_ ?_);omega)|((with_reducible refine qU8 ?_ ?_);omega)|((with_reducible refine qU32 ?_ ?_);omega)|((with_reducible refine qU64 ?_ ?_);omega)|((with_reducible refine qU16 ?_ ?_);omega))
        conv => whnf
        try rw [zi i]
        repeat((conv=>whnf);first|((with_reducible refine qS ?_ ?_ ?_);exact rfl;exact rfl)|with_reducible refine qB ?_|((with_reducible refine qI ?_ ?_);omega)|((with_reducible refine qDT ?_ ?_);omega)|((with_reducible refine qDF ?_ ?_);omega)|((with_reducible refine qNT ?_ ?_);omega)|((with_reducible refine qNF ?_ ?_);omega)|((with_reducible refine qU8 ?_ ?_);omega)|((with_reducible refine qU32 ?_ ?_);omega)|((with_reducible refine qU64 ?_ ?_);omega)|((with_reducible refine qU16 ?_ ?_);omega))
        conv => whnf
        refine ⟨(i + 1, cap), ⟨⟨by show i + 1 ≤ m.nW; omega, by rw [ew, hk]; omega⟩, by show m.nW - (i + 1) < m.nW - i; omega⟩, ?_⟩
        rw [ew, hk]
        conv => whnf
        refine Le.id rfl ?_ ?_
        all_goals(repeat'(first|exact leT_empty|exact trivial|exact rfl|exact .inl rfl|exact .inr rfl|exact .inr ⟨rfl,rfl⟩|exact Nat.le_refl _|exact Nat.zero_le _|exact fun _ _=>rfl|assumption|refine And.intro ?_ ?_|exact ul0|exact ul1 rfl|exact ul2 rfl rfl|exact ul3 rfl rfl rfl))
      rw [if_neg k3] at ew
      have el : (wTrgs m who (i + 1)).length = 0 + 1 := by rw [ew, List.length_append, hk]; rfl
      by_cases k2 : (m.W i).kind = 2
      · rw [if_pos k2] at etw
        repeat((conv=>whnf);first|((with_reducible refine qS ?_ ?_ ?_);exact rfl;exact rfl)|with_reducible refine qB ?_|((with_reducible refine qI ?_ ?_);omega)|((with_reducible refine qDT ?_ ?_);omega)|((with_reducible refine qDF ?_ ?_);omega)|((with_reducible refine qNT ?_ ?_);omega)|((with_reducible refine qNF ?_ ?_);omega)|((with_reducible refine qU8 ?_ ?_);omega)|((with_reducible refine qU32 ?_ ?_);omega)|((with_reducible refine qU64 ?_ ?_);omega)|((with_reducible refine qU16 ?_ ?_);omega))
        conv => whnf
        try rw [zi i]
        repeat((conv=>whnf);first|((with_reducible refine qS ?_ ?_ ?_);exact rfl;exact rfl)|with_reducible refine qB ?_|((with_reducible refine qI ?_ ?_);omega)|((with_reducible refine qDT ?_ ?_);omega)|((with_reducible refine qDF ?_ ?_);omega)|((with_reducible refine qNT ?_ ?_);omega)|((with_reducible refine qNF ?_ ?_);omega)|((with_reducible refine qU8 ?_ ?_);omega)|((with_reducible refine qU32 ?_ ?_);omega)|((with_reducible refine qU64 ?_ ?_);omega)|((with_reducible refine qU16 ?_ ?_);omega))
        conv => whnf
        refine step_use (m := m) (c := c) hm ?_
        repeat((conv=>whnf);first|((with_reducible refine qS ?_ ?_ ?_);exact rfl;exact rfl)|with_reducible refine qB ?_|((with_reducible refine qI ?_ ?_);omega)|((with_reducible refine qDT ?_ ?_);omega)|((with_reducible refine qDF ?_ ?_);omega)|((with_reducible refine qNT ?_ ?_);omega)|((with_reducible refine qNF ?_ ?_);omega)|((with_reducible refine qU8 ?_ ?_);omega)|((with_reducible refine qU32 ?_ ?_);omega)|((with_reducible refine qU64 ?_ ?_);omega)|((with_reducible refine qU16 ?_ ?_);omega))
        conv => whnf
        refine laid_ask (T := (sortF (at0L (wTrgs m who i)) 0)) (n := 0) (cap := 0) (nl := true) (t := ⟨2, (m.W i).st, (m.W i).cyc, (m.W i).rep, (m.W i).msg, (m.W i).en - Pu.step m⟩) [0] (fun q => slT 6 (0 + 1) q false) (fun q => matH m [boxM m c, boxW (m.W i), boxT ⟨2, (m.W i).st, (m.W i).cyc, (m.W i).rep, (m.W i).msg, (m.W i).en - Pu.step m⟩, rowT (insF (behF (sortF (at0L (wTrgs m who i)) 0) 0 ⟨2, (m.W i).st, (m.W i).cyc, (m.W i).rep, (m.W i).msg, (m.W i).en - Pu.step m⟩) 0) (0 + 1) q]) (by omega) (Nat.le_refl _) rfl ?_ ?_ (fun _ => rfl) (fun _ => rfl) (fun q1 hq1 => ?_)
        · repeat'(first|exact leT_empty|exact trivial|exact rfl|exact .inl rfl|exact .inr rfl|exact .inr ⟨rfl,rfl⟩|exact Nat.le_refl _|exact Nat.zero_le _|exact fun _ _=>rfl|assumption|refine And.intro ?_ ?_|exact ul0|exact ul1 rfl|exact ul2 rfl rfl|exact ul3 rfl rfl rfl)
        · repeat'(first|exact leT_empty|exact trivial|exact rfl|exact .inl rfl|exact .inr rfl|exact .inr ⟨rfl,rfl⟩|exact Nat.le_refl _|exact Nat.zero_le _|exact fun _ _=>rfl|assumption|refine And.intro ?_ ?_|exact ul0|exact ul1 rfl|exact ul2 rfl rfl|exact ul3 rfl rfl rfl)
        repeat((conv=>whnf);first|((with_reducible refine qS ?_ ?_ ?_);exact rfl;exact rfl)|with_reducible refine qB ?_|((with_reducible refine qI ?_ ?_);omega)|((with_reducible refine qDT ?_ ?_);omega)|((with_reducible refine qDF ?_ ?_);omega)|((with_reducible refine qNT ?_ ?_);omega)|((with_reducible refine qNF ?_ ?_);omega)|((with_reducible refine qU8 ?_ ?_);omega)|((with_reducible refine qU32 ?_ ?_);omega)|((with_reducible refine qU64 ?_ ?_);omega)|((with_reducible refine qU16 ?_ ?_);omega))
        conv => whnf
        refine ⟨(i + 1, q1), ⟨⟨by show i + 1 ≤ m.nW; omega, by rw [el]; exact hq1⟩, by show m.nW - (i + 1) < m.nW - i; omega⟩, ?_⟩
        rw [el]
        conv => whnf
        refine Le.nm [0, 1, 2, 3, 6] rfl ?_ ?_
        · refine ⟨⟨.inl rfl, Nat.le_refl _, fun _ _ => rfl⟩, ⟨.inl rfl, Nat.le_refl _, fun _ _ => rfl⟩, ⟨.inl rfl, Nat.le_refl _, fun _ _ => rfl⟩, ?_, ⟨rfl, rfl, rfl, fun q hq => ?_⟩, trivial⟩
          · repeat'(first|exact leT_empty|exact trivial|exact rfl|exact .inl rfl|exact .inr rfl|exact .inr ⟨rfl,rfl⟩|exact Nat.le_refl _|exact Nat.zero_le _|exact fun _ _=>rfl|assumption|refine And.intro ?_ ?_|exact ul0|exact ul1 rfl|exact ul2 rfl rfl|exact ul3 rfl rfl rfl)
          · rw [ew, etw]
            exact congrArg trgL (lay_next hk (fun _ _ => rfl) hq)
        · repeat'(first|exact leT_empty|exact trivial|exact rfl|exact .inl rfl|exact .inr rfl|exact .inr ⟨rfl,rfl⟩|exact Nat.le_refl _|exact Nat.zero_le _|exact fun _ _=>rfl|assumption|refine And.intro ?_ ?_|exact ul0|exact ul1 rfl|exact ul2 rfl rfl|exact ul3 rfl rfl rfl)
      rw [if_neg k2] at etw
      have hg := (hw.2.1 (by omega)).1
      by_cases k1 : (m.G (m.W i).msg.toNat).ow = who
      · rw [if_pos k1] at etw
        repeat((conv=>whnf);first|((with_reducible refine qS ?_ ?_ ?_);exact rfl;exact rfl)|with_reducible refine qB ?_|((with_reducible refine qI ?_ ?_);omega)|((with_reducible refine qDT ?_ ?_);omega)|((with_reducible refine qDF ?_ ?_);omega)|((with_reducible refine qNT ?_ ?_);omega)|((with_reducible refine qNF ?_ ?_);omega)|((with_reducible refine qU8 ?_ ?_);omega)|((with_reducible refine qU32 ?_ ?_);omega)|((with_reducible refine qU64 ?_ ?_);omega)|((with_reducible refine qU16 ?_ ?_);omega))
        conv => whnf
        try rw [zi i]
        repeat((conv=>whnf);first|((with_reducible refine qS ?_ ?_ ?_);exact rfl;exact rfl)|with_reducible refine qB ?_|((with_reducible refine qI ?_ ?_);omega)|((with_reducible refine qDT ?_ ?_);omega)|((with_reducible refine qDF ?_ ?_);omega)|((with_reducible refine qNT ?_ ?_);omega)|((with_reducible refine qNF ?_ ?_);omega)|((with_reducible refine qU8 ?_ ?_);omega)|((with_reducible refine qU32 ?_ ?_);omega)|((with_reducible refine qU64 ?_ ?_);omega)|((with_reducible refine qU16 ?_ ?_);omega))
        conv => whnf
        rw [za]
        refine cDT k1 ?_
        repeat((conv=>whnf);first|((with_reducible refine qS ?_ ?_ ?_);exact rfl;exact rfl)|with_reducible refine qB ?_|((with_reducible refine qI ?_ ?_);omega)|((with_reducible refine qDT ?_ ?_);omega)|((with_reducible refine qDF ?_ ?_);omega)|((with_reducible refine qNT ?_ ?_);omega)|((with_reducible refine qNF ?_ ?_);omega)|((with_reducible refine qU8 ?_ ?_);omega)|((with_reducible refine qU32 ?_ ?_);omega)|((with_reducible refine qU64 ?_ ?_);omega)|((with_reducible refine qU16 ?_ ?_);omega))
        conv => whnf
        refine laid_ask (T := (sortF (at0L (wTrgs m who i)) 0)) (n := 0) (cap := 0) (nl := true) (t := ⟨1, (m.W i).st, (m.W i).cyc, (m.W i).rep, (m.W i).msg, (m.W i).st + m.enable⟩) [0] (fun q => slT 6 (0 + 1) q false) (fun q => matH m [boxM m c, boxW (m.W i), boxT ⟨1, (m.W i).st, (m.W i).cyc, (m.W i).rep, (m.W i).msg, (m.W i).st + m.enable⟩, rowT (insF (behF (sortF (at0L (wTrgs m who i)) 0) 0 ⟨1, (m.W i).st, (m.W i).cyc, (m.W i).rep, (m.W i).msg, (m.W i).st + m.enable⟩) 0) (0 + 1) q]) (by omega) (Nat.le_refl _) rfl ?_ ?_ (fun _ => rfl) (fun _ => rfl) (fun q1 hq1 => ?_)
        · repeat'(first|exact leT_empty|exact trivial|exact rfl|exact .inl rfl|exact .inr rfl|exact .inr ⟨rfl,rfl⟩|exact Nat.le_refl _|exact Nat.zero_le _|exact fun _ _=>rfl|assumption|refine And.intro ?_ ?_|exact ul0|exact ul1 rfl|exact ul2 rfl rfl|exact ul3 rfl rfl rfl)
        · repeat'(first|exact leT_empty|exact trivial|exact rfl|exact .inl rfl|exact .inr rfl|exact .inr ⟨rfl,rfl⟩|exact Nat.le_refl _|exact Nat.zero_le _|exact fun _ _=>rfl|assumption|refine And.intro ?_ ?_|exact ul0|exact ul1 rfl|exact ul2 rfl rfl|exact ul3 rfl rfl rfl)
        repeat((conv=>whnf);first|((with_reducible refine qS ?_ ?_ ?_);exact rfl;exact rfl)|with_reducible refine qB ?_|((with_reducible refine qI ?_ ?_);omega)|((with_reducible refine qDT ?_ ?_);omega)|((with_reducible refine qDF ?_ ?_);omega)|((with_reducible refine qNT ?_ ?_);omega)|((with_reducible refine qNF ?_ ?_);omega)|((with_reducible refine qU8 ?_ ?_);omega)|((with_reducible refine qU32 ?_ ?_);omega)|((with_reducible refine qU64 ?_ ?_);omega)|((with_reducible refine qU16 ?_ ?_);omega))
        conv => whnf
        refine ⟨(i + 1, q1), ⟨⟨by show i + 1 ≤ m.nW; omega, by rw [el]; exact hq1⟩, by show m.nW - (i + 1) < m.nW - i; omega⟩, ?_⟩
        rw [el]
        conv => whnf
        refine Le.nm [0, 1, 2, 3, 6] rfl ?_ ?_
        · refine ⟨⟨.inl rfl, Nat.le_refl _, fun _ _ => rfl⟩, ⟨.inl rfl, Nat.le_refl _, fun _ _ => rfl⟩, ⟨.inl rfl, Nat.le_refl _, fun _ _ => rfl⟩, ?_, ⟨rfl, rfl, rfl, fun q hq => ?_⟩, trivial⟩
          · repeat'(first|exact leT_empty|exact trivial|exact rfl|exact .inl rfl|exact .inr rfl|exact .inr ⟨rfl,rfl⟩|exact Nat.le_refl _|exact Nat.zero_le _|exact fun _ _=>rfl|assumption|refine And.intro ?_ ?_|exact ul0|exact ul1 rfl|exact ul2 rfl rfl|exact ul3 rfl rfl rfl)
          · rw [ew, etw]
            exact congrArg trgL (lay_next hk (fun _ _ => rfl) hq)
        · repeat'(first|exact leT_empty|exact trivial|exact rfl|exact .inl rfl|exact .inr rfl|exact .inr ⟨rfl,rfl⟩|exact Nat.le_refl _|exact Nat.zero_le _|exact fun _ _=>rfl|assumption|refine And.intro ?_ ?_|exact ul0|exact ul1 rfl|exact ul2 rfl rfl|exact ul3 rfl rfl rfl)
      · rw [if_neg k1] at etw
        repeat((conv=>whnf);first|((with_reducible refine qS ?_ ?_ ?_);exact rfl;exact rfl)|with_reducible refine qB ?_|((with_reducible refine qI ?_ ?_);omega)|((with_reducible refine qDT ?_ ?_);omega)|((with_reducible refine qDF ?_ ?_);omega)|((with_reducible refine qNT ?_ ?_);omega)|((with_reducible refine qNF ?_ ?_);omega)|((with_reducible refine qU8 ?_ ?_);omega)|((with_reducible refine qU32 ?_ ?_);omega)|((with_reducible refine qU64 ?_ ?_);omega)|((with_reducible refine qU16 ?_ ?_);omega))
        conv => whnf
        try rw [zi i]
        repeat((conv=>whnf);first|((with_reducible refine qS ?_ ?_ ?_);exact rfl;exact rfl)|with_reducible refine qB ?_|((with_reducible refine qI ?_ ?_);omega)|((with_reducible refine qDT ?_ ?_);omega)|((with_reducible refine qDF ?_ ?_);omega)|((with_reducible refine qNT ?_ ?_);omega)|((with_reducible refine qNF ?_ ?_);omega)|((with_reducible refine qU8 ?_ ?_);omega)|((with_reducible refine qU32 ?_ ?_);omega)|((with_reducible refine qU64 ?_ ?_);omega)|((with_reducible refine qU16 ?_ ?_);omega))
        conv => whnf
        rw [za]
        refine cDF k1 ?_
        repeat((conv=>whnf);first|((with_reducible refine qS ?_ ?_ ?_);exact rfl;exact rfl)|with_reducible refine qB ?_|((with_reducible refine qI ?_ ?_);omega)|((with_reducible refine qDT ?_ ?_);omega)|((with_reducible refine qDF ?_ ?_);omega)|((with_reducible refine qNT ?_ ?_);omega)|((with_reducible refine qNF ?_ ?_);omega)|((with_reducible refine qU8 ?_ ?_);omega)|((with_reducible refine qU32 ?_ ?_);omega)|((with_reducible refine qU64 ?_ ?_);omega)|((with_reducible refine qU16 ?_ ?_);omega))
        conv => whnf
        refine laid_ask (T := (sortF (at0L (wTrgs m who i)) 0)) (n := 0) (cap := 0) (nl := true) (t := ⟨3, (m.W i).en - 1, (m.W i).cyc, (m.W i).rep, (m.W i).msg, 0⟩) [0] (fun q => slT 6 (0 + 1) q false) (fun q => matH m [boxM m c, boxW (m.W i), boxT ⟨3, (m.W i).en - 1, (m.W i).cyc, (m.W i).rep, (m.W i).msg, 0⟩, rowT (insF (behF (sortF (at0L (wTrgs m who i)) 0) 0 ⟨3, (m.W i).en - 1, (m.W i).cyc, (m.W i).rep, (m.W i).msg, 0⟩) 0) (0 + 1) q]) (by omega) (Nat.le_refl _) rfl ?_ ?_ (fun _ => rfl) (fun _ => rfl) (fun q1 hq1 => ?_)
        · repeat'(first|exact leT_empty|exact trivial|exact rfl|exact .inl rfl|exact .inr rfl|exact .inr ⟨rfl,rfl⟩|exact Nat.le_refl _|exact Nat.zero_le _|exact fun _ _=>rfl|assumption|refine And.intro ?_ ?_|exact ul0|exact ul1 rfl|exact ul2 rfl rfl|exact ul3 rfl rfl rfl)
        · repeat'(first|exact leT_empty|exact trivial|exact rfl|exact .inl rfl|exact .inr rfl|exact .inr ⟨rfl,rfl⟩|exact Nat.le_refl _|exact Nat.zero_le _|exact fun _ _=>rfl|assumption|refine And.intro ?_ ?_|exact ul0|exact ul1 rfl|exact ul2 rfl rfl|exact ul3 rfl rfl rfl)
        repeat((conv=>whnf);first|((with_reducible refine qS ?_ ?_ ?_);exact rfl;exact rfl)|with_reducible refine qB ?_|((with_reducible refine qI ?_ ?_);omega)|((with_reducible refine qDT ?_ ?_);omega)|((with_reducible refine qDF ?_ ?_);omega)|((with_reducible refine qNT ?_ ?_);omega)|((with_reducible refine qNF ?_ ?_);omega)|((with_reducible refine qU8 ?_ ?_);omega)|((with_reducible refine qU32 ?_ ?_);omega)|((with_reducible refine qU64 ?_ ?_);omega)|((with_reducible refine qU16 ?_ ?_);omega))
        conv => whnf
        refine ⟨(i + 1, q1), ⟨⟨by show i + 1 ≤ m.nW; omega, by rw [el]; exact hq1⟩, by show m.nW - (i + 1) < m.nW - i; omega⟩, ?_⟩
        rw [el]
        conv => whnf
        refine Le.nm [0, 1, 2, 3, 6] rfl ?_ ?_
        · refine ⟨⟨.inl rfl, Nat.le_refl _, fun _ _ => rfl⟩, ⟨.inl rfl, Nat.le_refl _, fun _ _ => rfl⟩, ⟨.inl rfl, Nat.le_refl _, fun _ _ => rfl⟩, ?_, ⟨rfl, rfl, rfl, fun q hq => ?_⟩, trivial⟩
          · repeat'(first|exact leT_empty|exact trivial|exact rfl|exact .inl rfl|exact .inr rfl|exact .inr ⟨rfl,rfl⟩|exact Nat.le_refl _|exact Nat.zero_le _|exact fun _ _=>rfl|assumption|refine And.intro ?_ ?_|exact ul0|exact ul1 rfl|exact ul2 rfl rfl|exact ul3 rfl rfl rfl)
          · rw [ew, etw]
            exact congrArg trgL (lay_next hk (fun _ _ => rfl) hq)
        · repeat'(first|exact leT_empty|exact trivial|exact rfl|exact .inl rfl|exact .inr rfl|exact .inr ⟨rfl,rfl⟩|exact Nat.le_refl _|exact Nat.zero_le _|exact fun _ _=>rfl|assumption|refine And.intro ?_ ?_|exact ul0|exact ul1 rfl|exact ul2 rfl rfl|exact ul3 rfl rfl rfl)
    · obtain rfl : i = m.nW := by omega
      have hrk : (rank m who = -1) ∨ (0 ≤ rank m who ∧ rank m who ≤ 3) := by
        have := hi0.size.2.1
        unfold Co.rank
        rcases first_cases m.nM (fun j => decide (m.M j = who)) with ⟨h1, _⟩ | ⟨j, h1, h2, _⟩
        · exact .inl h1
        · exact .inr (by omega)
      repeat((conv=>whnf);first|((with_reducible refine qS ?_ ?_ ?_);exact rfl;exact rfl)|with_reducible refine qB ?_|((with_reducible refine qI ?_ ?_);omega)|((with_reducible refine qDT ?_ ?_);omega)|((with_reducible refine qDF ?_ ?_);omega)|((with_reducible refine qNT ?_ ?_);omega)|((with_reducible refine qNF ?_ ?_);omega)|((with_reducible refine qU8 ?_ ?_);omega)|((with_reducible refine qU32 ?_ ?_);omega)|((with_reducible refine qU64 ?_ ?_);omega)|((with_reducible refine qU16 ?_ ?_);omega))
      conv => whnf
      refine rank_use (m := m) (c := c) hm ?_
      rcases hrk with hrk | hrk
      · have eR : rowL0 m who = wTrgs m who m.nW ++ [⟨5, watch1 m, 0, 1, 0, 0⟩] := by unfold rowL0; rw [if_neg (show ¬ 0 ≤ rankM m who from fun h => by have h : 0 ≤ rank m who := h; omega)]
        have eL : (rowL0 m who).length = 0 + 1 := by rw [eR]; simp only [List.length_append, hk]; rfl
        obtain ⟨B0, hB0⟩ : ∃ B, sortF (at0L (wTrgs m who m.nW)) 0 = B := ⟨_, rfl⟩
        obtain ⟨B1, hB1⟩ : ∃ B, insF (behF B0 0 ⟨5, watch1 m, 0, 1, 0, 0⟩) 0 = B := ⟨_, rfl⟩
        repeat((conv=>whnf);first|((with_reducible refine qS ?_ ?_ ?_);exact rfl;exact rfl)|with_reducible refine qB ?_|((with_reducible refine qI ?_ ?_);omega)|((with_reducible refine qDT ?_ ?_);omega)|((with_reducible refine qDF ?_ ?_);omega)|((with_reducible refine qNT ?_ ?_);omega)|((with_reducible refine qNF ?_ ?_);omega)|((with_reducible refine qU8 ?_ ?_);omega)|((with_reducible refine qU32 ?_ ?_);omega)|((with_reducible refine qU64 ?_ ?_);omega)|((with_reducible refine qU16 ?_ ?_);omega))
        conv => whnf
        refine watch_use (m := m) (c := c) hm ?_
        repeat((conv=>whnf);first|((with_reducible refine qS ?_ ?_ ?_);exact rfl;exact rfl)|with_reducible refine qB ?_|((with_reducible refine qI ?_ ?_);omega)|((with_reducible refine qDT ?_ ?_);omega)|((with_reducible refine qDF ?_ ?_);omega)|((with_reducible refine qNT ?_ ?_);omega)|((with_reducible refine qNF ?_ ?_);omega)|((with_reducible refine qU8 ?_ ?_);omega)|((with_reducible refine qU32 ?_ ?_);omega)|((with_reducible refine qU64 ?_ ?_);omega)|((with_reducible refine qU16 ?_ ?_);omega))
        conv => whnf
        refine laid_at (T := B0) (t := ⟨5, watch1 m, 0, 1, 0, 0⟩) (n := 0) (cap := 0) (nl := true) hB1 [0] (fun q => slT 4 (0 + 1) q false) (fun q => matH m [boxM m c, rowT B1 (0 + 1) q]) (by omega) (Nat.le_refl _) rfl ?_ ?_ (fun _ => rfl) (fun _ => rfl) (fun q1 hq1 => ?_)
        · repeat'(first|exact leT_empty|exact trivial|exact rfl|exact .inl rfl|exact .inr rfl|exact .inr ⟨rfl,rfl⟩|exact Nat.le_refl _|exact Nat.zero_le _|exact fun _ _=>rfl|assumption|refine And.intro ?_ ?_|exact ul0|exact ul1 rfl|exact ul2 rfl rfl|exact ul3 rfl rfl rfl)
        · repeat'(first|exact leT_empty|exact trivial|exact rfl|exact .inl rfl|exact .inr rfl|exact .inr ⟨rfl,rfl⟩|exact Nat.le_refl _|exact Nat.zero_le _|exact fun _ _=>rfl|assumption|refine And.intro ?_ ?_|exact ul0|exact ul1 rfl|exact ul2 rfl rfl|exact ul3 rfl rfl rfl)
        repeat((conv=>whnf);first|((with_reducible refine qS ?_ ?_ ?_);exact rfl;exact rfl)|with_reducible refine qB ?_|((with_reducible refine qI ?_ ?_);omega)|((with_reducible refine qDT ?_ ?_);omega)|((with_reducible refine qDF ?_ ?_);omega)|((with_reducible refine qNT ?_ ?_);omega)|((with_reducible refine qNF ?_ ?_);omega)|((with_reducible refine qU8 ?_ ?_);omega)|((with_reducible refine qU32 ?_ ?_);omega)|((with_reducible refine qU64 ?_ ?_);omega)|((with_reducible refine qU16 ?_ ?_);omega))
        conv => whnf
        have hBS : ∀ q, q < (rowL0 m who).length → B1 q = planF m who q := fun q hq => by
          rw [eL] at hq
          unfold planF
          rw [eL, eR]
          rw [← hB1, ← hB0]
          exact lay_next hk (fun _ _ => rfl) hq
        rw [eL] at hBS
        obtain ⟨S, hS⟩ : ∃ S, planF m who = S := ⟨_, rfl⟩
        rw [hS] at hBS
        refine Trim.fam q1 (by rw [eL]; exact hq1) ?_
        rw [if_pos h1, if_pos h1, eL, hS]
        refine Le.nm [0, 1, 2, 4] rfl ?_ ?_
        · refine ⟨⟨.inl rfl, Nat.le_refl _, fun _ _ => rfl⟩, ⟨.inl rfl, Nat.le_refl _, fun _ _ => rfl⟩, ⟨.inl rfl, Nat.le_refl _, fun _ _ => rfl⟩, ⟨rfl, rfl, rfl, fun q hq => ?_⟩, trivial⟩
          exact congrArg trgL (hBS q hq)
        · repeat'(first|exact leT_empty|exact trivial|exact rfl|exact .inl rfl|exact .inr rfl|exact .inr ⟨rfl,rfl⟩|exact Nat.le_refl _|exact Nat.zero_le _|exact fun _ _=>rfl|assumption|refine And.intro ?_ ?_|exact ul0|exact ul1 rfl|exact ul2 rfl rfl|exact ul3 rfl rfl rfl)
      · have eR : rowL0 m who = wTrgs m who m.nW ++ [⟨4, m.length, 0, 1, 0, 0⟩] ++ [⟨4, beat1 m (rank m who), 0, 1, 1, 0⟩] ++ [⟨5, watch1 m, 0, 1, 0, 0⟩] := by unfold rowL0; rw [if_pos (show 0 ≤ rankM m who from hrk.1)]; rfl
        have eL : (rowL0 m who).length = 0 + 1 + 1 + 1 := by rw [eR]; simp only [List.length_append, hk]; rfl
        obtain ⟨B0, hB0⟩ : ∃ B, sortF (at0L (wTrgs m who m.nW)) 0 = B := ⟨_, rfl⟩
        obtain ⟨B1, hB1⟩ : ∃ B, insF (behF B0 0 ⟨4, m.length, 0, 1, 0, 0⟩) 0 = B := ⟨_, rfl⟩
        obtain ⟨B2, hB2⟩ : ∃ B, insF (behF B1 (0 + 1) ⟨4, beat1 m (rank m who), 0, 1, 1, 0⟩) (0 + 1) = B := ⟨_, rfl⟩
        obtain ⟨B3, hB3⟩ : ∃ B, insF (behF B2 (0 + 1 + 1) ⟨5, watch1 m, 0, 1, 0, 0⟩) (0 + 1 + 1) = B := ⟨_, rfl⟩
        repeat((conv=>whnf);first|((with_reducible refine qS ?_ ?_ ?_);exact rfl;exact rfl)|with_reducible refine qB ?_|((with_reducible refine qI ?_ ?_);omega)|((with_reducible refine qDT ?_ ?_);omega)|((with_reducible refine qDF ?_ ?_);omega)|((with_reducible refine qNT ?_ ?_);omega)|((with_reducible refine qNF ?_ ?_);omega)|((with_reducible refine qU8 ?_ ?_);omega)|((with_reducible refine qU32 ?_ ?_);omega)|((with_reducible refine qU64 ?_ ?_);omega)|((with_reducible refine qU16 ?_ ?_);omega))
        conv => whnf
        refine laid_at (T := B0) (t := ⟨4, m.length, 0, 1, 0, 0⟩) (n := 0) (cap := 0) (nl := true) hB1 [0] (fun q => slT 4 (0 + 1) q false) (fun q => matH m [boxM m c, rowT B1 (0 + 1) q]) (by omega) (Nat.le_refl _) rfl ?_ ?_ (fun _ => rfl) (fun _ => rfl) (fun q1 hq1 => ?_)
        · repeat'(first|exact leT_empty|exact trivial|exact rfl|exact .inl rfl|exact .inr rfl|exact .inr ⟨rfl,rfl⟩|exact Nat.le_refl _|exact Nat.zero_le _|exact fun _ _=>rfl|assumption|refine And.intro ?_ ?_|exact ul0|exact ul1 rfl|exact ul2 rfl rfl|exact ul3 rfl rfl rfl)
        · repeat'(first|exact leT_empty|exact trivial|exact rfl|exact .inl rfl|exact .inr rfl|exact .inr ⟨rfl,rfl⟩|exact Nat.le_refl _|exact Nat.zero_le _|exact fun _ _=>rfl|assumption|refine And.intro ?_ ?_|exact ul0|exact ul1 rfl|exact ul2 rfl rfl|exact ul3 rfl rfl rfl)
        repeat((conv=>whnf);first|((with_reducible refine qS ?_ ?_ ?_);exact rfl;exact rfl)|with_reducible refine qB ?_|((with_reducible refine qI ?_ ?_);omega)|((with_reducible refine qDT ?_ ?_);omega)|((with_reducible refine qDF ?_ ?_);omega)|((with_reducible refine qNT ?_ ?_);omega)|((with_reducible refine qNF ?_ ?_);omega)|((with_reducible refine qU8 ?_ ?_);omega)|((with_reducible refine qU32 ?_ ?_);omega)|((with_reducible refine qU64 ?_ ?_);omega)|((with_reducible refine qU16 ?_ ?_);omega))
        conv => whnf
        refine beat_use (m := m) (c := c) hm ?_
        repeat((conv=>whnf);first|((with_reducible refine qS ?_ ?_ ?_);exact rfl;exact rfl)|with_reducible refine qB ?_|((with_reducible refine qI ?_ ?_);omega)|((with_reducible refine qDT ?_ ?_);omega)|((with_reducible refine qDF ?_ ?_);omega)|((with_reducible refine qNT ?_ ?_);omega)|((with_reducible refine qNF ?_ ?_);omega)|((with_reducible refine qU8 ?_ ?_);omega)|((with_reducible refine qU32 ?_ ?_);omega)|((with_reducible refine qU64 ?_ ?_);omega)|((with_reducible refine qU16 ?_ ?_);omega))
        conv => whnf
        refine laid_at (T := B1) (t := ⟨4, beat1 m (rank m who), 0, 1, 1, 0⟩) (n := (0 + 1)) (cap := q1) (nl := false) hB2 [4] (fun q => slT 5 ((0 + 1) + 1) q false) (fun q => matH m [boxM m c, rowT B1 (0 + 1) q1, rowT B2 ((0 + 1) + 1) q]) (by omega) hq1 rfl ?_ ?_ (fun _ => rfl) (fun _ => rfl) (fun q2 hq2 => ?_)
        · repeat'(first|exact leT_empty|exact trivial|exact rfl|exact .inl rfl|exact .inr rfl|exact .inr ⟨rfl,rfl⟩|exact Nat.le_refl _|exact Nat.zero_le _|exact fun _ _=>rfl|assumption|refine And.intro ?_ ?_|exact ul0|exact ul1 rfl|exact ul2 rfl rfl|exact ul3 rfl rfl rfl)
        · repeat'(first|exact leT_empty|exact trivial|exact rfl|exact .inl rfl|exact .inr rfl|exact .inr ⟨rfl,rfl⟩|exact Nat.le_refl _|exact Nat.zero_le _|exact fun _ _=>rfl|assumption|refine And.intro ?_ ?_|exact ul0|exact ul1 rfl|exact ul2 rfl rfl|exact ul3 rfl rfl rfl)
        repeat((conv=>whnf);first|((with_reducible refine qS ?_ ?_ ?_);exact rfl;exact rfl)|with_reducible refine qB ?_|((with_reducible refine qI ?_ ?_);omega)|((with_reducible refine qDT ?_ ?_);omega)|((with_reducible refine qDF ?_ ?_);omega)|((with_reducible refine qNT ?_ ?_);omega)|((with_reducible refine qNF ?_ ?_);omega)|((with_reducible refine qU8 ?_ ?_);omega)|((with_reducible refine qU32 ?_ ?_);omega)|((with_reducible refine qU64 ?_ ?_);omega)|((with_reducible refine qU16 ?_ ?_);omega))
        conv => whnf
        refine watch_use (m := m) (c := c) hm ?_
        repeat((conv=>whnf);first|((with_reducible refine qS ?_ ?_ ?_);exact rfl;exact rfl)|with_reducible refine qB ?_|((with_reducible refine qI ?_ ?_);omega)|((with_reducible refine qDT ?_ ?_);omega)|((with_reducible refine qDF ?_ ?_);omega)|((with_reducible refine qNT ?_ ?_);omega)|((with_reducible refine qNF ?_ ?_);omega)|((with_reducible refine qU8 ?_ ?_);omega)|((with_reducible refine qU32 ?_ ?_);omega)|((with_reducible refine qU64 ?_ ?_);omega)|((with_reducible refine qU16 ?_ ?_);omega))
        conv => whnf
        refine laid_at (T := B2) (t := ⟨5, watch1 m, 0, 1, 0, 0⟩) (n := (0 + 1 + 1)) (cap := q2) (nl := false) hB3 [5] (fun q => slT 6 ((0 + 1 + 1) + 1) q false) (fun q => matH m [boxM m c, rowT B1 (0 + 1) q1, rowT B2 (0 + 1 + 1) q2, rowT B3 ((0 + 1 + 1) + 1) q]) (by omega) hq2 rfl ?_ ?_ (fun _ => rfl) (fun _ => rfl) (fun q3 hq3 => ?_)
        · repeat'(first|exact leT_empty|exact trivial|exact rfl|exact .inl rfl|exact .inr rfl|exact .inr ⟨rfl,rfl⟩|exact Nat.le_refl _|exact Nat.zero_le _|exact fun _ _=>rfl|assumption|refine And.intro ?_ ?_|exact ul0|exact ul1 rfl|exact ul2 rfl rfl|exact ul3 rfl rfl rfl)
        · repeat'(first|exact leT_empty|exact trivial|exact rfl|exact .inl rfl|exact .inr rfl|exact .inr ⟨rfl,rfl⟩|exact Nat.le_refl _|exact Nat.zero_le _|exact fun _ _=>rfl|assumption|refine And.intro ?_ ?_|exact ul0|exact ul1 rfl|exact ul2 rfl rfl|exact ul3 rfl rfl rfl)
        repeat((conv=>whnf);first|((with_reducible refine qS ?_ ?_ ?_);exact rfl;exact rfl)|with_reducible refine qB ?_|((with_reducible refine qI ?_ ?_);omega)|((with_reducible refine qDT ?_ ?_);omega)|((with_reducible refine qDF ?_ ?_);omega)|((with_reducible refine qNT ?_ ?_);omega)|((with_reducible refine qNF ?_ ?_);omega)|((with_reducible refine qU8 ?_ ?_);omega)|((with_reducible refine qU32 ?_ ?_);omega)|((with_reducible refine qU64 ?_ ?_);omega)|((with_reducible refine qU16 ?_ ?_);omega))
        conv => whnf
        have hBS : ∀ q, q < (rowL0 m who).length → B3 q = planF m who q := fun q hq => by
          rw [eL] at hq
          unfold planF
          rw [eL, eR]
          exact lay3 hk hB0 hB1 hB2 hB3 q hq
        rw [eL] at hBS
        obtain ⟨S, hS⟩ : ∃ S, planF m who = S := ⟨_, rfl⟩
        rw [hS] at hBS
        refine Trim.fam q3 (by rw [eL]; exact hq3) ?_
        rw [if_pos h1, if_pos h1, eL, hS]
        refine Le.nm [0, 1, 2, 6] rfl ?_ ?_
        · refine ⟨⟨.inl rfl, Nat.le_refl _, fun _ _ => rfl⟩, ⟨.inl rfl, Nat.le_refl _, fun _ _ => rfl⟩, ⟨.inl rfl, Nat.le_refl _, fun _ _ => rfl⟩, ⟨rfl, rfl, rfl, fun q hq => ?_⟩, trivial⟩
          exact congrArg trgL (hBS q hq)
        · repeat'(first|exact leT_empty|exact trivial|exact rfl|exact .inl rfl|exact .inr rfl|exact .inr ⟨rfl,rfl⟩|exact Nat.le_refl _|exact Nat.zero_le _|exact fun _ _=>rfl|assumption|refine And.intro ?_ ?_|exact ul0|exact ul1 rfl|exact ul2 rfl rfl|exact ul3 rfl rfl rfl)
  · conv => whnf
    refine cD (fun h5 => ?_) (fun h5 => ?_)
    · have hw := hP.w (i := i) (by omega)
      have hwp := hw.1
      unfold winP at hwp
      have ew : wTrgs m who (i + 1) = if (m.W i).kind = 3 then wTrgs m who i else wTrgs m who i ++ [trgW m who (m.W i)] := rfl
      have etw : trgW m who (m.W i) = if (m.W i).kind = 2 then ⟨2, (m.W i).st, (m.W i).cyc, (m.W i).rep, (m.W i).msg, (m.W i).en - Pu.step m⟩ else if (m.G (m.W i).msg.toNat).ow = who then ⟨1, (m.W i).st, (m.W i).cyc, (m.W i).rep, (m.W i).msg, (m.W i).st + m.enable⟩ else ⟨3, (m.W i).en - 1, (m.W i).cyc, (m.W i).rep, (m.W i).msg, 0⟩ := rfl
      repeat((conv=>whnf);first|((with_reducible refine qS ?_ ?_ ?_);exact rfl;exact rfl)|with_reducible refine qB ?_|((with_reducible refine qI ?_ ?_);omega)|((with_reducible refine qDT ?_ ?_);omega)|((with_reducible refine qDF ?_ ?_);omega)|((with_reducible refine qNT ?_ ?_);omega)|((with_reducible refine qNF ?_ ?_);omega)|((with_reducible refine qU8 ?_ ?_);omega)|((with_reducible refine qU32 ?_ ?_);omega)|((with_reducible refine qU64 ?_ ?_);omega)|((with_reducible refine qU16 ?_ ?_);omega))
      conv => whnf
      try rw [zi i]
      by_cases k3 : (m.W i).kind = 3
      · rw [if_pos k3] at ew
        repeat((conv=>whnf);first|((with_reducible refine qS ?_ ?_ ?_);exact rfl;exact rfl)|with_reducible refine qB ?_|((with_reducible refine qI ?_ ?_);omega)|((with_reducible refine qDT ?_ ?_);omega)|((with_reducible refine qDF ?_ ?_);omega)|((with_reducible refine qNT ?_ ?_);omega)|((with_reducible refine qNF ?_ ?_);omega)|((with_reducible refine qU8 ?_ ?_);omega)|((with_reducible refine qU32 ?_ ?_);omega)|((with_reducible refine qU64 ?_ ?_);omega)|((with_reducible refine qU16 ?_ ?_);omega))
        conv => whnf
        try rw [zi i]
        repeat((conv=>whnf);first|((with_reducible refine qS ?_ ?_ ?_);exact rfl;exact rfl)|with_reducible refine qB ?_|((with_reducible refine qI ?_ ?_);omega)|((with_reducible refine qDT ?_ ?_);omega)|((with_reducible refine qDF ?_ ?_);omega)|((with_reducible refine qNT ?_ ?_);omega)|((with_reducible refine qNF ?_ ?_);omega)|((with_reducible refine qU8 ?_ ?_);omega)|((with_reducible refine qU32 ?_ ?_);omega)|((with_reducible refine qU64 ?_ ?_);omega)|((with_reducible refine qU16 ?_ ?_);omega))
        conv => whnf
        refine ⟨(i + 1, cap), ⟨⟨by show i + 1 ≤ m.nW; omega, by rw [ew, hk]; omega⟩, by show m.nW - (i + 1) < m.nW - i; omega⟩, ?_⟩
        rw [ew, hk]
        conv => whnf
        refine Le.id rfl ?_ ?_
        all_goals(repeat'(first|exact leT_empty|exact trivial|exact rfl|exact .inl rfl|exact .inr rfl|exact .inr ⟨rfl,rfl⟩|exact Nat.le_refl _|exact Nat.zero_le _|exact fun _ _=>rfl|assumption|refine And.intro ?_ ?_|exact ul0|exact ul1 rfl|exact ul2 rfl rfl|exact ul3 rfl rfl rfl))
      rw [if_neg k3] at ew
      have el : (wTrgs m who (i + 1)).length = (k + 1) + 1 := by rw [ew, List.length_append, hk]; rfl
      by_cases k2 : (m.W i).kind = 2
      · rw [if_pos k2] at etw
        repeat((conv=>whnf);first|((with_reducible refine qS ?_ ?_ ?_);exact rfl;exact rfl)|with_reducible refine qB ?_|((with_reducible refine qI ?_ ?_);omega)|((with_reducible refine qDT ?_ ?_);omega)|((with_reducible refine qDF ?_ ?_);omega)|((with_reducible refine qNT ?_ ?_);omega)|((with_reducible refine qNF ?_ ?_);omega)|((with_reducible refine qU8 ?_ ?_);omega)|((with_reducible refine qU32 ?_ ?_);omega)|((with_reducible refine qU64 ?_ ?_);omega)|((with_reducible refine qU16 ?_ ?_);omega))
        conv => whnf
        try rw [zi i]
        repeat((conv=>whnf);first|((with_reducible refine qS ?_ ?_ ?_);exact rfl;exact rfl)|with_reducible refine qB ?_|((with_reducible refine qI ?_ ?_);omega)|((with_reducible refine qDT ?_ ?_);omega)|((with_reducible refine qDF ?_ ?_);omega)|((with_reducible refine qNT ?_ ?_);omega)|((with_reducible refine qNF ?_ ?_);omega)|((with_reducible refine qU8 ?_ ?_);omega)|((with_reducible refine qU32 ?_ ?_);omega)|((with_reducible refine qU64 ?_ ?_);omega)|((with_reducible refine qU16 ?_ ?_);omega))
        conv => whnf
        refine step_use (m := m) (c := c) hm ?_
        repeat((conv=>whnf);first|((with_reducible refine qS ?_ ?_ ?_);exact rfl;exact rfl)|with_reducible refine qB ?_|((with_reducible refine qI ?_ ?_);omega)|((with_reducible refine qDT ?_ ?_);omega)|((with_reducible refine qDF ?_ ?_);omega)|((with_reducible refine qNT ?_ ?_);omega)|((with_reducible refine qNF ?_ ?_);omega)|((with_reducible refine qU8 ?_ ?_);omega)|((with_reducible refine qU32 ?_ ?_);omega)|((with_reducible refine qU64 ?_ ?_);omega)|((with_reducible refine qU16 ?_ ?_);omega))
        conv => whnf
        refine laid_ask (T := (sortF (at0L (wTrgs m who i)) (k + 1))) (n := (k + 1)) (cap := cap) (nl := false) (t := ⟨2, (m.W i).st, (m.W i).cyc, (m.W i).rep, (m.W i).msg, (m.W i).en - Pu.step m⟩) [4] (fun q => slT 7 ((k + 1) + 1) q false) (fun q => matH m [boxM m c, rowT (sortF (at0L (wTrgs m who i)) (k + 1)) (k + 1) cap, boxW (m.W i), boxT ⟨2, (m.W i).st, (m.W i).cyc, (m.W i).rep, (m.W i).msg, (m.W i).en - Pu.step m⟩, rowT (insF (behF (sortF (at0L (wTrgs m who i)) (k + 1)) (k + 1) ⟨2, (m.W i).st, (m.W i).cyc, (m.W i).rep, (m.W i).msg, (m.W i).en - Pu.step m⟩) (k + 1)) ((k + 1) + 1) q]) (by omega) hl rfl ?_ ?_ (fun _ => rfl) (fun _ => rfl) (fun q1 hq1 => ?_)
        · repeat'(first|exact leT_empty|exact trivial|exact rfl|exact .inl rfl|exact .inr rfl|exact .inr ⟨rfl,rfl⟩|exact Nat.le_refl _|exact Nat.zero_le _|exact fun _ _=>rfl|assumption|refine And.intro ?_ ?_|exact ul0|exact ul1 rfl|exact ul2 rfl rfl|exact ul3 rfl rfl rfl)
        · repeat'(first|exact leT_empty|exact trivial|exact rfl|exact .inl rfl|exact .inr rfl|exact .inr ⟨rfl,rfl⟩|exact Nat.le_refl _|exact Nat.zero_le _|exact fun _ _=>rfl|assumption|refine And.intro ?_ ?_|exact ul0|exact ul1 rfl|exact ul2 rfl rfl|exact ul3 rfl rfl rfl)
        repeat((conv=>whnf);first|((with_reducible refine qS ?_ ?_ ?_);exact rfl;exact rfl)|with_reducible refine qB ?_|((with_reducible refine qI ?_ ?_);omega)|((with_reducible refine qDT ?_ ?_);omega)|((with_reducible refine qDF ?_ ?_);omega)|((with_reducible refine qNT ?_ ?_);omega)|((with_reducible refine qNF ?_ ?_);omega)|((with_reducible refine qU8 ?_ ?_);omega)|((with_reducible refine qU32 ?_ ?_);omega)|((with_reducible refine qU64 ?_ ?_);omega)|((with_reducible refine qU16 ?_ ?_);omega))
        conv => whnf
        refine ⟨(i + 1, q1), ⟨⟨by show i + 1 ≤ m.nW; omega, by rw [el]; exact hq1⟩, by show m.nW - (i + 1) < m.nW - i; omega⟩, ?_⟩
        rw [el]
        conv => whnf
        refine Le.nm [0, 1, 2, 3, 7] rfl ?_ ?_
        · refine ⟨⟨.inl rfl, Nat.le_refl _, fun _ _ => rfl⟩, ⟨.inl rfl, Nat.le_refl _, fun _ _ => rfl⟩, ⟨.inl rfl, Nat.le_refl _, fun _ _ => rfl⟩, ?_, ⟨rfl, rfl, rfl, fun q hq => ?_⟩, trivial⟩
          · repeat'(first|exact leT_empty|exact trivial|exact rfl|exact .inl rfl|exact .inr rfl|exact .inr ⟨rfl,rfl⟩|exact Nat.le_refl _|exact Nat.zero_le _|exact fun _ _=>rfl|assumption|refine And.intro ?_ ?_|exact ul0|exact ul1 rfl|exact ul2 rfl rfl|exact ul3 rfl rfl rfl)
          · rw [ew, etw]
            exact congrArg trgL (lay_next hk (fun _ _ => rfl) hq)
        · repeat'(first|exact leT_empty|exact trivial|exact rfl|exact .inl rfl|exact .inr rfl|exact .inr ⟨rfl,rfl⟩|exact Nat.le_refl _|exact Nat.zero_le _|exact fun _ _=>rfl|assumption|refine And.intro ?_ ?_|exact ul0|exact ul1 rfl|exact ul2 rfl rfl|exact ul3 rfl rfl rfl)
      rw [if_neg k2] at etw
      have hg := (hw.2.1 (by omega)).1
      by_cases k1 : (m.G (m.W i).msg.toNat).ow = who
      · rw [if_pos k1] at etw
        repeat((conv=>whnf);first|((with_reducible refine qS ?_ ?_ ?_);exact rfl;exact rfl)|with_reducible refine qB ?_|((with_reducible refine qI ?_ ?_);omega)|((with_reducible refine qDT ?_ ?_);omega)|((with_reducible refine qDF ?_ ?_);omega)|((with_reducible refine qNT ?_ ?_);omega)|((with_reducible refine qNF ?_ ?_);omega)|((with_reducible refine qU8 ?_ ?_);omega)|((with_reducible refine qU32 ?_ ?_);omega)|((with_reducible refine qU64 ?_ ?_);omega)|((with_reducible refine qU16 ?_ ?_);omega))
        conv => whnf
        try rw [zi i]
        repeat((conv=>whnf);first|((with_reducible refine qS ?_ ?_ ?_);exact rfl;exact rfl)|with_reducible refine qB ?_|((with_reducible refine qI ?_ ?_);omega)|((with_reducible refine qDT ?_ ?_);omega)|((with_reducible refine qDF ?_ ?_);omega)|((with_reducible refine qNT ?_ ?_);omega)|((with_reducible refine qNF ?_ ?_);omega)|((with_reducible refine qU8 ?_ ?_);omega)|((with_reducible refine qU32 ?_ ?_);omega)|((with_reducible refine qU64 ?_ ?_);omega)|((with_reducible refine qU16 ?_ ?_);omega))
        conv => whnf
        rw [za]
        refine cDT k1 ?_
        repeat((conv=>whnf);first|((with_reducible refine qS ?_ ?_ ?_);exact rfl;exact rfl)|with_reducible refine qB ?_|((with_reducible refine qI ?_ ?_);omega)|((with_reducible refine qDT ?_ ?_);omega)|((with_reducible refine qDF ?_ ?_);omega)|((with_reducible refine qNT ?_ ?_);omega)|((with_reducible refine qNF ?_ ?_);omega)|((with_reducible refine qU8 ?_ ?_);omega)|((with_reducible refine qU32 ?_ ?_);omega)|((with_reducible refine qU64 ?_ ?_);omega)|((with_reducible refine qU16 ?_ ?_);omega))
        conv => whnf
        refine laid_ask (T := (sortF (at0L (wTrgs m who i)) (k + 1))) (n := (k + 1)) (cap := cap) (nl := false) (t := ⟨1, (m.W i).st, (m.W i).cyc, (m.W i).rep, (m.W i).msg, (m.W i).st + m.enable⟩) [4] (fun q => slT 7 ((k + 1) + 1) q false) (fun q => matH m [boxM m c, rowT (sortF (at0L (wTrgs m who i)) (k + 1)) (k + 1) cap, boxW (m.W i), boxT ⟨1, (m.W i).st, (m.W i).cyc, (m.W i).rep, (m.W i).msg, (m.W i).st + m.enable⟩, rowT (insF (behF (sortF (at0L (wTrgs m who i)) (k + 1)) (k + 1) ⟨1, (m.W i).st, (m.W i).cyc, (m.W i).rep, (m.W i).msg, (m.W i).st + m.enable⟩) (k + 1)) ((k + 1) + 1) q]) (by omega) hl rfl ?_ ?_ (fun _ => rfl) (fun _ => rfl) (fun q1 hq1 => ?_)
        · repeat'(first|exact leT_empty|exact trivial|exact rfl|exact .inl rfl|exact .inr rfl|exact .inr ⟨rfl,rfl⟩|exact Nat.le_refl _|exact Nat.zero_le _|exact fun _ _=>rfl|assumption|refine And.intro ?_ ?_|exact ul0|exact ul1 rfl|exact ul2 rfl rfl|exact ul3 rfl rfl rfl)
        · repeat'(first|exact leT_empty|exact trivial|exact rfl|exact .inl rfl|exact .inr rfl|exact .inr ⟨rfl,rfl⟩|exact Nat.le_refl _|exact Nat.zero_le _|exact fun _ _=>rfl|assumption|refine And.intro ?_ ?_|exact ul0|exact ul1 rfl|exact ul2 rfl rfl|exact ul3 rfl rfl rfl)
        repeat((conv=>whnf);first|((with_reducible refine qS ?_ ?_ ?_);exact rfl;exact rfl)|with_reducible refine qB ?_|((with_reducible refine qI ?_ ?_);omega)|((with_reducible refine qDT ?_ ?_);omega)|((with_reducible refine qDF ?_ ?_);omega)|((with_reducible refine qNT ?_ ?_);omega)|((with_reducible refine qNF ?_ ?_);omega)|((with_reducible refine qU8 ?_ ?_);omega)|((with_reducible refine qU32 ?_ ?_);omega)|((with_reducible refine qU64 ?_ ?_);omega)|((with_reducible refine qU16 ?_ ?_);omega))
        conv => whnf
        refine ⟨(i + 1, q1), ⟨⟨by show i + 1 ≤ m.nW; omega, by rw [el]; exact hq1⟩, by show m.nW - (i + 1) < m.nW - i; omega⟩, ?_⟩
        rw [el]
        conv => whnf
        refine Le.nm [0, 1, 2, 3, 7] rfl ?_ ?_
        · refine ⟨⟨.inl rfl, Nat.le_refl _, fun _ _ => rfl⟩, ⟨.inl rfl, Nat.le_refl _, fun _ _ => rfl⟩, ⟨.inl rfl, Nat.le_refl _, fun _ _ => rfl⟩, ?_, ⟨rfl, rfl, rfl, fun q hq => ?_⟩, trivial⟩
          · repeat'(first|exact leT_empty|exact trivial|exact rfl|exact .inl rfl|exact .inr rfl|exact .inr ⟨rfl,rfl⟩|exact Nat.le_refl _|exact Nat.zero_le _|exact fun _ _=>rfl|assumption|refine And.intro ?_ ?_|exact ul0|exact ul1 rfl|exact ul2 rfl rfl|exact ul3 rfl rfl rfl)
          · rw [ew, etw]
            exact congrArg trgL (lay_next hk (fun _ _ => rfl) hq)
        · repeat'(first|exact leT_empty|exact trivial|exact rfl|exact .inl rfl|exact .inr rfl|exact .inr ⟨rfl,rfl⟩|exact Nat.le_refl _|exact Nat.zero_le _|exact fun _ _=>rfl|assumption|refine And.intro ?_ ?_|exact ul0|exact ul1 rfl|exact ul2 rfl rfl|exact ul3 rfl rfl rfl)
      · rw [if_neg k1] at etw
        repeat((conv=>whnf);first|((with_reducible refine qS ?_ ?_ ?_);exact rfl;exact rfl)|with_reducible refine qB ?_|((with_reducible refine qI ?_ ?_);omega)|((with_reducible refine qDT ?_ ?_);omega)|((with_reducible refine qDF ?_ ?_);omega)|((with_reducible refine qNT ?_ ?_);omega)|((with_reducible refine qNF ?_ ?_);omega)|((with_reducible refine qU8 ?_ ?_);omega)|((with_reducible refine qU32 ?_ ?_);omega)|((with_reducible refine qU64 ?_ ?_);omega)|((with_reducible refine qU16 ?_ ?_);omega))
        conv => whnf
        try rw [zi i]
        repeat((conv=>whnf);first|((with_reducible refine qS ?_ ?_ ?_);exact rfl;exact rfl)|with_reducible refine qB ?_|((with_reducible refine qI ?_ ?_);omega)|((with_reducible refine qDT ?_ ?_);omega)|((with_reducible refine qDF ?_ ?_);omega)|((with_reducible refine qNT ?_ ?_);omega)|((with_reducible refine qNF ?_ ?_);omega)|((with_reducible refine qU8 ?_ ?_);omega)|((with_reducible refine qU32 ?_ ?_);omega)|((with_reducible refine qU64 ?_ ?_);omega)|((with_reducible refine qU16 ?_ ?_);omega))
        conv => whnf
        rw [za]
        refine cDF k1 ?_
        repeat((conv=>whnf);first|((with_reducible refine qS ?_ ?_ ?_);exact rfl;exact rfl)|with_reducible refine qB ?_|((with_reducible refine qI ?_ ?_);omega)|((with_reducible refine qDT ?_ ?_);omega)|((with_reducible refine qDF ?_ ?_);omega)|((with_reducible refine qNT ?_ ?_);omega)|((with_reducible refine qNF ?_ ?_);omega)|((with_reducible refine qU8 ?_ ?_);omega)|((with_reducible refine qU32 ?_ ?_);omega)|((with_reducible refine qU64 ?_ ?_);omega)|((with_reducible refine qU16 ?_ ?_);omega))
        conv => whnf
        refine laid_ask (T := (sortF (at0L (wTrgs m who i)) (k + 1))) (n := (k + 1)) (cap := cap) (nl := false) (t := ⟨3, (m.W i).en - 1, (m.W i).cyc, (m.W i).rep, (m.W i).msg, 0⟩) [4] (fun q => slT 7 ((k + 1) + 1) q false) (fun q => matH m [boxM m c, rowT (sortF (at0L (wTrgs m who i)) (k + 1)) (k + 1) cap, boxW (m.W i), boxT ⟨3, (m.W i).en - 1, (m.W i).cyc, (m.W i).rep, (m.W i).msg, 0⟩, rowT (insF (behF (sortF (at0L (wTrgs m who i)) (k + 1)) (k + 1) ⟨3, (m.W i).en - 1, (m.W i).cyc, (m.W i).rep, (m.W i).msg, 0⟩) (k + 1)) ((k + 1) + 1) q]) (by omega) hl rfl ?_ ?_ (fun _ => rfl) (fun _ => rfl) (fun q1 hq1 => ?_)
        · repeat'(first|exact leT_empty|exact trivial|exact rfl|exact .inl rfl|exact .inr rfl|exact .inr ⟨rfl,rfl⟩|exact Nat.le_refl _|exact Nat.zero_le _|exact fun _ _=>rfl|assumption|refine And.intro ?_ ?_|exact ul0|exact ul1 rfl|exact ul2 rfl rfl|exact ul3 rfl rfl rfl)
        · repeat'(first|exact leT_empty|exact trivial|exact rfl|exact .inl rfl|exact .inr rfl|exact .inr ⟨rfl,rfl⟩|exact Nat.le_refl _|exact Nat.zero_le _|exact fun _ _=>rfl|assumption|refine And.intro ?_ ?_|exact ul0|exact ul1 rfl|exact ul2 rfl rfl|exact ul3 rfl rfl rfl)
        repeat((conv=>whnf);first|((with_reducible refine qS ?_ ?_ ?_);exact rfl;exact rfl)|with_reducible refine qB ?_|((with_reducible refine qI ?_ ?_);omega)|((with_reducible refine qDT ?_ ?_);omega)|((with_reducible refine qDF ?_ ?_);omega)|((with_reducible refine qNT ?_ ?_);omega)|((with_reducible refine qNF ?_ ?_);omega)|((with_reducible refine qU8 ?_ ?_);omega)|((with_reducible refine qU32 ?_ ?_);omega)|((with_reducible refine qU64 ?_ ?_);omega)|((with_reducible refine qU16 ?_ ?_);omega))
        conv => whnf
        refine ⟨(i + 1, q1), ⟨⟨by show i + 1 ≤ m.nW; omega, by rw [el]; exact hq1⟩, by show m.nW - (i + 1) < m.nW - i; omega⟩, ?_⟩
        rw [el]
        conv => whnf
        refine Le.nm [0, 1, 2, 3, 7] rfl ?_ ?_
        · refine ⟨⟨.inl rfl, Nat.le_refl _, fun _ _ => rfl⟩, ⟨.inl rfl, Nat.le_refl _, fun _ _ => rfl⟩, ⟨.inl rfl, Nat.le_refl _, fun _ _ => rfl⟩, ?_, ⟨rfl, rfl, rfl, fun q hq => ?_⟩, trivial⟩
          · repeat'(first|exact leT_empty|exact trivial|exact rfl|exact .inl rfl|exact .inr rfl|exact .inr ⟨rfl,rfl⟩|exact Nat.le_refl _|exact Nat.zero_le _|exact fun _ _=>rfl|assumption|refine And.intro ?_ ?_|exact ul0|exact ul1 rfl|exact ul2 rfl rfl|exact ul3 rfl rfl rfl)
          · rw [ew, etw]
            exact congrArg trgL (lay_next hk (fun _ _ => rfl) hq)
        · repeat'(first|exact leT_empty|exact trivial|exact rfl|exact .inl rfl|exact .inr rfl|exact .inr ⟨rfl,rfl⟩|exact Nat.le_refl _|exact Nat.zero_le _|exact fun _ _=>rfl|assumption|refine And.intro ?_ ?_|exact ul0|exact ul1 rfl|exact ul2 rfl rfl|exact ul3 rfl rfl rfl)
    · obtain rfl : i = m.nW := by omega
      have hrk : (rank m who = -1) ∨ (0 ≤ rank m who ∧ rank m who ≤ 3) := by
        have := hi0.size.2.1
        unfold Co.rank
        rcases first_cases m.nM (fun j => decide (m.M j = who)) with ⟨h1, _⟩ | ⟨j, h1, h2, _⟩
        · exact .inl h1
        · exact .inr (by omega)
      repeat((conv=>whnf);first|((with_reducible refine qS ?_ ?_ ?_);exact rfl;exact rfl)|with_reducible refine qB ?_|((with_reducible refine qI ?_ ?_);omega)|((with_reducible refine qDT ?_ ?_);omega)|((with_reducible refine qDF ?_ ?_);omega)|((with_reducible refine qNT ?_ ?_);omega)|((with_reducible refine qNF ?_ ?_);omega)|((with_reducible refine qU8 ?_ ?_);omega)|((with_reducible refine qU32 ?_ ?_);omega)|((with_reducible refine qU64 ?_ ?_);omega)|((with_reducible refine qU16 ?_ ?_);omega))
      conv => whnf
      refine rank_use (m := m) (c := c) hm ?_
      rcases hrk with hrk | hrk
      · have eR : rowL0 m who = wTrgs m who m.nW ++ [⟨5, watch1 m, 0, 1, 0, 0⟩] := by unfold rowL0; rw [if_neg (show ¬ 0 ≤ rankM m who from fun h => by have h : 0 ≤ rank m who := h; omega)]
        have eL : (rowL0 m who).length = (k + 1) + 1 := by rw [eR]; simp only [List.length_append, hk]; rfl
        obtain ⟨B0, hB0⟩ : ∃ B, sortF (at0L (wTrgs m who m.nW)) (k + 1) = B := ⟨_, rfl⟩
        obtain ⟨B1, hB1⟩ : ∃ B, insF (behF B0 (k + 1) ⟨5, watch1 m, 0, 1, 0, 0⟩) (k + 1) = B := ⟨_, rfl⟩
        rw [hB0]
        repeat((conv=>whnf);first|((with_reducible refine qS ?_ ?_ ?_);exact rfl;exact rfl)|with_reducible refine qB ?_|((with_reducible refine qI ?_ ?_);omega)|((with_reducible refine qDT ?_ ?_);omega)|((with_reducible refine qDF ?_ ?_);omega)|((with_reducible refine qNT ?_ ?_);omega)|((with_reducible refine qNF ?_ ?_);omega)|((with_reducible refine qU8 ?_ ?_);omega)|((with_reducible refine qU32 ?_ ?_);omega)|((with_reducible refine qU64 ?_ ?_);omega)|((with_reducible refine qU16 ?_ ?_);omega))
        conv => whnf
        refine watch_use (m := m) (c := c) hm ?_
        repeat((conv=>whnf);first|((with_reducible refine qS ?_ ?_ ?_);exact rfl;exact rfl)|with_reducible refine qB ?_|((with_reducible refine qI ?_ ?_);omega)|((with_reducible refine qDT ?_ ?_);omega)|((with_reducible refine qDF ?_ ?_);omega)|((with_reducible refine qNT ?_ ?_);omega)|((with_reducible refine qNF ?_ ?_);omega)|((with_reducible refine qU8 ?_ ?_);omega)|((with_reducible refine qU32 ?_ ?_);omega)|((with_reducible refine qU64 ?_ ?_);omega)|((with_reducible refine qU16 ?_ ?_);omega))
        conv => whnf
        refine laid_at (T := B0) (t := ⟨5, watch1 m, 0, 1, 0, 0⟩) (n := (k + 1)) (cap := cap) (nl := false) hB1 [4] (fun q => slT 5 ((k + 1) + 1) q false) (fun q => matH m [boxM m c, rowT B0 (k + 1) cap, rowT B1 ((k + 1) + 1) q]) (by omega) hl rfl ?_ ?_ (fun _ => rfl) (fun _ => rfl) (fun q1 hq1 => ?_)
        · repeat'(first|exact leT_empty|exact trivial|exact rfl|exact .inl rfl|exact .inr rfl|exact .inr ⟨rfl,rfl⟩|exact Nat.le_refl _|exact Nat.zero_le _|exact fun _ _=>rfl|assumption|refine And.intro ?_ ?_|exact ul0|exact ul1 rfl|exact ul2 rfl rfl|exact ul3 rfl rfl rfl)
        · repeat'(first|exact leT_empty|exact trivial|exact rfl|exact .inl rfl|exact .inr rfl|exact .inr ⟨rfl,rfl⟩|exact Nat.le_refl _|exact Nat.zero_le _|exact fun _ _=>rfl|assumption|refine And.intro ?_ ?_|exact ul0|exact ul1 rfl|exact ul2 rfl rfl|exact ul3 rfl rfl rfl)
        repeat((conv=>whnf);first|((with_reducible refine qS ?_ ?_ ?_);exact rfl;exact rfl)|with_reducible refine qB ?_|((with_reducible refine qI ?_ ?_);omega)|((with_reducible refine qDT ?_ ?_);omega)|((with_reducible refine qDF ?_ ?_);omega)|((with_reducible refine qNT ?_ ?_);omega)|((with_reducible refine qNF ?_ ?_);omega)|((with_reducible refine qU8 ?_ ?_);omega)|((with_reducible refine qU32 ?_ ?_);omega)|((with_reducible refine qU64 ?_ ?_);omega)|((with_reducible refine qU16 ?_ ?_);omega))
        conv => whnf
        have hBS : ∀ q, q < (rowL0 m who).length → B1 q = planF m who q := fun q hq => by
          rw [eL] at hq
          unfold planF
          rw [eL, eR]
          rw [← hB1, ← hB0]
          exact lay_next hk (fun _ _ => rfl) hq
        rw [eL] at hBS
        obtain ⟨S, hS⟩ : ∃ S, planF m who = S := ⟨_, rfl⟩
        rw [hS] at hBS
        refine Trim.fam q1 (by rw [eL]; exact hq1) ?_
        rw [if_pos h1, if_pos h1, eL, hS]
        refine Le.nm [0, 1, 2, 5] rfl ?_ ?_
        · refine ⟨⟨.inl rfl, Nat.le_refl _, fun _ _ => rfl⟩, ⟨.inl rfl, Nat.le_refl _, fun _ _ => rfl⟩, ⟨.inl rfl, Nat.le_refl _, fun _ _ => rfl⟩, ⟨rfl, rfl, rfl, fun q hq => ?_⟩, trivial⟩
          exact congrArg trgL (hBS q hq)
        · repeat'(first|exact leT_empty|exact trivial|exact rfl|exact .inl rfl|exact .inr rfl|exact .inr ⟨rfl,rfl⟩|exact Nat.le_refl _|exact Nat.zero_le _|exact fun _ _=>rfl|assumption|refine And.intro ?_ ?_|exact ul0|exact ul1 rfl|exact ul2 rfl rfl|exact ul3 rfl rfl rfl)
      · have eR : rowL0 m who = wTrgs m who m.nW ++ [⟨4, m.length, 0, 1, 0, 0⟩] ++ [⟨4, beat1 m (rank m who), 0, 1, 1, 0⟩] ++ [⟨5, watch1 m, 0, 1, 0, 0⟩] := by unfold rowL0; rw [if_pos (show 0 ≤ rankM m who from hrk.1)]; rfl
        have eL : (rowL0 m who).length = (k + 1) + 1 + 1 + 1 := by rw [eR]; simp only [List.length_append, hk]; rfl
        obtain ⟨B0, hB0⟩ : ∃ B, sortF (at0L (wTrgs m who m.nW)) (k + 1) = B := ⟨_, rfl⟩
        obtain ⟨B1, hB1⟩ : ∃ B, insF (behF B0 (k + 1) ⟨4, m.length, 0, 1, 0, 0⟩) (k + 1) = B := ⟨_, rfl⟩
        obtain ⟨B2, hB2⟩ : ∃ B, insF (behF B1 ((k + 1) + 1) ⟨4, beat1 m (rank m who), 0, 1, 1, 0⟩) ((k + 1) + 1) = B := ⟨_, rfl⟩
        obtain ⟨B3, hB3⟩ : ∃ B, insF (behF B2 ((k + 1) + 1 + 1) ⟨5, watch1 m, 0, 1, 0, 0⟩) ((k + 1) + 1 + 1) = B := ⟨_, rfl⟩
        rw [hB0]
        repeat((conv=>whnf);first|((with_reducible refine qS ?_ ?_ ?_);exact rfl;exact rfl)|with_reducible refine qB ?_|((with_reducible refine qI ?_ ?_);omega)|((with_reducible refine qDT ?_ ?_);omega)|((with_reducible refine qDF ?_ ?_);omega)|((with_reducible refine qNT ?_ ?_);omega)|((with_reducible refine qNF ?_ ?_);omega)|((with_reducible refine qU8 ?_ ?_);omega)|((with_reducible refine qU32 ?_ ?_);omega)|((with_reducible refine qU64 ?_ ?_);omega)|((with_reducible refine qU16 ?_ ?_);omega))
        conv => whnf
        refine laid_at (T := B0) (t := ⟨4, m.length, 0, 1, 0, 0⟩) (n := (k + 1)) (cap := cap) (nl := false) hB1 [4] (fun q => slT 5 ((k + 1) + 1) q false) (fun q => matH m [boxM m c, rowT B0 (k + 1) cap, rowT B1 ((k + 1) + 1) q]) (by omega) hl rfl ?_ ?_ (fun _ => rfl) (fun _ => rfl) (fun q1 hq1 => ?_)
        · repeat'(first|exact leT_empty|exact trivial|exact rfl|exact .inl rfl|exact .inr rfl|exact .inr ⟨rfl,rfl⟩|exact Nat.le_refl _|exact Nat.zero_le _|exact fun _ _=>rfl|assumption|refine And.intro ?_ ?_|exact ul0|exact ul1 rfl|exact ul2 rfl rfl|exact ul3 rfl rfl rfl)
        · repeat'(first|exact leT_empty|exact trivial|exact rfl|exact .inl rfl|exact .inr rfl|exact .inr ⟨rfl,rfl⟩|exact Nat.le_refl _|exact Nat.zero_le _|exact fun _ _=>rfl|assumption|refine And.intro ?_ ?_|exact ul0|exact ul1 rfl|exact ul2 rfl rfl|exact ul3 rfl rfl rfl)
        repeat((conv=>whnf);first|((with_reducible refine qS ?_ ?_ ?_);exact rfl;exact rfl)|with_reducible refine qB ?_|((with_reducible refine qI ?_ ?_);omega)|((with_reducible refine qDT ?_ ?_);omega)|((with_reducible refine qDF ?_ ?_);omega)|((with_reducible refine qNT ?_ ?_);omega)|((with_reducible refine qNF ?_ ?_);omega)|((with_reducible refine qU8 ?_ ?_);omega)|((with_reducible refine qU32 ?_ ?_);omega)|((with_reducible refine qU64 ?_ ?_);omega)|((with_reducible refine qU16 ?_ ?_);omega))
        conv => whnf
        refine beat_use (m := m) (c := c) hm ?_
        repeat((conv=>whnf);first|((with_reducible refine qS ?_ ?_ ?_);exact rfl;exact rfl)|with_reducible refine qB ?_|((with_reducible refine qI ?_ ?_);omega)|((with_reducible refine qDT ?_ ?_);omega)|((with_reducible refine qDF ?_ ?_);omega)|((with_reducible refine qNT ?_ ?_);omega)|((with_reducible refine qNF ?_ ?_);omega)|((with_reducible refine qU8 ?_ ?_);omega)|((with_reducible refine qU32 ?_ ?_);omega)|((with_reducible refine qU64 ?_ ?_);omega)|((with_reducible refine qU16 ?_ ?_);omega))
        conv => whnf
        refine laid_at (T := B1) (t := ⟨4, beat1 m (rank m who), 0, 1, 1, 0⟩) (n := ((k + 1) + 1)) (cap := q1) (nl := false) hB2 [5] (fun q => slT 6 (((k + 1) + 1) + 1) q false) (fun q => matH m [boxM m c, rowT B0 (k + 1) cap, rowT B1 ((k + 1) + 1) q1, rowT B2 (((k + 1) + 1) + 1) q]) (by omega) hq1 rfl ?_ ?_ (fun _ => rfl) (fun _ => rfl) (fun q2 hq2 => ?_)
        · repeat'(first|exact leT_empty|exact trivial|exact rfl|exact .inl rfl|exact .inr rfl|exact .inr ⟨rfl,rfl⟩|exact Nat.le_refl _|exact Nat.zero_le _|exact fun _ _=>rfl|assumption|refine And.intro ?_ ?_|exact ul0|exact ul1 rfl|exact ul2 rfl rfl|exact ul3 rfl rfl rfl)
        · repeat'(first|exact leT_empty|exact trivial|exact rfl|exact .inl rfl|exact .inr rfl|exact .inr ⟨rfl,rfl⟩|exact Nat.le_refl _|exact Nat.zero_le _|exact fun _ _=>rfl|assumption|refine And.intro ?_ ?_|exact ul0|exact ul1 rfl|exact ul2 rfl rfl|exact ul3 rfl rfl rfl)
        repeat((conv=>whnf);first|((with_reducible refine qS ?_ ?_ ?_);exact rfl;exact rfl)|with_reducible refine qB ?_|((with_reducible refine qI ?_ ?_);omega)|((with_reducible refine qDT ?_ ?_);omega)|((with_reducible refine qDF ?_ ?_);omega)|((with_reducible refine qNT ?_ ?_);omega)|((with_reducible refine qNF ?_ ?_);omega)|((with_reducible refine qU8 ?_ ?_);omega)|((with_reducible refine qU32 ?_ ?_);omega)|((with_reducible refine qU64 ?_ ?_);omega)|((with_reducible refine qU16 ?_ ?_);omega))
        conv => whnf
        refine watch_use (m := m) (c := c) hm ?_
        repeat((conv=>whnf);first|((with_reducible refine qS ?_ ?_ ?_);exact rfl;exact rfl)|with_reducible refine qB ?_|((with_reducible refine qI ?_ ?_);omega)|((with_reducible refine qDT ?_ ?_);omega)|((with_reducible refine qDF ?_ ?_);omega)|((with_reducible refine qNT ?_ ?_);omega)|((with_reducible refine qNF ?_ ?_);omega)|((with_reducible refine qU8 ?_ ?_);omega)|((with_reducible refine qU32 ?_ ?_);omega)|((with_reducible refine qU64 ?_ ?_);omega)|((with_reducible refine qU16 ?_ ?_);omega))
        conv => whnf
        refine laid_at (T := B2) (t := ⟨5, watch1 m, 0, 1, 0, 0⟩) (n := ((k + 1) + 1 + 1)) (cap := q2) (nl := false) hB3 [6] (fun q => slT 7 (((k + 1) + 1 + 1) + 1) q false) (fun q => matH m [boxM m c, rowT B0 (k + 1) cap, rowT B1 ((k + 1) + 1) q1, rowT B2 ((k + 1) + 1 + 1) q2, rowT B3 (((k + 1) + 1 + 1) + 1) q]) (by omega) hq2 rfl ?_ ?_ (fun _ => rfl) (fun _ => rfl) (fun q3 hq3 => ?_)
        · repeat'(first|exact leT_empty|exact trivial|exact rfl|exact .inl rfl|exact .inr rfl|exact .inr ⟨rfl,rfl⟩|exact Nat.le_refl _|exact Nat.zero_le _|exact fun _ _=>rfl|assumption|refine And.intro ?_ ?_|exact ul0|exact ul1 rfl|exact ul2 rfl rfl|exact ul3 rfl rfl rfl)
        · repeat'(first|exact leT_empty|exact trivial|exact rfl|exact .inl rfl|exact .inr rfl|exact .inr ⟨rfl,rfl⟩|exact Nat.le_refl _|exact Nat.zero_le _|exact fun _ _=>rfl|assumption|refine And.intro ?_ ?_|exact ul0|exact ul1 rfl|exact ul2 rfl rfl|exact ul3 rfl rfl rfl)
        repeat((conv=>whnf);first|((with_reducible refine qS ?_ ?_ ?_);exact rfl;exact rfl)|with_reducible refine qB ?_|((with_reducible refine qI ?_ ?_);omega)|((with_reducible refine qDT ?_ ?_);omega)|((with_reducible refine qDF ?_ ?_);omega)|((with_reducible refine qNT ?_ ?_);omega)|((with_reducible refine qNF ?_ ?_);omega)|((with_reducible refine qU8 ?_ ?_);omega)|((with_reducible refine qU32 ?_ ?_);omega)|((with_reducible refine qU64 ?_ ?_);omega)|((with_reducible refine qU16 ?_ ?_);omega))
        conv => whnf
        have hBS : ∀ q, q < (rowL0 m who).length → B3 q = planF m who q := fun q hq => by
          rw [eL] at hq
          unfold planF
          rw [eL, eR]
          exact lay3 hk hB0 hB1 hB2 hB3 q hq
        rw [eL] at hBS
        obtain ⟨S, hS⟩ : ∃ S, planF m who = S := ⟨_, rfl⟩
        rw [hS] at hBS
        refine Trim.fam q3 (by rw [eL]; exact hq3) ?_
        rw [if_pos h1, if_pos h1, eL, hS]
        refine Le.nm [0, 1, 2, 7] rfl ?_ ?_
        · refine ⟨⟨.inl rfl, Nat.le_refl _, fun _ _ => rfl⟩, ⟨.inl rfl, Nat.le_refl _, fun _ _ => rfl⟩, ⟨.inl rfl, Nat.le_refl _, fun _ _ => rfl⟩, ⟨rfl, rfl, rfl, fun q hq => ?_⟩, trivial⟩
          exact congrArg trgL (hBS q hq)
        · repeat'(first|exact leT_empty|exact trivial|exact rfl|exact .inl rfl|exact .inr rfl|exact .inr ⟨rfl,rfl⟩|exact Nat.le_refl _|exact Nat.zero_le _|exact fun _ _=>rfl|assumption|refine And.intro ?_ ?_|exact ul0|exact ul1 rfl|exact ul2 rfl rfl|exact ul3 rfl rfl rfl)
theorem planR_ok : ConOk Try.prog F.ref12_Plan planC := con_of_run (clRunX_ok (d := 7) ttOk outsPq_ok tabPq_ok 2) (fn_enters (ok.ref12_Plan (D := 7) u0 _ (clRunX_ok (d := 7) ttOk .nil TabOk.nil 1))) fun p hp => planR_run p.1 p.2.1 p.2.2 hp.1 hp.2.1 hp.2.2
end Go.Proofs.Ytbdifadabipfiaa.Co
