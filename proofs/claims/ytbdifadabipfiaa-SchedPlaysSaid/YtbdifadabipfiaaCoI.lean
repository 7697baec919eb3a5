/- Contracts: the check, its windows; the check itself. -/
import Derived.Test.YtbdifadabipfiaaCoH
namespace Go.Proofs.Ytbdifadabipfiaa.Co
open Go Go.Eng Go.Proofs Go.Proofs.Ytbdifadabipfiaa.Tb Go.Pu
set_option maxRecDepth 100000
set_option maxHeartbeats 8000000
abbrev windowsC : Con (Mat × Caps) := RoCon (fun p => [matT p.1 p.2 0 1 2]) (fun p => matH p.1 []) (fun p => p.1.Ok ∧ isM p.1 = true) fun p => pairR (chkW p.1)
theorem windows_use {m : Mat} {c : Caps} {rest : Heap} {K : R → Heap → Prop} (hm : m.Ok) (hi : isM m = true) (hk : K (pairR (chkW m)) (matH m rest)) : AskC windowsC [matT m c 0 1 2] (matH m rest) K :=
  .use (m, c) [0, 1, 2] ⟨hm, hi⟩ rfl (mat_le m rest) ⟨mat_lx m c rest, trivial⟩ hk
abbrev outs5 : List (FuncId × Cx) := (F.check_Step, AskC stepC) :: (F.check_Meet, AskC meetC) :: outs4
theorem outs5_ok : OutsOk Try.prog outs5 := .cons (ask_ok step_ok) (.cons (ask_ok meet_ok) outs4_ok)
theorem err145 {m : Mat} {i : Nat} (h1 : (m.W i).kind = 1) (h2 : (m.nG : Int) ≤ (m.W i).msg ∨ (m.G (m.W i).msg.toNat).ev = true) : winErr m i = 145 := if_pos ⟨h1, h2⟩
theorem err144 {m : Mat} {i : Nat} (h1 : ¬ ((m.W i).kind = 1 ∧ ((m.nG : Int) ≤ (m.W i).msg ∨ (m.G (m.W i).msg.toNat).ev = true))) (h2 : (m.W i).st < Pu.step m ∨ ((m.W i).kind ≠ 3 ∧ (m.W i).en - (m.W i).st < Pu.step m)) : winErr m i = 144 := by rw [winErr, if_neg h1, if_pos h2]
theorem err143 {m : Mat} {i : Nat} (h1 : ¬ ((m.W i).kind = 1 ∧ ((m.nG : Int) ≤ (m.W i).msg ∨ (m.G (m.W i).msg.toNat).ev = true))) (h2 : ¬ ((m.W i).st < Pu.step m ∨ ((m.W i).kind ≠ 3 ∧ (m.W i).en - (m.W i).st < Pu.step m))) (h3 : anyB i (fun k => meet m i k) = true) : winErr m i = 143 := by rw [winErr, if_neg h1, if_neg h2, if_pos h3]
theorem err0 {m : Mat} {i : Nat} (h1 : ¬ ((m.W i).kind = 1 ∧ ((m.nG : Int) ≤ (m.W i).msg ∨ (m.G (m.W i).msg.toNat).ev = true))) (h2 : ¬ ((m.W i).st < Pu.step m ∨ ((m.W i).kind ≠ 3 ∧ (m.W i).en - (m.W i).st < Pu.step m))) (h3 : anyB i (fun k => meet m i k) = false) : winErr m i = 0 := by rw [winErr, if_neg h1, if_neg h2, h3]; rfl
theorem chkW_at {m : Mat} {i : Nat} {e : Int} (hi : i < m.nW) (hp : ∀ j, j < i → winErr m j = 0) (he : winErr m i = e) (h0 : e ≠ 0) : chkW m = ((i : Int), e) := by
  have e1 : first m.nW (fun i => decide (winErr m i ≠ 0)) = (i : Int) := first_some hi (fun q hq => decide_eq_false fun h => h (hp q hq)) (decide_eq_true (by rw [he]; exact h0))
  rw [chkW, e1, if_pos (by omega), Int.toNat_natCast, he]
theorem chkW_0 {m : Mat} (hp : ∀ j, j < m.nW → winErr m j = 0) : chkW m = (0, 0) := by
  have e1 : first m.nW (fun i => decide (winErr m i ≠ 0)) = -1 := first_none fun q hq => decide_eq_false fun h => h (hp q hq)
  rw [chkW, e1, if_neg (by omega)]
noncomputable abbrev tabWi : List (FuncId × Eng.Fn) := [(F.check_windows, fn.check_windows u0)]
theorem tabWi_ok {d : Nat} : TabOk d tabWi tt := .cons (ok.check_windows u0) (TabOk.nil)
theorem windows_run (m : Mat) (c : Caps) (hm : m.Ok) (hI : isM m = true) : clRunX 7 tt outs5 tabWi 2 F.check_windows [] [matT m c 0 1 2] (matH m []) (fun x h => Trim 3 x h fun x h => x = pairR (chkW m) ∧ h = matH m []) := by
  have hnW := hm.nW
  have hW := (isM_iff.1 hI).W
  have hL := (isM_iff.1 hI).head
  unfold headP at hL
  have hsb := step_bd (m := m)
  conv => whnf
  refine step_use (m := m) (c := c) hm ?_
  conv => whnf
  refine .rd (fun i : Nat => i ≤ m.nW ∧ ∀ j, j < i → winErr m j = 0) (fun i => [(14, iv .i64 i)]) (fun i => m.nW - i) 0 ⟨Nat.zero_le _, all_0⟩ ?_ (fun i ⟨hi, hp⟩ => ?_)
  · conv=>whnf
    refine Le.id rfl ?_ ?_<;>repeat'(first|exact leT_empty|exact trivial|exact rfl|exact fun _ _=>rfl|exact .inl rfl|exact Nat.le_refl _|refine And.intro ?_ ?_)
  conv => whnf
  refine cD (fun h5 => ?_) (fun h5 => ?_)
  · have hWi := hW i (by omega)
    unfold winP at hWi
    have fin : ∀ e : Int, winErr m i = e → e ≠ 0 → pairR ((i : Int), e) = pairR (chkW m) := fun e he h0 => by rw [chkW_at (by omega) hp he h0]
    repeat((conv=>whnf);first|((with_reducible refine qS ?_ ?_ ?_);exact rfl;exact rfl)|with_reducible refine qB ?_|((with_reducible refine qI ?_ ?_);omega)|((with_reducible refine qDT ?_ ?_);omega)|((with_reducible refine qDF ?_ ?_);omega)|((with_reducible refine qNT ?_ ?_);omega)|((with_reducible refine qNF ?_ ?_);omega)|((with_reducible refine qU8 ?_ ?_);omega)|((with_reducible refine qU32 ?_ ?_);omega)|((with_reducible refine qU64 ?_ ?_);omega)|((with_reducible refine qU16 ?_ ?_);omega))
    conv => whnf
    try rw [zi i]
    refine cD (fun h6 => ?_) (fun h6 => ?_)
    conv => whnf
    refine cD (fun h7 => ?_) (fun h7 => ?_)
    · conv => whnf
      exact trimM rfl (fin 145 (err145 h6 (.inl h7)) (by decide))
    repeat((conv=>whnf);first|((with_reducible refine qS ?_ ?_ ?_);exact rfl;exact rfl)|with_reducible refine qB ?_|((with_reducible refine qI ?_ ?_);omega)|((with_reducible refine qDT ?_ ?_);omega)|((with_reducible refine qDF ?_ ?_);omega)|((with_reducible refine qNT ?_ ?_);omega)|((with_reducible refine qNF ?_ ?_);omega)|((with_reducible refine qU8 ?_ ?_);omega)|((with_reducible refine qU32 ?_ ?_);omega)|((with_reducible refine qU64 ?_ ?_);omega)|((with_reducible refine qU16 ?_ ?_);omega))
    conv => whnf
    try rw [za]
    rcases Bool.eq_false_or_eq_true (m.G (m.W i).msg.toNat).ev with hev | hev <;> rw [hev]
    · conv => whnf
      exact trimM rfl (fin 145 (err145 h6 (.inr hev)) (by decide))
    have n1 : ¬ ((m.W i).kind = 1 ∧ ((m.nG : Int) ≤ (m.W i).msg ∨ (m.G (m.W i).msg.toNat).ev = true)) := by
      rintro ⟨_, q | q⟩
      · omega
      · rw [hev] at q; cases q
    rotate_left
    have n1 : ¬ ((m.W i).kind = 1 ∧ ((m.nG : Int) ≤ (m.W i).msg ∨ (m.G (m.W i).msg.toNat).ev = true)) := fun q => h6 q.1
    all_goals
      conv => whnf
      refine cD (fun h8 => ?_) (fun h8 => ?_)
      · conv => whnf
        exact trimM rfl (fin 144 (err144 n1 (.inl h8)) (by decide))
      by_cases h9 : (m.W i).kind = 3
      · try (exfalso; omega)
        all_goals
          have n2 : ¬ ((m.W i).st < Pu.step m ∨ ((m.W i).kind ≠ 3 ∧ (m.W i).en - (m.W i).st < Pu.step m)) := by omega
          repeat((conv=>whnf);first|((with_reducible refine qS ?_ ?_ ?_);exact rfl;exact rfl)|with_reducible refine qB ?_|((with_reducible refine qI ?_ ?_);omega)|((with_reducible refine qDT ?_ ?_);omega)|((with_reducible refine qDF ?_ ?_);omega)|((with_reducible refine qNT ?_ ?_);omega)|((with_reducible refine qNF ?_ ?_);omega)|((with_reducible refine qU8 ?_ ?_);omega)|((with_reducible refine qU32 ?_ ?_);omega)|((with_reducible refine qU64 ?_ ?_);omega)|((with_reducible refine qU16 ?_ ?_);omega))
          conv => whnf
          refine .rd (fun k : Nat => k ≤ i ∧ ∀ j : Nat, j < k → meet m i j = false) (fun k => [(63, iv .i64 k)]) (fun k => i - k) 0 ⟨Nat.zero_le _, all_0⟩ ?_ (fun k ⟨hk, hq⟩ => ?_)
          · conv=>whnf
            refine Le.id rfl ?_ ?_<;>repeat'(first|exact leT_empty|exact trivial|exact rfl|exact fun _ _=>rfl|exact .inl rfl|exact Nat.le_refl _|refine And.intro ?_ ?_)
          conv => whnf
          refine cD (fun h11 => ?_) (fun h11 => ?_)
          · conv => whnf
            refine meet_use (m := m) (c := c) hm ?_
            rcases Bool.eq_false_or_eq_true (meet m (i : Int) (k : Int)) with hb | hb <;> rw [hb]
            · conv => whnf
              exact trimM rfl (fin 143 (err143 n1 n2 (anyB_iff.2 ⟨k, by omega, hb⟩)) (by decide))
            · repeat((conv=>whnf);first|((with_reducible refine qS ?_ ?_ ?_);exact rfl;exact rfl)|with_reducible refine qB ?_|((with_reducible refine qI ?_ ?_);omega)|((with_reducible refine qDT ?_ ?_);omega)|((with_reducible refine qDF ?_ ?_);omega)|((with_reducible refine qNT ?_ ?_);omega)|((with_reducible refine qNF ?_ ?_);omega)|((with_reducible refine qU8 ?_ ?_);omega)|((with_reducible refine qU32 ?_ ?_);omega)|((with_reducible refine qU64 ?_ ?_);omega)|((with_reducible refine qU16 ?_ ?_);omega))
              conv => whnf
              refine ⟨k + 1, ⟨⟨by omega, all_up hq hb⟩, by omega⟩, ?_⟩
              conv=>whnf
              refine Le.id rfl ?_ ?_<;>repeat'(first|exact leT_empty|exact trivial|exact rfl|exact fun _ _=>rfl|exact .inl rfl|exact Nat.le_refl _|refine And.intro ?_ ?_)
          obtain rfl : k = i := by omega
          repeat((conv=>whnf);first|((with_reducible refine qS ?_ ?_ ?_);exact rfl;exact rfl)|with_reducible refine qB ?_|((with_reducible refine qI ?_ ?_);omega)|((with_reducible refine qDT ?_ ?_);omega)|((with_reducible refine qDF ?_ ?_);omega)|((with_reducible refine qNT ?_ ?_);omega)|((with_reducible refine qNF ?_ ?_);omega)|((with_reducible refine qU8 ?_ ?_);omega)|((with_reducible refine qU32 ?_ ?_);omega)|((with_reducible refine qU64 ?_ ?_);omega)|((with_reducible refine qU16 ?_ ?_);omega))
          conv => whnf
          refine ⟨k + 1, ⟨⟨by omega, all_up hp (err0 n1 n2 (anyB_false.2 hq))⟩, by omega⟩, ?_⟩
          conv=>whnf
          refine Le.id rfl ?_ ?_<;>repeat'(first|exact leT_empty|exact trivial|exact rfl|exact fun _ _=>rfl|exact .inl rfl|exact Nat.le_refl _|refine And.intro ?_ ?_)
      · repeat((conv=>whnf);first|((with_reducible refine qS ?_ ?_ ?_);exact rfl;exact rfl)|with_reducible refine qB ?_|((with_reducible refine qI ?_ ?_);omega)|((with_reducible refine qDT ?_ ?_);omega)|((with_reducible refine qDF ?_ ?_);omega)|((with_reducible refine qNT ?_ ?_);omega)|((with_reducible refine qNF ?_ ?_);omega)|((with_reducible refine qU8 ?_ ?_);omega)|((with_reducible refine qU32 ?_ ?_);omega)|((with_reducible refine qU64 ?_ ?_);omega)|((with_reducible refine qU16 ?_ ?_);omega))
        conv => whnf
        refine cD (fun h10 => ?_) (fun h10 => ?_)
        · conv => whnf
          exact trimM rfl (fin 144 (err144 n1 (.inr ⟨h9, h10⟩)) (by decide))
        have n2 : ¬ ((m.W i).st < Pu.step m ∨ ((m.W i).kind ≠ 3 ∧ (m.W i).en - (m.W i).st < Pu.step m)) := by omega
        repeat((conv=>whnf);first|((with_reducible refine qS ?_ ?_ ?_);exact rfl;exact rfl)|with_reducible refine qB ?_|((with_reducible refine qI ?_ ?_);omega)|((with_reducible refine qDT ?_ ?_);omega)|((with_reducible refine qDF ?_ ?_);omega)|((with_reducible refine qNT ?_ ?_);omega)|((with_reducible refine qNF ?_ ?_);omega)|((with_reducible refine qU8 ?_ ?_);omega)|((with_reducible refine qU32 ?_ ?_);omega)|((with_reducible refine qU64 ?_ ?_);omega)|((with_reducible refine qU16 ?_ ?_);omega))
        conv => whnf
        refine .rd (fun k : Nat => k ≤ i ∧ ∀ j : Nat, j < k → meet m i j = false) (fun k => [(63, iv .i64 k)]) (fun k => i - k) 0 ⟨Nat.zero_le _, all_0⟩ ?_ (fun k ⟨hk, hq⟩ => ?_)
        · conv=>whnf
          refine Le.id rfl ?_ ?_<;>repeat'(first|exact leT_empty|exact trivial|exact rfl|exact fun _ _=>rfl|exact .inl rfl|exact Nat.le_refl _|refine And.intro ?_ ?_)
        conv => whnf
        refine cD (fun h11 => ?_) (fun h11 => ?_)
        · conv => whnf
          refine meet_use (m := m) (c := c) hm ?_
          rcases Bool.eq_false_or_eq_true (meet m (i : Int) (k : Int)) with hb | hb <;> rw [hb]
          · conv => whnf
            exact trimM rfl (fin 143 (err143 n1 n2 (anyB_iff.2 ⟨k, by omega, hb⟩)) (by decide))
          · repeat((conv=>whnf);first|((with_reducible refine qS ?_ ?_ ?_);exact rfl;exact rfl)|with_reducible refine qB ?_|((with_reducible refine qI ?_ ?_);omega)|((with_reducible refine qDT ?_ ?_);omega)|((with_reducible refine qDF ?_ ?_);omega)|((with_reducible refine qNT ?_ ?_);omega)|((with_reducible refine qNF ?_ ?_);omega)|((with_reducible refine qU8 ?_ ?_);omega)|((with_reducible refine qU32 ?_ ?_);omega)|((with_reducible refine qU64 ?_ ?_);omega)|((with_reducible refine qU16 ?_ ?_);omega))
            conv => whnf
            refine ⟨k + 1, ⟨⟨by omega, all_up hq hb⟩, by omega⟩, ?_⟩
            conv=>whnf
            refine Le.id rfl ?_ ?_<;>repeat'(first|exact leT_empty|exact trivial|exact rfl|exact fun _ _=>rfl|exact .inl rfl|exact Nat.le_refl _|refine And.intro ?_ ?_)
        obtain rfl : k = i := by omega
        repeat((conv=>whnf);first|((with_reducible refine qS ?_ ?_ ?_);exact rfl;exact rfl)|with_reducible refine qB ?_|((with_reducible refine qI ?_ ?_);omega)|((with_reducible refine qDT ?_ ?_);omega)|((with_reducible refine qDF ?_ ?_);omega)|((with_reducible refine qNT ?_ ?_);omega)|((with_reducible refine qNF ?_ ?_);omega)|((with_reducible refine qU8 ?_ ?_);omega)|((with_reducible refine qU32 ?_ ?_);omega)|((with_reducible refine qU64 ?_ ?_);omega)|((with_reducible refine qU16 ?_ ?_);omega))
        conv => whnf
        refine ⟨k + 1, ⟨⟨by omega, all_up hp (err0 n1 n2 (anyB_false.2 hq))⟩, by omega⟩, ?_⟩
        conv=>whnf
        refine Le.id rfl ?_ ?_<;>repeat'(first|exact leT_empty|exact trivial|exact rfl|exact fun _ _=>rfl|exact .inl rfl|exact Nat.le_refl _|refine And.intro ?_ ?_)
  obtain rfl : i = m.nW := by omega
  repeat((conv=>whnf);first|((with_reducible refine qS ?_ ?_ ?_);exact rfl;exact rfl)|with_reducible refine qB ?_|((with_reducible refine qI ?_ ?_);omega)|((with_reducible refine qDT ?_ ?_);omega)|((with_reducible refine qDF ?_ ?_);omega)|((with_reducible refine qNT ?_ ?_);omega)|((with_reducible refine qNF ?_ ?_);omega)|((with_reducible refine qU8 ?_ ?_);omega)|((with_reducible refine qU32 ?_ ?_);omega)|((with_reducible refine qU64 ?_ ?_);omega)|((with_reducible refine qU16 ?_ ?_);omega))
  conv => whnf
  exact trimM rfl (congrArg pairR (chkW_0 hp).symm : pairR (0, 0) = _)
theorem windows_ok : ConOk Try.prog F.check_windows windowsC := con_of_run (clRunX_ok (d := 7) ttOk outs5_ok tabWi_ok 2) (fn_enters (ok.check_windows (D := 7) u0 _ (clRunX_ok (d := 7) ttOk .nil TabOk.nil 1))) fun p hp => windows_run p.1 p.2 hp.1 hp.2
end Go.Proofs.Ytbdifadabipfiaa.Co
