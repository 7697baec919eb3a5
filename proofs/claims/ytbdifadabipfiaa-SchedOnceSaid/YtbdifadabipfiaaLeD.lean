/- SchedOnce: come to unit by unit, or in leaps, each trigger of a cycle is told once, in order: true at every input; no conditions. -/
import Derived.Test.YtbdifadabipfiaaLeA
namespace Go.Proofs.Ytbdifadabipfiaa.schedOnce
open Go Go.Eng Go.Proofs Go.Proofs.Ytbdifadabipfiaa.Tb Go.Proofs.Ytbdifadabipfiaa.Co Go.Proofs.Ytbdifadabipfiaa.La Go.Pu
set_option maxRecDepth 100000
set_option maxHeartbeats 16000000
noncomputable abbrev tabL : List (FuncId × Eng.Fn) := [(F.law23_SchedOnce, fn.law23_SchedOnce u0), (F.law23_few, fn.law23_few u0), (F.sched_New, fn.sched_New u0), (F.sched_Sched_Begin, fn.sched_Sched_Begin u0), (F.sched_Sched_Open, fn.sched_Sched_Open u0), (F.sched_Sched_Over, fn.sched_Sched_Over u0), (F.sched_Sched_Close, fn.sched_Sched_Close u0)]
theorem tabL_ok {d : Nat} : TabOk d tabL tt := .cons (ok.law23_SchedOnce u0) (.cons (ok.law23_few u0) (.cons (ok.sched_New u0) (.cons (ok.sched_Sched_Begin u0) (.cons (ok.sched_Sched_Open u0) (.cons (ok.sched_Sched_Over u0) (.cons (ok.sched_Sched_Close u0) (TabOk.nil)))))))
abbrev pas : List Pa := [.agg matSh, .one u8, .one u8]
abbrev hS (m : Mat) (c : Caps) (r : Heap) : Heap := matH m (boxM m c :: boxM m c :: boxM m c :: r)
theorem walk (m : Mat) (c : Caps) (a b : Int) (hm : m.Ok) (hc : capsOk m c) (ha : 0 ≤ a ∧ a ≤ 255) (hb : 0 ≤ b ∧ b ≤ 255) : clRunX 7 tt outsL23 tabL 4 F.law23_SchedOnce [] [matT m c 0 1 2, iv .u8 a, iv .u8 b] (matH m []) (fun x _ => x = bv true) := by
  have hnW := hm.nW
  have hnG := hm.nG
  conv => whnf
  refine true_use ?_
  repeat((conv=>whnf);first|((with_reducible refine qS ?_ ?_ ?_);exact rfl;exact rfl)|with_reducible refine qB ?_|((with_reducible refine qI ?_ ?_);omega)|((with_reducible refine qDT ?_ ?_);omega)|((with_reducible refine qDF ?_ ?_);omega)|((with_reducible refine qNT ?_ ?_);omega)|((with_reducible refine qNF ?_ ?_);omega)|((with_reducible refine qU8 ?_ ?_);omega)|((with_reducible refine qU32 ?_ ?_);omega)|((with_reducible refine qU64 ?_ ?_);omega)|((with_reducible refine qU16 ?_ ?_);omega))
  conv => whnf
  refine checkR_use (m := m) (c := c) hm ?_
  repeat((conv=>whnf);first|((with_reducible refine qS ?_ ?_ ?_);exact rfl;exact rfl)|with_reducible refine qB ?_|((with_reducible refine qI ?_ ?_);omega)|((with_reducible refine qDT ?_ ?_);omega)|((with_reducible refine qDF ?_ ?_);omega)|((with_reducible refine qNT ?_ ?_);omega)|((with_reducible refine qNF ?_ ?_);omega)|((with_reducible refine qU8 ?_ ?_);omega)|((with_reducible refine qU32 ?_ ?_);omega)|((with_reducible refine qU64 ?_ ?_);omega)|((with_reducible refine qU16 ?_ ?_);omega))
  conv => whnf
  refine cD (fun h1 => ?_) (fun h1 => ?_)
  rotate_left
  · repeat((conv=>whnf);first|((with_reducible refine qS ?_ ?_ ?_);exact rfl;exact rfl)|with_reducible refine qB ?_|((with_reducible refine qI ?_ ?_);omega)|((with_reducible refine qDT ?_ ?_);omega)|((with_reducible refine qDF ?_ ?_);omega)|((with_reducible refine qNT ?_ ?_);omega)|((with_reducible refine qNF ?_ ?_);omega)|((with_reducible refine qU8 ?_ ?_);omega)|((with_reducible refine qU32 ?_ ?_);omega)|((with_reducible refine qU64 ?_ ?_);omega)|((with_reducible refine qU16 ?_ ?_);omega))
    conv => whnf
    exact rfl
  conv => whnf
  refine cD (fun h2 => ?_) (fun h2 => ?_)
  rotate_left
  · repeat((conv=>whnf);first|((with_reducible refine qS ?_ ?_ ?_);exact rfl;exact rfl)|with_reducible refine qB ?_|((with_reducible refine qI ?_ ?_);omega)|((with_reducible refine qDT ?_ ?_);omega)|((with_reducible refine qDF ?_ ?_);omega)|((with_reducible refine qNT ?_ ?_);omega)|((with_reducible refine qNF ?_ ?_);omega)|((with_reducible refine qU8 ?_ ?_);omega)|((with_reducible refine qU32 ?_ ?_);omega)|((with_reducible refine qU64 ?_ ?_);omega)|((with_reducible refine qU16 ?_ ?_);omega))
    conv => whnf
    exact rfl
  conv => whnf
  refine cN (fun h3 => ?_) (fun h3 => ?_)
  · repeat((conv=>whnf);first|((with_reducible refine qS ?_ ?_ ?_);exact rfl;exact rfl)|with_reducible refine qB ?_|((with_reducible refine qI ?_ ?_);omega)|((with_reducible refine qDT ?_ ?_);omega)|((with_reducible refine qDF ?_ ?_);omega)|((with_reducible refine qNT ?_ ?_);omega)|((with_reducible refine qNF ?_ ?_);omega)|((with_reducible refine qU8 ?_ ?_);omega)|((with_reducible refine qU32 ?_ ?_);omega)|((with_reducible refine qU64 ?_ ?_);omega)|((with_reducible refine qU16 ?_ ?_);omega))
    conv => whnf
    exact rfl
  by_cases h : (chk m).2 = 0
  rotate_left
  · repeat((conv=>whnf);first|((with_reducible refine qS ?_ ?_ ?_);exact rfl;exact rfl)|with_reducible refine qB ?_|((with_reducible refine qI ?_ ?_);omega)|((with_reducible refine qDT ?_ ?_);omega)|((with_reducible refine qDF ?_ ?_);omega)|((with_reducible refine qNT ?_ ?_);omega)|((with_reducible refine qNF ?_ ?_);omega)|((with_reducible refine qU8 ?_ ?_);omega)|((with_reducible refine qU32 ?_ ?_);omega)|((with_reducible refine qU64 ?_ ?_);omega)|((with_reducible refine qU16 ?_ ?_);omega))
    conv => whnf
    exact rfl
  have hP := pass_of h
  have hi := hP.is
  have b0 : I64 0 := ⟨by decide, by decide⟩
  have hl := hi.head
  unfold headP at hl
  have hcy := hP.cyc8
  have hx : 0 ≤ a.tmod m.cycles ∧ a.tmod m.cycles ≤ 7 := by
    rw [Int.tmod_eq_emod_of_nonneg (by omega)]
    have := Int.emod_lt_of_pos a (show 0 < m.cycles by omega)
    have := Int.emod_nonneg a (show m.cycles ≠ 0 by omega)
    omega
  have hy : 0 ≤ b.tmod 50 ∧ b.tmod 50 ≤ 49 := by rw [Int.tmod_eq_emod_of_nonneg (by omega)]; omega
  have ew : watch1 m = m.length + ((m.nM : Int) + 2) * Pu.step m := by unfold watch1; rw [if_pos (isM_iff.2 hi)]; rfl
  have hwb := watch_bd hi
  have hwm := watch_mem m 0
  have hwt := plan_comes hP (who := 0) hwm (n := a.tmod m.cycles) hx.1
  obtain ⟨P, hPF⟩ : ∃ P, planF m 0 = P := ⟨_, rfl⟩
  obtain ⟨n, hLn⟩ : ∃ n, (rowL0 m 0).length = n := ⟨_, rfl⟩
  have hn19 := rowL0_len m 0
  have hnw := hi.size.2.2.2
  rw [hLn] at hn19
  have srt : sortedF P n := by rw [← hPF, ← hLn]; exact sort_sorted _ _
  obtain ⟨W, hW⟩ : ∃ W, watch1 m = W := ⟨_, rfl⟩
  have hWb : 1 ≤ W ∧ W ≤ 100000 := by
    rw [← hW, ew]
    omega
  obtain ⟨qw, hqw, eqw⟩ := mem_plan hwm
  rw [hPF, hW] at eqw
  rw [hLn] at hqw
  have hone : ∀ c : Int, 0 ≤ c → 1 ≤ (dueL P c 0 W n).length := fun c hc => due_some hqw (by
    unfold dueB
    rw [eqw, comes_1 hc, decide_eq_true (show (0 : Int) < W ∧ W ≤ W by omega)]; rfl)
  obtain ⟨cy, hcy0⟩ : ∃ cy, a.tmod m.cycles = cy := ⟨_, rfl⟩
  rw [hcy0] at hx hwt
  have hcI : I64 cy := ⟨by omega, by omega⟩
  have hone := hone cy hx.1
  obtain ⟨A, hA⟩ : ∃ A, dueL P cy 0 W n = A := ⟨_, rfl⟩
  obtain ⟨k, hk⟩ : ∃ k, A.length = k := ⟨_, rfl⟩
  obtain ⟨o, ho⟩ : ∃ o, opnT (at0L A) trg0 k = o := ⟨_, rfl⟩
  obtain ⟨i, hi0⟩ : ∃ i, opnB (at0L A) false k = i := ⟨_, rfl⟩
  have ln1 := dueL_len P cy 0 W n
  rw [hA, hk] at ln1 hone
  have dnil : ∀ v, dueL P cy v v n = [] := fun v => by
    have h := due_split (T := P) (cy := cy) (a := v) (b := v) (d := v) ⟨Int.le_refl _, Int.le_refl _⟩ n srt
    exact List.self_eq_append_right.1 h.symm
  repeat((conv=>whnf);first|((with_reducible refine qS ?_ ?_ ?_);exact rfl;exact rfl)|with_reducible refine qB ?_|((with_reducible refine qI ?_ ?_);omega)|((with_reducible refine qDT ?_ ?_);omega)|((with_reducible refine qDF ?_ ?_);omega)|((with_reducible refine qNT ?_ ?_);omega)|((with_reducible refine qNF ?_ ?_);omega)|((with_reducible refine qU8 ?_ ?_);omega)|((with_reducible refine qU32 ?_ ?_);omega)|((with_reducible refine qU64 ?_ ?_);omega)|((with_reducible refine qU16 ?_ ?_);omega))
  conv => whnf
  refine plan_at2 (m := m) (c := c) (who := 0) [0, 1, 2] n P (fun cap => slT 6 n cap false) (fun cap => hS m c [rowT P n cap]) hm hc b0 h hLn hPF rfl ?_ ?_ (fun _ => rfl) (fun _ => rfl) (fun cap hcap => ?_)
  · repeat'(first|exact leT_empty|exact trivial|exact rfl|exact .inl rfl|exact .inr rfl|exact .inr ⟨rfl,rfl⟩|exact Nat.le_refl _|exact Nat.zero_le _|exact fun _ _=>rfl|assumption|refine And.intro ?_ ?_|exact ul0|exact ul1 rfl|exact ul2 rfl rfl|exact ul3 rfl rfl rfl)
  · repeat'(first|exact leT_empty|exact trivial|exact rfl|exact .inl rfl|exact .inr rfl|exact .inr ⟨rfl,rfl⟩|exact Nat.le_refl _|exact Nat.zero_le _|exact fun _ _=>rfl|assumption|refine And.intro ?_ ?_|exact ul0|exact ul1 rfl|exact ul2 rfl rfl|exact ul3 rfl rfl rfl)
  repeat((conv=>whnf);first|((with_reducible refine qS ?_ ?_ ?_);exact rfl;exact rfl)|with_reducible refine qB ?_|((with_reducible refine qI ?_ ?_);omega)|((with_reducible refine qDT ?_ ?_);omega)|((with_reducible refine qDF ?_ ?_);omega)|((with_reducible refine qNT ?_ ?_);omega)|((with_reducible refine qNF ?_ ?_);omega)|((with_reducible refine qU8 ?_ ?_);omega)|((with_reducible refine qU32 ?_ ?_);omega)|((with_reducible refine qU64 ?_ ?_);omega)|((with_reducible refine qU16 ?_ ?_);omega))
  conv => whnf
  refine plan_at2 (m := m) (c := c) (who := 0) [0, 1, 2] n P (fun cap2 => slT 9 n cap2 false) (fun cap2 => hS m c [rowT P n cap, schO (plC 6 n cap) 0 (-1) trg0 false, boxM m c, rowT P n cap2]) hm hc b0 h hLn hPF rfl ?_ ?_ (fun _ => rfl) (fun _ => rfl) (fun cap2 hcap2 => ?_)
  · repeat'(first|exact leT_empty|exact trivial|exact rfl|exact .inl rfl|exact .inr rfl|exact .inr ⟨rfl,rfl⟩|exact Nat.le_refl _|exact Nat.zero_le _|exact fun _ _=>rfl|assumption|refine And.intro ?_ ?_|exact ul0|exact ul1 rfl|exact ul2 rfl rfl|exact ul3 rfl rfl rfl)
  · repeat'(first|exact leT_empty|exact trivial|exact rfl|exact .inl rfl|exact .inr rfl|exact .inr ⟨rfl,rfl⟩|exact Nat.le_refl _|exact Nat.zero_le _|exact fun _ _=>rfl|assumption|refine And.intro ?_ ?_|exact ul0|exact ul1 rfl|exact ul2 rfl rfl|exact ul3 rfl rfl rfl)
  repeat((conv=>whnf);first|((with_reducible refine qS ?_ ?_ ?_);exact rfl;exact rfl)|with_reducible refine qB ?_|((with_reducible refine qI ?_ ?_);omega)|((with_reducible refine qDT ?_ ?_);omega)|((with_reducible refine qDF ?_ ?_);omega)|((with_reducible refine qNT ?_ ?_);omega)|((with_reducible refine qNF ?_ ?_);omega)|((with_reducible refine qU8 ?_ ?_);omega)|((with_reducible refine qU32 ?_ ?_);omega)|((with_reducible refine qU64 ?_ ?_);omega)|((with_reducible refine qU16 ?_ ?_);omega))
  conv => whnf
  rw [hcy0]
  repeat((conv=>whnf);first|((with_reducible refine qS ?_ ?_ ?_);exact rfl;exact rfl)|with_reducible refine qB ?_|((with_reducible refine qI ?_ ?_);omega)|((with_reducible refine qDT ?_ ?_);omega)|((with_reducible refine qDF ?_ ?_);omega)|((with_reducible refine qNT ?_ ?_);omega)|((with_reducible refine qNF ?_ ?_);omega)|((with_reducible refine qU8 ?_ ?_);omega)|((with_reducible refine qU32 ?_ ?_);omega)|((with_reducible refine qU64 ?_ ?_);omega)|((with_reducible refine qU16 ?_ ?_);omega))
  conv => whnf
  refine watch_use (m := m) (c := c) hm ?_
  rw [hW]
  repeat((conv=>whnf);first|((with_reducible refine qS ?_ ?_ ?_);exact rfl;exact rfl)|with_reducible refine qB ?_|((with_reducible refine qI ?_ ?_);omega)|((with_reducible refine qDT ?_ ?_);omega)|((with_reducible refine qDF ?_ ?_);omega)|((with_reducible refine qNT ?_ ?_);omega)|((with_reducible refine qNF ?_ ?_);omega)|((with_reducible refine qU8 ?_ ?_);omega)|((with_reducible refine qU32 ?_ ?_);omega)|((with_reducible refine qU64 ?_ ?_);omega)|((with_reducible refine qU16 ?_ ?_);omega))
  conv => whnf
  refine now_ask (T := P) (n := n) (cap := cap) (cy := cy) (a := 0) (b := W) (o := trg0) (is := false) [7, 6] A k o i (slT 11 k n false) (hS m c [rowT P n cap, schO (plC 6 n cap) cy W o i, boxM m c, rowT P n cap2, schO (plC 9 n cap2) cy 0 trg0 false, rowT (at0L A) n n]) (by omega) (by omega) hcI hA hk ho hi0 rfl ?_ ?_ rfl rfl ?_
  · repeat'(first|exact leT_empty|exact trivial|exact rfl|exact .inl rfl|exact .inr rfl|exact .inr ⟨rfl,rfl⟩|exact Nat.le_refl _|exact Nat.zero_le _|exact fun _ _=>rfl|assumption|refine And.intro ?_ ?_|exact ul0|exact ul1 rfl|exact ul2 rfl rfl|exact ul3 rfl rfl rfl)
  · repeat'(first|exact leT_empty|exact trivial|exact rfl|exact .inl rfl|exact .inr rfl|exact .inr ⟨rfl,rfl⟩|exact Nat.le_refl _|exact Nat.zero_le _|exact fun _ _=>rfl|assumption|refine And.intro ?_ ?_|exact ul0|exact ul1 rfl|exact ul2 rfl rfl|exact ul3 rfl rfl rfl)
  repeat((conv=>whnf);first|((with_reducible refine qS ?_ ?_ ?_);exact rfl;exact rfl)|with_reducible refine qB ?_|((with_reducible refine qI ?_ ?_);omega)|((with_reducible refine qDT ?_ ?_);omega)|((with_reducible refine qDF ?_ ?_);omega)|((with_reducible refine qNT ?_ ?_);omega)|((with_reducible refine qNF ?_ ?_);omega)|((with_reducible refine qU8 ?_ ?_);omega)|((with_reducible refine qU32 ?_ ?_);omega)|((with_reducible refine qU64 ?_ ?_);omega)|((with_reducible refine qU16 ?_ ?_);omega))
  conv => whnf
  refine .inv (fun p : Int × Int × Trg × Bool => (0 ≤ p.2.1 ∧ p.2.1 ≤ W ∧ p.2.1 ≤ p.1) ∧ 0 ≤ p.1 ∧ p.1 ≤ W + 50) (fun p => [(13, iv .i64 ((dueL P cy 0 p.2.1 n).length : Nat)), (14, iv .i64 p.1)]) (fun p => hS m c [rowT P n cap, schO (plC 6 n cap) cy W o i, boxM m c, rowT P n cap2, schO (plC 9 n cap2) cy p.2.1 p.2.2.1 p.2.2.2, rowT (at0L A) n n]) (fun p => (W + 51 - p.1).toNat) (0, 0, trg0, false) ⟨⟨Int.le_refl _, by show (0 : Int) ≤ W; omega, Int.le_refl _⟩, Int.le_refl _, by show (0 : Int) ≤ W + 50; omega⟩ ?_ (fun p ⟨⟨hv0, hv1, hv2⟩, ha0, ha1⟩ => ?_)
  · rw [show (dueL P cy 0 ((0, 0, trg0, false) : Int × Int × Trg × Bool).2.1 n).length = 0 from by rw [dnil 0]; rfl]
    conv => whnf
    refine Le.id rfl ?_ ?_
    all_goals(repeat'(first|exact leT_empty|exact trivial|exact rfl|exact .inl rfl|exact .inr rfl|exact .inr ⟨rfl,rfl⟩|exact Nat.le_refl _|exact Nat.zero_le _|exact fun _ _=>rfl|assumption|refine And.intro ?_ ?_|exact ul0|exact ul1 rfl|exact ul2 rfl rfl|exact ul3 rfl rfl rfl))
  generalize p.1 = at_ at *
  generalize p.2.1 = v at *
  generalize p.2.2.1 = ov at *
  generalize p.2.2.2 = iv_ at *
  obtain ⟨w, hw⟩ : ∃ w, min at_ W = w := ⟨_, rfl⟩
  have hwb : v ≤ w ∧ w ≤ W ∧ w ≤ at_ ∧ (W ≤ at_ → w = W) := by omega
  obtain ⟨L, hL⟩ : ∃ L, dueL P cy v w n = L := ⟨_, rfl⟩
  obtain ⟨l, hl⟩ : ∃ l, L.length = l := ⟨_, rfl⟩
  obtain ⟨o3, ho3⟩ : ∃ o3, opnT (at0L L) ov l = o3 := ⟨_, rfl⟩
  obtain ⟨i3, hi3⟩ : ∃ i3, opnB (at0L L) iv_ l = i3 := ⟨_, rfl⟩
  have s1 := due_split (T := P) (cy := cy) (a := 0) (b := v) (d := w) ⟨hv0, hwb.1⟩ n srt
  have s2 := due_split (T := P) (cy := cy) (a := 0) (b := w) (d := W) ⟨by omega, hwb.2.1⟩ n srt
  rw [hA] at s2
  rw [hL] at s1
  obtain ⟨K, hK⟩ : ∃ K, (dueL P cy 0 v n).length = K := ⟨_, rfl⟩
  have e1 : (dueL P cy 0 w n).length = K + l := by rw [← s1, List.length_append, hK, hl]
  have e2 : K + l ≤ k := by rw [← hk, ← s2, List.length_append, e1]; omega
  have e3 : ∀ q, q < l → at0L A (K + q) = at0L L q := fun q hq => by
    rw [← s2, at0L_left (by rw [e1]; omega), ← s1, ← hK, at0L_right]
  have e4 : w = W → K + l = k := fun h => by
    rw [h] at e1
    rw [← e1, hA, hk]
  rw [hK]
  generalize at0L A = AF at *
  repeat((conv=>whnf);first|((with_reducible refine qS ?_ ?_ ?_);exact rfl;exact rfl)|with_reducible refine qB ?_|((with_reducible refine qI ?_ ?_);omega)|((with_reducible refine qDT ?_ ?_);omega)|((with_reducible refine qDF ?_ ?_);omega)|((with_reducible refine qNT ?_ ?_);omega)|((with_reducible refine qNF ?_ ?_);omega)|((with_reducible refine qU8 ?_ ?_);omega)|((with_reducible refine qU32 ?_ ?_);omega)|((with_reducible refine qU64 ?_ ?_);omega)|((with_reducible refine qU16 ?_ ?_);omega))
  conv => whnf
  rw [hw]
  repeat((conv=>whnf);first|((with_reducible refine qS ?_ ?_ ?_);exact rfl;exact rfl)|with_reducible refine qB ?_|((with_reducible refine qI ?_ ?_);omega)|((with_reducible refine qDT ?_ ?_);omega)|((with_reducible refine qDF ?_ ?_);omega)|((with_reducible refine qNT ?_ ?_);omega)|((with_reducible refine qNF ?_ ?_);omega)|((with_reducible refine qU8 ?_ ?_);omega)|((with_reducible refine qU32 ?_ ?_);omega)|((with_reducible refine qU64 ?_ ?_);omega)|((with_reducible refine qU16 ?_ ?_);omega))
  conv => whnf
  refine now_ask (T := P) (n := n) (cap := cap2) (cy := cy) (a := v) (b := w) (o := ov) (is := iv_) [10, 9] L l o3 i3 (slT 12 l n false) (hS m c [rowT P n cap, schO (plC 6 n cap) cy W o i, boxM m c, rowT P n cap2, schO (plC 9 n cap2) cy w o3 i3, rowT AF n n, rowT (at0L L) n n]) (by omega) (by omega) hcI hL hl ho3 hi3 rfl ?_ ?_ rfl rfl ?_
  · repeat'(first|exact leT_empty|exact trivial|exact rfl|exact .inl rfl|exact .inr rfl|exact .inr ⟨rfl,rfl⟩|exact Nat.le_refl _|exact Nat.zero_le _|exact fun _ _=>rfl|assumption|refine And.intro ?_ ?_|exact ul0|exact ul1 rfl|exact ul2 rfl rfl|exact ul3 rfl rfl rfl)
  · repeat'(first|exact leT_empty|exact trivial|exact rfl|exact .inl rfl|exact .inr rfl|exact .inr ⟨rfl,rfl⟩|exact Nat.le_refl _|exact Nat.zero_le _|exact fun _ _=>rfl|assumption|refine And.intro ?_ ?_|exact ul0|exact ul1 rfl|exact ul2 rfl rfl|exact ul3 rfl rfl rfl)
  repeat((conv=>whnf);first|((with_reducible refine qS ?_ ?_ ?_);exact rfl;exact rfl)|with_reducible refine qB ?_|((with_reducible refine qI ?_ ?_);omega)|((with_reducible refine qDT ?_ ?_);omega)|((with_reducible refine qDF ?_ ?_);omega)|((with_reducible refine qNT ?_ ?_);omega)|((with_reducible refine qNF ?_ ?_);omega)|((with_reducible refine qU8 ?_ ?_);omega)|((with_reducible refine qU32 ?_ ?_);omega)|((with_reducible refine qU64 ?_ ?_);omega)|((with_reducible refine qU16 ?_ ?_);omega))
  conv => whnf
  refine .rd (fun q : Nat => q ≤ l) (fun q => [(13, iv .i64 (K + q : Nat)), (16, iv .i64 q)]) (fun q => l - q) 0 (Nat.zero_le _) ?_ (fun q hq => ?_)
  · conv => whnf
    refine Le.id rfl ?_ ?_
    all_goals(repeat'(first|exact leT_empty|exact trivial|exact rfl|exact .inl rfl|exact .inr rfl|exact .inr ⟨rfl,rfl⟩|exact Nat.le_refl _|exact Nat.zero_le _|exact fun _ _=>rfl|assumption|refine And.intro ?_ ?_|exact ul0|exact ul1 rfl|exact ul2 rfl rfl|exact ul3 rfl rfl rfl))
  conv => whnf
  refine cD (fun h8 => ?_) (fun h8 => ?_)
  · have z0 : 0 + ((q : Int)).toNat = q := by omega
    have z1 : 0 + (((K + q : Nat) : Int)).toNat = K + q := by omega
    have e3 := e3 q (by omega)
    repeat((conv=>whnf);first|((with_reducible refine qS ?_ ?_ ?_);exact rfl;exact rfl)|with_reducible refine qB ?_|((with_reducible refine qI ?_ ?_);omega)|((with_reducible refine qDT ?_ ?_);omega)|((with_reducible refine qDF ?_ ?_);omega)|((with_reducible refine qNT ?_ ?_);omega)|((with_reducible refine qNF ?_ ?_);omega)|((with_reducible refine qU8 ?_ ?_);omega)|((with_reducible refine qU32 ?_ ?_);omega)|((with_reducible refine qU64 ?_ ?_);omega)|((with_reducible refine qU16 ?_ ?_);omega))
    conv => whnf
    rw [z0, z1, e3, trg_eq, show decide (at0L L q = at0L L q) = true from decide_eq_true rfl]
    repeat((conv=>whnf);first|((with_reducible refine qS ?_ ?_ ?_);exact rfl;exact rfl)|with_reducible refine qB ?_|((with_reducible refine qI ?_ ?_);omega)|((with_reducible refine qDT ?_ ?_);omega)|((with_reducible refine qDF ?_ ?_);omega)|((with_reducible refine qNT ?_ ?_);omega)|((with_reducible refine qNF ?_ ?_);omega)|((with_reducible refine qU8 ?_ ?_);omega)|((with_reducible refine qU32 ?_ ?_);omega)|((with_reducible refine qU64 ?_ ?_);omega)|((with_reducible refine qU16 ?_ ?_);omega))
    conv => whnf
    refine ⟨q + 1, ⟨by omega, by omega⟩, ?_⟩
    rw [show K + (q + 1) = K + q + 1 by omega]
    conv => whnf
    refine Le.id rfl ?_ ?_
    all_goals(repeat'(first|exact leT_empty|exact trivial|exact rfl|exact .inl rfl|exact .inr rfl|exact .inr ⟨rfl,rfl⟩|exact Nat.le_refl _|exact Nat.zero_le _|exact fun _ _=>rfl|assumption|refine And.intro ?_ ?_|exact ul0|exact ul1 rfl|exact ul2 rfl rfl|exact ul3 rfl rfl rfl))
  obtain rfl : q = l := by omega
  conv => whnf
  refine cD (fun h9 => ?_) (fun h9 => ?_)
  · have e5 := e4 (hwb.2.2.2 (by omega))
    repeat((conv=>whnf);first|((with_reducible refine qS ?_ ?_ ?_);exact rfl;exact rfl)|with_reducible refine qB ?_|((with_reducible refine qI ?_ ?_);omega)|((with_reducible refine qDT ?_ ?_);omega)|((with_reducible refine qDF ?_ ?_);omega)|((with_reducible refine qNT ?_ ?_);omega)|((with_reducible refine qNF ?_ ?_);omega)|((with_reducible refine qU8 ?_ ?_);omega)|((with_reducible refine qU32 ?_ ?_);omega)|((with_reducible refine qU64 ?_ ?_);omega)|((with_reducible refine qU16 ?_ ?_);omega))
    conv => whnf
    refine now_ask (T := P) (n := n) (cap := cap) (cy := cy) (a := W) (b := W) (o := o) (is := i) [7, 6] [] 0 o i (slT 13 0 n false) (hS m c [rowT P n cap, schO (plC 6 n cap) cy W o i, boxM m c, rowT P n cap2, schO (plC 9 n cap2) cy w o3 i3, rowT AF n n, rowT (at0L L) n n, rowT (at0L []) n n]) (by omega) (by omega) hcI (dnil W) rfl rfl rfl rfl ?_ ?_ rfl rfl ?_
    · repeat'(first|exact leT_empty|exact trivial|exact rfl|exact .inl rfl|exact .inr rfl|exact .inr ⟨rfl,rfl⟩|exact Nat.le_refl _|exact Nat.zero_le _|exact fun _ _=>rfl|assumption|refine And.intro ?_ ?_|exact ul0|exact ul1 rfl|exact ul2 rfl rfl|exact ul3 rfl rfl rfl)
    · repeat'(first|exact leT_empty|exact trivial|exact rfl|exact .inl rfl|exact .inr rfl|exact .inr ⟨rfl,rfl⟩|exact Nat.le_refl _|exact Nat.zero_le _|exact fun _ _=>rfl|assumption|refine And.intro ?_ ?_|exact ul0|exact ul1 rfl|exact ul2 rfl rfl|exact ul3 rfl rfl rfl)
    repeat((conv=>whnf);first|((with_reducible refine qS ?_ ?_ ?_);exact rfl;exact rfl)|with_reducible refine qB ?_|((with_reducible refine qI ?_ ?_);omega)|((with_reducible refine qDT ?_ ?_);omega)|((with_reducible refine qDF ?_ ?_);omega)|((with_reducible refine qNT ?_ ?_);omega)|((with_reducible refine qNF ?_ ?_);omega)|((with_reducible refine qU8 ?_ ?_);omega)|((with_reducible refine qU32 ?_ ?_);omega)|((with_reducible refine qU64 ?_ ?_);omega)|((with_reducible refine qU16 ?_ ?_);omega))
    conv => whnf
    exact congrArg bv (decide_eq_true (by omega))
  · repeat((conv=>whnf);first|((with_reducible refine qS ?_ ?_ ?_);exact rfl;exact rfl)|with_reducible refine qB ?_|((with_reducible refine qI ?_ ?_);omega)|((with_reducible refine qDT ?_ ?_);omega)|((with_reducible refine qDF ?_ ?_);omega)|((with_reducible refine qNT ?_ ?_);omega)|((with_reducible refine qNF ?_ ?_);omega)|((with_reducible refine qU8 ?_ ?_);omega)|((with_reducible refine qU32 ?_ ?_);omega)|((with_reducible refine qU64 ?_ ?_);omega)|((with_reducible refine qU16 ?_ ?_);omega))
    conv => whnf
    refine ⟨(at_ + b.tmod 50 + 1, w, o3, i3), ⟨⟨⟨by show 0 ≤ w; omega, by show w ≤ W; omega, by show w ≤ at_ + b.tmod 50 + 1; omega⟩, by show 0 ≤ at_ + b.tmod 50 + 1; omega, by show at_ + b.tmod 50 + 1 ≤ W + 50; omega⟩, by show (W + 51 - (at_ + b.tmod 50 + 1)).toNat < (W + 51 - at_).toNat; omega⟩, ?_⟩
    rw [e1]
    conv => whnf
    refine Le.id rfl ?_ ?_
    all_goals(repeat'(first|exact leT_empty|exact trivial|exact rfl|exact .inl rfl|exact .inr rfl|exact .inr ⟨rfl,rfl⟩|exact Nat.le_refl _|exact Nat.zero_le _|exact fun _ _=>rfl|assumption|refine And.intro ?_ ?_|exact ul0|exact ul1 rfl|exact ul2 rfl rfl|exact ul3 rfl rfl rfl))
theorem cl_ok : ∃ cl : Cl, ClOk Try.prog cl ∧ ∀ D, OkAll pas D → cl F.law23_SchedOnce [] (xsP 0 pas D) (hsP pas D) fun x _ => x = bv true := by
  refine ⟨clRunX 7 tt outsL23 tabL 4, clRunX_ok (d := 7) ttOk outsL23_ok tabL_ok 4, fun D hD => ?_⟩
  match D, hD with
  | [d0, d1, d2], hD =>
    obtain ⟨h0, h1, h2, _⟩ := hD
    obtain ⟨m, c, hm, hc, e0, e1⟩ := open_mat h0
    obtain ⟨a, rfl, ha⟩ := one_u8 h1
    obtain ⟨b, rfl, hb⟩ := one_u8 h2
    have hw := walk m c a b hm hc ha hb
    show clRunX 7 tt outsL23 tabL 4 30 [] (xP 0 (.agg matSh) d0 :: _) (hs matSh d0 ++ _) _
    rw [e0, e1]
    exact hw
theorem own' : ownKnob Try.prog.godebug = none := own
theorem lifted (os : Os) (started : os.Started) (H : Type) (enc : TypeId × Value → H) :
    ReturnsInHanded {} Try.checked os 30 .any (Rows.schedOnceSpec.pre6 enc Try.prog Try.f30 Rows.schedOnceRow.domain false) (Rows.schedOnceSpec.post enc Try.prog Try.f30 false true false false) := by
  refine returnsInHanded_of_change (C := Try.checked) own started (by kernel_rfl) Try.func30
    (ChangeSpec.witness6 (enc := enc) (C := Try.checked) false ⟨#[], #[.agg #[.int .i64 0, .int .i64 0, .int .i64 0, .int .i64 0, .int .i64 0, .int .i64 0, .int .i64 0, .int .u32 0, .slice none 0 0, .slice none 0 0, .slice none 0 0], .int .u8 0, .int .u8 0], []⟩ 8 (by kernel_rfl) (by kernel_rfl) (by kernel_rfl) (by kernel_rfl)) ?_
  intro W base args ds gs before hval hW _ _
  obtain ⟨cl, hc, hw⟩ := cl_ok
  exact row_of (ps := pas) (by kernel_rfl) (by kernel_rfl) rfl rfl (fun ds h => by
    match ds, h with
    | [_, _, _], _ => rfl) hval hW hc hw
theorem closed : joinedFacts Try.prog 30 Try.f30 Rows.schedOnceSpec Rows.schedOnceRow = true := by
  simp only [joinedFacts, Bool.and_eq_true]
  repeat' apply And.intro
  all_goals first
    | with_reducible exact mayEnter_ok
    | with_reducible exact laid_ok
    | with_reducible exact rowed_ok
    | ((with_reducible refine beq_r lifts_ok ?_); rfl)
    | ((with_reducible refine beq_l make_ok ?_); kernel_rfl)
    | (as_aux_lemma => kernel_rfl)
theorem named : Try.prog.funcNamed Rows.schedOnceRow.func = some 30 := by kernel_rfl
theorem inst : Try.f30.isInstance Try.prog Rows.schedOnceRow.origin Rows.schedOnceRow.targs := of_decide_eq_true (by kernel_rfl)
theorem wrap : Try.f30.isWrapper Try.prog Rows.schedOnceRow.wrapper Rows.schedOnceRow.mainSum := by
  unfold Func.isWrapper; first | (rw [if_pos (by decide +kernel)]; kernel_rfl) | (rw [if_neg (by decide +kernel)]; exact ⟨rfl, rfl⟩)
theorem over : Rows.schedOnceRow.holds Try.pinned (OpenSpec.ofChange Rows.schedOnceSpec) :=
  OpenClaim.holds_of_wide 30 Try.f30 rfl rfl rfl rfl rfl rfl rfl ⟨rfl, rfl, rfl, rfl, rfl⟩ rfl rfl rfl rfl rfl named Try.func30 closed inst wrap
    (fun os started H enc _ => lifted os started H enc)
/-- The statement. -/
theorem proved : Rows.SchedOnceSaid := over
#print axioms proved
end Go.Proofs.Ytbdifadabipfiaa.schedOnce
