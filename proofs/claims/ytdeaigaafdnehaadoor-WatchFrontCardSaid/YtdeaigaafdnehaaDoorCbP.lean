/- Contracts: the frames of a row of bits, whatever errors are in it. -/
import Derived.Test.YtdeaigaafdnehaaDoorCbK
import Derived.Test.YtdeaigaafdnehaaDoorCsD
import Derived.Test.YtdeaigaafdnehaaDoorPuT
namespace Go.Pu
/-- The frames, and the errors, of a row. -/
inductive FrG : List Bool → Nat → List Sn → Prop where
  | done (at_ : Nat) : FrG [] at_ []
  | one {l : List Bool} {at_ : Nat} {o : List Sn} : FrG l (at_ + 1) o → FrG (true :: l) at_ o
  | ok {l : List Bool} {at_ n : Nat} {f : Frm} {o : List Sn} : dec (false :: l) = (f, n, 0) → FrG ((false :: l).drop n) (at_ + n) o → FrG (false :: l) at_ (⟨at_, n, f, 0⟩ :: o)
  | short {l : List Bool} {at_ n : Nat} {f : Frm} : dec (false :: l) = (f, n, 10) → FrG (false :: l) at_ []
  | last {l : List Bool} {at_ n e : Nat} {f : Frm} : dec (false :: l) = (f, n, e) → e ≠ 0 → e ≠ 10 → idx11 ((false :: l).drop (n + 1)) = -1 → FrG (false :: l) at_ [⟨at_, n + 1, frm0, e⟩]
  | next {l : List Bool} {at_ n e i : Nat} {f : Frm} {o : List Sn} : dec (false :: l) = (f, n, e) → e ≠ 0 → e ≠ 10 → idx11 ((false :: l).drop (n + 1)) = (i : Int) → FrG ((false :: l).drop (n + 1 + (i + 11))) (at_ + (n + 1) + (i + 11)) o → FrG (false :: l) at_ (⟨at_, n + 1, frm0, e⟩ :: o)
theorem FrG.inv1 {l l' : List Bool} {at_ : Nat} {o : List Sn} (h : FrG l at_ o) (e : l = true :: l') : FrG l' (at_ + 1) o := by
  cases h with
  | one h => injection e with _ e; subst e; exact h
  | _ => cases e
theorem FrG.inv0 {l l' : List Bool} {at_ : Nat} {o : List Sn} (h : FrG l at_ o) (e : l = false :: l') : (∃ f n o', dec l = (f, n, 0) ∧ FrG (l.drop n) (at_ + n) o' ∧ o = ⟨at_, n, f, 0⟩ :: o') ∨ (∃ f n, dec l = (f, n, 10) ∧ o = []) ∨ (∃ f n e, dec l = (f, n, e) ∧ e ≠ 0 ∧ e ≠ 10 ∧ idx11 (l.drop (n + 1)) = -1 ∧ o = [⟨at_, n + 1, frm0, e⟩]) ∨
    ∃ f n e i o', dec l = (f, n, e) ∧ e ≠ 0 ∧ e ≠ 10 ∧ idx11 (l.drop (n + 1)) = ((i : Nat) : Int) ∧ FrG (l.drop (n + 1 + (i + 11))) (at_ + (n + 1) + (i + 11)) o' ∧ o = ⟨at_, n + 1, frm0, e⟩ :: o' := by
  cases h with
  | done => cases e
  | one => cases e
  | ok h1 h2 => exact .inl ⟨_, _, _, h1, h2, rfl⟩
  | short h1 => exact .inr (.inl ⟨_, _, h1, rfl⟩)
  | last h1 h2 h3 h4 => exact .inr (.inr (.inl ⟨_, _, _, h1, h2, h3, h4, rfl⟩))
  | next h1 h2 h3 h4 h5 => exact .inr (.inr (.inr ⟨_, _, _, _, _, h1, h2, h3, h4, h5, rfl⟩))
theorem FrG.nil {l : List Bool} {at_ : Nat} {o : List Sn} (h : FrG l at_ o) (e : l = []) : o = [] := by
  cases h with
  | done => rfl
  | _ => cases e
theorem dec_len {l : List Bool} {f : Frm} {n e : Nat} (h : dec l = (f, n, e)) : n ≤ l.length ∧ (e ≠ 10 → e ≠ 0 → n < l.length) ∧ (e = 0 → 0 < n) := by
  obtain ⟨_, q2, q3, q4⟩ := decGo_len l rd0 0
  have h : decGo rd0 0 l = (f, n, e) := h
  rw [h] at q2 q3 q4
  exact ⟨by simpa using q2, fun a b => by simpa using q3 a b, fun a => q4 a⟩
theorem idx11_nat {l : List Bool} : idx11 l = -1 ∨ ∃ i : Nat, idx11 l = (i : Int) ∧ i + 11 ≤ l.length := by
  by_cases h : idx11 l = -1
  · exact .inl h
  · have h1 := idx11_ge l
    have h2 := idx11_le l h
    exact .inr ⟨(idx11 l).toNat, by omega, by omega⟩
theorem FrG.ex : ∀ (k : Nat) (l : List Bool) (at_ : Nat), l.length ≤ k → ∃ o, FrG l at_ o
  | _, [], at_, _ => ⟨_, .done at_⟩
  | 0, _ :: _, _, h => by cases h
  | k + 1, true :: l, at_, h => by
    obtain ⟨o, ho⟩ := FrG.ex k l (at_ + 1) (by simpa using h)
    exact ⟨o, .one ho⟩
  | k + 1, false :: l, at_, h => by
    obtain ⟨d, hd⟩ : ∃ d, dec (false :: l) = d := ⟨_, rfl⟩
    obtain ⟨f, n, e⟩ := d
    obtain ⟨q1, q2, q3⟩ := dec_len hd
    have hl : (false :: l).length = l.length + 1 := rfl
    rw [hl] at h q1 q2
    by_cases h0 : e = 0
    · subst h0
      have := q3 rfl
      obtain ⟨o, ho⟩ := FrG.ex k ((false :: l).drop n) (at_ + n) (by rw [List.length_drop, hl]; omega)
      exact ⟨_, .ok hd ho⟩
    · by_cases h10 : e = 10
      · subst h10; exact ⟨_, .short hd⟩
      · rcases idx11_nat (l := (false :: l).drop (n + 1)) with hx | ⟨i, hx, _⟩
        · exact ⟨_, .last hd h0 h10 hx⟩
        · obtain ⟨o, ho⟩ := FrG.ex k ((false :: l).drop (n + 1 + (i + 11))) (at_ + (n + 1) + (i + 11)) (by rw [List.length_drop, hl]; omega)
          exact ⟨_, .next hd h0 h10 hx ho⟩
theorem frG_ex (l : List Bool) (at_ : Nat) : ∃ o, FrG l at_ o := FrG.ex _ l at_ (Nat.le_refl _)
theorem pre49 : ∀ (k : Nat) (l : List UInt8), (List.replicate k (49 : UInt8)).isPrefixOf l = (List.replicate k true).isPrefixOf (l.map fun c => c == 49)
  | 0, _ => by simp [List.isPrefixOf]
  | _ + 1, [] => rfl
  | k + 1, b :: l => by
    show ((49 : UInt8) == b && (List.replicate k (49 : UInt8)).isPrefixOf l) = (true == (b == 49) && (List.replicate k true).isPrefixOf (l.map fun c => c == 49))
    rw [pre49 k l]
    have : ((49 : UInt8) == b) = (true == (b == 49)) := by
      rw [Bool.eq_iff_iff]
      simp only [beq_iff_eq]
      constructor
      · intro h; rw [← h]; simp
      · intro h
        have : (b == 49) = true := h.symm
        exact (beq_iff_eq.1 this).symm
    rw [this]
theorem lib_idx : ∀ (l : List UInt8), Go.Lib.index l (List.replicate 11 (49 : UInt8)) = idx11 (l.map fun c => c == 49)
  | [] => rfl
  | b :: l => by
    have ih := lib_idx l
    show (if (List.replicate 11 (49 : UInt8)).isPrefixOf (b :: l) then (0 : Int) else if Go.Lib.index l (List.replicate 11 (49 : UInt8)) == -1 then -1 else Go.Lib.index l (List.replicate 11 (49 : UInt8)) + 1) = if (List.replicate 11 true).isPrefixOf ((b == 49) :: l.map fun c => c == 49) then (0 : Int) else if idx11 (l.map fun c => c == 49) == -1 then -1 else idx11 (l.map fun c => c == 49) + 1
    rw [pre49 11 (b :: l), ih]; rfl
end Go.Pu
namespace Go.Proofs.YtdeaigaafdnehaaDoor.Co
open Go Go.Eng Go.Proofs Go.Proofs.YtdeaigaafdnehaaDoor.Tb Go.Pu
set_option maxRecDepth 100000
set_option maxHeartbeats 16000000
abbrev outsFrg : List (FuncId × Cx) := [(F.code_Decode, AskC decC), (F.strings_Repeat, AskC repC), (F.strings_Index, AskC idxC)]
theorem outsFrg_ok : OutsOk Tryd.prog outsFrg := .cons (ask_ok dec_ok) (.cons (ask_ok rep_ok) (.cons (ask_ok idx_ok) .nil))
noncomputable abbrev tabFrg : List (FuncId × Eng.Fn) := [(F.watch_Frames, fn.watch_Frames u0)]
theorem tabFrg_ok {d : Nat} : TabOk d tabFrg tt := .cons (ok.watch_Frames u0) (TabOk.nil)
theorem frg_run (s : ByteArray) (W : List Sn) (m : Int) (hs : s.size ≤ 4000) (hW : FrG (rd s) 0 W) : clRunX 7 tt outsFrg tabFrg 2 F.watch_Frames [] [sv s] [glE m] (fun x h => Trim 1 x h fun x h => ∃ q, W.length ≤ q ∧ x = outN 1 W.length q ∧ h = glE m :: rowsN W W.length q) := by
  have hl := rd_len s
  have hmin : min (s.size : Int) 4000 = (s.size : Int) := by omega
  have hext : s.extract 0 ((s.size : Int)).toNat = s := by rw [tn]; simp
  repeat((conv=>whnf);first|((with_reducible refine qS ?_ ?_ ?_);exact rfl;exact rfl)|with_reducible refine qB ?_|((with_reducible refine qI ?_ ?_);omega)|((with_reducible refine qDT ?_ ?_);omega)|((with_reducible refine qDF ?_ ?_);omega)|((with_reducible refine qNT ?_ ?_);omega)|((with_reducible refine qNF ?_ ?_);omega)|((with_reducible refine qU8 ?_ ?_);omega)|((with_reducible refine qU32 ?_ ?_);omega)|((with_reducible refine qU64 ?_ ?_);omega)|((with_reducible refine qU16 ?_ ?_);omega))
  conv => whnf
  rw [hmin, hext]
  refine .inv (fun p : Nat × Nat × List Sn => p.1 ≤ s.size ∧ p.2.2.length ≤ p.1 ∧ p.2.2.length ≤ p.2.1 ∧ ∃ o, FrG ((rd s).drop p.1) p.1 o ∧ p.2.2 ++ o = W) (fun p => [(4, outN 1 p.2.2.length p.2.1), (5, iv .i64 p.1)]) (fun p => glE m :: rowsN p.2.2 p.2.2.length p.2.1) (fun p => s.size - p.1) (0, 0, []) ⟨Nat.zero_le _, Nat.le_refl _, Nat.le_refl _, W, hW, rfl⟩ ?_ (fun p ⟨hi, ho, hc, hF⟩ => ?_)
  · conv => whnf
    refine Le.id rfl ?_ ?_
    all_goals(repeat'(first|exact leT_empty|exact trivial|exact rfl|exact .inl rfl|exact .inr rfl|exact .inr ⟨rfl,rfl⟩|exact Nat.le_refl _|exact Nat.zero_le _|exact fun _ _=>rfl|assumption|refine And.intro ?_ ?_|exact ul0|exact ul1 rfl|exact ul2 rfl rfl|exact ul3 rfl rfl rfl))
  generalize p.1 = i at *
  generalize p.2.1 = cap at *
  generalize p.2.2 = O at *
  obtain ⟨o, hF, hO⟩ := hF
  obtain ⟨k, hk⟩ : ∃ k, O.length = k := ⟨_, rfl⟩
  rw [hk] at ho hc ⊢
  rcases k with _ | k
  · conv => whnf
    skip
    refine cD (fun h5 => ?_) (fun h5 => ?_)
    rotate_left
    · have eo := hF.nil (List.drop_of_length_le (by omega))
      rw [eo, List.append_nil] at hO
      repeat((conv=>whnf);first|((with_reducible refine qS ?_ ?_ ?_);exact rfl;exact rfl)|with_reducible refine qB ?_|((with_reducible refine qI ?_ ?_);omega)|((with_reducible refine qDT ?_ ?_);omega)|((with_reducible refine qDF ?_ ?_);omega)|((with_reducible refine qNT ?_ ?_);omega)|((with_reducible refine qNF ?_ ?_);omega)|((with_reducible refine qU8 ?_ ?_);omega)|((with_reducible refine qU32 ?_ ?_);omega)|((with_reducible refine qU64 ?_ ?_);omega)|((with_reducible refine qU16 ?_ ?_);omega))
      conv => whnf
      refine Trim.fam cap (by rw [← hO]; omega) ?_
      rw [← hO, hk]
      refine Le.id rfl ?_ ?_
      · repeat'(first|exact leT_empty|exact trivial|exact rfl|exact .inl rfl|exact .inr rfl|exact .inr ⟨rfl,rfl⟩|exact Nat.le_refl _|exact Nat.zero_le _|exact fun _ _=>rfl|assumption|refine And.intro ?_ ?_|exact ul0|exact ul1 rfl|exact ul2 rfl rfl|exact ul3 rfl rfl rfl)
      · repeat'(first|exact leT_empty|exact trivial|exact rfl|exact .inl rfl|exact .inr rfl|exact .inr ⟨rfl,rfl⟩|exact Nat.le_refl _|exact Nat.zero_le _|exact fun _ _=>rfl|assumption|refine And.intro ?_ ?_|exact ul0|exact ul1 rfl|exact ul2 rfl rfl|exact ul3 rfl rfl rfl)
    have hi' : i < (rd s).length := by omega
    have hd := drop_gb hi'
    repeat((conv=>whnf);first|((with_reducible refine qS ?_ ?_ ?_);exact rfl;exact rfl)|with_reducible refine qB ?_|((with_reducible refine qI ?_ ?_);omega)|((with_reducible refine qDT ?_ ?_);omega)|((with_reducible refine qDF ?_ ?_);omega)|((with_reducible refine qNT ?_ ?_);omega)|((with_reducible refine qNF ?_ ?_);omega)|((with_reducible refine qU8 ?_ ?_);omega)|((with_reducible refine qU32 ?_ ?_);omega)|((with_reducible refine qU64 ?_ ?_);omega)|((with_reducible refine qU16 ?_ ?_);omega))
    conv => whnf
    rw [tn, dec49 (by omega)]
    generalize gb (rd s) i = b at *
    cases b
    rotate_left
    · have hF' := hF.inv1 hd
      repeat((conv=>whnf);first|((with_reducible refine qS ?_ ?_ ?_);exact rfl;exact rfl)|with_reducible refine qB ?_|((with_reducible refine qI ?_ ?_);omega)|((with_reducible refine qDT ?_ ?_);omega)|((with_reducible refine qDF ?_ ?_);omega)|((with_reducible refine qNT ?_ ?_);omega)|((with_reducible refine qNF ?_ ?_);omega)|((with_reducible refine qU8 ?_ ?_);omega)|((with_reducible refine qU32 ?_ ?_);omega)|((with_reducible refine qU64 ?_ ?_);omega)|((with_reducible refine qU16 ?_ ?_);omega))
      conv => whnf
      refine ⟨(i + 1, cap, O), ⟨⟨by show i + 1 ≤ s.size; omega, by show O.length ≤ i + 1; omega, by show O.length ≤ cap; omega, o, hF', hO⟩, by show s.size - (i + 1) < s.size - i; omega⟩, ?_⟩
      dsimp only
      rw [hk]
      conv => whnf
      refine Le.id rfl ?_ ?_
      all_goals(repeat'(first|exact leT_empty|exact trivial|exact rfl|exact .inl rfl|exact .inr rfl|exact .inr ⟨rfl,rfl⟩|exact Nat.le_refl _|exact Nat.zero_le _|exact fun _ _=>rfl|assumption|refine And.intro ?_ ?_|exact ul0|exact ul1 rfl|exact ul2 rfl rfl|exact ul3 rfl rfl rfl))
    have ex : rd (s.extract i s.size) = (rd s).drop i := by rw [rd_ext, List.take_of_length_le (by rw [List.length_drop, hl]; omega)]
    have hll : ((rd s).drop i).length = s.size - i := by rw [List.length_drop, hl]
    rcases hF.inv0 hd with ⟨f, n, o', e1, hF', e2⟩ | ⟨f, n, e1, e2⟩ | ⟨f, n, e, e1, ne0, ne10, hx, e2⟩ | ⟨f, n, e, j, o', e1, ne0, ne10, hx, hF', e2⟩
    · have hn := dec_len e1
      have n0 := hn.2.2 rfl
      have n1 := hn.1
      repeat((conv=>whnf);first|((with_reducible refine qS ?_ ?_ ?_);exact rfl;exact rfl)|with_reducible refine qB ?_|((with_reducible refine qI ?_ ?_);omega)|((with_reducible refine qDT ?_ ?_);omega)|((with_reducible refine qDF ?_ ?_);omega)|((with_reducible refine qNT ?_ ?_);omega)|((with_reducible refine qNF ?_ ?_);omega)|((with_reducible refine qU8 ?_ ?_);omega)|((with_reducible refine qU32 ?_ ?_);omega)|((with_reducible refine qU64 ?_ ?_);omega)|((with_reducible refine qU16 ?_ ?_);omega))
      conv => whnf
      refine dec_use (s := s.extract i s.size) (by rw [ByteArray.size_extract]; omega) ?_
      rw [ex, e1, show prsR (f, n, 0) = R.tup [frmT f, .one (.v (.int .i64 (n : Int))), .one (.v (.int .i64 0))] from rfl]
      rw [List.drop_drop] at hF'
      have el : (O ++ [(⟨i, n, f, 0⟩ : Sn)]).length = 0 + 1 := by rw [List.length_append, hk]; rfl
      repeat((conv=>whnf);first|((with_reducible refine qS ?_ ?_ ?_);exact rfl;exact rfl)|with_reducible refine qB ?_|((with_reducible refine qI ?_ ?_);omega)|((with_reducible refine qDT ?_ ?_);omega)|((with_reducible refine qDF ?_ ?_);omega)|((with_reducible refine qNT ?_ ?_);omega)|((with_reducible refine qNF ?_ ?_);omega)|((with_reducible refine qU8 ?_ ?_);omega)|((with_reducible refine qU32 ?_ ?_);omega)|((with_reducible refine qU64 ?_ ?_);omega)|((with_reducible refine qU16 ?_ ?_);omega))
      conv => whnf
      skip
      intro cap' hc'
      repeat((conv=>whnf);first|((with_reducible refine qS ?_ ?_ ?_);exact rfl;exact rfl)|with_reducible refine qB ?_|((with_reducible refine qI ?_ ?_);omega)|((with_reducible refine qDT ?_ ?_);omega)|((with_reducible refine qDF ?_ ?_);omega)|((with_reducible refine qNT ?_ ?_);omega)|((with_reducible refine qNF ?_ ?_);omega)|((with_reducible refine qU8 ?_ ?_);omega)|((with_reducible refine qU32 ?_ ?_);omega)|((with_reducible refine qU64 ?_ ?_);omega)|((with_reducible refine qU16 ?_ ?_);omega))
      conv => whnf
      refine ⟨(i + n, cap', O ++ [⟨i, n, f, 0⟩]), ⟨⟨by show i + n ≤ s.size; omega, by rw [el]; show 0 + 1 ≤ i + n; omega, by rw [el]; exact hc', o', hF', by rw [← hO, e2]; simp⟩, by show s.size - (i + n) < s.size - i; omega⟩, ?_⟩
      dsimp only
      rw [el]
      conv => whnf
      refine Le.nm [0, 3] rfl ?_ ?_
      · refine ⟨rfl, ⟨rfl, rfl, rfl, fun q hq => ?_⟩, trivial⟩
        exact app0n (c := ⟨i, n, f, 0⟩) hk hq
      · repeat'(first|exact leT_empty|exact trivial|exact rfl|exact .inl rfl|exact .inr rfl|exact .inr ⟨rfl,rfl⟩|exact Nat.le_refl _|exact Nat.zero_le _|exact fun _ _=>rfl|assumption|refine And.intro ?_ ?_|exact ul0|exact ul1 rfl|exact ul2 rfl rfl|exact ul3 rfl rfl rfl)
    · rw [e2, List.append_nil] at hO
      repeat((conv=>whnf);first|((with_reducible refine qS ?_ ?_ ?_);exact rfl;exact rfl)|with_reducible refine qB ?_|((with_reducible refine qI ?_ ?_);omega)|((with_reducible refine qDT ?_ ?_);omega)|((with_reducible refine qDF ?_ ?_);omega)|((with_reducible refine qNT ?_ ?_);omega)|((with_reducible refine qNF ?_ ?_);omega)|((with_reducible refine qU8 ?_ ?_);omega)|((with_reducible refine qU32 ?_ ?_);omega)|((with_reducible refine qU64 ?_ ?_);omega)|((with_reducible refine qU16 ?_ ?_);omega))
      conv => whnf
      refine dec_use (s := s.extract i s.size) (by rw [ByteArray.size_extract]; omega) ?_
      rw [ex, e1, show prsR (f, n, 10) = R.tup [frmT f, .one (.v (.int .i64 (n : Int))), .one (.v (.int .i64 10))] from rfl]
      repeat((conv=>whnf);first|((with_reducible refine qS ?_ ?_ ?_);exact rfl;exact rfl)|with_reducible refine qB ?_|((with_reducible refine qI ?_ ?_);omega)|((with_reducible refine qDT ?_ ?_);omega)|((with_reducible refine qDF ?_ ?_);omega)|((with_reducible refine qNT ?_ ?_);omega)|((with_reducible refine qNF ?_ ?_);omega)|((with_reducible refine qU8 ?_ ?_);omega)|((with_reducible refine qU32 ?_ ?_);omega)|((with_reducible refine qU64 ?_ ?_);omega)|((with_reducible refine qU16 ?_ ?_);omega))
      conv => whnf
      refine Trim.fam cap (by rw [← hO]; omega) ?_
      rw [← hO, hk]
      conv => whnf
      refine Le.nm [0] rfl ?_ ?_
      · repeat'(first|exact leT_empty|exact trivial|exact rfl|exact .inl rfl|exact .inr rfl|exact .inr ⟨rfl,rfl⟩|exact Nat.le_refl _|exact Nat.zero_le _|exact fun _ _=>rfl|assumption|refine And.intro ?_ ?_|exact ul0|exact ul1 rfl|exact ul2 rfl rfl|exact ul3 rfl rfl rfl)
      · repeat'(first|exact leT_empty|exact trivial|exact rfl|exact .inl rfl|exact .inr rfl|exact .inr ⟨rfl,rfl⟩|exact Nat.le_refl _|exact Nat.zero_le _|exact fun _ _=>rfl|assumption|refine And.intro ?_ ?_|exact ul0|exact ul1 rfl|exact ul2 rfl rfl|exact ul3 rfl rfl rfl)
    · have n1 := (dec_len e1).2.1 ne10 ne0
      rw [hll] at n1
      have ew : O ++ [(⟨i, n + 1, frm0, e⟩ : Sn)] = W := by rw [← hO, e2]
      repeat((conv=>whnf);first|((with_reducible refine qS ?_ ?_ ?_);exact rfl;exact rfl)|with_reducible refine qB ?_|((with_reducible refine qI ?_ ?_);omega)|((with_reducible refine qDT ?_ ?_);omega)|((with_reducible refine qDF ?_ ?_);omega)|((with_reducible refine qNT ?_ ?_);omega)|((with_reducible refine qNF ?_ ?_);omega)|((with_reducible refine qU8 ?_ ?_);omega)|((with_reducible refine qU32 ?_ ?_);omega)|((with_reducible refine qU64 ?_ ?_);omega)|((with_reducible refine qU16 ?_ ?_);omega))
      conv => whnf
      refine dec_use (s := s.extract i s.size) (by rw [ByteArray.size_extract]; omega) ?_
      rw [ex, e1, show prsR (f, n, e) = R.tup [frmT f, .one (.v (.int .i64 (n : Int))), .one (.v (.int .i64 (e : Int)))] from rfl]
      repeat((conv=>whnf);first|((with_reducible refine qS ?_ ?_ ?_);exact rfl;exact rfl)|with_reducible refine qB ?_|((with_reducible refine qI ?_ ?_);omega)|((with_reducible refine qDT ?_ ?_);omega)|((with_reducible refine qDF ?_ ?_);omega)|((with_reducible refine qNT ?_ ?_);omega)|((with_reducible refine qNF ?_ ?_);omega)|((with_reducible refine qU8 ?_ ?_);omega)|((with_reducible refine qU32 ?_ ?_);omega)|((with_reducible refine qU64 ?_ ?_);omega)|((with_reducible refine qU16 ?_ ?_);omega))
      conv => whnf
      skip
      intro cap' hc'
      repeat((conv=>whnf);first|((with_reducible refine qS ?_ ?_ ?_);exact rfl;exact rfl)|with_reducible refine qB ?_|((with_reducible refine qI ?_ ?_);omega)|((with_reducible refine qDT ?_ ?_);omega)|((with_reducible refine qDF ?_ ?_);omega)|((with_reducible refine qNT ?_ ?_);omega)|((with_reducible refine qNF ?_ ?_);omega)|((with_reducible refine qU8 ?_ ?_);omega)|((with_reducible refine qU32 ?_ ?_);omega)|((with_reducible refine qU64 ?_ ?_);omega)|((with_reducible refine qU16 ?_ ?_);omega))
      conv => whnf
      refine rep_use ?_
      repeat((conv=>whnf);first|((with_reducible refine qS ?_ ?_ ?_);exact rfl;exact rfl)|with_reducible refine qB ?_|((with_reducible refine qI ?_ ?_);omega)|((with_reducible refine qDT ?_ ?_);omega)|((with_reducible refine qDF ?_ ?_);omega)|((with_reducible refine qNT ?_ ?_);omega)|((with_reducible refine qNF ?_ ?_);omega)|((with_reducible refine qU8 ?_ ?_);omega)|((with_reducible refine qU32 ?_ ?_);omega)|((with_reducible refine qU64 ?_ ?_);omega)|((with_reducible refine qU16 ?_ ?_);omega))
      conv => whnf
      have ix : Lib.index (s.extract ((i : Int) + ((n : Int) + 1)).toNat s.size).data.toList ones11.data.toList = idx11 (((rd s).drop i).drop (n + 1)) := by
        rw [show ones11.data.toList = List.replicate 11 (49 : UInt8) from rfl, lib_idx, List.drop_drop]
        show idx11 (rd (s.extract ((i : Int) + ((n : Int) + 1)).toNat s.size)) = _
        rw [show ((i : Int) + ((n : Int) + 1)).toNat = i + (n + 1) by omega, rd_ext, List.take_of_length_le (by rw [List.length_drop, hl]; omega)]
      refine .use (s.extract ((i : Int) + ((n : Int) + 1)).toNat s.size, ones11, m) [0] (by show (s.extract _ _).size < 4294967281; rw [ByteArray.size_extract]; omega) rfl ?_ ?_ ?_
      · repeat'(first|exact leT_empty|exact trivial|exact rfl|exact .inl rfl|exact .inr rfl|exact .inr ⟨rfl,rfl⟩|exact Nat.le_refl _|exact Nat.zero_le _|exact fun _ _=>rfl|assumption|refine And.intro ?_ ?_|exact ul0|exact ul1 rfl|exact ul2 rfl rfl|exact ul3 rfl rfl rfl)
      · repeat'(first|exact leT_empty|exact trivial|exact rfl|exact .inl rfl|exact .inr rfl|exact .inr ⟨rfl,rfl⟩|exact Nat.le_refl _|exact Nat.zero_le _|exact fun _ _=>rfl|assumption|refine And.intro ?_ ?_|exact ul0|exact ul1 rfl|exact ul2 rfl rfl|exact ul3 rfl rfl rfl)
      rw [ix, hx]
      have el : (O ++ [(⟨i, n + 1, frm0, e⟩ : Sn)]).length = 0 + 1 := by rw [List.length_append, hk]; rfl
      repeat((conv=>whnf);first|((with_reducible refine qS ?_ ?_ ?_);exact rfl;exact rfl)|with_reducible refine qB ?_|((with_reducible refine qI ?_ ?_);omega)|((with_reducible refine qDT ?_ ?_);omega)|((with_reducible refine qDF ?_ ?_);omega)|((with_reducible refine qNT ?_ ?_);omega)|((with_reducible refine qNF ?_ ?_);omega)|((with_reducible refine qU8 ?_ ?_);omega)|((with_reducible refine qU32 ?_ ?_);omega)|((with_reducible refine qU64 ?_ ?_);omega)|((with_reducible refine qU16 ?_ ?_);omega))
      conv => whnf
      have hq' : W.length ≤ cap' := by rw [← ew, el]; exact hc'
      refine Trim.fam cap' hq' ?_
      rw [← ew, el]
      conv => whnf
      refine Le.nm [0, 3] rfl ?_ ?_
      · refine ⟨rfl, ⟨rfl, rfl, rfl, fun q hq => ?_⟩, trivial⟩
        exact app0n (c := ⟨i, n + 1, frm0, e⟩) hk hq
      · repeat'(first|exact leT_empty|exact trivial|exact rfl|exact .inl rfl|exact .inr rfl|exact .inr ⟨rfl,rfl⟩|exact Nat.le_refl _|exact Nat.zero_le _|exact fun _ _=>rfl|assumption|refine And.intro ?_ ?_|exact ul0|exact ul1 rfl|exact ul2 rfl rfl|exact ul3 rfl rfl rfl)
    · have n1 := (dec_len e1).2.1 ne10 ne0
      have n2 := idx11_le (((rd s).drop i).drop (n + 1)) (by rw [hx]; omega)
      rw [hx, List.length_drop] at n2
      rw [hll] at n1 n2
      rw [List.drop_drop] at hF'
      repeat((conv=>whnf);first|((with_reducible refine qS ?_ ?_ ?_);exact rfl;exact rfl)|with_reducible refine qB ?_|((with_reducible refine qI ?_ ?_);omega)|((with_reducible refine qDT ?_ ?_);omega)|((with_reducible refine qDF ?_ ?_);omega)|((with_reducible refine qNT ?_ ?_);omega)|((with_reducible refine qNF ?_ ?_);omega)|((with_reducible refine qU8 ?_ ?_);omega)|((with_reducible refine qU32 ?_ ?_);omega)|((with_reducible refine qU64 ?_ ?_);omega)|((with_reducible refine qU16 ?_ ?_);omega))
      conv => whnf
      refine dec_use (s := s.extract i s.size) (by rw [ByteArray.size_extract]; omega) ?_
      rw [ex, e1, show prsR (f, n, e) = R.tup [frmT f, .one (.v (.int .i64 (n : Int))), .one (.v (.int .i64 (e : Int)))] from rfl]
      repeat((conv=>whnf);first|((with_reducible refine qS ?_ ?_ ?_);exact rfl;exact rfl)|with_reducible refine qB ?_|((with_reducible refine qI ?_ ?_);omega)|((with_reducible refine qDT ?_ ?_);omega)|((with_reducible refine qDF ?_ ?_);omega)|((with_reducible refine qNT ?_ ?_);omega)|((with_reducible refine qNF ?_ ?_);omega)|((with_reducible refine qU8 ?_ ?_);omega)|((with_reducible refine qU32 ?_ ?_);omega)|((with_reducible refine qU64 ?_ ?_);omega)|((with_reducible refine qU16 ?_ ?_);omega))
      conv => whnf
      skip
      intro cap' hc'
      repeat((conv=>whnf);first|((with_reducible refine qS ?_ ?_ ?_);exact rfl;exact rfl)|with_reducible refine qB ?_|((with_reducible refine qI ?_ ?_);omega)|((with_reducible refine qDT ?_ ?_);omega)|((with_reducible refine qDF ?_ ?_);omega)|((with_reducible refine qNT ?_ ?_);omega)|((with_reducible refine qNF ?_ ?_);omega)|((with_reducible refine qU8 ?_ ?_);omega)|((with_reducible refine qU32 ?_ ?_);omega)|((with_reducible refine qU64 ?_ ?_);omega)|((with_reducible refine qU16 ?_ ?_);omega))
      conv => whnf
      refine rep_use ?_
      repeat((conv=>whnf);first|((with_reducible refine qS ?_ ?_ ?_);exact rfl;exact rfl)|with_reducible refine qB ?_|((with_reducible refine qI ?_ ?_);omega)|((with_reducible refine qDT ?_ ?_);omega)|((with_reducible refine qDF ?_ ?_);omega)|((with_reducible refine qNT ?_ ?_);omega)|((with_reducible refine qNF ?_ ?_);omega)|((with_reducible refine qU8 ?_ ?_);omega)|((with_reducible refine qU32 ?_ ?_);omega)|((with_reducible refine qU64 ?_ ?_);omega)|((with_reducible refine qU16 ?_ ?_);omega))
      conv => whnf
      have ix : Lib.index (s.extract ((i : Int) + ((n : Int) + 1)).toNat s.size).data.toList ones11.data.toList = idx11 (((rd s).drop i).drop (n + 1)) := by
        rw [show ones11.data.toList = List.replicate 11 (49 : UInt8) from rfl, lib_idx, List.drop_drop]
        show idx11 (rd (s.extract ((i : Int) + ((n : Int) + 1)).toNat s.size)) = _
        rw [show ((i : Int) + ((n : Int) + 1)).toNat = i + (n + 1) by omega, rd_ext, List.take_of_length_le (by rw [List.length_drop, hl]; omega)]
      refine .use (s.extract ((i : Int) + ((n : Int) + 1)).toNat s.size, ones11, m) [0] (by show (s.extract _ _).size < 4294967281; rw [ByteArray.size_extract]; omega) rfl ?_ ?_ ?_
      · repeat'(first|exact leT_empty|exact trivial|exact rfl|exact .inl rfl|exact .inr rfl|exact .inr ⟨rfl,rfl⟩|exact Nat.le_refl _|exact Nat.zero_le _|exact fun _ _=>rfl|assumption|refine And.intro ?_ ?_|exact ul0|exact ul1 rfl|exact ul2 rfl rfl|exact ul3 rfl rfl rfl)
      · repeat'(first|exact leT_empty|exact trivial|exact rfl|exact .inl rfl|exact .inr rfl|exact .inr ⟨rfl,rfl⟩|exact Nat.le_refl _|exact Nat.zero_le _|exact fun _ _=>rfl|assumption|refine And.intro ?_ ?_|exact ul0|exact ul1 rfl|exact ul2 rfl rfl|exact ul3 rfl rfl rfl)
      rw [ix, hx]
      have el : (O ++ [(⟨i, n + 1, frm0, e⟩ : Sn)]).length = 0 + 1 := by rw [List.length_append, hk]; rfl
      repeat((conv=>whnf);first|((with_reducible refine qS ?_ ?_ ?_);exact rfl;exact rfl)|with_reducible refine qB ?_|((with_reducible refine qI ?_ ?_);omega)|((with_reducible refine qDT ?_ ?_);omega)|((with_reducible refine qDF ?_ ?_);omega)|((with_reducible refine qNT ?_ ?_);omega)|((with_reducible refine qNF ?_ ?_);omega)|((with_reducible refine qU8 ?_ ?_);omega)|((with_reducible refine qU32 ?_ ?_);omega)|((with_reducible refine qU64 ?_ ?_);omega)|((with_reducible refine qU16 ?_ ?_);omega))
      conv => whnf
      refine ⟨(i + (n + 1) + (j + 11), cap', O ++ [⟨i, n + 1, frm0, e⟩]), ⟨⟨by show i + (n + 1) + (j + 11) ≤ s.size; omega, by rw [el]; show 0 + 1 ≤ i + (n + 1) + (j + 11); omega, by rw [el]; exact hc', o', by rw [show i + (n + 1) + (j + 11) = i + (n + 1 + (j + 11)) by omega] at hF' ⊢; exact hF', by rw [← hO, e2]; simp⟩, by show s.size - (i + (n + 1) + (j + 11)) < s.size - i; omega⟩, ?_⟩
      dsimp only
      rw [el]
      conv => whnf
      refine Le.nm [0, 3] rfl ?_ ?_
      · refine ⟨rfl, ⟨rfl, rfl, rfl, fun q hq => ?_⟩, trivial⟩
        exact app0n (c := ⟨i, n + 1, frm0, e⟩) hk hq
      · repeat'(first|exact leT_empty|exact trivial|exact rfl|exact .inl rfl|exact .inr rfl|exact .inr ⟨rfl,rfl⟩|exact Nat.le_refl _|exact Nat.zero_le _|exact fun _ _=>rfl|assumption|refine And.intro ?_ ?_|exact ul0|exact ul1 rfl|exact ul2 rfl rfl|exact ul3 rfl rfl rfl)
  · conv => whnf
    have hk4 : k + 1 ≤ 4000 := by omega
    refine cD (fun h5 => ?_) (fun h5 => ?_)
    rotate_left
    · have eo := hF.nil (List.drop_of_length_le (by omega))
      rw [eo, List.append_nil] at hO
      repeat((conv=>whnf);first|((with_reducible refine qS ?_ ?_ ?_);exact rfl;exact rfl)|with_reducible refine qB ?_|((with_reducible refine qI ?_ ?_);omega)|((with_reducible refine qDT ?_ ?_);omega)|((with_reducible refine qDF ?_ ?_);omega)|((with_reducible refine qNT ?_ ?_);omega)|((with_reducible refine qNF ?_ ?_);omega)|((with_reducible refine qU8 ?_ ?_);omega)|((with_reducible refine qU32 ?_ ?_);omega)|((with_reducible refine qU64 ?_ ?_);omega)|((with_reducible refine qU16 ?_ ?_);omega))
      conv => whnf
      refine Trim.fam cap (by rw [← hO]; omega) ?_
      rw [← hO, hk]
      refine Le.id rfl ?_ ?_
      · repeat'(first|exact leT_empty|exact trivial|exact rfl|exact .inl rfl|exact .inr rfl|exact .inr ⟨rfl,rfl⟩|exact Nat.le_refl _|exact Nat.zero_le _|exact fun _ _=>rfl|assumption|refine And.intro ?_ ?_|exact ul0|exact ul1 rfl|exact ul2 rfl rfl|exact ul3 rfl rfl rfl)
      · repeat'(first|exact leT_empty|exact trivial|exact rfl|exact .inl rfl|exact .inr rfl|exact .inr ⟨rfl,rfl⟩|exact Nat.le_refl _|exact Nat.zero_le _|exact fun _ _=>rfl|assumption|refine And.intro ?_ ?_|exact ul0|exact ul1 rfl|exact ul2 rfl rfl|exact ul3 rfl rfl rfl)
    have hi' : i < (rd s).length := by omega
    have hd := drop_gb hi'
    repeat((conv=>whnf);first|((with_reducible refine qS ?_ ?_ ?_);exact rfl;exact rfl)|with_reducible refine qB ?_|((with_reducible refine qI ?_ ?_);omega)|((with_reducible refine qDT ?_ ?_);omega)|((with_reducible refine qDF ?_ ?_);omega)|((with_reducible refine qNT ?_ ?_);omega)|((with_reducible refine qNF ?_ ?_);omega)|((with_reducible refine qU8 ?_ ?_);omega)|((with_reducible refine qU32 ?_ ?_);omega)|((with_reducible refine qU64 ?_ ?_);omega)|((with_reducible refine qU16 ?_ ?_);omega))
    conv => whnf
    rw [tn, dec49 (by omega)]
    generalize gb (rd s) i = b at *
    cases b
    rotate_left
    · have hF' := hF.inv1 hd
      repeat((conv=>whnf);first|((with_reducible refine qS ?_ ?_ ?_);exact rfl;exact rfl)|with_reducible refine qB ?_|((with_reducible refine qI ?_ ?_);omega)|((with_reducible refine qDT ?_ ?_);omega)|((with_reducible refine qDF ?_ ?_);omega)|((with_reducible refine qNT ?_ ?_);omega)|((with_reducible refine qNF ?_ ?_);omega)|((with_reducible refine qU8 ?_ ?_);omega)|((with_reducible refine qU32 ?_ ?_);omega)|((with_reducible refine qU64 ?_ ?_);omega)|((with_reducible refine qU16 ?_ ?_);omega))
      conv => whnf
      refine ⟨(i + 1, cap, O), ⟨⟨by show i + 1 ≤ s.size; omega, by show O.length ≤ i + 1; omega, by show O.length ≤ cap; omega, o, hF', hO⟩, by show s.size - (i + 1) < s.size - i; omega⟩, ?_⟩
      dsimp only
      rw [hk]
      conv => whnf
      refine Le.id rfl ?_ ?_
      all_goals(repeat'(first|exact leT_empty|exact trivial|exact rfl|exact .inl rfl|exact .inr rfl|exact .inr ⟨rfl,rfl⟩|exact Nat.le_refl _|exact Nat.zero_le _|exact fun _ _=>rfl|assumption|refine And.intro ?_ ?_|exact ul0|exact ul1 rfl|exact ul2 rfl rfl|exact ul3 rfl rfl rfl))
    have ex : rd (s.extract i s.size) = (rd s).drop i := by rw [rd_ext, List.take_of_length_le (by rw [List.length_drop, hl]; omega)]
    have hll : ((rd s).drop i).length = s.size - i := by rw [List.length_drop, hl]
    rcases hF.inv0 hd with ⟨f, n, o', e1, hF', e2⟩ | ⟨f, n, e1, e2⟩ | ⟨f, n, e, e1, ne0, ne10, hx, e2⟩ | ⟨f, n, e, j, o', e1, ne0, ne10, hx, hF', e2⟩
    · have hn := dec_len e1
      have n0 := hn.2.2 rfl
      have n1 := hn.1
      repeat((conv=>whnf);first|((with_reducible refine qS ?_ ?_ ?_);exact rfl;exact rfl)|with_reducible refine qB ?_|((with_reducible refine qI ?_ ?_);omega)|((with_reducible refine qDT ?_ ?_);omega)|((with_reducible refine qDF ?_ ?_);omega)|((with_reducible refine qNT ?_ ?_);omega)|((with_reducible refine qNF ?_ ?_);omega)|((with_reducible refine qU8 ?_ ?_);omega)|((with_reducible refine qU32 ?_ ?_);omega)|((with_reducible refine qU64 ?_ ?_);omega)|((with_reducible refine qU16 ?_ ?_);omega))
      conv => whnf
      refine dec_use (s := s.extract i s.size) (by rw [ByteArray.size_extract]; omega) ?_
      rw [ex, e1, show prsR (f, n, 0) = R.tup [frmT f, .one (.v (.int .i64 (n : Int))), .one (.v (.int .i64 0))] from rfl]
      rw [List.drop_drop] at hF'
      have el : (O ++ [(⟨i, n, f, 0⟩ : Sn)]).length = (k + 1) + 1 := by rw [List.length_append, hk]; rfl
      repeat((conv=>whnf);first|((with_reducible refine qS ?_ ?_ ?_);exact rfl;exact rfl)|with_reducible refine qB ?_|((with_reducible refine qI ?_ ?_);omega)|((with_reducible refine qDT ?_ ?_);omega)|((with_reducible refine qDF ?_ ?_);omega)|((with_reducible refine qNT ?_ ?_);omega)|((with_reducible refine qNF ?_ ?_);omega)|((with_reducible refine qU8 ?_ ?_);omega)|((with_reducible refine qU32 ?_ ?_);omega)|((with_reducible refine qU64 ?_ ?_);omega)|((with_reducible refine qU16 ?_ ?_);omega))
      conv => whnf
      refine cT (decide_eq_true (by show (k + 1 + 1) * 56 ≤ 1099511627776; omega)) ?_
      repeat((conv=>whnf);first|((with_reducible refine qS ?_ ?_ ?_);exact rfl;exact rfl)|with_reducible refine qB ?_|((with_reducible refine qI ?_ ?_);omega)|((with_reducible refine qDT ?_ ?_);omega)|((with_reducible refine qDF ?_ ?_);omega)|((with_reducible refine qNT ?_ ?_);omega)|((with_reducible refine qNF ?_ ?_);omega)|((with_reducible refine qU8 ?_ ?_);omega)|((with_reducible refine qU32 ?_ ?_);omega)|((with_reducible refine qU64 ?_ ?_);omega)|((with_reducible refine qU16 ?_ ?_);omega))
      conv => whnf
      intro cap' hc'
      repeat((conv=>whnf);first|((with_reducible refine qS ?_ ?_ ?_);exact rfl;exact rfl)|with_reducible refine qB ?_|((with_reducible refine qI ?_ ?_);omega)|((with_reducible refine qDT ?_ ?_);omega)|((with_reducible refine qDF ?_ ?_);omega)|((with_reducible refine qNT ?_ ?_);omega)|((with_reducible refine qNF ?_ ?_);omega)|((with_reducible refine qU8 ?_ ?_);omega)|((with_reducible refine qU32 ?_ ?_);omega)|((with_reducible refine qU64 ?_ ?_);omega)|((with_reducible refine qU16 ?_ ?_);omega))
      conv => whnf
      refine ⟨(i + n, cap', O ++ [⟨i, n, f, 0⟩]), ⟨⟨by show i + n ≤ s.size; omega, by rw [el]; show (k + 1) + 1 ≤ i + n; omega, by rw [el]; exact hc', o', hF', by rw [← hO, e2]; simp⟩, by show s.size - (i + n) < s.size - i; omega⟩, ?_⟩
      dsimp only
      rw [el]
      conv => whnf
      refine Le.nm [0, 4] rfl ?_ ?_
      · refine ⟨rfl, ⟨rfl, rfl, rfl, fun q hq => ?_⟩, trivial⟩
        exact appn (c := ⟨i, n, f, 0⟩) (n := k + 1) hk hq
      · repeat'(first|exact leT_empty|exact trivial|exact rfl|exact .inl rfl|exact .inr rfl|exact .inr ⟨rfl,rfl⟩|exact Nat.le_refl _|exact Nat.zero_le _|exact fun _ _=>rfl|assumption|refine And.intro ?_ ?_|exact ul0|exact ul1 rfl|exact ul2 rfl rfl|exact ul3 rfl rfl rfl)
    · rw [e2, List.append_nil] at hO
      repeat((conv=>whnf);first|((with_reducible refine qS ?_ ?_ ?_);exact rfl;exact rfl)|with_reducible refine qB ?_|((with_reducible refine qI ?_ ?_);omega)|((with_reducible refine qDT ?_ ?_);omega)|((with_reducible refine qDF ?_ ?_);omega)|((with_reducible refine qNT ?_ ?_);omega)|((with_reducible refine qNF ?_ ?_);omega)|((with_reducible refine qU8 ?_ ?_);omega)|((with_reducible refine qU32 ?_ ?_);omega)|((with_reducible refine qU64 ?_ ?_);omega)|((with_reducible refine qU16 ?_ ?_);omega))
      conv => whnf
      refine dec_use (s := s.extract i s.size) (by rw [ByteArray.size_extract]; omega) ?_
      rw [ex, e1, show prsR (f, n, 10) = R.tup [frmT f, .one (.v (.int .i64 (n : Int))), .one (.v (.int .i64 10))] from rfl]
      repeat((conv=>whnf);first|((with_reducible refine qS ?_ ?_ ?_);exact rfl;exact rfl)|with_reducible refine qB ?_|((with_reducible refine qI ?_ ?_);omega)|((with_reducible refine qDT ?_ ?_);omega)|((with_reducible refine qDF ?_ ?_);omega)|((with_reducible refine qNT ?_ ?_);omega)|((with_reducible refine qNF ?_ ?_);omega)|((with_reducible refine qU8 ?_ ?_);omega)|((with_reducible refine qU32 ?_ ?_);omega)|((with_reducible refine qU64 ?_ ?_);omega)|((with_reducible refine qU16 ?_ ?_);omega))
      conv => whnf
      refine Trim.fam cap (by rw [← hO]; omega) ?_
      rw [← hO, hk]
      conv => whnf
      refine Le.nm [0, 1] rfl ?_ ?_
      · repeat'(first|exact leT_empty|exact trivial|exact rfl|exact .inl rfl|exact .inr rfl|exact .inr ⟨rfl,rfl⟩|exact Nat.le_refl _|exact Nat.zero_le _|exact fun _ _=>rfl|assumption|refine And.intro ?_ ?_|exact ul0|exact ul1 rfl|exact ul2 rfl rfl|exact ul3 rfl rfl rfl)
      · repeat'(first|exact leT_empty|exact trivial|exact rfl|exact .inl rfl|exact .inr rfl|exact .inr ⟨rfl,rfl⟩|exact Nat.le_refl _|exact Nat.zero_le _|exact fun _ _=>rfl|assumption|refine And.intro ?_ ?_|exact ul0|exact ul1 rfl|exact ul2 rfl rfl|exact ul3 rfl rfl rfl)
    · have n1 := (dec_len e1).2.1 ne10 ne0
      rw [hll] at n1
      have ew : O ++ [(⟨i, n + 1, frm0, e⟩ : Sn)] = W := by rw [← hO, e2]
      repeat((conv=>whnf);first|((with_reducible refine qS ?_ ?_ ?_);exact rfl;exact rfl)|with_reducible refine qB ?_|((with_reducible refine qI ?_ ?_);omega)|((with_reducible refine qDT ?_ ?_);omega)|((with_reducible refine qDF ?_ ?_);omega)|((with_reducible refine qNT ?_ ?_);omega)|((with_reducible refine qNF ?_ ?_);omega)|((with_reducible refine qU8 ?_ ?_);omega)|((with_reducible refine qU32 ?_ ?_);omega)|((with_reducible refine qU64 ?_ ?_);omega)|((with_reducible refine qU16 ?_ ?_);omega))
      conv => whnf
      refine dec_use (s := s.extract i s.size) (by rw [ByteArray.size_extract]; omega) ?_
      rw [ex, e1, show prsR (f, n, e) = R.tup [frmT f, .one (.v (.int .i64 (n : Int))), .one (.v (.int .i64 (e : Int)))] from rfl]
      repeat((conv=>whnf);first|((with_reducible refine qS ?_ ?_ ?_);exact rfl;exact rfl)|with_reducible refine qB ?_|((with_reducible refine qI ?_ ?_);omega)|((with_reducible refine qDT ?_ ?_);omega)|((with_reducible refine qDF ?_ ?_);omega)|((with_reducible refine qNT ?_ ?_);omega)|((with_reducible refine qNF ?_ ?_);omega)|((with_reducible refine qU8 ?_ ?_);omega)|((with_reducible refine qU32 ?_ ?_);omega)|((with_reducible refine qU64 ?_ ?_);omega)|((with_reducible refine qU16 ?_ ?_);omega))
      conv => whnf
      refine cT (decide_eq_true (by show (k + 1 + 1) * 56 ≤ 1099511627776; omega)) ?_
      repeat((conv=>whnf);first|((with_reducible refine qS ?_ ?_ ?_);exact rfl;exact rfl)|with_reducible refine qB ?_|((with_reducible refine qI ?_ ?_);omega)|((with_reducible refine qDT ?_ ?_);omega)|((with_reducible refine qDF ?_ ?_);omega)|((with_reducible refine qNT ?_ ?_);omega)|((with_reducible refine qNF ?_ ?_);omega)|((with_reducible refine qU8 ?_ ?_);omega)|((with_reducible refine qU32 ?_ ?_);omega)|((with_reducible refine qU64 ?_ ?_);omega)|((with_reducible refine qU16 ?_ ?_);omega))
      conv => whnf
      intro cap' hc'
      repeat((conv=>whnf);first|((with_reducible refine qS ?_ ?_ ?_);exact rfl;exact rfl)|with_reducible refine qB ?_|((with_reducible refine qI ?_ ?_);omega)|((with_reducible refine qDT ?_ ?_);omega)|((with_reducible refine qDF ?_ ?_);omega)|((with_reducible refine qNT ?_ ?_);omega)|((with_reducible refine qNF ?_ ?_);omega)|((with_reducible refine qU8 ?_ ?_);omega)|((with_reducible refine qU32 ?_ ?_);omega)|((with_reducible refine qU64 ?_ ?_);omega)|((with_reducible refine qU16 ?_ ?_);omega))
      conv => whnf
      refine rep_use ?_
      repeat((conv=>whnf);first|((with_reducible refine qS ?_ ?_ ?_);exact rfl;exact rfl)|with_reducible refine qB ?_|((with_reducible refine qI ?_ ?_);omega)|((with_reducible refine qDT ?_ ?_);omega)|((with_reducible refine qDF ?_ ?_);omega)|((with_reducible refine qNT ?_ ?_);omega)|((with_reducible refine qNF ?_ ?_);omega)|((with_reducible refine qU8 ?_ ?_);omega)|((with_reducible refine qU32 ?_ ?_);omega)|((with_reducible refine qU64 ?_ ?_);omega)|((with_reducible refine qU16 ?_ ?_);omega))
      conv => whnf
      have ix : Lib.index (s.extract ((i : Int) + ((n : Int) + 1)).toNat s.size).data.toList ones11.data.toList = idx11 (((rd s).drop i).drop (n + 1)) := by
        rw [show ones11.data.toList = List.replicate 11 (49 : UInt8) from rfl, lib_idx, List.drop_drop]
        show idx11 (rd (s.extract ((i : Int) + ((n : Int) + 1)).toNat s.size)) = _
        rw [show ((i : Int) + ((n : Int) + 1)).toNat = i + (n + 1) by omega, rd_ext, List.take_of_length_le (by rw [List.length_drop, hl]; omega)]
      refine .use (s.extract ((i : Int) + ((n : Int) + 1)).toNat s.size, ones11, m) [0] (by show (s.extract _ _).size < 4294967281; rw [ByteArray.size_extract]; omega) rfl ?_ ?_ ?_
      · repeat'(first|exact leT_empty|exact trivial|exact rfl|exact .inl rfl|exact .inr rfl|exact .inr ⟨rfl,rfl⟩|exact Nat.le_refl _|exact Nat.zero_le _|exact fun _ _=>rfl|assumption|refine And.intro ?_ ?_|exact ul0|exact ul1 rfl|exact ul2 rfl rfl|exact ul3 rfl rfl rfl)
      · repeat'(first|exact leT_empty|exact trivial|exact rfl|exact .inl rfl|exact .inr rfl|exact .inr ⟨rfl,rfl⟩|exact Nat.le_refl _|exact Nat.zero_le _|exact fun _ _=>rfl|assumption|refine And.intro ?_ ?_|exact ul0|exact ul1 rfl|exact ul2 rfl rfl|exact ul3 rfl rfl rfl)
      rw [ix, hx]
      have el : (O ++ [(⟨i, n + 1, frm0, e⟩ : Sn)]).length = (k + 1) + 1 := by rw [List.length_append, hk]; rfl
      repeat((conv=>whnf);first|((with_reducible refine qS ?_ ?_ ?_);exact rfl;exact rfl)|with_reducible refine qB ?_|((with_reducible refine qI ?_ ?_);omega)|((with_reducible refine qDT ?_ ?_);omega)|((with_reducible refine qDF ?_ ?_);omega)|((with_reducible refine qNT ?_ ?_);omega)|((with_reducible refine qNF ?_ ?_);omega)|((with_reducible refine qU8 ?_ ?_);omega)|((with_reducible refine qU32 ?_ ?_);omega)|((with_reducible refine qU64 ?_ ?_);omega)|((with_reducible refine qU16 ?_ ?_);omega))
      conv => whnf
      have hq' : W.length ≤ cap' := by rw [← ew, el]; exact hc'
      refine Trim.fam cap' hq' ?_
      rw [← ew, el]
      conv => whnf
      refine Le.nm [0, 4] rfl ?_ ?_
      · refine ⟨rfl, ⟨rfl, rfl, rfl, fun q hq => ?_⟩, trivial⟩
        exact appn (c := ⟨i, n + 1, frm0, e⟩) (n := k + 1) hk hq
      · repeat'(first|exact leT_empty|exact trivial|exact rfl|exact .inl rfl|exact .inr rfl|exact .inr ⟨rfl,rfl⟩|exact Nat.le_refl _|exact Nat.zero_le _|exact fun _ _=>rfl|assumption|refine And.intro ?_ ?_|exact ul0|exact ul1 rfl|exact ul2 rfl rfl|exact ul3 rfl rfl rfl)
    · have n1 := (dec_len e1).2.1 ne10 ne0
      have n2 := idx11_le (((rd s).drop i).drop (n + 1)) (by rw [hx]; omega)
      rw [hx, List.length_drop] at n2
      rw [hll] at n1 n2
      rw [List.drop_drop] at hF'
      repeat((conv=>whnf);first|((with_reducible refine qS ?_ ?_ ?_);exact rfl;exact rfl)|with_reducible refine qB ?_|((with_reducible refine qI ?_ ?_);omega)|((with_reducible refine qDT ?_ ?_);omega)|((with_reducible refine qDF ?_ ?_);omega)|((with_reducible refine qNT ?_ ?_);omega)|((with_reducible refine qNF ?_ ?_);omega)|((with_reducible refine qU8 ?_ ?_);omega)|((with_reducible refine qU32 ?_ ?_);omega)|((with_reducible refine qU64 ?_ ?_);omega)|((with_reducible refine qU16 ?_ ?_);omega))
      conv => whnf
      refine dec_use (s := s.extract i s.size) (by rw [ByteArray.size_extract]; omega) ?_
      rw [ex, e1, show prsR (f, n, e) = R.tup [frmT f, .one (.v (.int .i64 (n : Int))), .one (.v (.int .i64 (e : Int)))] from rfl]
      repeat((conv=>whnf);first|((with_reducible refine qS ?_ ?_ ?_);exact rfl;exact rfl)|with_reducible refine qB ?_|((with_reducible refine qI ?_ ?_);omega)|((with_reducible refine qDT ?_ ?_);omega)|((with_reducible refine qDF ?_ ?_);omega)|((with_reducible refine qNT ?_ ?_);omega)|((with_reducible refine qNF ?_ ?_);omega)|((with_reducible refine qU8 ?_ ?_);omega)|((with_reducible refine qU32 ?_ ?_);omega)|((with_reducible refine qU64 ?_ ?_);omega)|((with_reducible refine qU16 ?_ ?_);omega))
      conv => whnf
      refine cT (decide_eq_true (by show (k + 1 + 1) * 56 ≤ 1099511627776; omega)) ?_
      repeat((conv=>whnf);first|((with_reducible refine qS ?_ ?_ ?_);exact rfl;exact rfl)|with_reducible refine qB ?_|((with_reducible refine qI ?_ ?_);omega)|((with_reducible refine qDT ?_ ?_);omega)|((with_reducible refine qDF ?_ ?_);omega)|((with_reducible refine qNT ?_ ?_);omega)|((with_reducible refine qNF ?_ ?_);omega)|((with_reducible refine qU8 ?_ ?_);omega)|((with_reducible refine qU32 ?_ ?_);omega)|((with_reducible refine qU64 ?_ ?_);omega)|((with_reducible refine qU16 ?_ ?_);omega))
      conv => whnf
      intro cap' hc'
      repeat((conv=>whnf);first|((with_reducible refine qS ?_ ?_ ?_);exact rfl;exact rfl)|with_reducible refine qB ?_|((with_reducible refine qI ?_ ?_);omega)|((with_reducible refine qDT ?_ ?_);omega)|((with_reducible refine qDF ?_ ?_);omega)|((with_reducible refine qNT ?_ ?_);omega)|((with_reducible refine qNF ?_ ?_);omega)|((with_reducible refine qU8 ?_ ?_);omega)|((with_reducible refine qU32 ?_ ?_);omega)|((with_reducible refine qU64 ?_ ?_);omega)|((with_reducible refine qU16 ?_ ?_);omega))
      conv => whnf
      refine rep_use ?_
      repeat((conv=>whnf);first|((with_reducible refine qS ?_ ?_ ?_);exact rfl;exact rfl)|with_reducible refine qB ?_|((with_reducible refine qI ?_ ?_);omega)|((with_reducible refine qDT ?_ ?_);omega)|((with_reducible refine qDF ?_ ?_);omega)|((with_reducible refine qNT ?_ ?_);omega)|((with_reducible refine qNF ?_ ?_);omega)|((with_reducible refine qU8 ?_ ?_);omega)|((with_reducible refine qU32 ?_ ?_);omega)|((with_reducible refine qU64 ?_ ?_);omega)|((with_reducible refine qU16 ?_ ?_);omega))
      conv => whnf
      have ix : Lib.index (s.extract ((i : Int) + ((n : Int) + 1)).toNat s.size).data.toList ones11.data.toList = idx11 (((rd s).drop i).drop (n + 1)) := by
        rw [show ones11.data.toList = List.replicate 11 (49 : UInt8) from rfl, lib_idx, List.drop_drop]
        show idx11 (rd (s.extract ((i : Int) + ((n : Int) + 1)).toNat s.size)) = _
        rw [show ((i : Int) + ((n : Int) + 1)).toNat = i + (n + 1) by omega, rd_ext, List.take_of_length_le (by rw [List.length_drop, hl]; omega)]
      refine .use (s.extract ((i : Int) + ((n : Int) + 1)).toNat s.size, ones11, m) [0] (by show (s.extract _ _).size < 4294967281; rw [ByteArray.size_extract]; omega) rfl ?_ ?_ ?_
      · repeat'(first|exact leT_empty|exact trivial|exact rfl|exact .inl rfl|exact .inr rfl|exact .inr ⟨rfl,rfl⟩|exact Nat.le_refl _|exact Nat.zero_le _|exact fun _ _=>rfl|assumption|refine And.intro ?_ ?_|exact ul0|exact ul1 rfl|exact ul2 rfl rfl|exact ul3 rfl rfl rfl)
      · repeat'(first|exact leT_empty|exact trivial|exact rfl|exact .inl rfl|exact .inr rfl|exact .inr ⟨rfl,rfl⟩|exact Nat.le_refl _|exact Nat.zero_le _|exact fun _ _=>rfl|assumption|refine And.intro ?_ ?_|exact ul0|exact ul1 rfl|exact ul2 rfl rfl|exact ul3 rfl rfl rfl)
      rw [ix, hx]
      have el : (O ++ [(⟨i, n + 1, frm0, e⟩ : Sn)]).length = (k + 1) + 1 := by rw [List.length_append, hk]; rfl
      repeat((conv=>whnf);first|((with_reducible refine qS ?_ ?_ ?_);exact rfl;exact rfl)|with_reducible refine qB ?_|((with_reducible refine qI ?_ ?_);omega)|((with_reducible refine qDT ?_ ?_);omega)|((with_reducible refine qDF ?_ ?_);omega)|((with_reducible refine qNT ?_ ?_);omega)|((with_reducible refine qNF ?_ ?_);omega)|((with_reducible refine qU8 ?_ ?_);omega)|((with_reducible refine qU32 ?_ ?_);omega)|((with_reducible refine qU64 ?_ ?_);omega)|((with_reducible refine qU16 ?_ ?_);omega))
      conv => whnf
      refine ⟨(i + (n + 1) + (j + 11), cap', O ++ [⟨i, n + 1, frm0, e⟩]), ⟨⟨by show i + (n + 1) + (j + 11) ≤ s.size; omega, by rw [el]; show (k + 1) + 1 ≤ i + (n + 1) + (j + 11); omega, by rw [el]; exact hc', o', by rw [show i + (n + 1) + (j + 11) = i + (n + 1 + (j + 11)) by omega] at hF' ⊢; exact hF', by rw [← hO, e2]; simp⟩, by show s.size - (i + (n + 1) + (j + 11)) < s.size - i; omega⟩, ?_⟩
      dsimp only
      rw [el]
      conv => whnf
      refine Le.nm [0, 4] rfl ?_ ?_
      · refine ⟨rfl, ⟨rfl, rfl, rfl, fun q hq => ?_⟩, trivial⟩
        exact appn (c := ⟨i, n + 1, frm0, e⟩) (n := k + 1) hk hq
      · repeat'(first|exact leT_empty|exact trivial|exact rfl|exact .inl rfl|exact .inr rfl|exact .inr ⟨rfl,rfl⟩|exact Nat.le_refl _|exact Nat.zero_le _|exact fun _ _=>rfl|assumption|refine And.intro ?_ ?_|exact ul0|exact ul1 rfl|exact ul2 rfl rfl|exact ul3 rfl rfl rfl)
abbrev frgC : Con (ByteArray × List Sn × Int) := FamCon (β := Nat) (fun p => [sv p.1]) (fun p => [glE p.2.2]) (fun p => p.1.size ≤ 4000 ∧ FrG (rd p.1) 0 p.2.1) (fun p q => p.2.1.length ≤ q) (fun p q => outN 1 p.2.1.length q) (fun p q => glE p.2.2 :: rowsN p.2.1 p.2.1.length q)
theorem frg_ok : ConOk Tryd.prog F.watch_Frames frgC := con_of_run (clRunX_ok (d := 7) ttOk outsFrg_ok tabFrg_ok 2) (fn_enters (ok.watch_Frames (D := 7) u0 _ (clRunX_ok (d := 7) ttOk .nil TabOk.nil 1))) fun p hp => frg_run p.1 p.2.1 p.2.2 hp.1 hp.2
theorem frg_ask {s : ByteArray} {W : List Sn} {m : Int} {h : Heap} {K : R → Heap → Prop} (hs : s.size ≤ 4000) (hW : FrG (rd s) 0 W)
    (hk : ∀ q, W.length ≤ q → K (renR (back (glE m :: h) [glE m] [0]) (outN 1 W.length q)) (mrg (back (glE m :: h) [glE m] [0]) (glE m :: h) [0] [glE m] (glE m :: rowsN W W.length q))) : AskC frgC [sv s] (glE m :: h) K :=
  .fam (s, W, m) [0] _ _ ⟨hs, hW⟩ rfl ⟨rfl, trivial⟩ ⟨.inl rfl, trivial⟩ (fun _ => rfl) (fun _ => rfl) hk
end Go.Proofs.YtdeaigaafdnehaaDoor.Co
