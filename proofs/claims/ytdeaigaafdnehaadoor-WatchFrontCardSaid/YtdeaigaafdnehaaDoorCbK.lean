/- Contracts: the frames of a row of bits. -/
import Derived.Test.YtdeaigaafdnehaaDoorCbJ
import Derived.Test.YtdeaigaafdnehaaDoorCsB
namespace Go.Pu
/-- What was seen: where, how many bits, the frame, the error. -/
structure Sn where
  at_ : Nat
  n : Nat
  f : Frm
  e : Nat
def sn0 : Sn := ⟨0, 0, frm0, 0⟩
def gs (O : List Sn) (i : Nat) : Sn := O.getD i sn0
theorem gs_snoc {O : List Sn} {c : Sn} {q : Nat} (h : q ≤ O.length) : gs (O ++ [c]) q = if q < O.length then gs O q else c := by
  unfold gs
  simp only [List.getD_eq_getElem?_getD]
  by_cases hq : q < O.length
  · rw [if_pos hq, List.getElem?_append_left hq]
  · rw [if_neg hq, List.getElem?_append_right (by omega), show q - O.length = 0 by omega]; rfl
/-- The frames of a row, where no error leaves eleven bits behind it. -/
inductive Fr : List Bool → Nat → List Sn → Prop where
  | done (at_ : Nat) : Fr [] at_ []
  | one {l : List Bool} {at_ : Nat} {o : List Sn} : Fr l (at_ + 1) o → Fr (true :: l) at_ o
  | ok {l : List Bool} {at_ n : Nat} {f : Frm} {o : List Sn} : dec (false :: l) = (f, n, 0) → 0 < n → n ≤ l.length + 1 → Fr ((false :: l).drop n) (at_ + n) o → Fr (false :: l) at_ (⟨at_, n, f, 0⟩ :: o)
  | short {l : List Bool} {at_ n : Nat} {f : Frm} : dec (false :: l) = (f, n, 10) → Fr (false :: l) at_ []
  | err {l : List Bool} {at_ n e : Nat} {f : Frm} : dec (false :: l) = (f, n, e) → e ≠ 0 → e ≠ 10 → n ≤ l.length → l.length < n + 11 → Fr (false :: l) at_ [⟨at_, n + 1, frm0, e⟩]
theorem Fr.inv1 {l l' : List Bool} {at_ : Nat} {o : List Sn} (h : Fr l at_ o) (e : l = true :: l') : Fr l' (at_ + 1) o := by
  cases h with
  | one h => injection e with _ e; subst e; exact h
  | _ => cases e
theorem Fr.inv0 {l l' : List Bool} {at_ : Nat} {o : List Sn} (h : Fr l at_ o) (e : l = false :: l') : (∃ f n o', dec l = (f, n, 0) ∧ 0 < n ∧ n ≤ l.length ∧ Fr (l.drop n) (at_ + n) o' ∧ o = ⟨at_, n, f, 0⟩ :: o') ∨ (∃ f n, dec l = (f, n, 10) ∧ o = []) ∨ ∃ f n e, dec l = (f, n, e) ∧ e ≠ 0 ∧ e ≠ 10 ∧ n < l.length ∧ l.length < n + 12 ∧ o = [⟨at_, n + 1, frm0, e⟩] := by
  cases h with
  | done => cases e
  | one => cases e
  | ok h1 h2 h3 h4 => exact .inl ⟨_, _, _, h1, h2, h3, h4, rfl⟩
  | short h1 => exact .inr (.inl ⟨_, _, h1, rfl⟩)
  | err h1 h2 h3 h4 h5 => exact .inr (.inr ⟨_, _, _, h1, h2, h3, by simpa using Nat.lt_succ_of_le h4, by simp; omega, rfl⟩)
theorem Fr.nil {l : List Bool} {at_ : Nat} {o : List Sn} (h : Fr l at_ o) (e : l = []) : o = [] := by
  cases h with
  | done => rfl
  | _ => cases e
end Go.Pu
namespace Go.Proofs.YtdeaigaafdnehaaDoor.Co
open Go Go.Eng Go.Proofs Go.Proofs.YtdeaigaafdnehaaDoor.Tb Go.Pu
set_option maxRecDepth 100000
set_option maxHeartbeats 16000000
abbrev snL (x : Sn) : List C := [.v (.int .i64 (x.at_ : Int)), .v (.int .i64 (x.n : Int)), .v (.bool x.f.ext), .v (.int .u32 (x.f.id : Int)), .v (.bool x.f.rtr), .v (.string x.f.data), .v (.int .i64 (x.e : Int))]
abbrev outN (b k cap : Nat) : R := match k with
  | 0 => .t (.one (.v (.slice none 0 0)))
  | k + 1 => .t (.one (.slc b 0 7 0 (k + 1) cap false))
abbrev rowsN (O : List Sn) (k cap : Nat) : Heap := match k with
  | 0 => []
  | k + 1 => [.ob (.row 7 (k + 1) (fun q => snL (gs O q)) cap)]
theorem app0n {O : List Sn} {c : Sn} {q : Nat} (hO : O.length = 0) (hq : q < 0 + 1) : nthD [] [snL c] (0 + q) = snL (gs (O ++ [c]) q) := by
  have : O = [] := List.eq_nil_of_length_eq_zero hO
  subst this
  obtain rfl : q = 0 := by omega
  rfl
theorem appn {O : List Sn} {c : Sn} {n q : Nat} (hn : O.length = n) (hq : q < n + 1) : (if q < n then snL (gs O (0 + q)) else nthD [] [snL c] (0 + (q - n))) = snL (gs (O ++ [c]) q) := by
  rw [gs_snoc (by omega), hn]
  by_cases h : q < n
  · rw [if_pos h, if_pos h, Nat.zero_add]
  · rw [if_neg h, if_neg h, show 0 + (q - n) = 0 by omega]; rfl
abbrev outsFrs : List (FuncId × Cx) := [(F.code_Decode, AskC decC), (F.strings_Repeat, AskC repC)]
theorem outsFrs_ok : OutsOk Tryd.prog outsFrs := .cons (ask_ok dec_ok) (.cons (ask_ok rep_ok) .nil)
noncomputable abbrev tabFrs : List (FuncId × Eng.Fn) := [(F.watch_Frames, fn.watch_Frames u0), (F.strings_Index, fn.strings_Index u0), (F.internal_stringslite_Index, fn.internal_stringslite_Index u0)]
theorem tabFrs_ok {d : Nat} : TabOk d tabFrs tt := .cons (ok.watch_Frames u0) (.cons (ok.strings_Index u0) (.cons (ok.internal_stringslite_Index u0) (TabOk.nil)))
theorem frs_run (s : ByteArray) (W : List Sn) (hs : s.size ≤ 4000) (hW : Fr (rd s) 0 W) : clRunX 7 tt outsFrs tabFrs 3 F.watch_Frames [] [sv s] [] (fun x h => Trim 0 x h fun x h => ∃ q, W.length ≤ q ∧ x = outN 0 W.length q ∧ h = rowsN W W.length q) := by
  have hl := rd_len s
  have hmin : min (s.size : Int) 4000 = (s.size : Int) := by omega
  have hext : s.extract 0 ((s.size : Int)).toNat = s := by rw [tn]; simp
  repeat((conv=>whnf);first|((with_reducible refine qS ?_ ?_ ?_);exact rfl;exact rfl)|with_reducible refine qB ?_|((with_reducible refine qI ?_ ?_);omega)|((with_reducible refine qDT ?_ ?_);omega)|((with_reducible refine qDF ?_ ?_);omega)|((with_reducible refine qNT ?_ ?_);omega)|((with_reducible refine qNF ?_ ?_);omega)|((with_reducible refine qU8 ?_ ?_);omega)|((with_reducible refine qU32 ?_ ?_);omega)|((with_reducible refine qU64 ?_ ?_);omega)|((with_reducible refine qU16 ?_ ?_);omega))
  conv => whnf
  rw [hmin, hext]
  refine .inv (fun p : Nat × Nat × List Sn => p.1 ≤ s.size ∧ p.2.2.length ≤ p.1 ∧ p.2.2.length ≤ p.2.1 ∧ ∃ o, Fr ((rd s).drop p.1) p.1 o ∧ p.2.2 ++ o = W) (fun p => [(4, outN 0 p.2.2.length p.2.1), (5, iv .i64 p.1)]) (fun p => rowsN p.2.2 p.2.2.length p.2.1) (fun p => s.size - p.1) (0, 0, []) ⟨Nat.zero_le _, Nat.le_refl _, Nat.le_refl _, W, hW, rfl⟩ ?_ (fun p ⟨hi, ho, hc, hF⟩ => ?_)
  · conv => whnf
    refine Le.id rfl ?_ ?_
    all_goals(repeat'(first|exact leT_empty|exact trivial|exact rfl|exact .inl rfl|exact .inr rfl|exact .inr ⟨rfl,rfl⟩|exact Nat.le_refl _|exact Nat.zero_le _|exact fun _ _=>rfl|assumption|refine And.intro ?_ ?_|exact ul0|exact ul1 rfl|exact ul2 rfl rfl|exact ul3 rfl rfl rfl))
  generalize p.1 = i at *
  generalize p.2.1 = cap at *
  generalize p.2.2 = O at *
  obtain ⟨o, hF, hO⟩ := hF
  obtain ⟨k, hk⟩ : ∃ k, O.length = k := ⟨_, rfl⟩
  rw [hk] at ho hc ⊢
  rcases k with _ | k
  · conv => whnf
    skip
    refine cD (fun h5 => ?_) (fun h5 => ?_)
    rotate_left
    · have eo := hF.nil (List.drop_of_length_le (by omega))
      rw [eo, List.append_nil] at hO
      repeat((conv=>whnf);first|((with_reducible refine qS ?_ ?_ ?_);exact rfl;exact rfl)|with_reducible refine qB ?_|((with_reducible refine qI ?_ ?_);omega)|((with_reducible refine qDT ?_ ?_);omega)|((with_reducible refine qDF ?_ ?_);omega)|((with_reducible refine qNT ?_ ?_);omega)|((with_reducible refine qNF ?_ ?_);omega)|((with_reducible refine qU8 ?_ ?_);omega)|((with_reducible refine qU32 ?_ ?_);omega)|((with_reducible refine qU64 ?_ ?_);omega)|((with_reducible refine qU16 ?_ ?_);omega))
      conv => whnf
      refine Trim.fam cap (by rw [← hO]; omega) ?_
      rw [← hO, hk]
      refine Le.id rfl ?_ ?_
      · repeat'(first|exact leT_empty|exact trivial|exact rfl|exact .inl rfl|exact .inr rfl|exact .inr ⟨rfl,rfl⟩|exact Nat.le_refl _|exact Nat.zero_le _|exact fun _ _=>rfl|assumption|refine And.intro ?_ ?_|exact ul0|exact ul1 rfl|exact ul2 rfl rfl|exact ul3 rfl rfl rfl)
      · repeat'(first|exact leT_empty|exact trivial|exact rfl|exact .inl rfl|exact .inr rfl|exact .inr ⟨rfl,rfl⟩|exact Nat.le_refl _|exact Nat.zero_le _|exact fun _ _=>rfl|assumption|refine And.intro ?_ ?_|exact ul0|exact ul1 rfl|exact ul2 rfl rfl|exact ul3 rfl rfl rfl)
    have hi' : i < (rd s).length := by omega
    have hd := drop_gb hi'
    repeat((conv=>whnf);first|((with_reducible refine qS ?_ ?_ ?_);exact rfl;exact rfl)|with_reducible refine qB ?_|((with_reducible refine qI ?_ ?_);omega)|((with_reducible refine qDT ?_ ?_);omega)|((with_reducible refine qDF ?_ ?_);omega)|((with_reducible refine qNT ?_ ?_);omega)|((with_reducible refine qNF ?_ ?_);omega)|((with_reducible refine qU8 ?_ ?_);omega)|((with_reducible refine qU32 ?_ ?_);omega)|((with_reducible refine qU64 ?_ ?_);omega)|((with_reducible refine qU16 ?_ ?_);omega))
    conv => whnf
    rw [tn, dec49 (by omega)]
    generalize gb (rd s) i = b at *
    cases b
    rotate_left
    · have hF' := hF.inv1 hd
      repeat((conv=>whnf);first|((with_reducible refine qS ?_ ?_ ?_);exact rfl;exact rfl)|with_reducible refine qB ?_|((with_reducible refine qI ?_ ?_);omega)|((with_reducible refine qDT ?_ ?_);omega)|((with_reducible refine qDF ?_ ?_);omega)|((with_reducible refine qNT ?_ ?_);omega)|((with_reducible refine qNF ?_ ?_);omega)|((with_reducible refine qU8 ?_ ?_);omega)|((with_reducible refine qU32 ?_ ?_);omega)|((with_reducible refine qU64 ?_ ?_);omega)|((with_reducible refine qU16 ?_ ?_);omega))
      conv => whnf
      refine ⟨(i + 1, cap, O), ⟨⟨by show i + 1 ≤ s.size; omega, by show O.length ≤ i + 1; omega, by show O.length ≤ cap; omega, o, hF', hO⟩, by show s.size - (i + 1) < s.size - i; omega⟩, ?_⟩
      dsimp only
      rw [hk]
      conv => whnf
      refine Le.id rfl ?_ ?_
      all_goals(repeat'(first|exact leT_empty|exact trivial|exact rfl|exact .inl rfl|exact .inr rfl|exact .inr ⟨rfl,rfl⟩|exact Nat.le_refl _|exact Nat.zero_le _|exact fun _ _=>rfl|assumption|refine And.intro ?_ ?_|exact ul0|exact ul1 rfl|exact ul2 rfl rfl|exact ul3 rfl rfl rfl))
    have ex : rd (s.extract i s.size) = (rd s).drop i := by rw [rd_ext, List.take_of_length_le (by rw [List.length_drop, hl]; omega)]
    have hll : ((rd s).drop i).length = s.size - i := by rw [List.length_drop, hl]
    rcases hF.inv0 hd with ⟨f, n, o', e1, n0, n1, hF', e2⟩ | ⟨f, n, e1, e2⟩ | ⟨f, n, e, e1, ne0, ne10, n1, n2, e2⟩
    · repeat((conv=>whnf);first|((with_reducible refine qS ?_ ?_ ?_);exact rfl;exact rfl)|with_reducible refine qB ?_|((with_reducible refine qI ?_ ?_);omega)|((with_reducible refine qDT ?_ ?_);omega)|((with_reducible refine qDF ?_ ?_);omega)|((with_reducible refine qNT ?_ ?_);omega)|((with_reducible refine qNF ?_ ?_);omega)|((with_reducible refine qU8 ?_ ?_);omega)|((with_reducible refine qU32 ?_ ?_);omega)|((with_reducible refine qU64 ?_ ?_);omega)|((with_reducible refine qU16 ?_ ?_);omega))
      conv => whnf
      refine dec_use (s := s.extract i s.size) (by rw [ByteArray.size_extract]; omega) ?_
      rw [ex, e1, show prsR (f, n, 0) = R.tup [frmT f, .one (.v (.int .i64 (n : Int))), .one (.v (.int .i64 0))] from rfl]
      rw [List.drop_drop] at hF'
      have el : (O ++ [(⟨i, n, f, 0⟩ : Sn)]).length = 0 + 1 := by rw [List.length_append, hk]; rfl
      repeat((conv=>whnf);first|((with_reducible refine qS ?_ ?_ ?_);exact rfl;exact rfl)|with_reducible refine qB ?_|((with_reducible refine qI ?_ ?_);omega)|((with_reducible refine qDT ?_ ?_);omega)|((with_reducible refine qDF ?_ ?_);omega)|((with_reducible refine qNT ?_ ?_);omega)|((with_reducible refine qNF ?_ ?_);omega)|((with_reducible refine qU8 ?_ ?_);omega)|((with_reducible refine qU32 ?_ ?_);omega)|((with_reducible refine qU64 ?_ ?_);omega)|((with_reducible refine qU16 ?_ ?_);omega))
      conv => whnf
      skip
      intro cap' hc'
      repeat((conv=>whnf);first|((with_reducible refine qS ?_ ?_ ?_);exact rfl;exact rfl)|with_reducible refine qB ?_|((with_reducible refine qI ?_ ?_);omega)|((with_reducible refine qDT ?_ ?_);omega)|((with_reducible refine qDF ?_ ?_);omega)|((with_reducible refine qNT ?_ ?_);omega)|((with_reducible refine qNF ?_ ?_);omega)|((with_reducible refine qU8 ?_ ?_);omega)|((with_reducible refine qU32 ?_ ?_);omega)|((with_reducible refine qU64 ?_ ?_);omega)|((with_reducible refine qU16 ?_ ?_);omega))
      conv => whnf
      refine ⟨(i + n, cap', O ++ [⟨i, n, f, 0⟩]), ⟨⟨by show i + n ≤ s.size; omega, by rw [el]; show 0 + 1 ≤ i + n; omega, by rw [el]; exact hc', o', hF', by rw [← hO, e2]; simp⟩, by show s.size - (i + n) < s.size - i; omega⟩, ?_⟩
      dsimp only
      rw [el]
      conv => whnf
      refine Le.nm [2] rfl ?_ ?_
      · refine ⟨⟨rfl, rfl, rfl, fun q hq => ?_⟩, trivial⟩
        exact app0n (c := ⟨i, n, f, 0⟩) hk hq
      · repeat'(first|exact leT_empty|exact trivial|exact rfl|exact .inl rfl|exact .inr rfl|exact .inr ⟨rfl,rfl⟩|exact Nat.le_refl _|exact Nat.zero_le _|exact fun _ _=>rfl|assumption|refine And.intro ?_ ?_|exact ul0|exact ul1 rfl|exact ul2 rfl rfl|exact ul3 rfl rfl rfl)
    · rw [e2, List.append_nil] at hO
      repeat((conv=>whnf);first|((with_reducible refine qS ?_ ?_ ?_);exact rfl;exact rfl)|with_reducible refine qB ?_|((with_reducible refine qI ?_ ?_);omega)|((with_reducible refine qDT ?_ ?_);omega)|((with_reducible refine qDF ?_ ?_);omega)|((with_reducible refine qNT ?_ ?_);omega)|((with_reducible refine qNF ?_ ?_);omega)|((with_reducible refine qU8 ?_ ?_);omega)|((with_reducible refine qU32 ?_ ?_);omega)|((with_reducible refine qU64 ?_ ?_);omega)|((with_reducible refine qU16 ?_ ?_);omega))
      conv => whnf
      refine dec_use (s := s.extract i s.size) (by rw [ByteArray.size_extract]; omega) ?_
      rw [ex, e1, show prsR (f, n, 10) = R.tup [frmT f, .one (.v (.int .i64 (n : Int))), .one (.v (.int .i64 10))] from rfl]
      repeat((conv=>whnf);first|((with_reducible refine qS ?_ ?_ ?_);exact rfl;exact rfl)|with_reducible refine qB ?_|((with_reducible refine qI ?_ ?_);omega)|((with_reducible refine qDT ?_ ?_);omega)|((with_reducible refine qDF ?_ ?_);omega)|((with_reducible refine qNT ?_ ?_);omega)|((with_reducible refine qNF ?_ ?_);omega)|((with_reducible refine qU8 ?_ ?_);omega)|((with_reducible refine qU32 ?_ ?_);omega)|((with_reducible refine qU64 ?_ ?_);omega)|((with_reducible refine qU16 ?_ ?_);omega))
      conv => whnf
      refine Trim.fam cap (by rw [← hO]; omega) ?_
      rw [← hO, hk]
      conv => whnf
      refine Le.nm [] rfl ?_ ?_
      · repeat'(first|exact leT_empty|exact trivial|exact rfl|exact .inl rfl|exact .inr rfl|exact .inr ⟨rfl,rfl⟩|exact Nat.le_refl _|exact Nat.zero_le _|exact fun _ _=>rfl|assumption|refine And.intro ?_ ?_|exact ul0|exact ul1 rfl|exact ul2 rfl rfl|exact ul3 rfl rfl rfl)
      · repeat'(first|exact leT_empty|exact trivial|exact rfl|exact .inl rfl|exact .inr rfl|exact .inr ⟨rfl,rfl⟩|exact Nat.le_refl _|exact Nat.zero_le _|exact fun _ _=>rfl|assumption|refine And.intro ?_ ?_|exact ul0|exact ul1 rfl|exact ul2 rfl rfl|exact ul3 rfl rfl rfl)
    · repeat((conv=>whnf);first|((with_reducible refine qS ?_ ?_ ?_);exact rfl;exact rfl)|with_reducible refine qB ?_|((with_reducible refine qI ?_ ?_);omega)|((with_reducible refine qDT ?_ ?_);omega)|((with_reducible refine qDF ?_ ?_);omega)|((with_reducible refine qNT ?_ ?_);omega)|((with_reducible refine qNF ?_ ?_);omega)|((with_reducible refine qU8 ?_ ?_);omega)|((with_reducible refine qU32 ?_ ?_);omega)|((with_reducible refine qU64 ?_ ?_);omega)|((with_reducible refine qU16 ?_ ?_);omega))
      conv => whnf
      refine dec_use (s := s.extract i s.size) (by rw [ByteArray.size_extract]; omega) ?_
      rw [ex, e1, show prsR (f, n, e) = R.tup [frmT f, .one (.v (.int .i64 (n : Int))), .one (.v (.int .i64 (e : Int)))] from rfl]
      repeat((conv=>whnf);first|((with_reducible refine qS ?_ ?_ ?_);exact rfl;exact rfl)|with_reducible refine qB ?_|((with_reducible refine qI ?_ ?_);omega)|((with_reducible refine qDT ?_ ?_);omega)|((with_reducible refine qDF ?_ ?_);omega)|((with_reducible refine qNT ?_ ?_);omega)|((with_reducible refine qNF ?_ ?_);omega)|((with_reducible refine qU8 ?_ ?_);omega)|((with_reducible refine qU32 ?_ ?_);omega)|((with_reducible refine qU64 ?_ ?_);omega)|((with_reducible refine qU16 ?_ ?_);omega))
      conv => whnf
      skip
      intro cap' hc'
      repeat((conv=>whnf);first|((with_reducible refine qS ?_ ?_ ?_);exact rfl;exact rfl)|with_reducible refine qB ?_|((with_reducible refine qI ?_ ?_);omega)|((with_reducible refine qDT ?_ ?_);omega)|((with_reducible refine qDF ?_ ?_);omega)|((with_reducible refine qNT ?_ ?_);omega)|((with_reducible refine qNF ?_ ?_);omega)|((with_reducible refine qU8 ?_ ?_);omega)|((with_reducible refine qU32 ?_ ?_);omega)|((with_reducible refine qU64 ?_ ?_);omega)|((with_reducible refine qU16 ?_ ?_);omega))
      conv => whnf
      refine rep_use ?_
      repeat((conv=>whnf);first|((with_reducible refine qS ?_ ?_ ?_);exact rfl;exact rfl)|with_reducible refine qB ?_|((with_reducible refine qI ?_ ?_);omega)|((with_reducible refine qDT ?_ ?_);omega)|((with_reducible refine qDF ?_ ?_);omega)|((with_reducible refine qNT ?_ ?_);omega)|((with_reducible refine qNF ?_ ?_);omega)|((with_reducible refine qU8 ?_ ?_);omega)|((with_reducible refine qU32 ?_ ?_);omega)|((with_reducible refine qU64 ?_ ?_);omega)|((with_reducible refine qU16 ?_ ?_);omega))
      conv => whnf
      have ez : (s.extract ((i : Int) + ((n : Int) + 1)).toNat s.size).size < 11 := by rw [ByteArray.size_extract]; omega
      have eq : strEq ones11 (s.extract ((i : Int) + ((n : Int) + 1)).toNat s.size) = false := decide_eq_false fun h => by
        rw [← h] at ez
        exact absurd ez (by decide)
      rw [eq]
      have ew : O ++ [(⟨i, n + 1, frm0, e⟩ : Sn)] = W := by rw [← hO, e2]
      have el : (O ++ [(⟨i, n + 1, frm0, e⟩ : Sn)]).length = 0 + 1 := by rw [List.length_append, hk]; rfl
      repeat((conv=>whnf);first|((with_reducible refine qS ?_ ?_ ?_);exact rfl;exact rfl)|with_reducible refine qB ?_|((with_reducible refine qI ?_ ?_);omega)|((with_reducible refine qDT ?_ ?_);omega)|((with_reducible refine qDF ?_ ?_);omega)|((with_reducible refine qNT ?_ ?_);omega)|((with_reducible refine qNF ?_ ?_);omega)|((with_reducible refine qU8 ?_ ?_);omega)|((with_reducible refine qU32 ?_ ?_);omega)|((with_reducible refine qU64 ?_ ?_);omega)|((with_reducible refine qU16 ?_ ?_);omega))
      conv => whnf
      rw [decide_eq_true (p := ((s.extract ((i : Int) + ((n : Int) + 1)).toNat s.size).size : Int) ≤ (ones11.size : Int)) (by show _ ≤ (11 : Int); omega)]
      repeat((conv=>whnf);first|((with_reducible refine qS ?_ ?_ ?_);exact rfl;exact rfl)|with_reducible refine qB ?_|((with_reducible refine qI ?_ ?_);omega)|((with_reducible refine qDT ?_ ?_);omega)|((with_reducible refine qDF ?_ ?_);omega)|((with_reducible refine qNT ?_ ?_);omega)|((with_reducible refine qNF ?_ ?_);omega)|((with_reducible refine qU8 ?_ ?_);omega)|((with_reducible refine qU32 ?_ ?_);omega)|((with_reducible refine qU64 ?_ ?_);omega)|((with_reducible refine qU16 ?_ ?_);omega))
      conv => whnf
      have hq' : W.length ≤ cap' := by rw [← ew, el]; exact hc'
      refine Trim.fam cap' hq' ?_
      rw [← ew, el]
      conv => whnf
      refine Le.nm [2] rfl ?_ ?_
      · refine ⟨⟨rfl, rfl, rfl, fun q hq => ?_⟩, trivial⟩
        exact app0n (c := ⟨i, n + 1, frm0, e⟩) hk hq
      · repeat'(first|exact leT_empty|exact trivial|exact rfl|exact .inl rfl|exact .inr rfl|exact .inr ⟨rfl,rfl⟩|exact Nat.le_refl _|exact Nat.zero_le _|exact fun _ _=>rfl|assumption|refine And.intro ?_ ?_|exact ul0|exact ul1 rfl|exact ul2 rfl rfl|exact ul3 rfl rfl rfl)
  · conv => whnf
    have hk4 : k + 1 ≤ 4000 := by omega
    refine cD (fun h5 => ?_) (fun h5 => ?_)
    rotate_left
    · have eo := hF.nil (List.drop_of_length_le (by omega))
      rw [eo, List.append_nil] at hO
      repeat((conv=>whnf);first|((with_reducible refine qS ?_ ?_ ?_);exact rfl;exact rfl)|with_reducible refine qB ?_|((with_reducible refine qI ?_ ?_);omega)|((with_reducible refine qDT ?_ ?_);omega)|((with_reducible refine qDF ?_ ?_);omega)|((with_reducible refine qNT ?_ ?_);omega)|((with_reducible refine qNF ?_ ?_);omega)|((with_reducible refine qU8 ?_ ?_);omega)|((with_reducible refine qU32 ?_ ?_);omega)|((with_reducible refine qU64 ?_ ?_);omega)|((with_reducible refine qU16 ?_ ?_);omega))
      conv => whnf
      refine Trim.fam cap (by rw [← hO]; omega) ?_
      rw [← hO, hk]
      refine Le.id rfl ?_ ?_
      · repeat'(first|exact leT_empty|exact trivial|exact rfl|exact .inl rfl|exact .inr rfl|exact .inr ⟨rfl,rfl⟩|exact Nat.le_refl _|exact Nat.zero_le _|exact fun _ _=>rfl|assumption|refine And.intro ?_ ?_|exact ul0|exact ul1 rfl|exact ul2 rfl rfl|exact ul3 rfl rfl rfl)
      · repeat'(first|exact leT_empty|exact trivial|exact rfl|exact .inl rfl|exact .inr rfl|exact .inr ⟨rfl,rfl⟩|exact Nat.le_refl _|exact Nat.zero_le _|exact fun _ _=>rfl|assumption|refine And.intro ?_ ?_|exact ul0|exact ul1 rfl|exact ul2 rfl rfl|exact ul3 rfl rfl rfl)
    have hi' : i < (rd s).length := by omega
    have hd := drop_gb hi'
    repeat((conv=>whnf);first|((with_reducible refine qS ?_ ?_ ?_);exact rfl;exact rfl)|with_reducible refine qB ?_|((with_reducible refine qI ?_ ?_);omega)|((with_reducible refine qDT ?_ ?_);omega)|((with_reducible refine qDF ?_ ?_);omega)|((with_reducible refine qNT ?_ ?_);omega)|((with_reducible refine qNF ?_ ?_);omega)|((with_reducible refine qU8 ?_ ?_);omega)|((with_reducible refine qU32 ?_ ?_);omega)|((with_reducible refine qU64 ?_ ?_);omega)|((with_reducible refine qU16 ?_ ?_);omega))
    conv => whnf
    rw [tn, dec49 (by omega)]
    generalize gb (rd s) i = b at *
    cases b
    rotate_left
    · have hF' := hF.inv1 hd
      repeat((conv=>whnf);first|((with_reducible refine qS ?_ ?_ ?_);exact rfl;exact rfl)|with_reducible refine qB ?_|((with_reducible refine qI ?_ ?_);omega)|((with_reducible refine qDT ?_ ?_);omega)|((with_reducible refine qDF ?_ ?_);omega)|((with_reducible refine qNT ?_ ?_);omega)|((with_reducible refine qNF ?_ ?_);omega)|((with_reducible refine qU8 ?_ ?_);omega)|((with_reducible refine qU32 ?_ ?_);omega)|((with_reducible refine qU64 ?_ ?_);omega)|((with_reducible refine qU16 ?_ ?_);omega))
      conv => whnf
      refine ⟨(i + 1, cap, O), ⟨⟨by show i + 1 ≤ s.size; omega, by show O.length ≤ i + 1; omega, by show O.length ≤ cap; omega, o, hF', hO⟩, by show s.size - (i + 1) < s.size - i; omega⟩, ?_⟩
      dsimp only
      rw [hk]
      conv => whnf
      refine Le.id rfl ?_ ?_
      all_goals(repeat'(first|exact leT_empty|exact trivial|exact rfl|exact .inl rfl|exact .inr rfl|exact .inr ⟨rfl,rfl⟩|exact Nat.le_refl _|exact Nat.zero_le _|exact fun _ _=>rfl|assumption|refine And.intro ?_ ?_|exact ul0|exact ul1 rfl|exact ul2 rfl rfl|exact ul3 rfl rfl rfl))
    have ex : rd (s.extract i s.size) = (rd s).drop i := by rw [rd_ext, List.take_of_length_le (by rw [List.length_drop, hl]; omega)]
    have hll : ((rd s).drop i).length = s.size - i := by rw [List.length_drop, hl]
    rcases hF.inv0 hd with ⟨f, n, o', e1, n0, n1, hF', e2⟩ | ⟨f, n, e1, e2⟩ | ⟨f, n, e, e1, ne0, ne10, n1, n2, e2⟩
    · repeat((conv=>whnf);first|((with_reducible refine qS ?_ ?_ ?_);exact rfl;exact rfl)|with_reducible refine qB ?_|((with_reducible refine qI ?_ ?_);omega)|((with_reducible refine qDT ?_ ?_);omega)|((with_reducible refine qDF ?_ ?_);omega)|((with_reducible refine qNT ?_ ?_);omega)|((with_reducible refine qNF ?_ ?_);omega)|((with_reducible refine qU8 ?_ ?_);omega)|((with_reducible refine qU32 ?_ ?_);omega)|((with_reducible refine qU64 ?_ ?_);omega)|((with_reducible refine qU16 ?_ ?_);omega))
      conv => whnf
      refine dec_use (s := s.extract i s.size) (by rw [ByteArray.size_extract]; omega) ?_
      rw [ex, e1, show prsR (f, n, 0) = R.tup [frmT f, .one (.v (.int .i64 (n : Int))), .one (.v (.int .i64 0))] from rfl]
      rw [List.drop_drop] at hF'
      have el : (O ++ [(⟨i, n, f, 0⟩ : Sn)]).length = (k + 1) + 1 := by rw [List.length_append, hk]; rfl
      repeat((conv=>whnf);first|((with_reducible refine qS ?_ ?_ ?_);exact rfl;exact rfl)|with_reducible refine qB ?_|((with_reducible refine qI ?_ ?_);omega)|((with_reducible refine qDT ?_ ?_);omega)|((with_reducible refine qDF ?_ ?_);omega)|((with_reducible refine qNT ?_ ?_);omega)|((with_reducible refine qNF ?_ ?_);omega)|((with_reducible refine qU8 ?_ ?_);omega)|((with_reducible refine qU32 ?_ ?_);omega)|((with_reducible refine qU64 ?_ ?_);omega)|((with_reducible refine qU16 ?_ ?_);omega))
      conv => whnf
      refine cT (decide_eq_true (by show (k + 1 + 1) * 56 ≤ 1099511627776; omega)) ?_
      repeat((conv=>whnf);first|((with_reducible refine qS ?_ ?_ ?_);exact rfl;exact rfl)|with_reducible refine qB ?_|((with_reducible refine qI ?_ ?_);omega)|((with_reducible refine qDT ?_ ?_);omega)|((with_reducible refine qDF ?_ ?_);omega)|((with_reducible refine qNT ?_ ?_);omega)|((with_reducible refine qNF ?_ ?_);omega)|((with_reducible refine qU8 ?_ ?_);omega)|((with_reducible refine qU32 ?_ ?_);omega)|((with_reducible refine qU64 ?_ ?_);omega)|((with_reducible refine qU16 ?_ ?_);omega))
      conv => whnf
      intro cap' hc'
      repeat((conv=>whnf);first|((with_reducible refine qS ?_ ?_ ?_);exact rfl;exact rfl)|with_reducible refine qB ?_|((with_reducible refine qI ?_ ?_);omega)|((with_reducible refine qDT ?_ ?_);omega)|((with_reducible refine qDF ?_ ?_);omega)|((with_reducible refine qNT ?_ ?_);omega)|((with_reducible refine qNF ?_ ?_);omega)|((with_reducible refine qU8 ?_ ?_);omega)|((with_reducible refine qU32 ?_ ?_);omega)|((with_reducible refine qU64 ?_ ?_);omega)|((with_reducible refine qU16 ?_ ?_);omega))
      conv => whnf
      refine ⟨(i + n, cap', O ++ [⟨i, n, f, 0⟩]), ⟨⟨by show i + n ≤ s.size; omega, by rw [el]; show (k + 1) + 1 ≤ i + n; omega, by rw [el]; exact hc', o', hF', by rw [← hO, e2]; simp⟩, by show s.size - (i + n) < s.size - i; omega⟩, ?_⟩
      dsimp only
      rw [el]
      conv => whnf
      refine Le.nm [3] rfl ?_ ?_
      · refine ⟨⟨rfl, rfl, rfl, fun q hq => ?_⟩, trivial⟩
        exact appn (c := ⟨i, n, f, 0⟩) (n := k + 1) hk hq
      · repeat'(first|exact leT_empty|exact trivial|exact rfl|exact .inl rfl|exact .inr rfl|exact .inr ⟨rfl,rfl⟩|exact Nat.le_refl _|exact Nat.zero_le _|exact fun _ _=>rfl|assumption|refine And.intro ?_ ?_|exact ul0|exact ul1 rfl|exact ul2 rfl rfl|exact ul3 rfl rfl rfl)
    · rw [e2, List.append_nil] at hO
      repeat((conv=>whnf);first|((with_reducible refine qS ?_ ?_ ?_);exact rfl;exact rfl)|with_reducible refine qB ?_|((with_reducible refine qI ?_ ?_);omega)|((with_reducible refine qDT ?_ ?_);omega)|((with_reducible refine qDF ?_ ?_);omega)|((with_reducible refine qNT ?_ ?_);omega)|((with_reducible refine qNF ?_ ?_);omega)|((with_reducible refine qU8 ?_ ?_);omega)|((with_reducible refine qU32 ?_ ?_);omega)|((with_reducible refine qU64 ?_ ?_);omega)|((with_reducible refine qU16 ?_ ?_);omega))
      conv => whnf
      refine dec_use (s := s.extract i s.size) (by rw [ByteArray.size_extract]; omega) ?_
      rw [ex, e1, show prsR (f, n, 10) = R.tup [frmT f, .one (.v (.int .i64 (n : Int))), .one (.v (.int .i64 10))] from rfl]
      repeat((conv=>whnf);first|((with_reducible refine qS ?_ ?_ ?_);exact rfl;exact rfl)|with_reducible refine qB ?_|((with_reducible refine qI ?_ ?_);omega)|((with_reducible refine qDT ?_ ?_);omega)|((with_reducible refine qDF ?_ ?_);omega)|((with_reducible refine qNT ?_ ?_);omega)|((with_reducible refine qNF ?_ ?_);omega)|((with_reducible refine qU8 ?_ ?_);omega)|((with_reducible refine qU32 ?_ ?_);omega)|((with_reducible refine qU64 ?_ ?_);omega)|((with_reducible refine qU16 ?_ ?_);omega))
      conv => whnf
      refine Trim.fam cap (by rw [← hO]; omega) ?_
      rw [← hO, hk]
      conv => whnf
      refine Le.nm [0] rfl ?_ ?_
      · repeat'(first|exact leT_empty|exact trivial|exact rfl|exact .inl rfl|exact .inr rfl|exact .inr ⟨rfl,rfl⟩|exact Nat.le_refl _|exact Nat.zero_le _|exact fun _ _=>rfl|assumption|refine And.intro ?_ ?_|exact ul0|exact ul1 rfl|exact ul2 rfl rfl|exact ul3 rfl rfl rfl)
      · repeat'(first|exact leT_empty|exact trivial|exact rfl|exact .inl rfl|exact .inr rfl|exact .inr ⟨rfl,rfl⟩|exact Nat.le_refl _|exact Nat.zero_le _|exact fun _ _=>rfl|assumption|refine And.intro ?_ ?_|exact ul0|exact ul1 rfl|exact ul2 rfl rfl|exact ul3 rfl rfl rfl)
    · repeat((conv=>whnf);first|((with_reducible refine qS ?_ ?_ ?_);exact rfl;exact rfl)|with_reducible refine qB ?_|((with_reducible refine qI ?_ ?_);omega)|((with_reducible refine qDT ?_ ?_);omega)|((with_reducible refine qDF ?_ ?_);omega)|((with_reducible refine qNT ?_ ?_);omega)|((with_reducible refine qNF ?_ ?_);omega)|((with_reducible refine qU8 ?_ ?_);omega)|((with_reducible refine qU32 ?_ ?_);omega)|((with_reducible refine qU64 ?_ ?_);omega)|((with_reducible refine qU16 ?_ ?_);omega))
      conv => whnf
      refine dec_use (s := s.extract i s.size) (by rw [ByteArray.size_extract]; omega) ?_
      rw [ex, e1, show prsR (f, n, e) = R.tup [frmT f, .one (.v (.int .i64 (n : Int))), .one (.v (.int .i64 (e : Int)))] from rfl]
      repeat((conv=>whnf);first|((with_reducible refine qS ?_ ?_ ?_);exact rfl;exact rfl)|with_reducible refine qB ?_|((with_reducible refine qI ?_ ?_);omega)|((with_reducible refine qDT ?_ ?_);omega)|((with_reducible refine qDF ?_ ?_);omega)|((with_reducible refine qNT ?_ ?_);omega)|((with_reducible refine qNF ?_ ?_);omega)|((with_reducible refine qU8 ?_ ?_);omega)|((with_reducible refine qU32 ?_ ?_);omega)|((with_reducible refine qU64 ?_ ?_);omega)|((with_reducible refine qU16 ?_ ?_);omega))
      conv => whnf
      refine cT (decide_eq_true (by show (k + 1 + 1) * 56 ≤ 1099511627776; omega)) ?_
      repeat((conv=>whnf);first|((with_reducible refine qS ?_ ?_ ?_);exact rfl;exact rfl)|with_reducible refine qB ?_|((with_reducible refine qI ?_ ?_);omega)|((with_reducible refine qDT ?_ ?_);omega)|((with_reducible refine qDF ?_ ?_);omega)|((with_reducible refine qNT ?_ ?_);omega)|((with_reducible refine qNF ?_ ?_);omega)|((with_reducible refine qU8 ?_ ?_);omega)|((with_reducible refine qU32 ?_ ?_);omega)|((with_reducible refine qU64 ?_ ?_);omega)|((with_reducible refine qU16 ?_ ?_);omega))
      conv => whnf
      intro cap' hc'
      repeat((conv=>whnf);first|((with_reducible refine qS ?_ ?_ ?_);exact rfl;exact rfl)|with_reducible refine qB ?_|((with_reducible refine qI ?_ ?_);omega)|((with_reducible refine qDT ?_ ?_);omega)|((with_reducible refine qDF ?_ ?_);omega)|((with_reducible refine qNT ?_ ?_);omega)|((with_reducible refine qNF ?_ ?_);omega)|((with_reducible refine qU8 ?_ ?_);omega)|((with_reducible refine qU32 ?_ ?_);omega)|((with_reducible refine qU64 ?_ ?_);omega)|((with_reducible refine qU16 ?_ ?_);omega))
      conv => whnf
      refine rep_use ?_
      repeat((conv=>whnf);first|((with_reducible refine qS ?_ ?_ ?_);exact rfl;exact rfl)|with_reducible refine qB ?_|((with_reducible refine qI ?_ ?_);omega)|((with_reducible refine qDT ?_ ?_);omega)|((with_reducible refine qDF ?_ ?_);omega)|((with_reducible refine qNT ?_ ?_);omega)|((with_reducible refine qNF ?_ ?_);omega)|((with_reducible refine qU8 ?_ ?_);omega)|((with_reducible refine qU32 ?_ ?_);omega)|((with_reducible refine qU64 ?_ ?_);omega)|((with_reducible refine qU16 ?_ ?_);omega))
      conv => whnf
      have ez : (s.extract ((i : Int) + ((n : Int) + 1)).toNat s.size).size < 11 := by rw [ByteArray.size_extract]; omega
      have eq : strEq ones11 (s.extract ((i : Int) + ((n : Int) + 1)).toNat s.size) = false := decide_eq_false fun h => by
        rw [← h] at ez
        exact absurd ez (by decide)
      rw [eq]
      have ew : O ++ [(⟨i, n + 1, frm0, e⟩ : Sn)] = W := by rw [← hO, e2]
      have el : (O ++ [(⟨i, n + 1, frm0, e⟩ : Sn)]).length = (k + 1) + 1 := by rw [List.length_append, hk]; rfl
      repeat((conv=>whnf);first|((with_reducible refine qS ?_ ?_ ?_);exact rfl;exact rfl)|with_reducible refine qB ?_|((with_reducible refine qI ?_ ?_);omega)|((with_reducible refine qDT ?_ ?_);omega)|((with_reducible refine qDF ?_ ?_);omega)|((with_reducible refine qNT ?_ ?_);omega)|((with_reducible refine qNF ?_ ?_);omega)|((with_reducible refine qU8 ?_ ?_);omega)|((with_reducible refine qU32 ?_ ?_);omega)|((with_reducible refine qU64 ?_ ?_);omega)|((with_reducible refine qU16 ?_ ?_);omega))
      conv => whnf
      rw [decide_eq_true (p := ((s.extract ((i : Int) + ((n : Int) + 1)).toNat s.size).size : Int) ≤ (ones11.size : Int)) (by show _ ≤ (11 : Int); omega)]
      repeat((conv=>whnf);first|((with_reducible refine qS ?_ ?_ ?_);exact rfl;exact rfl)|with_reducible refine qB ?_|((with_reducible refine qI ?_ ?_);omega)|((with_reducible refine qDT ?_ ?_);omega)|((with_reducible refine qDF ?_ ?_);omega)|((with_reducible refine qNT ?_ ?_);omega)|((with_reducible refine qNF ?_ ?_);omega)|((with_reducible refine qU8 ?_ ?_);omega)|((with_reducible refine qU32 ?_ ?_);omega)|((with_reducible refine qU64 ?_ ?_);omega)|((with_reducible refine qU16 ?_ ?_);omega))
      conv => whnf
      have hq' : W.length ≤ cap' := by rw [← ew, el]; exact hc'
      refine Trim.fam cap' hq' ?_
      rw [← ew, el]
      conv => whnf
      refine Le.nm [3] rfl ?_ ?_
      · refine ⟨⟨rfl, rfl, rfl, fun q hq => ?_⟩, trivial⟩
        exact appn (c := ⟨i, n + 1, frm0, e⟩) (n := k + 1) hk hq
      · repeat'(first|exact leT_empty|exact trivial|exact rfl|exact .inl rfl|exact .inr rfl|exact .inr ⟨rfl,rfl⟩|exact Nat.le_refl _|exact Nat.zero_le _|exact fun _ _=>rfl|assumption|refine And.intro ?_ ?_|exact ul0|exact ul1 rfl|exact ul2 rfl rfl|exact ul3 rfl rfl rfl)
abbrev frsC : Con (ByteArray × List Sn) := FamCon (β := Nat) (fun p => [sv p.1]) (fun _ => []) (fun p => p.1.size ≤ 4000 ∧ Fr (rd p.1) 0 p.2) (fun p q => p.2.length ≤ q) (fun p q => outN 0 p.2.length q) (fun p q => rowsN p.2 p.2.length q)
theorem frs_ok : ConOk Tryd.prog F.watch_Frames frsC := con_of_run (clRunX_ok (d := 7) ttOk outsFrs_ok tabFrs_ok 3) (fn_enters (ok.watch_Frames (D := 7) u0 _ (clRunX_ok (d := 7) ttOk .nil TabOk.nil 1))) fun p hp => frs_run p.1 p.2 hp.1 hp.2
theorem frs_ask {s : ByteArray} {W : List Sn} {h : Heap} {K : R → Heap → Prop} (hs : s.size ≤ 4000) (hW : Fr (rd s) 0 W)
    (hk : ∀ q, W.length ≤ q → K (renR (back h [] []) (outN 0 W.length q)) (mrg (back h [] []) h [] [] (rowsN W W.length q))) : AskC frsC [sv s] h K :=
  .fam (s, W) [] _ _ ⟨hs, hW⟩ rfl trivial ⟨.inl rfl, trivial⟩ (fun _ => rfl) (fun _ => rfl) hk
end Go.Proofs.YtdeaigaafdnehaaDoor.Co
