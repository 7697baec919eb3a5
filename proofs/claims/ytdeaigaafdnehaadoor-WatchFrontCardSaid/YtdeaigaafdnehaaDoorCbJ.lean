/- Contracts: how quiet a row of bits ends. -/
import Derived.Test.YtdeaigaafdnehaaDoorCbI
namespace Go.Pu
/-- How many ones a row of bits ends with. -/
def qn (l : List Bool) : Nat := (l.reverse.takeWhile id).length
theorem qn_le (l : List Bool) : qn l ≤ l.length := by
  unfold qn
  have := (List.takeWhile_sublist id (l := l.reverse)).length_le
  rwa [List.length_reverse] at this
theorem qn_app1 (l : List Bool) : qn (l ++ [true]) = qn l + 1 := by
  unfold qn
  rw [List.reverse_append]
  show (List.takeWhile id (true :: l.reverse)).length = _
  rw [List.takeWhile_cons]; rfl
theorem qn_app0 (l : List Bool) : qn (l ++ [false]) = 0 := by
  unfold qn
  rw [List.reverse_append]
  show (List.takeWhile id (false :: l.reverse)).length = _
  rw [List.takeWhile_cons]; rfl
theorem qn_split {l : List Bool} {k : Nat} (h : 0 < k) (hl : l.length = k) : l = l.take (k - 1) ++ [gb l (k - 1)] := by
  have h1 : k - 1 < l.length := by omega
  unfold gb
  rw [List.getD_eq_getElem?_getD, List.getElem?_eq_getElem h1]
  show l = l.take (k - 1) ++ [l[k - 1]]
  rw [List.take_append_getElem h1, show k - 1 + 1 = l.length by omega, List.take_length]
end Go.Pu
namespace Go.Proofs.YtdeaigaafdnehaaDoor.Co
open Go Go.Eng Go.Proofs Go.Proofs.YtdeaigaafdnehaaDoor.Tb Go.Pu
set_option maxRecDepth 100000
set_option maxHeartbeats 8000000
abbrev one1 : ByteArray := ⟨#[49]⟩
abbrev trmR (s : ByteArray) : R := sv (s.extract 0 (s.size - qn (rd s)))
abbrev trmC : Con ByteArray := RoCon (fun p => [sv p, sv one1]) (fun _ => []) (fun p => p.size ≤ 1000000) fun p => trmR p
theorem trm_use {s : ByteArray} {h : Heap} {K : R → Heap → Prop} (hs : s.size ≤ 1000000) (hk : K (trmR s) h) : AskC trmC [sv s, sv one1] h K :=
  .use s [] hs rfl trivial ⟨.inl rfl, .inl rfl, trivial⟩ hk
noncomputable abbrev tabTrm : List (FuncId × Eng.Fn) := [(F.strings_TrimRight, fn.strings_TrimRight u0), (F.strings_trimRightByte, fn.strings_trimRightByte u0)]
theorem tabTrm_ok {d : Nat} : TabOk d tabTrm tt := .cons (ok.strings_TrimRight u0) (.cons (ok.strings_trimRightByte u0) (TabOk.nil))
theorem trm_run (s : ByteArray) (hs : s.size ≤ 1000000) : clRunX 6 tt outs0b tabTrm 3 F.strings_TrimRight [] [sv s, sv one1] ([]) (fun x h => Trim 0 x h fun x h => x = trmR s ∧ h = []) := by
  repeat((conv=>whnf);first|((with_reducible refine qS ?_ ?_ ?_);exact rfl;exact rfl)|with_reducible refine qB ?_|((with_reducible refine qI ?_ ?_);omega)|((with_reducible refine qDT ?_ ?_);omega)|((with_reducible refine qDF ?_ ?_);omega)|((with_reducible refine qNT ?_ ?_);omega)|((with_reducible refine qNF ?_ ?_);omega)|((with_reducible refine qU8 ?_ ?_);omega)|((with_reducible refine qU32 ?_ ?_);omega)|((with_reducible refine qU64 ?_ ?_);omega)|((with_reducible refine qU16 ?_ ?_);omega))
  conv => whnf
  have e1 : strEq one1 ⟨#[]⟩ = false := by decide
  cases hq : strEq s ⟨#[]⟩
  · repeat((conv=>whnf);first|((with_reducible refine qS ?_ ?_ ?_);exact rfl;exact rfl)|with_reducible refine qB ?_|((with_reducible refine qI ?_ ?_);omega)|((with_reducible refine qDT ?_ ?_);omega)|((with_reducible refine qDF ?_ ?_);omega)|((with_reducible refine qNT ?_ ?_);omega)|((with_reducible refine qNF ?_ ?_);omega)|((with_reducible refine qU8 ?_ ?_);omega)|((with_reducible refine qU32 ?_ ?_);omega)|((with_reducible refine qU64 ?_ ?_);omega)|((with_reducible refine qU16 ?_ ?_);omega))
    conv => whnf
    rw [e1]
    repeat((conv=>whnf);first|((with_reducible refine qS ?_ ?_ ?_);exact rfl;exact rfl)|with_reducible refine qB ?_|((with_reducible refine qI ?_ ?_);omega)|((with_reducible refine qDT ?_ ?_);omega)|((with_reducible refine qDF ?_ ?_);omega)|((with_reducible refine qNT ?_ ?_);omega)|((with_reducible refine qNF ?_ ?_);omega)|((with_reducible refine qU8 ?_ ?_);omega)|((with_reducible refine qU32 ?_ ?_);omega)|((with_reducible refine qU64 ?_ ?_);omega)|((with_reducible refine qU16 ?_ ?_);omega))
    conv => whnf
    refine .rd (fun p : Nat × ByteArray => p.1 ≤ s.size ∧ p.2 = s.extract 0 p.1 ∧ qn (rd s) = qn (rd p.2) + (s.size - p.1)) (fun p => [(0, sv p.2)]) (fun p => p.1) (s.size, s) ⟨Nat.le_refl _, by simp, by simp⟩ ?_ (fun p ⟨hk, ht, hqn⟩ => ?_)
    · conv => whnf
      refine Le.id rfl ?_ ?_
      all_goals(repeat'(first|exact leT_empty|exact trivial|exact rfl|exact .inl rfl|exact .inr rfl|exact .inr ⟨rfl,rfl⟩|exact Nat.le_refl _|exact Nat.zero_le _|exact fun _ _=>rfl|assumption|refine And.intro ?_ ?_|exact ul0|exact ul1 rfl|exact ul2 rfl rfl|exact ul3 rfl rfl rfl))
    generalize p.1 = k at *
    generalize p.2 = t at *
    have hz : t.size = k := by rw [ht, ByteArray.size_extract]; omega
    conv => whnf
    refine cD (fun h5 => ?_) (fun h5 => ?_)
    rotate_left
    · repeat((conv=>whnf);first|((with_reducible refine qS ?_ ?_ ?_);exact rfl;exact rfl)|with_reducible refine qB ?_|((with_reducible refine qI ?_ ?_);omega)|((with_reducible refine qDT ?_ ?_);omega)|((with_reducible refine qDF ?_ ?_);omega)|((with_reducible refine qNT ?_ ?_);omega)|((with_reducible refine qNF ?_ ?_);omega)|((with_reducible refine qU8 ?_ ?_);omega)|((with_reducible refine qU32 ?_ ?_);omega)|((with_reducible refine qU64 ?_ ?_);omega)|((with_reducible refine qU16 ?_ ?_);omega))
      conv => whnf
      refine trim0 rfl ?_
      have e2 : qn (rd t) = 0 := by
        have := qn_le (rd t)
        rw [rd_len] at this
        omega
      show _ = sv (s.extract 0 (s.size - qn (rd s)))
      rw [hqn, e2, ht, show s.size - (0 + (s.size - k)) = k by omega]
    have hsp : rd t = rd (t.extract 0 (k - 1)) ++ [gb (rd t) (k - 1)] := by
      have hl : (rd t).length = k := by rw [rd_len, hz]
      rw [rd_ext, List.drop_zero, Nat.sub_zero]
      exact qn_split (by omega) hl
    repeat((conv=>whnf);first|((with_reducible refine qS ?_ ?_ ?_);exact rfl;exact rfl)|with_reducible refine qB ?_|((with_reducible refine qI ?_ ?_);omega)|((with_reducible refine qDT ?_ ?_);omega)|((with_reducible refine qDF ?_ ?_);omega)|((with_reducible refine qNT ?_ ?_);omega)|((with_reducible refine qNF ?_ ?_);omega)|((with_reducible refine qU8 ?_ ?_);omega)|((with_reducible refine qU32 ?_ ?_);omega)|((with_reducible refine qU64 ?_ ?_);omega)|((with_reducible refine qU16 ?_ ?_);omega))
    conv => whnf
    rw [show ((t.size : Int) - 1).toNat = k - 1 by omega, show bt one1 (Int.toNat 0) = 49 from rfl, dec49 (by omega)]
    cases hb : gb (rd t) (k - 1)
    · repeat((conv=>whnf);first|((with_reducible refine qS ?_ ?_ ?_);exact rfl;exact rfl)|with_reducible refine qB ?_|((with_reducible refine qI ?_ ?_);omega)|((with_reducible refine qDT ?_ ?_);omega)|((with_reducible refine qDF ?_ ?_);omega)|((with_reducible refine qNT ?_ ?_);omega)|((with_reducible refine qNF ?_ ?_);omega)|((with_reducible refine qU8 ?_ ?_);omega)|((with_reducible refine qU32 ?_ ?_);omega)|((with_reducible refine qU64 ?_ ?_);omega)|((with_reducible refine qU16 ?_ ?_);omega))
      conv => whnf
      refine trim0 rfl ?_
      rw [hb] at hsp
      show _ = sv (s.extract 0 (s.size - qn (rd s)))
      rw [hqn, hsp, qn_app0, ht, show s.size - (0 + (s.size - k)) = k by omega]
    · repeat((conv=>whnf);first|((with_reducible refine qS ?_ ?_ ?_);exact rfl;exact rfl)|with_reducible refine qB ?_|((with_reducible refine qI ?_ ?_);omega)|((with_reducible refine qDT ?_ ?_);omega)|((with_reducible refine qDF ?_ ?_);omega)|((with_reducible refine qNT ?_ ?_);omega)|((with_reducible refine qNF ?_ ?_);omega)|((with_reducible refine qU8 ?_ ?_);omega)|((with_reducible refine qU32 ?_ ?_);omega)|((with_reducible refine qU64 ?_ ?_);omega)|((with_reducible refine qU16 ?_ ?_);omega))
      conv => whnf
      rw [hb] at hsp
      refine ⟨(k - 1, t.extract 0 (k - 1)), ⟨⟨by omega, ?_, ?_⟩, by omega⟩, ?_⟩
      · show t.extract 0 (k - 1) = s.extract 0 (k - 1)
        rw [ht, ByteArray.extract_extract, show min (0 + (k - 1)) k = k - 1 by omega, Nat.add_zero]
      · show qn (rd s) = qn (rd (t.extract 0 (k - 1))) + (s.size - (k - 1))
        rw [hqn, hsp, qn_app1]; omega
      rw [show ((t.size : Int) - 1).toNat = k - 1 by omega]
      conv => whnf
      refine Le.id rfl ?_ ?_
      all_goals(repeat'(first|exact leT_empty|exact trivial|exact rfl|exact .inl rfl|exact .inr rfl|exact .inr ⟨rfl,rfl⟩|exact Nat.le_refl _|exact Nat.zero_le _|exact fun _ _=>rfl|assumption|refine And.intro ?_ ?_|exact ul0|exact ul1 rfl|exact ul2 rfl rfl|exact ul3 rfl rfl rfl))
  · repeat((conv=>whnf);first|((with_reducible refine qS ?_ ?_ ?_);exact rfl;exact rfl)|with_reducible refine qB ?_|((with_reducible refine qI ?_ ?_);omega)|((with_reducible refine qDT ?_ ?_);omega)|((with_reducible refine qDF ?_ ?_);omega)|((with_reducible refine qNT ?_ ?_);omega)|((with_reducible refine qNF ?_ ?_);omega)|((with_reducible refine qU8 ?_ ?_);omega)|((with_reducible refine qU32 ?_ ?_);omega)|((with_reducible refine qU64 ?_ ?_);omega)|((with_reducible refine qU16 ?_ ?_);omega))
    conv => whnf
    obtain rfl : s = ⟨#[]⟩ := of_decide_eq_true hq
    refine trim0 rfl ?_
    show _ = sv ((⟨#[]⟩ : ByteArray).extract 0 _)
    rw [show (⟨#[]⟩ : ByteArray).extract 0 ((⟨#[]⟩ : ByteArray).size - qn (rd ⟨#[]⟩)) = ⟨#[]⟩ by decide]
theorem trm_ok : ConOk Tryd.prog F.strings_TrimRight trmC := con_of_run (clRunX_ok (d := 6) ttOk outs0b_ok tabTrm_ok 3) (fn_enters (ok.strings_TrimRight (D := 6) u0 _ (clRunX_ok (d := 6) ttOk .nil TabOk.nil 1))) fun p hp => trm_run p hp
/-! ### How quiet it ends -/
abbrev quC : Con ByteArray := RoCon (fun p => [sv p]) (fun _ => []) (fun p => p.size ≤ 1000000) fun p => iv .i64 (qn (rd p) : Nat)
theorem qu_use {s : ByteArray} {h : Heap} {K : R → Heap → Prop} (hs : s.size ≤ 1000000) (hk : K (iv .i64 (qn (rd s) : Nat)) h) : AskC quC [sv s] h K :=
  .use s [] hs rfl trivial ⟨.inl rfl, trivial⟩ hk
abbrev outsQu : List (FuncId × Cx) := [(F.strings_TrimRight, AskC trmC)]
theorem outsQu_ok : OutsOk Tryd.prog outsQu := .cons (ask_ok trm_ok) .nil
noncomputable abbrev tabQu : List (FuncId × Eng.Fn) := [(F.watch_Quiet, fn.watch_Quiet u0)]
theorem tabQu_ok {d : Nat} : TabOk d tabQu tt := .cons (ok.watch_Quiet u0) (TabOk.nil)
theorem qu_run (s : ByteArray) (hs : s.size ≤ 1000000) : clRunX 6 tt outsQu tabQu 2 F.watch_Quiet [] [sv s] ([]) (fun x h => Trim 0 x h fun x h => x = iv .i64 (qn (rd s) : Nat) ∧ h = []) := by
  have hq := qn_le (rd s)
  rw [rd_len] at hq
  have hz : (s.extract 0 (s.size - qn (rd s))).size = s.size - qn (rd s) := by rw [ByteArray.size_extract]; omega
  obtain ⟨t, ht⟩ : ∃ t, s.extract 0 (s.size - qn (rd s)) = t := ⟨_, rfl⟩
  rw [ht] at hz
  repeat((conv=>whnf);first|((with_reducible refine qS ?_ ?_ ?_);exact rfl;exact rfl)|with_reducible refine qB ?_|((with_reducible refine qI ?_ ?_);omega)|((with_reducible refine qDT ?_ ?_);omega)|((with_reducible refine qDF ?_ ?_);omega)|((with_reducible refine qNT ?_ ?_);omega)|((with_reducible refine qNF ?_ ?_);omega)|((with_reducible refine qU8 ?_ ?_);omega)|((with_reducible refine qU32 ?_ ?_);omega)|((with_reducible refine qU64 ?_ ?_);omega)|((with_reducible refine qU16 ?_ ?_);omega))
  conv => whnf
  refine trm_use hs ?_
  rw [show trmR s = sv t from congrArg sv ht]
  repeat((conv=>whnf);first|((with_reducible refine qS ?_ ?_ ?_);exact rfl;exact rfl)|with_reducible refine qB ?_|((with_reducible refine qI ?_ ?_);omega)|((with_reducible refine qDT ?_ ?_);omega)|((with_reducible refine qDF ?_ ?_);omega)|((with_reducible refine qNT ?_ ?_);omega)|((with_reducible refine qNF ?_ ?_);omega)|((with_reducible refine qU8 ?_ ?_);omega)|((with_reducible refine qU32 ?_ ?_);omega)|((with_reducible refine qU64 ?_ ?_);omega)|((with_reducible refine qU16 ?_ ?_);omega))
  conv => whnf
  refine trim0 rfl ?_
  rw [show (s.size : Int) - (t.size : Int) = (qn (rd s) : Int) by omega]
theorem qu_ok : ConOk Tryd.prog F.watch_Quiet quC := con_of_run (clRunX_ok (d := 6) ttOk outsQu_ok tabQu_ok 2) (fn_enters (ok.watch_Quiet (D := 6) u0 _ (clRunX_ok (d := 6) ttOk .nil TabOk.nil 1))) fun p hp => qu_run p hp
end Go.Proofs.YtdeaigaafdnehaaDoor.Co
