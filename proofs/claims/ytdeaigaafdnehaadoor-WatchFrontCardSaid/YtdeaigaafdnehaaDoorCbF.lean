/- Contracts: a frame's bits, read. -/
import Derived.Test.YtdeaigaafdnehaaDoorCbE
namespace Go.Proofs.YtdeaigaafdnehaaDoor.Co
open Go Go.Eng Go.Proofs Go.Proofs.YtdeaigaafdnehaaDoor.Tb Go.Pu
set_option maxRecDepth 100000
set_option maxHeartbeats 16000000
theorem drop_gb {l : List Bool} {j : Nat} (h : j < l.length) : l.drop j = gb l j :: l.drop (j + 1) := by
  rw [List.drop_eq_getElem_cons h]
  unfold gb
  rw [List.getD_eq_getElem?_getD, List.getElem?_eq_getElem h]; rfl
abbrev frO (f : Frm) : HE := .ob (.own (frmS f))
abbrev decC : Con ByteArray := RoCon (fun p => [sv p]) (fun _ => []) (fun p => p.size ≤ 1000000) fun p => prsR (dec (rd p))
theorem dec_use {s : ByteArray} {h : Heap} {K : R → Heap → Prop} (hs : s.size ≤ 1000000) (hk : K (prsR (dec (rd s))) h) : AskC decC [sv s] h K :=
  .use s [] hs rfl trivial ⟨.inl rfl, trivial⟩ hk
abbrev outsDec : List (FuncId × Cx) := [(F.code_Reader_Push, AskC pshC), (F.frame_Parse, AskC prsC)]
theorem outsDec_ok : OutsOk Tryd.prog outsDec := .cons (ask_ok psh_ok) (.cons (ask_ok prs_ok) .nil)
noncomputable abbrev tabDec : List (FuncId × Eng.Fn) := [(F.code_Decode, fn.code_Decode u0), (F.code_Reader_End, fn.code_Reader_End u0), (F.code_Reader_Frame, fn.code_Reader_Frame u0)]
theorem tabDec_ok {d : Nat} : TabOk d tabDec tt := .cons (ok.code_Decode u0) (.cons (ok.code_Reader_End u0) (.cons (ok.code_Reader_Frame u0) (TabOk.nil)))
theorem decGo_c (r : Rd) (i : Nat) (c : Bool) (l : List Bool) : decGo r i (c :: l) = if (r.push c).2 ≠ 0 then (frm0, i, (r.push c).2) else if (r.push c).1.end_ = 7 then ((parse (r.push c).1.b).1, i + 1, 0) else decGo (r.push c).1 (i + 1) l := rfl
theorem rb_str (r : Rd) : mkStr ((r.b.length : Int).toNat - 0) (fun i => [rbF r.b (0 + i)]) = bs r.b := mkStr_bs (by rfl) fun q hq => by
  have hq : q < r.b.length := hq
  show [rbF _ (0 + q)] = _
  unfold rbF
  rw [Nat.zero_add, if_pos hq]
theorem dec_run (s : ByteArray) (hs : s.size ≤ 1000000) : clRunX 6 tt outsDec tabDec 3 F.code_Decode [] [sv s] ([]) (fun x h => Trim 0 x h fun x h => x = prsR (dec (rd s)) ∧ h = []) := by
  have hl := rd_len s
  repeat((conv=>whnf);first|((with_reducible refine qS ?_ ?_ ?_);exact rfl;exact rfl)|with_reducible refine qB ?_|((with_reducible refine qI ?_ ?_);omega)|((with_reducible refine qDT ?_ ?_);omega)|((with_reducible refine qDF ?_ ?_);omega)|((with_reducible refine qNT ?_ ?_);omega)|((with_reducible refine qNF ?_ ?_);omega)|((with_reducible refine qU8 ?_ ?_);omega)|((with_reducible refine qU32 ?_ ?_);omega)|((with_reducible refine qU64 ?_ ?_);omega)|((with_reducible refine qU16 ?_ ?_);omega))
  conv => whnf
  refine .inv (fun p : Nat × Rd => p.1 ≤ s.size ∧ dec (rd s) = decGo p.2 p.1 ((rd s).drop p.1) ∧ p.2.Ok ∧ p.2.fin ≤ 9) (fun p => [(6, iv .i64 p.1)]) (fun p => [frO frm0, rdO p.2]) (fun p => s.size - p.1) (0, rd0) ⟨Nat.zero_le _, rfl, rd0_ok, by decide⟩ ?_ (fun p ⟨hi, hd, hr, hf⟩ => ?_)
  · conv => whnf
    refine Le.id rfl ?_ ?_
    all_goals(repeat'(first|exact leT_empty|exact trivial|exact rfl|exact .inl rfl|exact .inr rfl|exact .inr ⟨rfl,rfl⟩|exact Nat.le_refl _|exact Nat.zero_le _|exact fun _ _=>rfl|assumption|refine And.intro ?_ ?_|exact ul0|exact ul1 rfl|exact ul2 rfl rfl|exact ul3 rfl rfl rfl))
  generalize p.1 = i at *
  generalize p.2 = r at *
  conv => whnf
  refine cD (fun h5 => ?_) (fun h5 => ?_)
  rotate_left
  · rw [show (rd s).drop i = [] from List.drop_of_length_le (by omega)] at hd
    repeat((conv=>whnf);first|((with_reducible refine qS ?_ ?_ ?_);exact rfl;exact rfl)|with_reducible refine qB ?_|((with_reducible refine qI ?_ ?_);omega)|((with_reducible refine qDT ?_ ?_);omega)|((with_reducible refine qDF ?_ ?_);omega)|((with_reducible refine qNT ?_ ?_);omega)|((with_reducible refine qNF ?_ ?_);omega)|((with_reducible refine qU8 ?_ ?_);omega)|((with_reducible refine qU32 ?_ ?_);omega)|((with_reducible refine qU64 ?_ ?_);omega)|((with_reducible refine qU16 ?_ ?_);omega))
    conv => whnf
    refine trim0 rfl ?_
    rw [hd, show i = s.size by omega]; rfl
  have hi' : i < (rd s).length := by omega
  rw [drop_gb hi', decGo_c] at hd
  have hf' := push_fin (r := r) (c := gb (rd s) i)
  have hk := fun h => push_ok hr (c := gb (rd s) i) h
  repeat((conv=>whnf);first|((with_reducible refine qS ?_ ?_ ?_);exact rfl;exact rfl)|with_reducible refine qB ?_|((with_reducible refine qI ?_ ?_);omega)|((with_reducible refine qDT ?_ ?_);omega)|((with_reducible refine qDF ?_ ?_);omega)|((with_reducible refine qNT ?_ ?_);omega)|((with_reducible refine qNF ?_ ?_);omega)|((with_reducible refine qU8 ?_ ?_);omega)|((with_reducible refine qU32 ?_ ?_);omega)|((with_reducible refine qU64 ?_ ?_);omega)|((with_reducible refine qU16 ?_ ?_);omega))
  conv => whnf
  rw [tn, dec49 (by omega)]
  generalize gb (rd s) i = b at *
  cases b
  · repeat((conv=>whnf);first|((with_reducible refine qS ?_ ?_ ?_);exact rfl;exact rfl)|with_reducible refine qB ?_|((with_reducible refine qI ?_ ?_);omega)|((with_reducible refine qDT ?_ ?_);omega)|((with_reducible refine qDF ?_ ?_);omega)|((with_reducible refine qNT ?_ ?_);omega)|((with_reducible refine qNF ?_ ?_);omega)|((with_reducible refine qU8 ?_ ?_);omega)|((with_reducible refine qU32 ?_ ?_);omega)|((with_reducible refine qU64 ?_ ?_);omega)|((with_reducible refine qU16 ?_ ?_);omega))
    conv => whnf
    refine .det (r, false) [1] (iv .i64 ((r.push false).2 : Nat)) [frO frm0, rdO (r.push false).1] ⟨hr, by show r.fin ≤ 1000000; omega⟩ rfl ?_ ?_ rfl rfl ?_
    · repeat'(first|exact leT_empty|exact trivial|exact rfl|exact .inl rfl|exact .inr rfl|exact .inr ⟨rfl,rfl⟩|exact Nat.le_refl _|exact Nat.zero_le _|exact fun _ _=>rfl|assumption|refine And.intro ?_ ?_|exact ul0|exact ul1 rfl|exact ul2 rfl rfl|exact ul3 rfl rfl rfl)
    · repeat'(first|exact leT_empty|exact trivial|exact rfl|exact .inl rfl|exact .inr rfl|exact .inr ⟨rfl,rfl⟩|exact Nat.le_refl _|exact Nat.zero_le _|exact fun _ _=>rfl|assumption|refine And.intro ?_ ?_|exact ul0|exact ul1 rfl|exact ul2 rfl rfl|exact ul3 rfl rfl rfl)
    generalize r.push false = pr at *
    obtain ⟨r', e⟩ := pr
    simp only at hd hf' hk ⊢
    by_cases he : e = 0
    rotate_left
    · rw [if_pos he] at hd
      repeat((conv=>whnf);first|((with_reducible refine qS ?_ ?_ ?_);exact rfl;exact rfl)|with_reducible refine qB ?_|((with_reducible refine qI ?_ ?_);omega)|((with_reducible refine qDT ?_ ?_);omega)|((with_reducible refine qDF ?_ ?_);omega)|((with_reducible refine qNT ?_ ?_);omega)|((with_reducible refine qNF ?_ ?_);omega)|((with_reducible refine qU8 ?_ ?_);omega)|((with_reducible refine qU32 ?_ ?_);omega)|((with_reducible refine qU64 ?_ ?_);omega)|((with_reducible refine qU16 ?_ ?_);omega))
      conv => whnf
      refine trim0 rfl ?_
      rw [hd]; rfl
    rw [if_neg (by simp [he])] at hd
    subst he
    have hr' := hk rfl
    have hb := hr'.len
    by_cases h7 : r'.end_ = 7
    · rw [if_pos h7] at hd
      unfold Rd.end_ at h7
      repeat((conv=>whnf);first|((with_reducible refine qS ?_ ?_ ?_);exact rfl;exact rfl)|with_reducible refine qB ?_|((with_reducible refine qI ?_ ?_);omega)|((with_reducible refine qDT ?_ ?_);omega)|((with_reducible refine qDF ?_ ?_);omega)|((with_reducible refine qNT ?_ ?_);omega)|((with_reducible refine qNF ?_ ?_);omega)|((with_reducible refine qU8 ?_ ?_);omega)|((with_reducible refine qU32 ?_ ?_);omega)|((with_reducible refine qU64 ?_ ?_);omega)|((with_reducible refine qU16 ?_ ?_);omega))
      conv => whnf
      refine cT (bytesB_mk fun q hq => ⟨_, rfl⟩) ?_
      repeat((conv=>whnf);first|((with_reducible refine qS ?_ ?_ ?_);exact rfl;exact rfl)|with_reducible refine qB ?_|((with_reducible refine qI ?_ ?_);omega)|((with_reducible refine qDT ?_ ?_);omega)|((with_reducible refine qDF ?_ ?_);omega)|((with_reducible refine qNT ?_ ?_);omega)|((with_reducible refine qNF ?_ ?_);omega)|((with_reducible refine qU8 ?_ ?_);omega)|((with_reducible refine qU32 ?_ ?_);omega)|((with_reducible refine qU64 ?_ ?_);omega)|((with_reducible refine qU16 ?_ ?_);omega))
      conv => whnf
      refine ⟨?_, ?_⟩
      all_goals
        repeat((conv=>whnf);first|((with_reducible refine qS ?_ ?_ ?_);exact rfl;exact rfl)|with_reducible refine qB ?_|((with_reducible refine qI ?_ ?_);omega)|((with_reducible refine qDT ?_ ?_);omega)|((with_reducible refine qDF ?_ ?_);omega)|((with_reducible refine qNT ?_ ?_);omega)|((with_reducible refine qNF ?_ ?_);omega)|((with_reducible refine qU8 ?_ ?_);omega)|((with_reducible refine qU32 ?_ ?_);omega)|((with_reducible refine qU64 ?_ ?_);omega)|((with_reducible refine qU16 ?_ ?_);omega))
        conv => whnf
        try refine cT (bytesB_mk fun q hq => ⟨_, rfl⟩) ?_
        repeat((conv=>whnf);first|((with_reducible refine qS ?_ ?_ ?_);exact rfl;exact rfl)|with_reducible refine qB ?_|((with_reducible refine qI ?_ ?_);omega)|((with_reducible refine qDT ?_ ?_);omega)|((with_reducible refine qDF ?_ ?_);omega)|((with_reducible refine qNT ?_ ?_);omega)|((with_reducible refine qNF ?_ ?_);omega)|((with_reducible refine qU8 ?_ ?_);omega)|((with_reducible refine qU32 ?_ ?_);omega)|((with_reducible refine qU64 ?_ ?_);omega)|((with_reducible refine qU16 ?_ ?_);omega))
        conv => whnf
        try rw [rb_str]
        refine prs_use (s := bs r'.b) (by rw [bs_size]; omega) ?_
        rw [rd_bs]
        repeat((conv=>whnf);first|((with_reducible refine qS ?_ ?_ ?_);exact rfl;exact rfl)|with_reducible refine qB ?_|((with_reducible refine qI ?_ ?_);omega)|((with_reducible refine qDT ?_ ?_);omega)|((with_reducible refine qDF ?_ ?_);omega)|((with_reducible refine qNT ?_ ?_);omega)|((with_reducible refine qNF ?_ ?_);omega)|((with_reducible refine qU8 ?_ ?_);omega)|((with_reducible refine qU32 ?_ ?_);omega)|((with_reducible refine qU64 ?_ ?_);omega)|((with_reducible refine qU16 ?_ ?_);omega))
        conv => whnf
        try refine cT (bytesB_mk fun q hq => ⟨_, rfl⟩) ?_
        repeat((conv=>whnf);first|((with_reducible refine qS ?_ ?_ ?_);exact rfl;exact rfl)|with_reducible refine qB ?_|((with_reducible refine qI ?_ ?_);omega)|((with_reducible refine qDT ?_ ?_);omega)|((with_reducible refine qDF ?_ ?_);omega)|((with_reducible refine qNT ?_ ?_);omega)|((with_reducible refine qNF ?_ ?_);omega)|((with_reducible refine qU8 ?_ ?_);omega)|((with_reducible refine qU32 ?_ ?_);omega)|((with_reducible refine qU64 ?_ ?_);omega)|((with_reducible refine qU16 ?_ ?_);omega))
        conv => whnf
        try rw [rb_str]
        repeat((conv=>whnf);first|((with_reducible refine qS ?_ ?_ ?_);exact rfl;exact rfl)|with_reducible refine qB ?_|((with_reducible refine qI ?_ ?_);omega)|((with_reducible refine qDT ?_ ?_);omega)|((with_reducible refine qDF ?_ ?_);omega)|((with_reducible refine qNT ?_ ?_);omega)|((with_reducible refine qNF ?_ ?_);omega)|((with_reducible refine qU8 ?_ ?_);omega)|((with_reducible refine qU32 ?_ ?_);omega)|((with_reducible refine qU64 ?_ ?_);omega)|((with_reducible refine qU16 ?_ ?_);omega))
        conv => whnf
        refine trim0 rfl ?_
        rw [hd]; rfl
    · rw [if_neg h7] at hd
      unfold Rd.end_ at h7
      repeat((conv=>whnf);first|((with_reducible refine qS ?_ ?_ ?_);exact rfl;exact rfl)|with_reducible refine qB ?_|((with_reducible refine qI ?_ ?_);omega)|((with_reducible refine qDT ?_ ?_);omega)|((with_reducible refine qDF ?_ ?_);omega)|((with_reducible refine qNT ?_ ?_);omega)|((with_reducible refine qNF ?_ ?_);omega)|((with_reducible refine qU8 ?_ ?_);omega)|((with_reducible refine qU32 ?_ ?_);omega)|((with_reducible refine qU64 ?_ ?_);omega)|((with_reducible refine qU16 ?_ ?_);omega))
      conv => whnf
      refine ⟨(i + 1, r'), ⟨⟨by show i + 1 ≤ s.size; omega, hd, hr', by show r'.fin ≤ 9; omega⟩, by show s.size - (i + 1) < s.size - i; omega⟩, ?_⟩
      conv => whnf
      refine Le.id rfl ?_ ?_
      all_goals(repeat'(first|exact leT_empty|exact trivial|exact rfl|exact .inl rfl|exact .inr rfl|exact .inr ⟨rfl,rfl⟩|exact Nat.le_refl _|exact Nat.zero_le _|exact fun _ _=>rfl|assumption|refine And.intro ?_ ?_|exact ul0|exact ul1 rfl|exact ul2 rfl rfl|exact ul3 rfl rfl rfl))
  · repeat((conv=>whnf);first|((with_reducible refine qS ?_ ?_ ?_);exact rfl;exact rfl)|with_reducible refine qB ?_|((with_reducible refine qI ?_ ?_);omega)|((with_reducible refine qDT ?_ ?_);omega)|((with_reducible refine qDF ?_ ?_);omega)|((with_reducible refine qNT ?_ ?_);omega)|((with_reducible refine qNF ?_ ?_);omega)|((with_reducible refine qU8 ?_ ?_);omega)|((with_reducible refine qU32 ?_ ?_);omega)|((with_reducible refine qU64 ?_ ?_);omega)|((with_reducible refine qU16 ?_ ?_);omega))
    conv => whnf
    refine .det (r, true) [1] (iv .i64 ((r.push true).2 : Nat)) [frO frm0, rdO (r.push true).1] ⟨hr, by show r.fin ≤ 1000000; omega⟩ rfl ?_ ?_ rfl rfl ?_
    · repeat'(first|exact leT_empty|exact trivial|exact rfl|exact .inl rfl|exact .inr rfl|exact .inr ⟨rfl,rfl⟩|exact Nat.le_refl _|exact Nat.zero_le _|exact fun _ _=>rfl|assumption|refine And.intro ?_ ?_|exact ul0|exact ul1 rfl|exact ul2 rfl rfl|exact ul3 rfl rfl rfl)
    · repeat'(first|exact leT_empty|exact trivial|exact rfl|exact .inl rfl|exact .inr rfl|exact .inr ⟨rfl,rfl⟩|exact Nat.le_refl _|exact Nat.zero_le _|exact fun _ _=>rfl|assumption|refine And.intro ?_ ?_|exact ul0|exact ul1 rfl|exact ul2 rfl rfl|exact ul3 rfl rfl rfl)
    generalize r.push true = pr at *
    obtain ⟨r', e⟩ := pr
    simp only at hd hf' hk ⊢
    by_cases he : e = 0
    rotate_left
    · rw [if_pos he] at hd
      repeat((conv=>whnf);first|((with_reducible refine qS ?_ ?_ ?_);exact rfl;exact rfl)|with_reducible refine qB ?_|((with_reducible refine qI ?_ ?_);omega)|((with_reducible refine qDT ?_ ?_);omega)|((with_reducible refine qDF ?_ ?_);omega)|((with_reducible refine qNT ?_ ?_);omega)|((with_reducible refine qNF ?_ ?_);omega)|((with_reducible refine qU8 ?_ ?_);omega)|((with_reducible refine qU32 ?_ ?_);omega)|((with_reducible refine qU64 ?_ ?_);omega)|((with_reducible refine qU16 ?_ ?_);omega))
      conv => whnf
      refine trim0 rfl ?_
      rw [hd]; rfl
    rw [if_neg (by simp [he])] at hd
    subst he
    have hr' := hk rfl
    have hb := hr'.len
    by_cases h7 : r'.end_ = 7
    · rw [if_pos h7] at hd
      unfold Rd.end_ at h7
      repeat((conv=>whnf);first|((with_reducible refine qS ?_ ?_ ?_);exact rfl;exact rfl)|with_reducible refine qB ?_|((with_reducible refine qI ?_ ?_);omega)|((with_reducible refine qDT ?_ ?_);omega)|((with_reducible refine qDF ?_ ?_);omega)|((with_reducible refine qNT ?_ ?_);omega)|((with_reducible refine qNF ?_ ?_);omega)|((with_reducible refine qU8 ?_ ?_);omega)|((with_reducible refine qU32 ?_ ?_);omega)|((with_reducible refine qU64 ?_ ?_);omega)|((with_reducible refine qU16 ?_ ?_);omega))
      conv => whnf
      refine cT (bytesB_mk fun q hq => ⟨_, rfl⟩) ?_
      repeat((conv=>whnf);first|((with_reducible refine qS ?_ ?_ ?_);exact rfl;exact rfl)|with_reducible refine qB ?_|((with_reducible refine qI ?_ ?_);omega)|((with_reducible refine qDT ?_ ?_);omega)|((with_reducible refine qDF ?_ ?_);omega)|((with_reducible refine qNT ?_ ?_);omega)|((with_reducible refine qNF ?_ ?_);omega)|((with_reducible refine qU8 ?_ ?_);omega)|((with_reducible refine qU32 ?_ ?_);omega)|((with_reducible refine qU64 ?_ ?_);omega)|((with_reducible refine qU16 ?_ ?_);omega))
      conv => whnf
      refine ⟨?_, ?_⟩
      all_goals
        repeat((conv=>whnf);first|((with_reducible refine qS ?_ ?_ ?_);exact rfl;exact rfl)|with_reducible refine qB ?_|((with_reducible refine qI ?_ ?_);omega)|((with_reducible refine qDT ?_ ?_);omega)|((with_reducible refine qDF ?_ ?_);omega)|((with_reducible refine qNT ?_ ?_);omega)|((with_reducible refine qNF ?_ ?_);omega)|((with_reducible refine qU8 ?_ ?_);omega)|((with_reducible refine qU32 ?_ ?_);omega)|((with_reducible refine qU64 ?_ ?_);omega)|((with_reducible refine qU16 ?_ ?_);omega))
        conv => whnf
        try refine cT (bytesB_mk fun q hq => ⟨_, rfl⟩) ?_
        repeat((conv=>whnf);first|((with_reducible refine qS ?_ ?_ ?_);exact rfl;exact rfl)|with_reducible refine qB ?_|((with_reducible refine qI ?_ ?_);omega)|((with_reducible refine qDT ?_ ?_);omega)|((with_reducible refine qDF ?_ ?_);omega)|((with_reducible refine qNT ?_ ?_);omega)|((with_reducible refine qNF ?_ ?_);omega)|((with_reducible refine qU8 ?_ ?_);omega)|((with_reducible refine qU32 ?_ ?_);omega)|((with_reducible refine qU64 ?_ ?_);omega)|((with_reducible refine qU16 ?_ ?_);omega))
        conv => whnf
        try rw [rb_str]
        refine prs_use (s := bs r'.b) (by rw [bs_size]; omega) ?_
        rw [rd_bs]
        repeat((conv=>whnf);first|((with_reducible refine qS ?_ ?_ ?_);exact rfl;exact rfl)|with_reducible refine qB ?_|((with_reducible refine qI ?_ ?_);omega)|((with_reducible refine qDT ?_ ?_);omega)|((with_reducible refine qDF ?_ ?_);omega)|((with_reducible refine qNT ?_ ?_);omega)|((with_reducible refine qNF ?_ ?_);omega)|((with_reducible refine qU8 ?_ ?_);omega)|((with_reducible refine qU32 ?_ ?_);omega)|((with_reducible refine qU64 ?_ ?_);omega)|((with_reducible refine qU16 ?_ ?_);omega))
        conv => whnf
        try refine cT (bytesB_mk fun q hq => ⟨_, rfl⟩) ?_
        repeat((conv=>whnf);first|((with_reducible refine qS ?_ ?_ ?_);exact rfl;exact rfl)|with_reducible refine qB ?_|((with_reducible refine qI ?_ ?_);omega)|((with_reducible refine qDT ?_ ?_);omega)|((with_reducible refine qDF ?_ ?_);omega)|((with_reducible refine qNT ?_ ?_);omega)|((with_reducible refine qNF ?_ ?_);omega)|((with_reducible refine qU8 ?_ ?_);omega)|((with_reducible refine qU32 ?_ ?_);omega)|((with_reducible refine qU64 ?_ ?_);omega)|((with_reducible refine qU16 ?_ ?_);omega))
        conv => whnf
        try rw [rb_str]
        repeat((conv=>whnf);first|((with_reducible refine qS ?_ ?_ ?_);exact rfl;exact rfl)|with_reducible refine qB ?_|((with_reducible refine qI ?_ ?_);omega)|((with_reducible refine qDT ?_ ?_);omega)|((with_reducible refine qDF ?_ ?_);omega)|((with_reducible refine qNT ?_ ?_);omega)|((with_reducible refine qNF ?_ ?_);omega)|((with_reducible refine qU8 ?_ ?_);omega)|((with_reducible refine qU32 ?_ ?_);omega)|((with_reducible refine qU64 ?_ ?_);omega)|((with_reducible refine qU16 ?_ ?_);omega))
        conv => whnf
        refine trim0 rfl ?_
        rw [hd]; rfl
    · rw [if_neg h7] at hd
      unfold Rd.end_ at h7
      repeat((conv=>whnf);first|((with_reducible refine qS ?_ ?_ ?_);exact rfl;exact rfl)|with_reducible refine qB ?_|((with_reducible refine qI ?_ ?_);omega)|((with_reducible refine qDT ?_ ?_);omega)|((with_reducible refine qDF ?_ ?_);omega)|((with_reducible refine qNT ?_ ?_);omega)|((with_reducible refine qNF ?_ ?_);omega)|((with_reducible refine qU8 ?_ ?_);omega)|((with_reducible refine qU32 ?_ ?_);omega)|((with_reducible refine qU64 ?_ ?_);omega)|((with_reducible refine qU16 ?_ ?_);omega))
      conv => whnf
      refine ⟨(i + 1, r'), ⟨⟨by show i + 1 ≤ s.size; omega, hd, hr', by show r'.fin ≤ 9; omega⟩, by show s.size - (i + 1) < s.size - i; omega⟩, ?_⟩
      conv => whnf
      refine Le.id rfl ?_ ?_
      all_goals(repeat'(first|exact leT_empty|exact trivial|exact rfl|exact .inl rfl|exact .inr rfl|exact .inr ⟨rfl,rfl⟩|exact Nat.le_refl _|exact Nat.zero_le _|exact fun _ _=>rfl|assumption|refine And.intro ?_ ?_|exact ul0|exact ul1 rfl|exact ul2 rfl rfl|exact ul3 rfl rfl rfl))
theorem dec_ok : ConOk Tryd.prog F.code_Decode decC := con_of_run (clRunX_ok (d := 6) ttOk outsDec_ok tabDec_ok 3) (fn_enters (ok.code_Decode (D := 6) u0 _ (clRunX_ok (d := 6) ttOk .nil TabOk.nil 1))) fun p hp => dec_run p hp
end Go.Proofs.YtdeaigaafdnehaaDoor.Co
