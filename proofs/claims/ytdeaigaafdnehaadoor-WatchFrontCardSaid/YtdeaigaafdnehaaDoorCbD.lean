/- Contracts: frames out of rows of bits. -/
import Derived.Test.YtdeaigaafdnehaaDoorCbC
namespace Go.Proofs.YtdeaigaafdnehaaDoor.Co
open Go Go.Eng Go.Proofs Go.Proofs.YtdeaigaafdnehaaDoor.Tb Go.Pu
set_option maxRecDepth 100000
set_option maxHeartbeats 8000000
abbrev prR (p : Nat × Nat) : R := .tup [.one (.v (.int .i64 (p.1 : Int))), .one (.v (.int .i64 (p.2 : Int)))]
abbrev needC : Con ByteArray := RoCon (fun p => [sv p]) (fun _ => []) (fun p => p.size ≤ 1000) fun p => prR (need (rd p))
theorem need_use {s : ByteArray} {h : Heap} {K : R → Heap → Prop} (hs : s.size ≤ 1000) (hk : K (prR (need (rd s))) h) : AskC needC [sv s] h K :=
  .use s [] hs rfl trivial ⟨.inl rfl, trivial⟩ hk
noncomputable abbrev tabNeed : List (FuncId × Eng.Fn) := [(F.frame_Need, fn.frame_Need u0), (F.frame_forms, fn.frame_forms u0)]
theorem tabNeed_ok {d : Nat} : TabOk d tabNeed tt := .cons (ok.frame_Need u0) (.cons (ok.frame_forms u0) (TabOk.nil))
theorem need_run (s : ByteArray) (hs : s.size ≤ 1000) : clRunX 6 tt outsByt tabNeed 3 F.frame_Need [] [sv s] ([]) (fun x h => Trim 0 x h fun x h => x = prR (need (rd s)) ∧ h = []) := by
  have hl := rd_len s
  have d0 : 0 < s.size → decide (bt s (Int.toNat 0) = 49) = gb (rd s) 0 := fun h => dec49 h
  have d12 : 12 < s.size → decide (bt s (Int.toNat 12) = 49) = gb (rd s) 12 := fun h => dec49 h
  have d13 : 13 < s.size → decide (bt s (Int.toNat 13) = 49) = gb (rd s) 13 := fun h => dec49 h
  have d32 : 32 < s.size → decide (bt s (Int.toNat 32) = 49) = gb (rd s) 32 := fun h => dec49 h
  have e0 : need (rd s) = if 0 < (rd s).length ∧ gb (rd s) 0 = true then (0, 12)
    else if (rd s).length ≤ 13 then (0, 0)
    else if gb (rd s) 13 = true then
      if gb (rd s) 12 = false then (0, 12)
      else if (rd s).length < 39 then (0, 0)
      else if gb (rd s) 32 = true then (39, 0)
      else (39 + 8 * min (numB (((rd s).drop 35).take 4)) 8, 0)
    else if (rd s).length < 19 then (0, 0)
    else if gb (rd s) 12 = true then (19, 0)
    else (19 + 8 * min (numB (((rd s).drop 15).take 4)) 8, 0) := rfl
  rw [hl] at e0
  have ex1 : rd (s.extract (Int.toNat 35) (Int.toNat 39)) = ((rd s).drop 35).take 4 := rd_ext s 35 39
  have ex2 : rd (s.extract (Int.toNat 15) (Int.toNat 19)) = ((rd s).drop 15).take 4 := rd_ext s 15 19
  have n1 := numB_lt (((rd s).drop 35).take 4)
  have n2 := numB_lt (((rd s).drop 15).take 4)
  have l1 : (((rd s).drop 35).take 4).length ≤ 4 := by rw [List.length_take]; omega
  have l2 : (((rd s).drop 15).take 4).length ≤ 4 := by rw [List.length_take]; omega
  have n1 : numB (((rd s).drop 35).take 4) < 16 := Nat.lt_of_lt_of_le n1 (Nat.pow_le_pow_right (by decide) l1)
  have n2 : numB (((rd s).drop 15).take 4) < 16 := Nat.lt_of_lt_of_le n2 (Nat.pow_le_pow_right (by decide) l2)
  have s1 : (s.extract (Int.toNat 35) (Int.toNat 39)).size ≤ 60 := by rw [← rd_len, ex1]; omega
  have s2 : (s.extract (Int.toNat 15) (Int.toNat 19)).size ≤ 60 := by rw [← rd_len, ex2]; omega
  have q1 := congrArg numB ex1
  have q2 := congrArg numB ex2
  generalize numB (((rd s).drop 35).take 4) = N1 at *
  generalize numB (((rd s).drop 15).take 4) = N2 at *
  have m1 : (39 : Int) + 8 * min (N1 : Int) 8 = ((39 + 8 * min N1 8 : Nat) : Int) := by omega
  have m2 : (19 : Int) + 8 * min (N2 : Int) 8 = ((19 + 8 * min N2 8 : Nat) : Int) := by omega
  repeat((conv=>whnf);first|((with_reducible refine qS ?_ ?_ ?_);exact rfl;exact rfl)|with_reducible refine qB ?_|((with_reducible refine qI ?_ ?_);omega)|((with_reducible refine qDT ?_ ?_);omega)|((with_reducible refine qDF ?_ ?_);omega)|((with_reducible refine qNT ?_ ?_);omega)|((with_reducible refine qNF ?_ ?_);omega)|((with_reducible refine qU8 ?_ ?_);omega)|((with_reducible refine qU32 ?_ ?_);omega)|((with_reducible refine qU64 ?_ ?_);omega)|((with_reducible refine qU16 ?_ ?_);omega))
  conv => whnf
  refine cD (fun h1 => ?_) (fun h1 => ?_)
  rotate_left
  · repeat((conv=>whnf);first|((with_reducible refine qS ?_ ?_ ?_);exact rfl;exact rfl)|with_reducible refine qB ?_|((with_reducible refine qI ?_ ?_);omega)|((with_reducible refine qDT ?_ ?_);omega)|((with_reducible refine qDF ?_ ?_);omega)|((with_reducible refine qNT ?_ ?_);omega)|((with_reducible refine qNF ?_ ?_);omega)|((with_reducible refine qU8 ?_ ?_);omega)|((with_reducible refine qU32 ?_ ?_);omega)|((with_reducible refine qU64 ?_ ?_);omega)|((with_reducible refine qU16 ?_ ?_);omega))
    conv => whnf
    refine trim0 rfl ?_
    rw [e0, if_neg (by omega), if_pos (by omega)]; rfl
  repeat((conv=>whnf);first|((with_reducible refine qS ?_ ?_ ?_);exact rfl;exact rfl)|with_reducible refine qB ?_|((with_reducible refine qI ?_ ?_);omega)|((with_reducible refine qDT ?_ ?_);omega)|((with_reducible refine qDF ?_ ?_);omega)|((with_reducible refine qNT ?_ ?_);omega)|((with_reducible refine qNF ?_ ?_);omega)|((with_reducible refine qU8 ?_ ?_);omega)|((with_reducible refine qU32 ?_ ?_);omega)|((with_reducible refine qU64 ?_ ?_);omega)|((with_reducible refine qU16 ?_ ?_);omega))
  conv => whnf
  rw [d0 (by omega)]
  cases g0 : gb (rd s) 0
  rotate_left
  · repeat((conv=>whnf);first|((with_reducible refine qS ?_ ?_ ?_);exact rfl;exact rfl)|with_reducible refine qB ?_|((with_reducible refine qI ?_ ?_);omega)|((with_reducible refine qDT ?_ ?_);omega)|((with_reducible refine qDF ?_ ?_);omega)|((with_reducible refine qNT ?_ ?_);omega)|((with_reducible refine qNF ?_ ?_);omega)|((with_reducible refine qU8 ?_ ?_);omega)|((with_reducible refine qU32 ?_ ?_);omega)|((with_reducible refine qU64 ?_ ?_);omega)|((with_reducible refine qU16 ?_ ?_);omega))
    conv => whnf
    refine trim0 rfl ?_
    rw [e0, if_pos ⟨by omega, g0⟩]; rfl
  rw [if_neg (by rw [g0]; simp)] at e0
  by_cases h2 : s.size ≤ 13
  · repeat((conv=>whnf);first|((with_reducible refine qS ?_ ?_ ?_);exact rfl;exact rfl)|with_reducible refine qB ?_|((with_reducible refine qI ?_ ?_);omega)|((with_reducible refine qDT ?_ ?_);omega)|((with_reducible refine qDF ?_ ?_);omega)|((with_reducible refine qNT ?_ ?_);omega)|((with_reducible refine qNF ?_ ?_);omega)|((with_reducible refine qU8 ?_ ?_);omega)|((with_reducible refine qU32 ?_ ?_);omega)|((with_reducible refine qU64 ?_ ?_);omega)|((with_reducible refine qU16 ?_ ?_);omega))
    conv => whnf
    refine trim0 rfl ?_
    rw [e0, if_pos h2]; rfl
  rw [if_neg h2] at e0
  repeat((conv=>whnf);first|((with_reducible refine qS ?_ ?_ ?_);exact rfl;exact rfl)|with_reducible refine qB ?_|((with_reducible refine qI ?_ ?_);omega)|((with_reducible refine qDT ?_ ?_);omega)|((with_reducible refine qDF ?_ ?_);omega)|((with_reducible refine qNT ?_ ?_);omega)|((with_reducible refine qNF ?_ ?_);omega)|((with_reducible refine qU8 ?_ ?_);omega)|((with_reducible refine qU32 ?_ ?_);omega)|((with_reducible refine qU64 ?_ ?_);omega)|((with_reducible refine qU16 ?_ ?_);omega))
  conv => whnf
  rw [d13 (by omega)]
  cases g13 : gb (rd s) 13
  · rw [if_neg (by rw [g13]; simp)] at e0
    by_cases h3 : s.size < 19
    · repeat((conv=>whnf);first|((with_reducible refine qS ?_ ?_ ?_);exact rfl;exact rfl)|with_reducible refine qB ?_|((with_reducible refine qI ?_ ?_);omega)|((with_reducible refine qDT ?_ ?_);omega)|((with_reducible refine qDF ?_ ?_);omega)|((with_reducible refine qNT ?_ ?_);omega)|((with_reducible refine qNF ?_ ?_);omega)|((with_reducible refine qU8 ?_ ?_);omega)|((with_reducible refine qU32 ?_ ?_);omega)|((with_reducible refine qU64 ?_ ?_);omega)|((with_reducible refine qU16 ?_ ?_);omega))
      conv => whnf
      refine trim0 rfl ?_
      rw [e0, if_pos h3]; rfl
    rw [if_neg h3] at e0
    repeat((conv=>whnf);first|((with_reducible refine qS ?_ ?_ ?_);exact rfl;exact rfl)|with_reducible refine qB ?_|((with_reducible refine qI ?_ ?_);omega)|((with_reducible refine qDT ?_ ?_);omega)|((with_reducible refine qDF ?_ ?_);omega)|((with_reducible refine qNT ?_ ?_);omega)|((with_reducible refine qNF ?_ ?_);omega)|((with_reducible refine qU8 ?_ ?_);omega)|((with_reducible refine qU32 ?_ ?_);omega)|((with_reducible refine qU64 ?_ ?_);omega)|((with_reducible refine qU16 ?_ ?_);omega))
    conv => whnf
    rw [d12 (by omega)]
    cases g12 : gb (rd s) 12
    · rw [if_neg (by rw [g12]; simp)] at e0
      repeat((conv=>whnf);first|((with_reducible refine qS ?_ ?_ ?_);exact rfl;exact rfl)|with_reducible refine qB ?_|((with_reducible refine qI ?_ ?_);omega)|((with_reducible refine qDT ?_ ?_);omega)|((with_reducible refine qDF ?_ ?_);omega)|((with_reducible refine qNT ?_ ?_);omega)|((with_reducible refine qNF ?_ ?_);omega)|((with_reducible refine qU8 ?_ ?_);omega)|((with_reducible refine qU32 ?_ ?_);omega)|((with_reducible refine qU64 ?_ ?_);omega)|((with_reducible refine qU16 ?_ ?_);omega))
      conv => whnf
      refine num_use s2 ?_
      rw [q2]
      repeat((conv=>whnf);first|((with_reducible refine qS ?_ ?_ ?_);exact rfl;exact rfl)|with_reducible refine qB ?_|((with_reducible refine qI ?_ ?_);omega)|((with_reducible refine qDT ?_ ?_);omega)|((with_reducible refine qDF ?_ ?_);omega)|((with_reducible refine qNT ?_ ?_);omega)|((with_reducible refine qNF ?_ ?_);omega)|((with_reducible refine qU8 ?_ ?_);omega)|((with_reducible refine qU32 ?_ ?_);omega)|((with_reducible refine qU64 ?_ ?_);omega)|((with_reducible refine qU16 ?_ ?_);omega))
      conv => whnf
      refine trim0 rfl ?_
      rw [e0, m2]; rfl
    · rw [if_pos g12] at e0
      repeat((conv=>whnf);first|((with_reducible refine qS ?_ ?_ ?_);exact rfl;exact rfl)|with_reducible refine qB ?_|((with_reducible refine qI ?_ ?_);omega)|((with_reducible refine qDT ?_ ?_);omega)|((with_reducible refine qDF ?_ ?_);omega)|((with_reducible refine qNT ?_ ?_);omega)|((with_reducible refine qNF ?_ ?_);omega)|((with_reducible refine qU8 ?_ ?_);omega)|((with_reducible refine qU32 ?_ ?_);omega)|((with_reducible refine qU64 ?_ ?_);omega)|((with_reducible refine qU16 ?_ ?_);omega))
      conv => whnf
      refine trim0 rfl ?_
      rw [e0]; rfl
  · rw [if_pos g13] at e0
    repeat((conv=>whnf);first|((with_reducible refine qS ?_ ?_ ?_);exact rfl;exact rfl)|with_reducible refine qB ?_|((with_reducible refine qI ?_ ?_);omega)|((with_reducible refine qDT ?_ ?_);omega)|((with_reducible refine qDF ?_ ?_);omega)|((with_reducible refine qNT ?_ ?_);omega)|((with_reducible refine qNF ?_ ?_);omega)|((with_reducible refine qU8 ?_ ?_);omega)|((with_reducible refine qU32 ?_ ?_);omega)|((with_reducible refine qU64 ?_ ?_);omega)|((with_reducible refine qU16 ?_ ?_);omega))
    conv => whnf
    rw [d12 (by omega)]
    cases g12 : gb (rd s) 12
    · rw [if_pos g12] at e0
      repeat((conv=>whnf);first|((with_reducible refine qS ?_ ?_ ?_);exact rfl;exact rfl)|with_reducible refine qB ?_|((with_reducible refine qI ?_ ?_);omega)|((with_reducible refine qDT ?_ ?_);omega)|((with_reducible refine qDF ?_ ?_);omega)|((with_reducible refine qNT ?_ ?_);omega)|((with_reducible refine qNF ?_ ?_);omega)|((with_reducible refine qU8 ?_ ?_);omega)|((with_reducible refine qU32 ?_ ?_);omega)|((with_reducible refine qU64 ?_ ?_);omega)|((with_reducible refine qU16 ?_ ?_);omega))
      conv => whnf
      refine trim0 rfl ?_
      rw [e0]; rfl
    rw [if_neg (by rw [g12]; simp)] at e0
    by_cases h3 : s.size < 39
    · repeat((conv=>whnf);first|((with_reducible refine qS ?_ ?_ ?_);exact rfl;exact rfl)|with_reducible refine qB ?_|((with_reducible refine qI ?_ ?_);omega)|((with_reducible refine qDT ?_ ?_);omega)|((with_reducible refine qDF ?_ ?_);omega)|((with_reducible refine qNT ?_ ?_);omega)|((with_reducible refine qNF ?_ ?_);omega)|((with_reducible refine qU8 ?_ ?_);omega)|((with_reducible refine qU32 ?_ ?_);omega)|((with_reducible refine qU64 ?_ ?_);omega)|((with_reducible refine qU16 ?_ ?_);omega))
      conv => whnf
      refine trim0 rfl ?_
      rw [e0, if_pos h3]; rfl
    rw [if_neg h3] at e0
    repeat((conv=>whnf);first|((with_reducible refine qS ?_ ?_ ?_);exact rfl;exact rfl)|with_reducible refine qB ?_|((with_reducible refine qI ?_ ?_);omega)|((with_reducible refine qDT ?_ ?_);omega)|((with_reducible refine qDF ?_ ?_);omega)|((with_reducible refine qNT ?_ ?_);omega)|((with_reducible refine qNF ?_ ?_);omega)|((with_reducible refine qU8 ?_ ?_);omega)|((with_reducible refine qU32 ?_ ?_);omega)|((with_reducible refine qU64 ?_ ?_);omega)|((with_reducible refine qU16 ?_ ?_);omega))
    conv => whnf
    rw [d32 (by omega)]
    cases g32 : gb (rd s) 32
    · rw [if_neg (by rw [g32]; simp)] at e0
      repeat((conv=>whnf);first|((with_reducible refine qS ?_ ?_ ?_);exact rfl;exact rfl)|with_reducible refine qB ?_|((with_reducible refine qI ?_ ?_);omega)|((with_reducible refine qDT ?_ ?_);omega)|((with_reducible refine qDF ?_ ?_);omega)|((with_reducible refine qNT ?_ ?_);omega)|((with_reducible refine qNF ?_ ?_);omega)|((with_reducible refine qU8 ?_ ?_);omega)|((with_reducible refine qU32 ?_ ?_);omega)|((with_reducible refine qU64 ?_ ?_);omega)|((with_reducible refine qU16 ?_ ?_);omega))
      conv => whnf
      refine num_use s1 ?_
      rw [q1]
      repeat((conv=>whnf);first|((with_reducible refine qS ?_ ?_ ?_);exact rfl;exact rfl)|with_reducible refine qB ?_|((with_reducible refine qI ?_ ?_);omega)|((with_reducible refine qDT ?_ ?_);omega)|((with_reducible refine qDF ?_ ?_);omega)|((with_reducible refine qNT ?_ ?_);omega)|((with_reducible refine qNF ?_ ?_);omega)|((with_reducible refine qU8 ?_ ?_);omega)|((with_reducible refine qU32 ?_ ?_);omega)|((with_reducible refine qU64 ?_ ?_);omega)|((with_reducible refine qU16 ?_ ?_);omega))
      conv => whnf
      refine trim0 rfl ?_
      rw [e0, m1]; rfl
    · rw [if_pos g32] at e0
      repeat((conv=>whnf);first|((with_reducible refine qS ?_ ?_ ?_);exact rfl;exact rfl)|with_reducible refine qB ?_|((with_reducible refine qI ?_ ?_);omega)|((with_reducible refine qDT ?_ ?_);omega)|((with_reducible refine qDF ?_ ?_);omega)|((with_reducible refine qNT ?_ ?_);omega)|((with_reducible refine qNF ?_ ?_);omega)|((with_reducible refine qU8 ?_ ?_);omega)|((with_reducible refine qU32 ?_ ?_);omega)|((with_reducible refine qU64 ?_ ?_);omega)|((with_reducible refine qU16 ?_ ?_);omega))
      conv => whnf
      refine trim0 rfl ?_
      rw [e0]; rfl
theorem need_ok : ConOk Tryd.prog F.frame_Need needC := con_of_run (clRunX_ok (d := 6) ttOk outsByt_ok tabNeed_ok 3) (fn_enters (ok.frame_Need (D := 6) u0 _ (clRunX_ok (d := 6) ttOk .nil TabOk.nil 1))) fun p hp => need_run p hp
/-! ### The frame of a row -/
abbrev frmS (f : Frm) : List Seg := [.c (.v (.bool f.ext)), .c (.v (.int .u32 (f.id : Int))), .c (.v (.bool f.rtr)), .c (.v (.string f.data))]
abbrev frmT (f : Frm) : T := .agg (frmS f)
abbrev prsR (p : Frm × Nat × Nat) : R := .tup [frmT p.1, .one (.v (.int .i64 (p.2.1 : Int))), .one (.v (.int .i64 (p.2.2 : Int)))]
abbrev prsC : Con ByteArray := RoCon (fun p => [sv p]) (fun _ => []) (fun p => p.size ≤ 1000) fun p => prsR (parse (rd p))
theorem prs_use {s : ByteArray} {h : Heap} {K : R → Heap → Prop} (hs : s.size ≤ 1000) (hk : K (prsR (parse (rd s))) h) : AskC prsC [sv s] h K :=
  .use s [] hs rfl trivial ⟨.inl rfl, trivial⟩ hk
abbrev outsPrs : List (FuncId × Cx) := [(F.frame_Need, AskC needC), (F.bits_Num, AskC numC), (F.bits_Bytes, AskC bytC)]
theorem outsPrs_ok : OutsOk Tryd.prog outsPrs := .cons (ask_ok need_ok) (.cons (ask_ok num_ok) (.cons (ask_ok byt_ok) .nil))
noncomputable abbrev tabPrs : List (FuncId × Eng.Fn) := [(F.frame_Parse, fn.frame_Parse u0), (F.frame_forms, fn.frame_forms u0)]
theorem tabPrs_ok {d : Nat} : TabOk d tabPrs tt := .cons (ok.frame_Parse u0) (.cons (ok.frame_forms u0) (TabOk.nil))
theorem prs_run (s : ByteArray) (hs : s.size ≤ 1000) : clRunX 7 tt outsPrs tabPrs 3 F.frame_Parse [] [sv s] ([]) (fun x h => Trim 0 x h fun x h => x = prsR (parse (rd s)) ∧ h = []) := by
  have hl := rd_len s
  have d12 : 12 < s.size → decide (bt s (Int.toNat 12) = 49) = gb (rd s) 12 := fun h => dec49 h
  have d13 : 13 < s.size → decide (bt s (Int.toNat 13) = 49) = gb (rd s) 13 := fun h => dec49 h
  have d32 : 32 < s.size → decide (bt s (Int.toNat 32) = 49) = gb (rd s) 32 := fun h => dec49 h
  have e0 : parse (rd s) = if (need (rd s)).2 ≠ 0 then (frm0, 0, (need (rd s)).2)
    else if (need (rd s)).1 = 0 ∨ (rd s).length < (need (rd s)).1 then (frm0, 0, 10)
    else (frmOf (rd s), (need (rd s)).1, 0) := rfl
  have hb := need_bd (rd s)
  have f0 : frmOf (rd s) = if gb (rd s) 13 = true then ⟨true, numB (((rd s).drop 1).take 11) * 262144 + numB (((rd s).drop 14).take 18), gb (rd s) 32, Pu.bytes (((rd s).drop 39).take ((need (rd s)).1 - 39))⟩
    else ⟨false, numB (((rd s).drop 1).take 11), gb (rd s) 12, Pu.bytes (((rd s).drop 19).take ((need (rd s)).1 - 19))⟩ := rfl
  rw [hl] at e0 hb
  repeat((conv=>whnf);first|((with_reducible refine qS ?_ ?_ ?_);exact rfl;exact rfl)|with_reducible refine qB ?_|((with_reducible refine qI ?_ ?_);omega)|((with_reducible refine qDT ?_ ?_);omega)|((with_reducible refine qDF ?_ ?_);omega)|((with_reducible refine qNT ?_ ?_);omega)|((with_reducible refine qNF ?_ ?_);omega)|((with_reducible refine qU8 ?_ ?_);omega)|((with_reducible refine qU32 ?_ ?_);omega)|((with_reducible refine qU64 ?_ ?_);omega)|((with_reducible refine qU16 ?_ ?_);omega))
  conv => whnf
  refine need_use hs ?_
  rcases hnd : need (rd s) with ⟨n, e⟩
  rw [hnd] at e0 hb f0
  simp only at e0 hb f0
  by_cases he : e = 0
  rotate_left
  · rw [if_pos he] at e0
    repeat((conv=>whnf);first|((with_reducible refine qS ?_ ?_ ?_);exact rfl;exact rfl)|with_reducible refine qB ?_|((with_reducible refine qI ?_ ?_);omega)|((with_reducible refine qDT ?_ ?_);omega)|((with_reducible refine qDF ?_ ?_);omega)|((with_reducible refine qNT ?_ ?_);omega)|((with_reducible refine qNF ?_ ?_);omega)|((with_reducible refine qU8 ?_ ?_);omega)|((with_reducible refine qU32 ?_ ?_);omega)|((with_reducible refine qU64 ?_ ?_);omega)|((with_reducible refine qU16 ?_ ?_);omega))
    conv => whnf
    refine trim0 rfl ?_
    rw [e0]; rfl
  subst he
  rw [if_neg (by simp)] at e0
  by_cases hn0 : n = 0
  · rw [if_pos (.inl hn0)] at e0
    subst hn0
    repeat((conv=>whnf);first|((with_reducible refine qS ?_ ?_ ?_);exact rfl;exact rfl)|with_reducible refine qB ?_|((with_reducible refine qI ?_ ?_);omega)|((with_reducible refine qDT ?_ ?_);omega)|((with_reducible refine qDF ?_ ?_);omega)|((with_reducible refine qNT ?_ ?_);omega)|((with_reducible refine qNF ?_ ?_);omega)|((with_reducible refine qU8 ?_ ?_);omega)|((with_reducible refine qU32 ?_ ?_);omega)|((with_reducible refine qU64 ?_ ?_);omega)|((with_reducible refine qU16 ?_ ?_);omega))
    conv => whnf
    refine trim0 rfl ?_
    rw [e0]; rfl
  by_cases hn1 : s.size < n
  · rw [if_pos (.inr hn1)] at e0
    repeat((conv=>whnf);first|((with_reducible refine qS ?_ ?_ ?_);exact rfl;exact rfl)|with_reducible refine qB ?_|((with_reducible refine qI ?_ ?_);omega)|((with_reducible refine qDT ?_ ?_);omega)|((with_reducible refine qDF ?_ ?_);omega)|((with_reducible refine qNT ?_ ?_);omega)|((with_reducible refine qNF ?_ ?_);omega)|((with_reducible refine qU8 ?_ ?_);omega)|((with_reducible refine qU32 ?_ ?_);omega)|((with_reducible refine qU64 ?_ ?_);omega)|((with_reducible refine qU16 ?_ ?_);omega))
    conv => whnf
    refine trim0 rfl ?_
    rw [e0]; rfl
  rw [if_neg (by omega)] at e0
  have q0 := congrArg numB (rd_ext s 1 12)
  have q1 := congrArg numB (rd_ext s 14 32)
  have b0 : numB (((rd s).drop 1).take (12 - 1)) < 2 ^ 11 := num_le (by rw [List.length_take]; omega)
  have b1 : numB (((rd s).drop 14).take (32 - 14)) < 2 ^ 18 := num_le (by rw [List.length_take]; omega)
  have s0 : (s.extract (Int.toNat 1) (Int.toNat 12)).size ≤ 60 := by rw [← rd_len, show rd (s.extract (Int.toNat 1) (Int.toNat 12)) = _ from rd_ext s 1 12, List.length_take]; omega
  have s1 : (s.extract (Int.toNat 14) (Int.toNat 32)).size ≤ 60 := by rw [← rd_len, show rd (s.extract (Int.toNat 14) (Int.toNat 32)) = _ from rd_ext s 14 32, List.length_take]; omega
  have s2 : ∀ d : Nat, (s.extract d n).size ≤ 1000 := fun d => by rw [← rd_len, rd_ext, List.length_take, List.length_drop]; omega
  generalize hN0 : numB (((rd s).drop 1).take (12 - 1)) = N0 at *
  generalize hN1 : numB (((rd s).drop 14).take (32 - 14)) = N1 at *
  rcases hb with hb | ⟨_, g13, hb1, hb2, hb3⟩ | ⟨_, g13, hb1, hb2, hb3⟩
  · exact absurd hb hn0
  · rw [if_pos g13] at f0
    have d13 := d13 (by omega)
    have d32 := d32 (by omega)
    rw [g13] at d13
    repeat((conv=>whnf);first|((with_reducible refine qS ?_ ?_ ?_);exact rfl;exact rfl)|with_reducible refine qB ?_|((with_reducible refine qI ?_ ?_);omega)|((with_reducible refine qDT ?_ ?_);omega)|((with_reducible refine qDF ?_ ?_);omega)|((with_reducible refine qNT ?_ ?_);omega)|((with_reducible refine qNF ?_ ?_);omega)|((with_reducible refine qU8 ?_ ?_);omega)|((with_reducible refine qU32 ?_ ?_);omega)|((with_reducible refine qU64 ?_ ?_);omega)|((with_reducible refine qU16 ?_ ?_);omega))
    conv => whnf
    refine ⟨?_, ?_⟩
    all_goals
      repeat((conv=>whnf);first|((with_reducible refine qS ?_ ?_ ?_);exact rfl;exact rfl)|with_reducible refine qB ?_|((with_reducible refine qI ?_ ?_);omega)|((with_reducible refine qDT ?_ ?_);omega)|((with_reducible refine qDF ?_ ?_);omega)|((with_reducible refine qNT ?_ ?_);omega)|((with_reducible refine qNF ?_ ?_);omega)|((with_reducible refine qU8 ?_ ?_);omega)|((with_reducible refine qU32 ?_ ?_);omega)|((with_reducible refine qU64 ?_ ?_);omega)|((with_reducible refine qU16 ?_ ?_);omega))
      conv => whnf
      refine num_use s0 ?_
      rw [show numB (rd (s.extract (Int.toNat 1) (Int.toNat 12))) = N0 from q0]
      try rw [d13]
      repeat((conv=>whnf);first|((with_reducible refine qS ?_ ?_ ?_);exact rfl;exact rfl)|with_reducible refine qB ?_|((with_reducible refine qI ?_ ?_);omega)|((with_reducible refine qDT ?_ ?_);omega)|((with_reducible refine qDF ?_ ?_);omega)|((with_reducible refine qNT ?_ ?_);omega)|((with_reducible refine qNF ?_ ?_);omega)|((with_reducible refine qU8 ?_ ?_);omega)|((with_reducible refine qU32 ?_ ?_);omega)|((with_reducible refine qU64 ?_ ?_);omega)|((with_reducible refine qU16 ?_ ?_);omega))
      conv => whnf
      try rw [d13]
      repeat((conv=>whnf);first|((with_reducible refine qS ?_ ?_ ?_);exact rfl;exact rfl)|with_reducible refine qB ?_|((with_reducible refine qI ?_ ?_);omega)|((with_reducible refine qDT ?_ ?_);omega)|((with_reducible refine qDF ?_ ?_);omega)|((with_reducible refine qNT ?_ ?_);omega)|((with_reducible refine qNF ?_ ?_);omega)|((with_reducible refine qU8 ?_ ?_);omega)|((with_reducible refine qU32 ?_ ?_);omega)|((with_reducible refine qU64 ?_ ?_);omega)|((with_reducible refine qU16 ?_ ?_);omega))
      conv => whnf
      try rw [d13]
      repeat((conv=>whnf);first|((with_reducible refine qS ?_ ?_ ?_);exact rfl;exact rfl)|with_reducible refine qB ?_|((with_reducible refine qI ?_ ?_);omega)|((with_reducible refine qDT ?_ ?_);omega)|((with_reducible refine qDF ?_ ?_);omega)|((with_reducible refine qNT ?_ ?_);omega)|((with_reducible refine qNF ?_ ?_);omega)|((with_reducible refine qU8 ?_ ?_);omega)|((with_reducible refine qU32 ?_ ?_);omega)|((with_reducible refine qU64 ?_ ?_);omega)|((with_reducible refine qU16 ?_ ?_);omega))
      conv => whnf
      rw [shl32]
      repeat((conv=>whnf);first|((with_reducible refine qS ?_ ?_ ?_);exact rfl;exact rfl)|with_reducible refine qB ?_|((with_reducible refine qI ?_ ?_);omega)|((with_reducible refine qDT ?_ ?_);omega)|((with_reducible refine qDF ?_ ?_);omega)|((with_reducible refine qNT ?_ ?_);omega)|((with_reducible refine qNF ?_ ?_);omega)|((with_reducible refine qU8 ?_ ?_);omega)|((with_reducible refine qU32 ?_ ?_);omega)|((with_reducible refine qU64 ?_ ?_);omega)|((with_reducible refine qU16 ?_ ?_);omega))
      conv => whnf
      refine num_use s1 ?_
      rw [show numB (rd (s.extract (Int.toNat 14) (Int.toNat 32))) = N1 from q1]
      repeat((conv=>whnf);first|((with_reducible refine qS ?_ ?_ ?_);exact rfl;exact rfl)|with_reducible refine qB ?_|((with_reducible refine qI ?_ ?_);omega)|((with_reducible refine qDT ?_ ?_);omega)|((with_reducible refine qDF ?_ ?_);omega)|((with_reducible refine qNT ?_ ?_);omega)|((with_reducible refine qNF ?_ ?_);omega)|((with_reducible refine qU8 ?_ ?_);omega)|((with_reducible refine qU32 ?_ ?_);omega)|((with_reducible refine qU64 ?_ ?_);omega)|((with_reducible refine qU16 ?_ ?_);omega))
      conv => whnf
      try rw [shl32]
      repeat((conv=>whnf);first|((with_reducible refine qS ?_ ?_ ?_);exact rfl;exact rfl)|with_reducible refine qB ?_|((with_reducible refine qI ?_ ?_);omega)|((with_reducible refine qDT ?_ ?_);omega)|((with_reducible refine qDF ?_ ?_);omega)|((with_reducible refine qNT ?_ ?_);omega)|((with_reducible refine qNF ?_ ?_);omega)|((with_reducible refine qU8 ?_ ?_);omega)|((with_reducible refine qU32 ?_ ?_);omega)|((with_reducible refine qU64 ?_ ?_);omega)|((with_reducible refine qU16 ?_ ?_);omega))
      conv => whnf
      try rw [shl32]
      repeat((conv=>whnf);first|((with_reducible refine qS ?_ ?_ ?_);exact rfl;exact rfl)|with_reducible refine qB ?_|((with_reducible refine qI ?_ ?_);omega)|((with_reducible refine qDT ?_ ?_);omega)|((with_reducible refine qDF ?_ ?_);omega)|((with_reducible refine qNT ?_ ?_);omega)|((with_reducible refine qNF ?_ ?_);omega)|((with_reducible refine qU8 ?_ ?_);omega)|((with_reducible refine qU32 ?_ ?_);omega)|((with_reducible refine qU64 ?_ ?_);omega)|((with_reducible refine qU16 ?_ ?_);omega))
      conv => whnf
      rw [or18 (by omega) (by omega)]
      repeat((conv=>whnf);first|((with_reducible refine qS ?_ ?_ ?_);exact rfl;exact rfl)|with_reducible refine qB ?_|((with_reducible refine qI ?_ ?_);omega)|((with_reducible refine qDT ?_ ?_);omega)|((with_reducible refine qDF ?_ ?_);omega)|((with_reducible refine qNT ?_ ?_);omega)|((with_reducible refine qNF ?_ ?_);omega)|((with_reducible refine qU8 ?_ ?_);omega)|((with_reducible refine qU32 ?_ ?_);omega)|((with_reducible refine qU64 ?_ ?_);omega)|((with_reducible refine qU16 ?_ ?_);omega))
      conv => whnf
      rw [d32]
      repeat((conv=>whnf);first|((with_reducible refine qS ?_ ?_ ?_);exact rfl;exact rfl)|with_reducible refine qB ?_|((with_reducible refine qI ?_ ?_);omega)|((with_reducible refine qDT ?_ ?_);omega)|((with_reducible refine qDF ?_ ?_);omega)|((with_reducible refine qNT ?_ ?_);omega)|((with_reducible refine qNF ?_ ?_);omega)|((with_reducible refine qU8 ?_ ?_);omega)|((with_reducible refine qU32 ?_ ?_);omega)|((with_reducible refine qU64 ?_ ?_);omega)|((with_reducible refine qU16 ?_ ?_);omega))
      conv => whnf
      try rw [tn]
      refine byt_use (s2 39) ?_
      rw [rd_ext]
      repeat((conv=>whnf);first|((with_reducible refine qS ?_ ?_ ?_);exact rfl;exact rfl)|with_reducible refine qB ?_|((with_reducible refine qI ?_ ?_);omega)|((with_reducible refine qDT ?_ ?_);omega)|((with_reducible refine qDF ?_ ?_);omega)|((with_reducible refine qNT ?_ ?_);omega)|((with_reducible refine qNF ?_ ?_);omega)|((with_reducible refine qU8 ?_ ?_);omega)|((with_reducible refine qU32 ?_ ?_);omega)|((with_reducible refine qU64 ?_ ?_);omega)|((with_reducible refine qU16 ?_ ?_);omega))
      conv => whnf
      refine trim0 rfl ?_
      rw [e0, f0]; rfl
  · rw [if_neg (by rw [g13]; simp)] at f0
    have d13 := d13 (by omega)
    have d12 := d12 (by omega)
    rw [g13] at d13
    repeat((conv=>whnf);first|((with_reducible refine qS ?_ ?_ ?_);exact rfl;exact rfl)|with_reducible refine qB ?_|((with_reducible refine qI ?_ ?_);omega)|((with_reducible refine qDT ?_ ?_);omega)|((with_reducible refine qDF ?_ ?_);omega)|((with_reducible refine qNT ?_ ?_);omega)|((with_reducible refine qNF ?_ ?_);omega)|((with_reducible refine qU8 ?_ ?_);omega)|((with_reducible refine qU32 ?_ ?_);omega)|((with_reducible refine qU64 ?_ ?_);omega)|((with_reducible refine qU16 ?_ ?_);omega))
    conv => whnf
    refine ⟨?_, ?_⟩
    all_goals
      repeat((conv=>whnf);first|((with_reducible refine qS ?_ ?_ ?_);exact rfl;exact rfl)|with_reducible refine qB ?_|((with_reducible refine qI ?_ ?_);omega)|((with_reducible refine qDT ?_ ?_);omega)|((with_reducible refine qDF ?_ ?_);omega)|((with_reducible refine qNT ?_ ?_);omega)|((with_reducible refine qNF ?_ ?_);omega)|((with_reducible refine qU8 ?_ ?_);omega)|((with_reducible refine qU32 ?_ ?_);omega)|((with_reducible refine qU64 ?_ ?_);omega)|((with_reducible refine qU16 ?_ ?_);omega))
      conv => whnf
      refine num_use s0 ?_
      rw [show numB (rd (s.extract (Int.toNat 1) (Int.toNat 12))) = N0 from q0]
      try rw [d13]
      repeat((conv=>whnf);first|((with_reducible refine qS ?_ ?_ ?_);exact rfl;exact rfl)|with_reducible refine qB ?_|((with_reducible refine qI ?_ ?_);omega)|((with_reducible refine qDT ?_ ?_);omega)|((with_reducible refine qDF ?_ ?_);omega)|((with_reducible refine qNT ?_ ?_);omega)|((with_reducible refine qNF ?_ ?_);omega)|((with_reducible refine qU8 ?_ ?_);omega)|((with_reducible refine qU32 ?_ ?_);omega)|((with_reducible refine qU64 ?_ ?_);omega)|((with_reducible refine qU16 ?_ ?_);omega))
      conv => whnf
      try rw [d13]
      repeat((conv=>whnf);first|((with_reducible refine qS ?_ ?_ ?_);exact rfl;exact rfl)|with_reducible refine qB ?_|((with_reducible refine qI ?_ ?_);omega)|((with_reducible refine qDT ?_ ?_);omega)|((with_reducible refine qDF ?_ ?_);omega)|((with_reducible refine qNT ?_ ?_);omega)|((with_reducible refine qNF ?_ ?_);omega)|((with_reducible refine qU8 ?_ ?_);omega)|((with_reducible refine qU32 ?_ ?_);omega)|((with_reducible refine qU64 ?_ ?_);omega)|((with_reducible refine qU16 ?_ ?_);omega))
      conv => whnf
      try rw [d13]
      repeat((conv=>whnf);first|((with_reducible refine qS ?_ ?_ ?_);exact rfl;exact rfl)|with_reducible refine qB ?_|((with_reducible refine qI ?_ ?_);omega)|((with_reducible refine qDT ?_ ?_);omega)|((with_reducible refine qDF ?_ ?_);omega)|((with_reducible refine qNT ?_ ?_);omega)|((with_reducible refine qNF ?_ ?_);omega)|((with_reducible refine qU8 ?_ ?_);omega)|((with_reducible refine qU32 ?_ ?_);omega)|((with_reducible refine qU64 ?_ ?_);omega)|((with_reducible refine qU16 ?_ ?_);omega))
      conv => whnf
      rw [d12]
      repeat((conv=>whnf);first|((with_reducible refine qS ?_ ?_ ?_);exact rfl;exact rfl)|with_reducible refine qB ?_|((with_reducible refine qI ?_ ?_);omega)|((with_reducible refine qDT ?_ ?_);omega)|((with_reducible refine qDF ?_ ?_);omega)|((with_reducible refine qNT ?_ ?_);omega)|((with_reducible refine qNF ?_ ?_);omega)|((with_reducible refine qU8 ?_ ?_);omega)|((with_reducible refine qU32 ?_ ?_);omega)|((with_reducible refine qU64 ?_ ?_);omega)|((with_reducible refine qU16 ?_ ?_);omega))
      conv => whnf
      try rw [tn]
      refine byt_use (s2 19) ?_
      rw [rd_ext]
      repeat((conv=>whnf);first|((with_reducible refine qS ?_ ?_ ?_);exact rfl;exact rfl)|with_reducible refine qB ?_|((with_reducible refine qI ?_ ?_);omega)|((with_reducible refine qDT ?_ ?_);omega)|((with_reducible refine qDF ?_ ?_);omega)|((with_reducible refine qNT ?_ ?_);omega)|((with_reducible refine qNF ?_ ?_);omega)|((with_reducible refine qU8 ?_ ?_);omega)|((with_reducible refine qU32 ?_ ?_);omega)|((with_reducible refine qU64 ?_ ?_);omega)|((with_reducible refine qU16 ?_ ?_);omega))
      conv => whnf
      refine trim0 rfl ?_
      rw [e0, f0]; rfl
theorem prs_ok : ConOk Tryd.prog F.frame_Parse prsC := con_of_run (clRunX_ok (d := 7) ttOk outsPrs_ok tabPrs_ok 3) (fn_enters (ok.frame_Parse (D := 7) u0 _ (clRunX_ok (d := 7) ttOk .nil TabOk.nil 1))) fun p hp => prs_run p hp
end Go.Proofs.YtdeaigaafdnehaaDoor.Co
