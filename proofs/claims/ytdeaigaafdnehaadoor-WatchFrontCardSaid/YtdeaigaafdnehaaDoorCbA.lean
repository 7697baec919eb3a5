/- Contracts: rows of bits, the other way: a bit, a number's bits, bytes' bits, a sum. -/
import Derived.Test.YtdeaigaafdnehaaDoorCoA
import Derived.Test.YtdeaigaafdnehaaDoorEnK
import Derived.Test.YtdeaigaafdnehaaDoorPuP
import Derived.Test.YtdeaigaafdnehaaDoorPuN
namespace Go.Proofs.YtdeaigaafdnehaaDoor.Co
open Go Go.Eng Go.Proofs Go.Proofs.YtdeaigaafdnehaaDoor.Tb Go.Pu
set_option maxRecDepth 100000
set_option maxHeartbeats 8000000
/-! ### A bit -/
abbrev bitC : Con Bool := RoCon (fun p => [bv p]) (fun _ => []) (fun _ => True) fun p => sv (bs [p])
theorem bit_use {b : Bool} {h : Heap} {K : R → Heap → Prop} (hk : K (sv (bs [b])) h) : AskC bitC [bv b] h K :=
  .use b [] trivial rfl trivial ⟨.inl rfl, trivial⟩ hk
abbrev outs0b : List (FuncId × Cx) := []
theorem outs0b_ok : OutsOk Tryd.prog outs0b := .nil
noncomputable abbrev tabBit : List (FuncId × Eng.Fn) := [(F.ref1_Bit, fn.ref1_Bit u0)]
theorem tabBit_ok {d : Nat} : TabOk d tabBit tt := .cons (ok.ref1_Bit u0) (TabOk.nil)
theorem bit_run (b : Bool) : clRunX 3 tt outs0b tabBit 2 F.ref1_Bit [] [bv b] ([]) (fun x h => Trim 0 x h fun x h => x = sv (bs [b]) ∧ h = []) := by
  cases b
  · repeat((conv=>whnf);first|((with_reducible refine qS ?_ ?_ ?_);exact rfl;exact rfl)|with_reducible refine qB ?_|((with_reducible refine qI ?_ ?_);omega)|((with_reducible refine qDT ?_ ?_);omega)|((with_reducible refine qDF ?_ ?_);omega)|((with_reducible refine qNT ?_ ?_);omega)|((with_reducible refine qNF ?_ ?_);omega)|((with_reducible refine qU8 ?_ ?_);omega)|((with_reducible refine qU32 ?_ ?_);omega)|((with_reducible refine qU64 ?_ ?_);omega)|((with_reducible refine qU16 ?_ ?_);omega))
    conv => whnf
    exact trim0 rfl rfl
  · repeat((conv=>whnf);first|((with_reducible refine qS ?_ ?_ ?_);exact rfl;exact rfl)|with_reducible refine qB ?_|((with_reducible refine qI ?_ ?_);omega)|((with_reducible refine qDT ?_ ?_);omega)|((with_reducible refine qDF ?_ ?_);omega)|((with_reducible refine qNT ?_ ?_);omega)|((with_reducible refine qNF ?_ ?_);omega)|((with_reducible refine qU8 ?_ ?_);omega)|((with_reducible refine qU32 ?_ ?_);omega)|((with_reducible refine qU64 ?_ ?_);omega)|((with_reducible refine qU16 ?_ ?_);omega))
    conv => whnf
    exact trim0 rfl rfl
theorem bit_ok : ConOk Tryd.prog F.ref1_Bit bitC := con_of_run (clRunX_ok (d := 3) ttOk outs0b_ok tabBit_ok 2) (fn_enters (ok.ref1_Bit (D := 3) u0 _ (clRunX_ok (d := 3) ttOk .nil TabOk.nil 1))) fun p _ => bit_run p
/-! ### A number's bits -/
def ofP (n w j : Nat) : List Bool := (List.range j).map fun q => bitN n (w - 1 - q)
theorem ofP_len (n w j : Nat) : (ofP n w j).length = j := by simp [ofP]
theorem ofP_succ (n w j : Nat) : ofP n w (j + 1) = ofP n w j ++ [bitN n (w - 1 - j)] := by
  unfold ofP
  rw [List.range_succ, List.map_append]; rfl
abbrev ofC : Con (Nat × Nat) := RoCon (fun p => [iv .u64 p.1, iv .i64 p.2]) (fun _ => []) (fun p => p.1 < 18446744073709551616 ∧ p.2 ≤ 64) fun p => sv (bs (ofN p.1 p.2))
theorem of_use {n w : Nat} {h : Heap} {K : R → Heap → Prop} (hn : n < 18446744073709551616) (hw : w ≤ 64) (hk : K (sv (bs (ofN n w))) h) : AskC ofC [iv .u64 n, iv .i64 w] h K :=
  .use (n, w) [] ⟨hn, hw⟩ rfl trivial ⟨.inl rfl, .inl rfl, trivial⟩ hk
abbrev outsOfb : List (FuncId × Cx) := [(F.ref1_Bit, AskC bitC)]
theorem outsOfb_ok : OutsOk Tryd.prog outsOfb := .cons (ask_ok bit_ok) .nil
noncomputable abbrev tabOfb : List (FuncId × Eng.Fn) := [(F.ref1_Of, fn.ref1_Of u0)]
theorem tabOfb_ok {d : Nat} : TabOk d tabOfb tt := .cons (ok.ref1_Of u0) (TabOk.nil)
theorem ofb_run (n w : Nat) (hn : n < 18446744073709551616) (hw : w ≤ 64) : clRunX 5 tt outsOfb tabOfb 2 F.ref1_Of [] [iv .u64 n, iv .i64 w] ([]) (fun x h => Trim 0 x h fun x h => x = sv (bs (ofN n w)) ∧ h = []) := by
  have e0 : max 0 (min (w : Int) 64) = w := by omega
  repeat((conv=>whnf);first|((with_reducible refine qS ?_ ?_ ?_);exact rfl;exact rfl)|with_reducible refine qB ?_|((with_reducible refine qI ?_ ?_);omega)|((with_reducible refine qDT ?_ ?_);omega)|((with_reducible refine qDF ?_ ?_);omega)|((with_reducible refine qNT ?_ ?_);omega)|((with_reducible refine qNF ?_ ?_);omega)|((with_reducible refine qU8 ?_ ?_);omega)|((with_reducible refine qU32 ?_ ?_);omega)|((with_reducible refine qU64 ?_ ?_);omega)|((with_reducible refine qU16 ?_ ?_);omega))
  conv => whnf
  rw [e0]
  repeat((conv=>whnf);first|((with_reducible refine qS ?_ ?_ ?_);exact rfl;exact rfl)|with_reducible refine qB ?_|((with_reducible refine qI ?_ ?_);omega)|((with_reducible refine qDT ?_ ?_);omega)|((with_reducible refine qDF ?_ ?_);omega)|((with_reducible refine qNT ?_ ?_);omega)|((with_reducible refine qNF ?_ ?_);omega)|((with_reducible refine qU8 ?_ ?_);omega)|((with_reducible refine qU32 ?_ ?_);omega)|((with_reducible refine qU64 ?_ ?_);omega)|((with_reducible refine qU16 ?_ ?_);omega))
  conv => whnf
  refine .rd (fun j : Nat => j ≤ w) (fun j => [(5, sv (bs (ofP n w j))), (6, iv .i64 ((w : Int) - 1 - j))]) (fun j => w - j) 0 (Nat.zero_le _) ?_ (fun j hj => ?_)
  · rw [show (w : Int) - 1 - ((0 : Nat) : Int) = (w : Int) - 1 by omega]
    conv => whnf
    refine Le.id rfl ?_ ?_
    all_goals(repeat'(first|exact leT_empty|exact trivial|exact rfl|exact .inl rfl|exact .inr rfl|exact .inr ⟨rfl,rfl⟩|exact Nat.le_refl _|exact Nat.zero_le _|exact fun _ _=>rfl|assumption|refine And.intro ?_ ?_|exact ul0|exact ul1 rfl|exact ul2 rfl rfl|exact ul3 rfl rfl rfl))
  have hl := ofP_len n w j
  have hz := bs_size (ofP n w j)
  have ho := ofP_succ n w j
  have he : j = w → ofP n w j = ofN n w := fun e => by rw [e]; rfl
  generalize ofP n w j = L at *
  conv => whnf
  refine cD (fun h5 => ?_) (fun h5 => ?_)
  · repeat((conv=>whnf);first|((with_reducible refine qS ?_ ?_ ?_);exact rfl;exact rfl)|with_reducible refine qB ?_|((with_reducible refine qI ?_ ?_);omega)|((with_reducible refine qDT ?_ ?_);omega)|((with_reducible refine qDF ?_ ?_);omega)|((with_reducible refine qNT ?_ ?_);omega)|((with_reducible refine qNF ?_ ?_);omega)|((with_reducible refine qU8 ?_ ?_);omega)|((with_reducible refine qU32 ?_ ?_);omega)|((with_reducible refine qU64 ?_ ?_);omega)|((with_reducible refine qU16 ?_ ?_);omega))
    conv => whnf
    rw [bit64 hn (show (w : Int) - 1 - (j : Int) = ((w - 1 - j : Nat) : Int) by omega) (by omega)]
    generalize bitN n (w - 1 - j) = b at *
    refine bit_use ?_
    have hb := bs_size [b]
    rw [show [b].length = 1 from rfl] at hb
    repeat((conv=>whnf);first|((with_reducible refine qS ?_ ?_ ?_);exact rfl;exact rfl)|with_reducible refine qB ?_|((with_reducible refine qI ?_ ?_);omega)|((with_reducible refine qDT ?_ ?_);omega)|((with_reducible refine qDF ?_ ?_);omega)|((with_reducible refine qNT ?_ ?_);omega)|((with_reducible refine qNF ?_ ?_);omega)|((with_reducible refine qU8 ?_ ?_);omega)|((with_reducible refine qU32 ?_ ?_);omega)|((with_reducible refine qU64 ?_ ?_);omega)|((with_reducible refine qU16 ?_ ?_);omega))
    conv => whnf
    rw [bs_app, ← ho]
    repeat((conv=>whnf);first|((with_reducible refine qS ?_ ?_ ?_);exact rfl;exact rfl)|with_reducible refine qB ?_|((with_reducible refine qI ?_ ?_);omega)|((with_reducible refine qDT ?_ ?_);omega)|((with_reducible refine qDF ?_ ?_);omega)|((with_reducible refine qNT ?_ ?_);omega)|((with_reducible refine qNF ?_ ?_);omega)|((with_reducible refine qU8 ?_ ?_);omega)|((with_reducible refine qU32 ?_ ?_);omega)|((with_reducible refine qU64 ?_ ?_);omega)|((with_reducible refine qU16 ?_ ?_);omega))
    conv => whnf
    refine ⟨j + 1, ⟨by omega, by omega⟩, ?_⟩
    rw [show (w : Int) - 1 - ((j + 1 : Nat) : Int) = (w : Int) - 1 - (j : Int) - 1 by omega]
    conv => whnf
    refine Le.id rfl ?_ ?_
    all_goals(repeat'(first|exact leT_empty|exact trivial|exact rfl|exact .inl rfl|exact .inr rfl|exact .inr ⟨rfl,rfl⟩|exact Nat.le_refl _|exact Nat.zero_le _|exact fun _ _=>rfl|assumption|refine And.intro ?_ ?_|exact ul0|exact ul1 rfl|exact ul2 rfl rfl|exact ul3 rfl rfl rfl))
  repeat((conv=>whnf);first|((with_reducible refine qS ?_ ?_ ?_);exact rfl;exact rfl)|with_reducible refine qB ?_|((with_reducible refine qI ?_ ?_);omega)|((with_reducible refine qDT ?_ ?_);omega)|((with_reducible refine qDF ?_ ?_);omega)|((with_reducible refine qNT ?_ ?_);omega)|((with_reducible refine qNF ?_ ?_);omega)|((with_reducible refine qU8 ?_ ?_);omega)|((with_reducible refine qU32 ?_ ?_);omega)|((with_reducible refine qU64 ?_ ?_);omega)|((with_reducible refine qU16 ?_ ?_);omega))
  conv => whnf
  exact trim0 rfl (congrArg (fun l => sv (bs l)) (he (by omega)))
theorem ofb_ok : ConOk Tryd.prog F.ref1_Of ofC := con_of_run (clRunX_ok (d := 5) ttOk outsOfb_ok tabOfb_ok 2) (fn_enters (ok.ref1_Of (D := 5) u0 _ (clRunX_ok (d := 5) ttOk .nil TabOk.nil 1))) fun p hp => ofb_run p.1 p.2 hp.1 hp.2
/-! ### Bytes' bits -/
abbrev byC : Con ByteArray := RoCon (fun p => [sv p]) (fun _ => []) (fun p => p.size ≤ 1000) fun p => sv (bs (byB p))
theorem by_use {s : ByteArray} {h : Heap} {K : R → Heap → Prop} (hs : s.size ≤ 1000) (hk : K (sv (bs (byB s))) h) : AskC byC [sv s] h K :=
  .use s [] hs rfl trivial ⟨.inl rfl, trivial⟩ hk
abbrev outsBy : List (FuncId × Cx) := [(F.ref1_Of, AskC ofC)]
theorem outsBy_ok : OutsOk Tryd.prog outsBy := .cons (ask_ok ofb_ok) .nil
noncomputable abbrev tabBy : List (FuncId × Eng.Fn) := [(F.ref1_FromBytes, fn.ref1_FromBytes u0)]
theorem tabBy_ok {d : Nat} : TabOk d tabBy tt := .cons (ok.ref1_FromBytes u0) (TabOk.nil)
theorem by_run (s : ByteArray) (hs : s.size ≤ 1000) : clRunX 5 tt outsBy tabBy 2 F.ref1_FromBytes [] [sv s] ([]) (fun x h => Trim 0 x h fun x h => x = sv (bs (byB s)) ∧ h = []) := by
  repeat((conv=>whnf);first|((with_reducible refine qS ?_ ?_ ?_);exact rfl;exact rfl)|with_reducible refine qB ?_|((with_reducible refine qI ?_ ?_);omega)|((with_reducible refine qDT ?_ ?_);omega)|((with_reducible refine qDF ?_ ?_);omega)|((with_reducible refine qNT ?_ ?_);omega)|((with_reducible refine qNF ?_ ?_);omega)|((with_reducible refine qU8 ?_ ?_);omega)|((with_reducible refine qU32 ?_ ?_);omega)|((with_reducible refine qU64 ?_ ?_);omega)|((with_reducible refine qU16 ?_ ?_);omega))
  conv => whnf
  refine .rd (fun j : Nat => j ≤ s.size) (fun j => [(3, sv (bs (byP s j))), (4, iv .i64 j)]) (fun j => s.size - j) 0 (Nat.zero_le _) ?_ (fun j hj => ?_)
  · conv => whnf
    refine Le.id rfl ?_ ?_
    all_goals(repeat'(first|exact leT_empty|exact trivial|exact rfl|exact .inl rfl|exact .inr rfl|exact .inr ⟨rfl,rfl⟩|exact Nat.le_refl _|exact Nat.zero_le _|exact fun _ _=>rfl|assumption|refine And.intro ?_ ?_|exact ul0|exact ul1 rfl|exact ul2 rfl rfl|exact ul3 rfl rfl rfl))
  have hl := byP_len hj
  have hz := bs_size (byP s j)
  have ho := fun h => byP_succ (s := s) (j := j) h
  have he : j = s.size → byP s j = byB s := fun e => by rw [e]; exact byP_all s
  generalize byP s j = L at *
  conv => whnf
  refine cD (fun h5 => ?_) (fun h5 => ?_)
  · obtain ⟨k, hk, hk2, hk3⟩ := bt_nat s j
    have ho := ho (by omega)
    rw [← hk3] at ho
    repeat((conv=>whnf);first|((with_reducible refine qS ?_ ?_ ?_);exact rfl;exact rfl)|with_reducible refine qB ?_|((with_reducible refine qI ?_ ?_);omega)|((with_reducible refine qDT ?_ ?_);omega)|((with_reducible refine qDF ?_ ?_);omega)|((with_reducible refine qNT ?_ ?_);omega)|((with_reducible refine qNF ?_ ?_);omega)|((with_reducible refine qU8 ?_ ?_);omega)|((with_reducible refine qU32 ?_ ?_);omega)|((with_reducible refine qU64 ?_ ?_);omega)|((with_reducible refine qU16 ?_ ?_);omega))
    conv => whnf
    rw [tn, hk]
    repeat((conv=>whnf);first|((with_reducible refine qS ?_ ?_ ?_);exact rfl;exact rfl)|with_reducible refine qB ?_|((with_reducible refine qI ?_ ?_);omega)|((with_reducible refine qDT ?_ ?_);omega)|((with_reducible refine qDF ?_ ?_);omega)|((with_reducible refine qNT ?_ ?_);omega)|((with_reducible refine qNF ?_ ?_);omega)|((with_reducible refine qU8 ?_ ?_);omega)|((with_reducible refine qU32 ?_ ?_);omega)|((with_reducible refine qU64 ?_ ?_);omega)|((with_reducible refine qU16 ?_ ?_);omega))
    conv => whnf
    refine of_use (w := 8) (by omega) (by omega) ?_
    have hb := bs_size (ofN k 8)
    rw [ofN_len] at hb
    repeat((conv=>whnf);first|((with_reducible refine qS ?_ ?_ ?_);exact rfl;exact rfl)|with_reducible refine qB ?_|((with_reducible refine qI ?_ ?_);omega)|((with_reducible refine qDT ?_ ?_);omega)|((with_reducible refine qDF ?_ ?_);omega)|((with_reducible refine qNT ?_ ?_);omega)|((with_reducible refine qNF ?_ ?_);omega)|((with_reducible refine qU8 ?_ ?_);omega)|((with_reducible refine qU32 ?_ ?_);omega)|((with_reducible refine qU64 ?_ ?_);omega)|((with_reducible refine qU16 ?_ ?_);omega))
    conv => whnf
    rw [bs_app, ← ho]
    repeat((conv=>whnf);first|((with_reducible refine qS ?_ ?_ ?_);exact rfl;exact rfl)|with_reducible refine qB ?_|((with_reducible refine qI ?_ ?_);omega)|((with_reducible refine qDT ?_ ?_);omega)|((with_reducible refine qDF ?_ ?_);omega)|((with_reducible refine qNT ?_ ?_);omega)|((with_reducible refine qNF ?_ ?_);omega)|((with_reducible refine qU8 ?_ ?_);omega)|((with_reducible refine qU32 ?_ ?_);omega)|((with_reducible refine qU64 ?_ ?_);omega)|((with_reducible refine qU16 ?_ ?_);omega))
    conv => whnf
    refine ⟨j + 1, ⟨by omega, by omega⟩, ?_⟩
    conv => whnf
    refine Le.id rfl ?_ ?_
    all_goals(repeat'(first|exact leT_empty|exact trivial|exact rfl|exact .inl rfl|exact .inr rfl|exact .inr ⟨rfl,rfl⟩|exact Nat.le_refl _|exact Nat.zero_le _|exact fun _ _=>rfl|assumption|refine And.intro ?_ ?_|exact ul0|exact ul1 rfl|exact ul2 rfl rfl|exact ul3 rfl rfl rfl))
  repeat((conv=>whnf);first|((with_reducible refine qS ?_ ?_ ?_);exact rfl;exact rfl)|with_reducible refine qB ?_|((with_reducible refine qI ?_ ?_);omega)|((with_reducible refine qDT ?_ ?_);omega)|((with_reducible refine qDF ?_ ?_);omega)|((with_reducible refine qNT ?_ ?_);omega)|((with_reducible refine qNF ?_ ?_);omega)|((with_reducible refine qU8 ?_ ?_);omega)|((with_reducible refine qU32 ?_ ?_);omega)|((with_reducible refine qU64 ?_ ?_);omega)|((with_reducible refine qU16 ?_ ?_);omega))
  conv => whnf
  exact trim0 rfl (congrArg (fun l => sv (bs l)) (he (by omega)))
theorem by_ok : ConOk Tryd.prog F.ref1_FromBytes byC := con_of_run (clRunX_ok (d := 5) ttOk outsBy_ok tabBy_ok 2) (fn_enters (ok.ref1_FromBytes (D := 5) u0 _ (clRunX_ok (d := 5) ttOk .nil TabOk.nil 1))) fun p hp => by_run p hp
/-! ### A sum -/
abbrev crcC : Con ByteArray := RoCon (fun p => [sv p]) (fun _ => []) (fun p => p.size ≤ 9223372036854775807) fun p => iv .u16 (crc (rd p) : Nat)
theorem crc_use {s : ByteArray} {h : Heap} {K : R → Heap → Prop} (hs : s.size ≤ 9223372036854775807) (hk : K (iv .u16 (crc (rd s) : Nat)) h) : AskC crcC [sv s] h K :=
  .use s [] hs rfl trivial ⟨.inl rfl, trivial⟩ hk
noncomputable abbrev tabCrc : List (FuncId × Eng.Fn) := [(F.ref1_CRC, fn.ref1_CRC u0)]
theorem tabCrc_ok {d : Nat} : TabOk d tabCrc tt := .cons (ok.ref1_CRC u0) (TabOk.nil)
theorem crc_run (s : ByteArray) (hs : s.size ≤ 9223372036854775807) : clRunX 5 tt outs0b tabCrc 2 F.ref1_CRC [] [sv s] ([]) (fun x h => Trim 0 x h fun x h => x = iv .u16 (crc (rd s) : Nat) ∧ h = []) := by
  repeat((conv=>whnf);first|((with_reducible refine qS ?_ ?_ ?_);exact rfl;exact rfl)|with_reducible refine qB ?_|((with_reducible refine qI ?_ ?_);omega)|((with_reducible refine qDT ?_ ?_);omega)|((with_reducible refine qDF ?_ ?_);omega)|((with_reducible refine qNT ?_ ?_);omega)|((with_reducible refine qNF ?_ ?_);omega)|((with_reducible refine qU8 ?_ ?_);omega)|((with_reducible refine qU32 ?_ ?_);omega)|((with_reducible refine qU64 ?_ ?_);omega)|((with_reducible refine qU16 ?_ ?_);omega))
  conv => whnf
  refine .rd (fun j : Nat => j ≤ s.size) (fun j => [(3, iv .u16 (crc ((rd s).take j) : Nat)), (4, iv .i64 j)]) (fun j => s.size - j) 0 (Nat.zero_le _) ?_ (fun j hj => ?_)
  · conv => whnf
    refine Le.id rfl ?_ ?_
    all_goals(repeat'(first|exact leT_empty|exact trivial|exact rfl|exact .inl rfl|exact .inr rfl|exact .inr ⟨rfl,rfl⟩|exact Nat.le_refl _|exact Nat.zero_le _|exact fun _ _=>rfl|assumption|refine And.intro ?_ ?_|exact ul0|exact ul1 rfl|exact ul2 rfl rfl|exact ul3 rfl rfl rfl))
  have hc := crc_lt ((rd s).take j)
  have ho := fun h => crc_take (l := rd s) (j := j) h
  have he : j = s.size → crc ((rd s).take j) = crc (rd s) := fun e => by rw [List.take_of_length_le (by rw [rd_len]; omega)]
  generalize crc ((rd s).take j) = c at *
  conv => whnf
  refine cD (fun h5 => ?_) (fun h5 => ?_)
  · have ho := ho (by rw [rd_len]; omega)
    repeat((conv=>whnf);first|((with_reducible refine qS ?_ ?_ ?_);exact rfl;exact rfl)|with_reducible refine qB ?_|((with_reducible refine qI ?_ ?_);omega)|((with_reducible refine qDT ?_ ?_);omega)|((with_reducible refine qDF ?_ ?_);omega)|((with_reducible refine qNT ?_ ?_);omega)|((with_reducible refine qNF ?_ ?_);omega)|((with_reducible refine qU8 ?_ ?_);omega)|((with_reducible refine qU32 ?_ ?_);omega)|((with_reducible refine qU64 ?_ ?_);omega)|((with_reducible refine qU16 ?_ ?_);omega))
    conv => whnf
    rw [shl16]
    repeat((conv=>whnf);first|((with_reducible refine qS ?_ ?_ ?_);exact rfl;exact rfl)|with_reducible refine qB ?_|((with_reducible refine qI ?_ ?_);omega)|((with_reducible refine qDT ?_ ?_);omega)|((with_reducible refine qDF ?_ ?_);omega)|((with_reducible refine qNT ?_ ?_);omega)|((with_reducible refine qNF ?_ ?_);omega)|((with_reducible refine qU8 ?_ ?_);omega)|((with_reducible refine qU32 ?_ ?_);omega)|((with_reducible refine qU64 ?_ ?_);omega)|((with_reducible refine qU16 ?_ ?_);omega))
    conv => whnf
    rw [mask15 (by omega), bit14 (by omega), tn, dec49 (by omega)]
    by_cases hb : (c / 16384 % 2 == 1) = gb (rd s) j
    · rw [crcAdd_same hb] at ho
      rw [hb, nB]
      repeat((conv=>whnf);first|((with_reducible refine qS ?_ ?_ ?_);exact rfl;exact rfl)|with_reducible refine qB ?_|((with_reducible refine qI ?_ ?_);omega)|((with_reducible refine qDT ?_ ?_);omega)|((with_reducible refine qDF ?_ ?_);omega)|((with_reducible refine qNT ?_ ?_);omega)|((with_reducible refine qNF ?_ ?_);omega)|((with_reducible refine qU8 ?_ ?_);omega)|((with_reducible refine qU32 ?_ ?_);omega)|((with_reducible refine qU64 ?_ ?_);omega)|((with_reducible refine qU16 ?_ ?_);omega))
      conv => whnf
      refine ⟨j + 1, ⟨by omega, by omega⟩, ?_⟩
      rw [ho]
      conv => whnf
      refine Le.id rfl ?_ ?_
      all_goals(repeat'(first|exact leT_empty|exact trivial|exact rfl|exact .inl rfl|exact .inr rfl|exact .inr ⟨rfl,rfl⟩|exact Nat.le_refl _|exact Nat.zero_le _|exact fun _ _=>rfl|assumption|refine And.intro ?_ ?_|exact ul0|exact ul1 rfl|exact ul2 rfl rfl|exact ul3 rfl rfl rfl))
    · rw [crcAdd_un hb] at ho
      rw [nBne hb]
      repeat((conv=>whnf);first|((with_reducible refine qS ?_ ?_ ?_);exact rfl;exact rfl)|with_reducible refine qB ?_|((with_reducible refine qI ?_ ?_);omega)|((with_reducible refine qDT ?_ ?_);omega)|((with_reducible refine qDF ?_ ?_);omega)|((with_reducible refine qNT ?_ ?_);omega)|((with_reducible refine qNF ?_ ?_);omega)|((with_reducible refine qU8 ?_ ?_);omega)|((with_reducible refine qU32 ?_ ?_);omega)|((with_reducible refine qU64 ?_ ?_);omega)|((with_reducible refine qU16 ?_ ?_);omega))
      conv => whnf
      rw [poly (by omega)]
      repeat((conv=>whnf);first|((with_reducible refine qS ?_ ?_ ?_);exact rfl;exact rfl)|with_reducible refine qB ?_|((with_reducible refine qI ?_ ?_);omega)|((with_reducible refine qDT ?_ ?_);omega)|((with_reducible refine qDF ?_ ?_);omega)|((with_reducible refine qNT ?_ ?_);omega)|((with_reducible refine qNF ?_ ?_);omega)|((with_reducible refine qU8 ?_ ?_);omega)|((with_reducible refine qU32 ?_ ?_);omega)|((with_reducible refine qU64 ?_ ?_);omega)|((with_reducible refine qU16 ?_ ?_);omega))
      conv => whnf
      refine ⟨j + 1, ⟨by omega, by omega⟩, ?_⟩
      rw [ho]
      conv => whnf
      refine Le.id rfl ?_ ?_
      all_goals(repeat'(first|exact leT_empty|exact trivial|exact rfl|exact .inl rfl|exact .inr rfl|exact .inr ⟨rfl,rfl⟩|exact Nat.le_refl _|exact Nat.zero_le _|exact fun _ _=>rfl|assumption|refine And.intro ?_ ?_|exact ul0|exact ul1 rfl|exact ul2 rfl rfl|exact ul3 rfl rfl rfl))
  repeat((conv=>whnf);first|((with_reducible refine qS ?_ ?_ ?_);exact rfl;exact rfl)|with_reducible refine qB ?_|((with_reducible refine qI ?_ ?_);omega)|((with_reducible refine qDT ?_ ?_);omega)|((with_reducible refine qDF ?_ ?_);omega)|((with_reducible refine qNT ?_ ?_);omega)|((with_reducible refine qNF ?_ ?_);omega)|((with_reducible refine qU8 ?_ ?_);omega)|((with_reducible refine qU32 ?_ ?_);omega)|((with_reducible refine qU64 ?_ ?_);omega)|((with_reducible refine qU16 ?_ ?_);omega))
  conv => whnf
  exact trim0 rfl (congrArg (fun n : Nat => iv .u16 n) (he (by omega)))
theorem crc_ok : ConOk Tryd.prog F.ref1_CRC crcC := con_of_run (clRunX_ok (d := 5) ttOk outs0b_ok tabCrc_ok 2) (fn_enters (ok.ref1_CRC (D := 5) u0 _ (clRunX_ok (d := 5) ttOk .nil TabOk.nil 1))) fun p hp => crc_run p hp
end Go.Proofs.YtdeaigaafdnehaaDoor.Co
