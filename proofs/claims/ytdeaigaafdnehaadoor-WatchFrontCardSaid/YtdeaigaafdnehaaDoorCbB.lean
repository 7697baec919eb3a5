/- Contracts: rows of bits, on: a sum's step, numbers of bits, bytes of bits; bits laid between. -/
import Derived.Test.YtdeaigaafdnehaaDoorCbA
import Derived.Test.YtdeaigaafdnehaaDoorPuQ
namespace Go.Proofs.YtdeaigaafdnehaaDoor.Co
open Go Go.Eng Go.Proofs Go.Proofs.YtdeaigaafdnehaaDoor.Tb Go.Pu
set_option maxRecDepth 100000
set_option maxHeartbeats 8000000
abbrev cC (b : Bool) : C := .v (.int .u8 (cI b))
/-! ### A sum's step -/
abbrev addC : Con (Nat × Bool) := RoCon (fun p => [iv .u16 p.1, bv p.2]) (fun _ => []) (fun p => p.1 < 32768) fun p => iv .u16 (crcAdd p.1 p.2 : Nat)
theorem add_use {c : Nat} {b : Bool} {h : Heap} {K : R → Heap → Prop} (hc : c < 32768) (hk : K (iv .u16 (crcAdd c b : Nat)) h) : AskC addC [iv .u16 c, bv b] h K :=
  .use (c, b) [] hc rfl trivial ⟨.inl rfl, .inl rfl, trivial⟩ hk
noncomputable abbrev tabAdd : List (FuncId × Eng.Fn) := [(F.bits_Add, fn.bits_Add u0)]
theorem tabAdd_ok {d : Nat} : TabOk d tabAdd tt := .cons (ok.bits_Add u0) (TabOk.nil)
theorem add_run (c : Nat) (b : Bool) (hc : c < 32768) : clRunX 5 tt outs0b tabAdd 2 F.bits_Add [] [iv .u16 c, bv b] ([]) (fun x h => Trim 0 x h fun x h => x = iv .u16 (crcAdd c b : Nat) ∧ h = []) := by
  repeat((conv=>whnf);first|((with_reducible refine qS ?_ ?_ ?_);exact rfl;exact rfl)|with_reducible refine qB ?_|((with_reducible refine qI ?_ ?_);omega)|((with_reducible refine qDT ?_ ?_);omega)|((with_reducible refine qDF ?_ ?_);omega)|((with_reducible refine qNT ?_ ?_);omega)|((with_reducible refine qNF ?_ ?_);omega)|((with_reducible refine qU8 ?_ ?_);omega)|((with_reducible refine qU32 ?_ ?_);omega)|((with_reducible refine qU64 ?_ ?_);omega)|((with_reducible refine qU16 ?_ ?_);omega))
  conv => whnf
  rw [shl16]
  repeat((conv=>whnf);first|((with_reducible refine qS ?_ ?_ ?_);exact rfl;exact rfl)|with_reducible refine qB ?_|((with_reducible refine qI ?_ ?_);omega)|((with_reducible refine qDT ?_ ?_);omega)|((with_reducible refine qDF ?_ ?_);omega)|((with_reducible refine qNT ?_ ?_);omega)|((with_reducible refine qNF ?_ ?_);omega)|((with_reducible refine qU8 ?_ ?_);omega)|((with_reducible refine qU32 ?_ ?_);omega)|((with_reducible refine qU64 ?_ ?_);omega)|((with_reducible refine qU16 ?_ ?_);omega))
  conv => whnf
  rw [mask15 (by omega)]
  repeat((conv=>whnf);first|((with_reducible refine qS ?_ ?_ ?_);exact rfl;exact rfl)|with_reducible refine qB ?_|((with_reducible refine qI ?_ ?_);omega)|((with_reducible refine qDT ?_ ?_);omega)|((with_reducible refine qDF ?_ ?_);omega)|((with_reducible refine qNT ?_ ?_);omega)|((with_reducible refine qNF ?_ ?_);omega)|((with_reducible refine qU8 ?_ ?_);omega)|((with_reducible refine qU32 ?_ ?_);omega)|((with_reducible refine qU64 ?_ ?_);omega)|((with_reducible refine qU16 ?_ ?_);omega))
  conv => whnf
  rw [bit14 (by omega)]
  by_cases hb : (c / 16384 % 2 == 1) = b
  · rw [hb, nB]
    repeat((conv=>whnf);first|((with_reducible refine qS ?_ ?_ ?_);exact rfl;exact rfl)|with_reducible refine qB ?_|((with_reducible refine qI ?_ ?_);omega)|((with_reducible refine qDT ?_ ?_);omega)|((with_reducible refine qDF ?_ ?_);omega)|((with_reducible refine qNT ?_ ?_);omega)|((with_reducible refine qNF ?_ ?_);omega)|((with_reducible refine qU8 ?_ ?_);omega)|((with_reducible refine qU32 ?_ ?_);omega)|((with_reducible refine qU64 ?_ ?_);omega)|((with_reducible refine qU16 ?_ ?_);omega))
    conv => whnf
    exact trim0 rfl (congrArg (fun n : Nat => iv .u16 n) (crcAdd_same hb).symm)
  · rw [nBne hb]
    repeat((conv=>whnf);first|((with_reducible refine qS ?_ ?_ ?_);exact rfl;exact rfl)|with_reducible refine qB ?_|((with_reducible refine qI ?_ ?_);omega)|((with_reducible refine qDT ?_ ?_);omega)|((with_reducible refine qDF ?_ ?_);omega)|((with_reducible refine qNT ?_ ?_);omega)|((with_reducible refine qNF ?_ ?_);omega)|((with_reducible refine qU8 ?_ ?_);omega)|((with_reducible refine qU32 ?_ ?_);omega)|((with_reducible refine qU64 ?_ ?_);omega)|((with_reducible refine qU16 ?_ ?_);omega))
    conv => whnf
    rw [poly (by omega)]
    repeat((conv=>whnf);first|((with_reducible refine qS ?_ ?_ ?_);exact rfl;exact rfl)|with_reducible refine qB ?_|((with_reducible refine qI ?_ ?_);omega)|((with_reducible refine qDT ?_ ?_);omega)|((with_reducible refine qDF ?_ ?_);omega)|((with_reducible refine qNT ?_ ?_);omega)|((with_reducible refine qNF ?_ ?_);omega)|((with_reducible refine qU8 ?_ ?_);omega)|((with_reducible refine qU32 ?_ ?_);omega)|((with_reducible refine qU64 ?_ ?_);omega)|((with_reducible refine qU16 ?_ ?_);omega))
    conv => whnf
    exact trim0 rfl (congrArg (fun n : Nat => iv .u16 n) (crcAdd_un hb).symm)
theorem add_ok : ConOk Tryd.prog F.bits_Add addC := con_of_run (clRunX_ok (d := 5) ttOk outs0b_ok tabAdd_ok 2) (fn_enters (ok.bits_Add (D := 5) u0 _ (clRunX_ok (d := 5) ttOk .nil TabOk.nil 1))) fun p hp => add_run p.1 p.2 hp
/-! ### A number -/
abbrev numC : Con ByteArray := RoCon (fun p => [sv p]) (fun _ => []) (fun p => p.size ≤ 60) fun p => iv .u64 (numB (rd p) : Nat)
theorem num_use {s : ByteArray} {h : Heap} {K : R → Heap → Prop} (hs : s.size ≤ 60) (hk : K (iv .u64 (numB (rd s) : Nat)) h) : AskC numC [sv s] h K :=
  .use s [] hs rfl trivial ⟨.inl rfl, trivial⟩ hk
noncomputable abbrev tabNum : List (FuncId × Eng.Fn) := [(F.bits_Num, fn.bits_Num u0)]
theorem tabNum_ok {d : Nat} : TabOk d tabNum tt := .cons (ok.bits_Num u0) (TabOk.nil)
theorem num_run (s : ByteArray) (hs : s.size ≤ 60) : clRunX 5 tt outs0b tabNum 2 F.bits_Num [] [sv s] ([]) (fun x h => Trim 0 x h fun x h => x = iv .u64 (numB (rd s) : Nat) ∧ h = []) := by
  repeat((conv=>whnf);first|((with_reducible refine qS ?_ ?_ ?_);exact rfl;exact rfl)|with_reducible refine qB ?_|((with_reducible refine qI ?_ ?_);omega)|((with_reducible refine qDT ?_ ?_);omega)|((with_reducible refine qDF ?_ ?_);omega)|((with_reducible refine qNT ?_ ?_);omega)|((with_reducible refine qNF ?_ ?_);omega)|((with_reducible refine qU8 ?_ ?_);omega)|((with_reducible refine qU32 ?_ ?_);omega)|((with_reducible refine qU64 ?_ ?_);omega)|((with_reducible refine qU16 ?_ ?_);omega))
  conv => whnf
  refine .rd (fun j : Nat => j ≤ s.size) (fun j => [(3, iv .u64 (numB ((rd s).take j) : Nat)), (7, iv .i64 j)]) (fun j => s.size - j) 0 (Nat.zero_le _) ?_ (fun j hj => ?_)
  · conv => whnf
    refine Le.id rfl ?_ ?_
    all_goals(repeat'(first|exact leT_empty|exact trivial|exact rfl|exact .inl rfl|exact .inr rfl|exact .inr ⟨rfl,rfl⟩|exact Nat.le_refl _|exact Nat.zero_le _|exact fun _ _=>rfl|assumption|refine And.intro ?_ ?_|exact ul0|exact ul1 rfl|exact ul2 rfl rfl|exact ul3 rfl rfl rfl))
  have hc := num_bd (l := rd s) (j := j) (w := 60) (by rw [rd_len]; exact hs)
  have hT := fun h hb => num_takeT (l := rd s) (j := j) h hb
  have hF := fun h hb => num_takeF (l := rd s) (j := j) h hb
  have he : j = s.size → numB ((rd s).take j) = numB (rd s) := fun e => by rw [List.take_of_length_le (by rw [rd_len]; omega)]
  generalize numB ((rd s).take j) = c at *
  conv => whnf
  refine cD (fun h5 => ?_) (fun h5 => ?_)
  · have hj' : j < (rd s).length := by rw [rd_len]; omega
    repeat((conv=>whnf);first|((with_reducible refine qS ?_ ?_ ?_);exact rfl;exact rfl)|with_reducible refine qB ?_|((with_reducible refine qI ?_ ?_);omega)|((with_reducible refine qDT ?_ ?_);omega)|((with_reducible refine qDF ?_ ?_);omega)|((with_reducible refine qNT ?_ ?_);omega)|((with_reducible refine qNF ?_ ?_);omega)|((with_reducible refine qU8 ?_ ?_);omega)|((with_reducible refine qU32 ?_ ?_);omega)|((with_reducible refine qU64 ?_ ?_);omega)|((with_reducible refine qU16 ?_ ?_);omega))
    conv => whnf
    rw [shl64]
    repeat((conv=>whnf);first|((with_reducible refine qS ?_ ?_ ?_);exact rfl;exact rfl)|with_reducible refine qB ?_|((with_reducible refine qI ?_ ?_);omega)|((with_reducible refine qDT ?_ ?_);omega)|((with_reducible refine qDF ?_ ?_);omega)|((with_reducible refine qNT ?_ ?_);omega)|((with_reducible refine qNF ?_ ?_);omega)|((with_reducible refine qU8 ?_ ?_);omega)|((with_reducible refine qU32 ?_ ?_);omega)|((with_reducible refine qU64 ?_ ?_);omega)|((with_reducible refine qU16 ?_ ?_);omega))
    conv => whnf
    rw [tn, dec49 (by omega)]
    cases hb : gb (rd s) j
    · repeat((conv=>whnf);first|((with_reducible refine qS ?_ ?_ ?_);exact rfl;exact rfl)|with_reducible refine qB ?_|((with_reducible refine qI ?_ ?_);omega)|((with_reducible refine qDT ?_ ?_);omega)|((with_reducible refine qDF ?_ ?_);omega)|((with_reducible refine qNT ?_ ?_);omega)|((with_reducible refine qNF ?_ ?_);omega)|((with_reducible refine qU8 ?_ ?_);omega)|((with_reducible refine qU32 ?_ ?_);omega)|((with_reducible refine qU64 ?_ ?_);omega)|((with_reducible refine qU16 ?_ ?_);omega))
      conv => whnf
      refine ⟨j + 1, ⟨by omega, by omega⟩, ?_⟩
      rw [hF hj' hb]
      conv => whnf
      refine Le.id rfl ?_ ?_
      all_goals(repeat'(first|exact leT_empty|exact trivial|exact rfl|exact .inl rfl|exact .inr rfl|exact .inr ⟨rfl,rfl⟩|exact Nat.le_refl _|exact Nat.zero_le _|exact fun _ _=>rfl|assumption|refine And.intro ?_ ?_|exact ul0|exact ul1 rfl|exact ul2 rfl rfl|exact ul3 rfl rfl rfl))
    · repeat((conv=>whnf);first|((with_reducible refine qS ?_ ?_ ?_);exact rfl;exact rfl)|with_reducible refine qB ?_|((with_reducible refine qI ?_ ?_);omega)|((with_reducible refine qDT ?_ ?_);omega)|((with_reducible refine qDF ?_ ?_);omega)|((with_reducible refine qNT ?_ ?_);omega)|((with_reducible refine qNF ?_ ?_);omega)|((with_reducible refine qU8 ?_ ?_);omega)|((with_reducible refine qU32 ?_ ?_);omega)|((with_reducible refine qU64 ?_ ?_);omega)|((with_reducible refine qU16 ?_ ?_);omega))
      conv => whnf
      rw [or1 (by omega)]
      repeat((conv=>whnf);first|((with_reducible refine qS ?_ ?_ ?_);exact rfl;exact rfl)|with_reducible refine qB ?_|((with_reducible refine qI ?_ ?_);omega)|((with_reducible refine qDT ?_ ?_);omega)|((with_reducible refine qDF ?_ ?_);omega)|((with_reducible refine qNT ?_ ?_);omega)|((with_reducible refine qNF ?_ ?_);omega)|((with_reducible refine qU8 ?_ ?_);omega)|((with_reducible refine qU32 ?_ ?_);omega)|((with_reducible refine qU64 ?_ ?_);omega)|((with_reducible refine qU16 ?_ ?_);omega))
      conv => whnf
      refine ⟨j + 1, ⟨by omega, by omega⟩, ?_⟩
      rw [hT hj' hb]
      conv => whnf
      refine Le.id rfl ?_ ?_
      all_goals(repeat'(first|exact leT_empty|exact trivial|exact rfl|exact .inl rfl|exact .inr rfl|exact .inr ⟨rfl,rfl⟩|exact Nat.le_refl _|exact Nat.zero_le _|exact fun _ _=>rfl|assumption|refine And.intro ?_ ?_|exact ul0|exact ul1 rfl|exact ul2 rfl rfl|exact ul3 rfl rfl rfl))
  repeat((conv=>whnf);first|((with_reducible refine qS ?_ ?_ ?_);exact rfl;exact rfl)|with_reducible refine qB ?_|((with_reducible refine qI ?_ ?_);omega)|((with_reducible refine qDT ?_ ?_);omega)|((with_reducible refine qDF ?_ ?_);omega)|((with_reducible refine qNT ?_ ?_);omega)|((with_reducible refine qNF ?_ ?_);omega)|((with_reducible refine qU8 ?_ ?_);omega)|((with_reducible refine qU32 ?_ ?_);omega)|((with_reducible refine qU64 ?_ ?_);omega)|((with_reducible refine qU16 ?_ ?_);omega))
  conv => whnf
  exact trim0 rfl (congrArg (fun n : Nat => iv .u64 n) (he (by omega)))
theorem num_ok : ConOk Tryd.prog F.bits_Num numC := con_of_run (clRunX_ok (d := 5) ttOk outs0b_ok tabNum_ok 2) (fn_enters (ok.bits_Num (D := 5) u0 _ (clRunX_ok (d := 5) ttOk .nil TabOk.nil 1))) fun p hp => num_run p hp
/-! ### Bytes -/
abbrev bytC : Con ByteArray := RoCon (fun p => [sv p]) (fun _ => []) (fun p => p.size ≤ 1000) fun p => sv (Pu.bytes (rd p))
theorem byt_use {s : ByteArray} {h : Heap} {K : R → Heap → Prop} (hs : s.size ≤ 1000) (hk : K (sv (Pu.bytes (rd s))) h) : AskC bytC [sv s] h K :=
  .use s [] hs rfl trivial ⟨.inl rfl, trivial⟩ hk
abbrev outsByt : List (FuncId × Cx) := [(F.bits_Num, AskC numC)]
theorem outsByt_ok : OutsOk Tryd.prog outsByt := .cons (ask_ok num_ok) .nil
def byU (s : ByteArray) (i : Nat) : UInt8 := UInt8.ofNat (numB (((rd s).drop (8 * i)).take 8))
def byX (s : ByteArray) (i q : Nat) : Int := if q < i then ((byU s q).toNat : Int) else 0
theorem byX_up (s : ByteArray) (i q : Nat) : (if q = i then [(.v (.int .u8 ((byU s i).toNat : Int)) : C)] else [.v (.int .u8 (byX s i q))]) = [.v (.int .u8 (byX s (i + 1) q))] := by
  unfold byX
  by_cases c : q = i
  · rw [if_pos c, c, if_pos (by omega)]
  · rw [if_neg c]
    by_cases d : q < i
    · rw [if_pos d, if_pos (by omega)]
    · rw [if_neg d, if_neg (by omega)]
noncomputable abbrev tabByt : List (FuncId × Eng.Fn) := [(F.bits_Bytes, fn.bits_Bytes u0)]
theorem tabByt_ok {d : Nat} : TabOk d tabByt tt := .cons (ok.bits_Bytes u0) (TabOk.nil)
theorem byt_run (s : ByteArray) (hs : s.size ≤ 1000) : clRunX 5 tt outsByt tabByt 2 F.bits_Bytes [] [sv s] ([]) (fun x h => Trim 0 x h fun x h => x = sv (Pu.bytes (rd s)) ∧ h = []) := by
  obtain ⟨L, hL⟩ : ∃ L : Nat, ((s.size : Int).tdiv 8) = (L : Int) := ⟨s.size / 8, by rw [Int.tdiv_eq_ediv_of_nonneg (by omega)]; omega⟩
  have hL2 : s.size / 8 = L := by rw [Int.tdiv_eq_ediv_of_nonneg (by omega)] at hL; omega
  repeat((conv=>whnf);first|((with_reducible refine qS ?_ ?_ ?_);exact rfl;exact rfl)|with_reducible refine qB ?_|((with_reducible refine qI ?_ ?_);omega)|((with_reducible refine qDT ?_ ?_);omega)|((with_reducible refine qDF ?_ ?_);omega)|((with_reducible refine qNT ?_ ?_);omega)|((with_reducible refine qNF ?_ ?_);omega)|((with_reducible refine qU8 ?_ ?_);omega)|((with_reducible refine qU32 ?_ ?_);omega)|((with_reducible refine qU64 ?_ ?_);omega)|((with_reducible refine qU16 ?_ ?_);omega))
  conv => whnf
  rw [hL]
  repeat((conv=>whnf);first|((with_reducible refine qS ?_ ?_ ?_);exact rfl;exact rfl)|with_reducible refine qB ?_|((with_reducible refine qI ?_ ?_);omega)|((with_reducible refine qDT ?_ ?_);omega)|((with_reducible refine qDF ?_ ?_);omega)|((with_reducible refine qNT ?_ ?_);omega)|((with_reducible refine qNF ?_ ?_);omega)|((with_reducible refine qU8 ?_ ?_);omega)|((with_reducible refine qU32 ?_ ?_);omega)|((with_reducible refine qU64 ?_ ?_);omega)|((with_reducible refine qU16 ?_ ?_);omega))
  conv => whnf
  refine cDT ?_ ?_
  · refine ⟨by omega, by omega, ?_, by omega⟩
    dsimp only
    omega
  try rw [tn]
  repeat((conv=>whnf);first|((with_reducible refine qS ?_ ?_ ?_);exact rfl;exact rfl)|with_reducible refine qB ?_|((with_reducible refine qI ?_ ?_);omega)|((with_reducible refine qDT ?_ ?_);omega)|((with_reducible refine qDF ?_ ?_);omega)|((with_reducible refine qNT ?_ ?_);omega)|((with_reducible refine qNF ?_ ?_);omega)|((with_reducible refine qU8 ?_ ?_);omega)|((with_reducible refine qU32 ?_ ?_);omega)|((with_reducible refine qU64 ?_ ?_);omega)|((with_reducible refine qU16 ?_ ?_);omega))
  conv => whnf
  refine .inv (fun i : Nat => i ≤ L) (fun i => [(11, iv .i64 i)]) (fun i => [.ob (.row 1 L (fun q => [.v (.int .u8 (byX s i q))]) L)]) (fun i => L - i) 0 (Nat.zero_le _) ?_ (fun i hi => ?_)
  · conv => whnf
    refine Le.id rfl ?_ ?_
    all_goals(repeat'(first|exact leT_empty|exact trivial|exact rfl|exact .inl rfl|exact .inr rfl|exact .inr ⟨rfl,rfl⟩|exact Nat.le_refl _|exact Nat.zero_le _|exact fun _ _=>rfl|assumption|refine And.intro ?_ ?_|exact ul0|exact ul1 rfl|exact ul2 rfl rfl|exact ul3 rfl rfl rfl))
  conv => whnf
  refine cD (fun h5 => ?_) (fun h5 => ?_)
  · have hn := numB_lt (((rd s).drop (8 * i)).take 8)
    have hlen : (((rd s).drop (8 * i)).take 8).length = 8 := by rw [List.length_take, List.length_drop, rd_len]; omega
    rw [hlen] at hn
    have hu : ((byU s i).toNat : Int) = (numB (((rd s).drop (8 * i)).take 8) : Nat) := by
      unfold byU
      rw [UInt8.toNat_ofNat']
      omega
    repeat((conv=>whnf);first|((with_reducible refine qS ?_ ?_ ?_);exact rfl;exact rfl)|with_reducible refine qB ?_|((with_reducible refine qI ?_ ?_);omega)|((with_reducible refine qDT ?_ ?_);omega)|((with_reducible refine qDF ?_ ?_);omega)|((with_reducible refine qNT ?_ ?_);omega)|((with_reducible refine qNF ?_ ?_);omega)|((with_reducible refine qU8 ?_ ?_);omega)|((with_reducible refine qU32 ?_ ?_);omega)|((with_reducible refine qU64 ?_ ?_);omega)|((with_reducible refine qU16 ?_ ?_);omega))
    conv => whnf
    have ex : rd (s.extract (8 * (i : Int)).toNat (8 * ((i : Int) + 1)).toNat) = ((rd s).drop (8 * i)).take 8 := by
      rw [rd_ext, show (8 * (i : Int)).toNat = 8 * i by omega, show (8 * ((i : Int) + 1)).toNat - 8 * i = 8 by omega]
    have es : (s.extract (8 * (i : Int)).toNat (8 * ((i : Int) + 1)).toNat).size ≤ 60 := by
      rw [← rd_len, ex, hlen]; decide
    refine num_use es ?_
    rw [ex]
    generalize numB (((rd s).drop (8 * i)).take 8) = N at *
    repeat((conv=>whnf);first|((with_reducible refine qS ?_ ?_ ?_);exact rfl;exact rfl)|with_reducible refine qB ?_|((with_reducible refine qI ?_ ?_);omega)|((with_reducible refine qDT ?_ ?_);omega)|((with_reducible refine qDF ?_ ?_);omega)|((with_reducible refine qNT ?_ ?_);omega)|((with_reducible refine qNF ?_ ?_);omega)|((with_reducible refine qU8 ?_ ?_);omega)|((with_reducible refine qU32 ?_ ?_);omega)|((with_reducible refine qU64 ?_ ?_);omega)|((with_reducible refine qU16 ?_ ?_);omega))
    conv => whnf
    refine ⟨i + 1, ⟨by omega, by omega⟩, ?_⟩
    conv => whnf
    refine Le.id rfl ?_ ?_
    all_goals(repeat'(first|exact leT_empty|exact trivial|exact rfl|exact .inl rfl|exact .inr rfl|exact .inr ⟨rfl,rfl⟩|exact Nat.le_refl _|exact Nat.zero_le _|exact fun _ _=>rfl|assumption|refine And.intro ?_ ?_|exact ul0|exact ul1 rfl|exact ul2 rfl rfl|exact ul3 rfl rfl rfl))
    intro q hq
    show (if q = 0 + (i : Int).toNat then [(.v (.int .u8 (N : Int)) : C)] else [.v (.int .u8 (byX s i q))]) = [.v (.int .u8 (byX s (i + 1) q))]
    rw [← byX_up, hu, tn, Nat.zero_add]
  obtain rfl : i = L := by omega
  repeat((conv=>whnf);first|((with_reducible refine qS ?_ ?_ ?_);exact rfl;exact rfl)|with_reducible refine qB ?_|((with_reducible refine qI ?_ ?_);omega)|((with_reducible refine qDT ?_ ?_);omega)|((with_reducible refine qDF ?_ ?_);omega)|((with_reducible refine qNT ?_ ?_);omega)|((with_reducible refine qNF ?_ ?_);omega)|((with_reducible refine qU8 ?_ ?_);omega)|((with_reducible refine qU32 ?_ ?_);omega)|((with_reducible refine qU64 ?_ ?_);omega)|((with_reducible refine qU16 ?_ ?_);omega))
  conv => whnf
  refine cT (bytesB_mk fun q hq => ⟨_, rfl⟩) ?_
  repeat((conv=>whnf);first|((with_reducible refine qS ?_ ?_ ?_);exact rfl;exact rfl)|with_reducible refine qB ?_|((with_reducible refine qI ?_ ?_);omega)|((with_reducible refine qDT ?_ ?_);omega)|((with_reducible refine qDF ?_ ?_);omega)|((with_reducible refine qNT ?_ ?_);omega)|((with_reducible refine qNF ?_ ?_);omega)|((with_reducible refine qU8 ?_ ?_);omega)|((with_reducible refine qU32 ?_ ?_);omega)|((with_reducible refine qU64 ?_ ?_);omega)|((with_reducible refine qU16 ?_ ?_);omega))
  conv => whnf
  refine trim0 rfl (congrArg sv ?_)
  rw [mkStr_map (x := byU s) fun q hq => by show [_] = _; unfold byX; rw [Nat.zero_add, if_pos hq]]
  unfold Pu.bytes
  rw [bytesL_eq i (by rw [rd_len]; exact hL2)]; rfl
theorem byt_ok : ConOk Tryd.prog F.bits_Bytes bytC := con_of_run (clRunX_ok (d := 5) ttOk outsByt_ok tabByt_ok 2) (fn_enters (ok.bits_Bytes (D := 5) u0 _ (clRunX_ok (d := 5) ttOk .nil TabOk.nil 1))) fun p hp => byt_run p hp
end Go.Proofs.YtdeaigaafdnehaaDoor.Co
