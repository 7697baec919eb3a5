/- Contracts: frames as bits, the other way. -/
import Derived.Test.YtdeaigaafdnehaaDoorCbF
namespace Go.Proofs.YtdeaigaafdnehaaDoor.Co
open Go Go.Eng Go.Proofs Go.Proofs.YtdeaigaafdnehaaDoor.Tb Go.Pu
set_option maxRecDepth 100000
set_option maxHeartbeats 16000000
abbrev frmR (f : Frm) : R := .t (frmT f)
/-- A frame that may come in: its number fits, its data is a text. -/
def FIn (f : Frm) : Prop := f.id < 4294967296 ∧ f.data.size ≤ 9223372036854775807
abbrev isFC : Con Frm := RoCon (fun p => [frmR p]) (fun _ => []) (fun p => FIn p) fun p => bv (decide p.ok)
theorem isF_use {f : Frm} {h : Heap} {K : R → Heap → Prop} (hf : FIn f) (hk : K (bv (decide f.ok)) h) : AskC isFC [frmR f] h K :=
  .use f [] hf rfl trivial ⟨⟨.inl rfl, .inl rfl, .inl rfl, .inl rfl, trivial⟩, trivial⟩ hk
theorem emp_iff (s : ByteArray) : strEq s .empty = decide (s.size = 0) := by
  unfold strEq
  refine decide_eq_decide.2 ⟨fun h => by rw [h]; rfl, fun h => ?_⟩
  apply ba_ext
  have : s.data.toList.length = 0 := h
  rw [List.eq_nil_of_length_eq_zero this]; rfl
noncomputable abbrev tabIsF : List (FuncId × Eng.Fn) := [(F.ref3_Is, fn.ref3_Is u0)]
theorem tabIsF_ok {d : Nat} : TabOk d tabIsF tt := .cons (ok.ref3_Is u0) (TabOk.nil)
abbrev frmV (ext : Bool) (v : Int) (rtr : Bool) (data : ByteArray) : R := .t (.agg [.c (.v (.bool ext)), .c (.v (.int .u32 v)), .c (.v (.bool rtr)), .c (.v (.string data))])
theorem okE (ext : Bool) (N : Nat) (hN : (if ext = true then 536870912 else 2048) = N) (id : Nat) (rtr : Bool) (data : ByteArray) : (Frm.mk ext id rtr data).ok ↔ ((rtr = true → data.size = 0) ∧ data.size ≤ 8 ∧ id < N) := by
  subst hN; exact Iff.rfl
theorem isF_1 (id : Nat) (v : Int) (hv : v = (id : Int)) (rtr : Bool) (data : ByteArray) (B : Bool) (h2 : data.size ≤ 9223372036854775807) (c1 : id < 2048) (hB : decide (Frm.ok ⟨false, id, rtr, data⟩) = B) : clRunX 5 tt outs0b tabIsF 2 F.ref3_Is [] [frmV false v rtr data] [] (fun x h => Trim 0 x h fun x h => x = bv B ∧ h = []) := by
  have ee := emp_iff data
  have ok := okE false 2048 (if_neg (by simp)) id rtr data
  have hT : (rtr = true → data.size = 0) → data.size ≤ 8 → B = true := fun a b => by rw [← hB]; exact decide_eq_true (ok.2 ⟨a, b, c1⟩)
  have hF1 : ¬ data.size ≤ 8 → B = false := fun a => by rw [← hB]; exact decide_eq_false fun h => a (ok.1 h).2.1
  have hF3 : ¬ (rtr = true → data.size = 0) → B = false := fun a => by rw [← hB]; exact decide_eq_false fun h => a (ok.1 h).1
  clear hB ok
  by_cases c2 : data.size ≤ 8
  · cases rtr
    · repeat((conv=>whnf);first|((with_reducible refine qS ?_ ?_ ?_);exact rfl;exact rfl)|with_reducible refine qB ?_|((with_reducible refine qI ?_ ?_);omega)|((with_reducible refine qDT ?_ ?_);omega)|((with_reducible refine qDF ?_ ?_);omega)|((with_reducible refine qNT ?_ ?_);omega)|((with_reducible refine qNF ?_ ?_);omega)|((with_reducible refine qU8 ?_ ?_);omega)|((with_reducible refine qU32 ?_ ?_);omega)|((with_reducible refine qU64 ?_ ?_);omega)|((with_reducible refine qU16 ?_ ?_);omega))
      conv => whnf
      exact trim0 rfl (congrArg bv (hT (fun h => by cases h) c2).symm)
    · repeat((conv=>whnf);first|((with_reducible refine qS ?_ ?_ ?_);exact rfl;exact rfl)|with_reducible refine qB ?_|((with_reducible refine qI ?_ ?_);omega)|((with_reducible refine qDT ?_ ?_);omega)|((with_reducible refine qDF ?_ ?_);omega)|((with_reducible refine qNT ?_ ?_);omega)|((with_reducible refine qNF ?_ ?_);omega)|((with_reducible refine qU8 ?_ ?_);omega)|((with_reducible refine qU32 ?_ ?_);omega)|((with_reducible refine qU64 ?_ ?_);omega)|((with_reducible refine qU16 ?_ ?_);omega))
      conv => whnf
      rw [show strEq data ⟨#[]⟩ = decide (data.size = 0) from ee]
      refine trim0 rfl (congrArg bv ?_)
      by_cases c3 : data.size = 0
      · rw [decide_eq_true c3, hT (fun _ => c3) c2]
      · rw [decide_eq_false c3, hF3 (fun h => c3 (h rfl))]
  · repeat((conv=>whnf);first|((with_reducible refine qS ?_ ?_ ?_);exact rfl;exact rfl)|with_reducible refine qB ?_|((with_reducible refine qI ?_ ?_);omega)|((with_reducible refine qDT ?_ ?_);omega)|((with_reducible refine qDF ?_ ?_);omega)|((with_reducible refine qNT ?_ ?_);omega)|((with_reducible refine qNF ?_ ?_);omega)|((with_reducible refine qU8 ?_ ?_);omega)|((with_reducible refine qU32 ?_ ?_);omega)|((with_reducible refine qU64 ?_ ?_);omega)|((with_reducible refine qU16 ?_ ?_);omega))
    conv => whnf
    exact trim0 rfl (congrArg bv (hF1 c2).symm)
theorem isF_2 (id : Nat) (v : Int) (hv : v = (id : Int)) (rtr : Bool) (data : ByteArray) (B : Bool) (h2 : data.size ≤ 9223372036854775807) (c1 : ¬ id < 2048) (hB : decide (Frm.ok ⟨false, id, rtr, data⟩) = B) : clRunX 5 tt outs0b tabIsF 2 F.ref3_Is [] [frmV false v rtr data] [] (fun x h => Trim 0 x h fun x h => x = bv B ∧ h = []) := by
  have ee := emp_iff data
  have ok := okE false 2048 (if_neg (by simp)) id rtr data
  have hF2 : B = false := by rw [← hB]; exact decide_eq_false fun h => c1 (ok.1 h).2.2
  clear hB ok
  repeat((conv=>whnf);first|((with_reducible refine qS ?_ ?_ ?_);exact rfl;exact rfl)|with_reducible refine qB ?_|((with_reducible refine qI ?_ ?_);omega)|((with_reducible refine qDT ?_ ?_);omega)|((with_reducible refine qDF ?_ ?_);omega)|((with_reducible refine qNT ?_ ?_);omega)|((with_reducible refine qNF ?_ ?_);omega)|((with_reducible refine qU8 ?_ ?_);omega)|((with_reducible refine qU32 ?_ ?_);omega)|((with_reducible refine qU64 ?_ ?_);omega)|((with_reducible refine qU16 ?_ ?_);omega))
  conv => whnf
  exact trim0 rfl (congrArg bv hF2.symm)
theorem isF_3 (id : Nat) (v : Int) (hv : v = (id : Int)) (rtr : Bool) (data : ByteArray) (B : Bool) (h2 : data.size ≤ 9223372036854775807) (c1 : id < 536870912) (hB : decide (Frm.ok ⟨true, id, rtr, data⟩) = B) : clRunX 5 tt outs0b tabIsF 2 F.ref3_Is [] [frmV true v rtr data] [] (fun x h => Trim 0 x h fun x h => x = bv B ∧ h = []) := by
  have ee := emp_iff data
  have ok := okE true 536870912 (if_pos rfl) id rtr data
  have hT : (rtr = true → data.size = 0) → data.size ≤ 8 → B = true := fun a b => by rw [← hB]; exact decide_eq_true (ok.2 ⟨a, b, c1⟩)
  have hF1 : ¬ data.size ≤ 8 → B = false := fun a => by rw [← hB]; exact decide_eq_false fun h => a (ok.1 h).2.1
  have hF3 : ¬ (rtr = true → data.size = 0) → B = false := fun a => by rw [← hB]; exact decide_eq_false fun h => a (ok.1 h).1
  clear hB ok
  by_cases c2 : data.size ≤ 8
  · cases rtr
    · repeat((conv=>whnf);first|((with_reducible refine qS ?_ ?_ ?_);exact rfl;exact rfl)|with_reducible refine qB ?_|((with_reducible refine qI ?_ ?_);omega)|((with_reducible refine qDT ?_ ?_);omega)|((with_reducible refine qDF ?_ ?_);omega)|((with_reducible refine qNT ?_ ?_);omega)|((with_reducible refine qNF ?_ ?_);omega)|((with_reducible refine qU8 ?_ ?_);omega)|((with_reducible refine qU32 ?_ ?_);omega)|((with_reducible refine qU64 ?_ ?_);omega)|((with_reducible refine qU16 ?_ ?_);omega))
      conv => whnf
      exact trim0 rfl (congrArg bv (hT (fun h => by cases h) c2).symm)
    · repeat((conv=>whnf);first|((with_reducible refine qS ?_ ?_ ?_);exact rfl;exact rfl)|with_reducible refine qB ?_|((with_reducible refine qI ?_ ?_);omega)|((with_reducible refine qDT ?_ ?_);omega)|((with_reducible refine qDF ?_ ?_);omega)|((with_reducible refine qNT ?_ ?_);omega)|((with_reducible refine qNF ?_ ?_);omega)|((with_reducible refine qU8 ?_ ?_);omega)|((with_reducible refine qU32 ?_ ?_);omega)|((with_reducible refine qU64 ?_ ?_);omega)|((with_reducible refine qU16 ?_ ?_);omega))
      conv => whnf
      rw [show strEq data ⟨#[]⟩ = decide (data.size = 0) from ee]
      refine trim0 rfl (congrArg bv ?_)
      by_cases c3 : data.size = 0
      · rw [decide_eq_true c3, hT (fun _ => c3) c2]
      · rw [decide_eq_false c3, hF3 (fun h => c3 (h rfl))]
  · repeat((conv=>whnf);first|((with_reducible refine qS ?_ ?_ ?_);exact rfl;exact rfl)|with_reducible refine qB ?_|((with_reducible refine qI ?_ ?_);omega)|((with_reducible refine qDT ?_ ?_);omega)|((with_reducible refine qDF ?_ ?_);omega)|((with_reducible refine qNT ?_ ?_);omega)|((with_reducible refine qNF ?_ ?_);omega)|((with_reducible refine qU8 ?_ ?_);omega)|((with_reducible refine qU32 ?_ ?_);omega)|((with_reducible refine qU64 ?_ ?_);omega)|((with_reducible refine qU16 ?_ ?_);omega))
    conv => whnf
    exact trim0 rfl (congrArg bv (hF1 c2).symm)
theorem isF_4 (id : Nat) (v : Int) (hv : v = (id : Int)) (rtr : Bool) (data : ByteArray) (B : Bool) (h2 : data.size ≤ 9223372036854775807) (c1 : ¬ id < 536870912) (hB : decide (Frm.ok ⟨true, id, rtr, data⟩) = B) : clRunX 5 tt outs0b tabIsF 2 F.ref3_Is [] [frmV true v rtr data] [] (fun x h => Trim 0 x h fun x h => x = bv B ∧ h = []) := by
  have ee := emp_iff data
  have ok := okE true 536870912 (if_pos rfl) id rtr data
  have hF2 : B = false := by rw [← hB]; exact decide_eq_false fun h => c1 (ok.1 h).2.2
  clear hB ok
  repeat((conv=>whnf);first|((with_reducible refine qS ?_ ?_ ?_);exact rfl;exact rfl)|with_reducible refine qB ?_|((with_reducible refine qI ?_ ?_);omega)|((with_reducible refine qDT ?_ ?_);omega)|((with_reducible refine qDF ?_ ?_);omega)|((with_reducible refine qNT ?_ ?_);omega)|((with_reducible refine qNF ?_ ?_);omega)|((with_reducible refine qU8 ?_ ?_);omega)|((with_reducible refine qU32 ?_ ?_);omega)|((with_reducible refine qU64 ?_ ?_);omega)|((with_reducible refine qU16 ?_ ?_);omega))
  conv => whnf
  exact trim0 rfl (congrArg bv hF2.symm)
theorem isF_run (f : Frm) (hf : FIn f) : clRunX 5 tt outs0b tabIsF 2 F.ref3_Is [] [frmR f] [] (fun x h => Trim 0 x h fun x h => x = bv (decide f.ok) ∧ h = []) := by
  obtain ⟨ext, id, rtr, data⟩ := f
  have h2 : data.size ≤ 9223372036854775807 := hf.2
  show clRunX 5 tt outs0b tabIsF 2 F.ref3_Is [] [frmV ext (id : Int) rtr data] [] (fun x h => Trim 0 x h fun x h => x = bv (decide (Frm.mk ext id rtr data).ok) ∧ h = [])
  obtain ⟨v, hv⟩ : ∃ v : Int, v = (id : Int) := ⟨_, rfl⟩
  rw [← hv]
  generalize hB : decide (Frm.mk ext id rtr data).ok = B
  cases ext
  · exact (Classical.em (id < 2048)).elim (fun c => isF_1 id v hv rtr data B h2 c hB) (fun c => isF_2 id v hv rtr data B h2 c hB)
  · exact (Classical.em (id < 536870912)).elim (fun c => isF_3 id v hv rtr data B h2 c hB) (fun c => isF_4 id v hv rtr data B h2 c hB)
theorem isF_ok : ConOk Tryd.prog F.ref3_Is isFC := con_of_run (clRunX_ok (d := 5) ttOk outs0b_ok tabIsF_ok 2) (fn_enters (ok.ref3_Is (D := 5) u0 _ (clRunX_ok (d := 5) ttOk .nil TabOk.nil 1))) fun p hp => isF_run p hp
/-! ### What it is held against others by; its bits -/
abbrev arbC : Con Frm := RoCon (fun p => [frmR p]) (fun _ => []) (fun p => p.ok) fun p => sv (bs (arb p))
theorem arb_use {f : Frm} {h : Heap} {K : R → Heap → Prop} (hf : f.ok) (hk : K (sv (bs (arb f))) h) : AskC arbC [frmR f] h K :=
  .use f [] hf rfl trivial ⟨⟨.inl rfl, .inl rfl, .inl rfl, .inl rfl, trivial⟩, trivial⟩ hk
theorem ok_in {f : Frm} (h : f.ok) : FIn f := by
  obtain ⟨_, h2, h3⟩ := h
  refine ⟨?_, by omega⟩
  cases hx : f.ext
  · rw [hx, if_neg (show ¬ (false = true) by simp)] at h3; omega
  · rw [hx, if_pos rfl] at h3; omega
abbrev outsArb : List (FuncId × Cx) := [(F.ref3_Is, AskC isFC), (F.ref1_Bit, AskC bitC), (F.ref1_Of, AskC ofC)]
theorem outsArb_ok : OutsOk Tryd.prog outsArb := .cons (ask_ok isF_ok) (.cons (ask_ok bit_ok) (.cons (ask_ok ofb_ok) .nil))
noncomputable abbrev tabArb : List (FuncId × Eng.Fn) := [(F.ref3_Arb, fn.ref3_Arb u0)]
theorem tabArb_ok {d : Nat} : TabOk d tabArb tt := .cons (ok.ref3_Arb u0) (TabOk.nil)
theorem shr18 (n : Nat) : (n : Int).fdiv (2 ^ min (Int.toNat 18) IntKind.u32.bits) = ((n / 262144 : Nat) : Int) := by
  rw [show min (Int.toNat 18) IntKind.u32.bits = 18 from rfl, shr_n]
theorem bs0 : (⟨#[48]⟩ : ByteArray) = bs [false] := rfl
theorem bs11 : (⟨#[49, 49]⟩ : ByteArray) = bs [true, true] := rfl
theorem arb_run (ext : Bool) (id : Nat) (v : Int) (hv : v = (id : Int)) (rtr : Bool) (data : ByteArray) (hf : (Frm.mk ext id rtr data).ok) : clRunX 6 tt outsArb tabArb 2 F.ref3_Arb [] [frmV ext v rtr data] ([]) (fun x h => Trim 0 x h fun x h => x = sv (bs (arb ⟨ext, id, rtr, data⟩)) ∧ h = []) := by
  have hin := ok_in hf
  obtain ⟨h1, h2⟩ := hin
  have h1 : id < 4294967296 := h1
  subst hv
  repeat((conv=>whnf);first|((with_reducible refine qS ?_ ?_ ?_);exact rfl;exact rfl)|with_reducible refine qB ?_|((with_reducible refine qI ?_ ?_);omega)|((with_reducible refine qDT ?_ ?_);omega)|((with_reducible refine qDF ?_ ?_);omega)|((with_reducible refine qNT ?_ ?_);omega)|((with_reducible refine qNF ?_ ?_);omega)|((with_reducible refine qU8 ?_ ?_);omega)|((with_reducible refine qU32 ?_ ?_);omega)|((with_reducible refine qU64 ?_ ?_);omega)|((with_reducible refine qU16 ?_ ?_);omega))
  conv => whnf
  refine isF_use (f := ⟨ext, id, rtr, data⟩) (ok_in hf) ?_
  rw [decide_eq_true hf]
  repeat((conv=>whnf);first|((with_reducible refine qS ?_ ?_ ?_);exact rfl;exact rfl)|with_reducible refine qB ?_|((with_reducible refine qI ?_ ?_);omega)|((with_reducible refine qDT ?_ ?_);omega)|((with_reducible refine qDF ?_ ?_);omega)|((with_reducible refine qNT ?_ ?_);omega)|((with_reducible refine qNF ?_ ?_);omega)|((with_reducible refine qU8 ?_ ?_);omega)|((with_reducible refine qU32 ?_ ?_);omega)|((with_reducible refine qU64 ?_ ?_);omega)|((with_reducible refine qU16 ?_ ?_);omega))
  conv => whnf
  refine bit_use ?_
  cases ext
  · repeat((conv=>whnf);first|((with_reducible refine qS ?_ ?_ ?_);exact rfl;exact rfl)|with_reducible refine qB ?_|((with_reducible refine qI ?_ ?_);omega)|((with_reducible refine qDT ?_ ?_);omega)|((with_reducible refine qDF ?_ ?_);omega)|((with_reducible refine qNT ?_ ?_);omega)|((with_reducible refine qNF ?_ ?_);omega)|((with_reducible refine qU8 ?_ ?_);omega)|((with_reducible refine qU32 ?_ ?_);omega)|((with_reducible refine qU64 ?_ ?_);omega)|((with_reducible refine qU16 ?_ ?_);omega))
    conv => whnf
    refine of_use (w := 11) (by omega) (by omega) ?_
    have z1 := bs_size (ofN id 11)
    have z2 := bs_size [rtr]
    have z3 := bs_size [false]
    rw [ofN_len] at z1
    rw [show [rtr].length = 1 from rfl] at z2
    rw [show [false].length = 1 from rfl] at z3
    rw [bs0]
    have z4 : (bs [false] ++ bs (ofN id 11)).size = 12 := by rw [bs_app, bs_size, List.length_append, ofN_len]; rfl
    have z5 : (bs [false] ++ bs (ofN id 11) ++ bs [rtr]).size = 13 := by rw [bs_app, bs_app, bs_size, List.length_append, List.length_append, ofN_len]; rfl
    repeat((conv=>whnf);first|((with_reducible refine qS ?_ ?_ ?_);exact rfl;exact rfl)|with_reducible refine qB ?_|((with_reducible refine qI ?_ ?_);omega)|((with_reducible refine qDT ?_ ?_);omega)|((with_reducible refine qDF ?_ ?_);omega)|((with_reducible refine qNT ?_ ?_);omega)|((with_reducible refine qNF ?_ ?_);omega)|((with_reducible refine qU8 ?_ ?_);omega)|((with_reducible refine qU32 ?_ ?_);omega)|((with_reducible refine qU64 ?_ ?_);omega)|((with_reducible refine qU16 ?_ ?_);omega))
    conv => whnf
    refine trim0 rfl (congrArg sv ?_)
    rw [bs_app, bs_app, bs_app]
    unfold arb
    simp
  · have hid : id < 536870912 := by
      have := ((okE true 536870912 (if_pos rfl) id rtr data).1 hf).2.2
      exact this
    have z1 := bs_size (ofN (id / 262144) 11)
    have z3 := bs_size [false]
    have z4 : (bs [false] ++ bs (ofN (id / 262144) 11)).size = 12 := by rw [bs_app, bs_size, List.length_append, ofN_len]; rfl
    have z6 : (bs [true, true]).size = 2 := bs_size _
    have z5 : (bs [false] ++ bs (ofN (id / 262144) 11) ++ bs [true, true]).size = 14 := by rw [bs_app, bs_app, bs_size, List.length_append, List.length_append, ofN_len]; rfl
    have z7 : (bs (ofN id 18)).size = 18 := by rw [bs_size, ofN_len]
    have z8 : (bs [false] ++ bs (ofN (id / 262144) 11) ++ bs [true, true] ++ bs (ofN id 18)).size = 32 := by rw [bs_app, bs_app, bs_app, bs_size, List.length_append, List.length_append, List.length_append, ofN_len, ofN_len]; rfl
    have z9 : (bs [rtr]).size = 1 := bs_size _
    rw [ofN_len] at z1
    rw [show [false].length = 1 from rfl] at z3
    repeat((conv=>whnf);first|((with_reducible refine qS ?_ ?_ ?_);exact rfl;exact rfl)|with_reducible refine qB ?_|((with_reducible refine qI ?_ ?_);omega)|((with_reducible refine qDT ?_ ?_);omega)|((with_reducible refine qDF ?_ ?_);omega)|((with_reducible refine qNT ?_ ?_);omega)|((with_reducible refine qNF ?_ ?_);omega)|((with_reducible refine qU8 ?_ ?_);omega)|((with_reducible refine qU32 ?_ ?_);omega)|((with_reducible refine qU64 ?_ ?_);omega)|((with_reducible refine qU16 ?_ ?_);omega))
    conv => whnf
    rw [shr18]
    repeat((conv=>whnf);first|((with_reducible refine qS ?_ ?_ ?_);exact rfl;exact rfl)|with_reducible refine qB ?_|((with_reducible refine qI ?_ ?_);omega)|((with_reducible refine qDT ?_ ?_);omega)|((with_reducible refine qDF ?_ ?_);omega)|((with_reducible refine qNT ?_ ?_);omega)|((with_reducible refine qNF ?_ ?_);omega)|((with_reducible refine qU8 ?_ ?_);omega)|((with_reducible refine qU32 ?_ ?_);omega)|((with_reducible refine qU64 ?_ ?_);omega)|((with_reducible refine qU16 ?_ ?_);omega))
    conv => whnf
    refine of_use (w := 11) (by omega) (by omega) ?_
    rw [bs0, bs11]
    repeat((conv=>whnf);first|((with_reducible refine qS ?_ ?_ ?_);exact rfl;exact rfl)|with_reducible refine qB ?_|((with_reducible refine qI ?_ ?_);omega)|((with_reducible refine qDT ?_ ?_);omega)|((with_reducible refine qDF ?_ ?_);omega)|((with_reducible refine qNT ?_ ?_);omega)|((with_reducible refine qNF ?_ ?_);omega)|((with_reducible refine qU8 ?_ ?_);omega)|((with_reducible refine qU32 ?_ ?_);omega)|((with_reducible refine qU64 ?_ ?_);omega)|((with_reducible refine qU16 ?_ ?_);omega))
    conv => whnf
    try rw [shr18]
    repeat((conv=>whnf);first|((with_reducible refine qS ?_ ?_ ?_);exact rfl;exact rfl)|with_reducible refine qB ?_|((with_reducible refine qI ?_ ?_);omega)|((with_reducible refine qDT ?_ ?_);omega)|((with_reducible refine qDF ?_ ?_);omega)|((with_reducible refine qNT ?_ ?_);omega)|((with_reducible refine qNF ?_ ?_);omega)|((with_reducible refine qU8 ?_ ?_);omega)|((with_reducible refine qU32 ?_ ?_);omega)|((with_reducible refine qU64 ?_ ?_);omega)|((with_reducible refine qU16 ?_ ?_);omega))
    conv => whnf
    refine of_use (w := 18) (by omega) (by omega) ?_
    repeat((conv=>whnf);first|((with_reducible refine qS ?_ ?_ ?_);exact rfl;exact rfl)|with_reducible refine qB ?_|((with_reducible refine qI ?_ ?_);omega)|((with_reducible refine qDT ?_ ?_);omega)|((with_reducible refine qDF ?_ ?_);omega)|((with_reducible refine qNT ?_ ?_);omega)|((with_reducible refine qNF ?_ ?_);omega)|((with_reducible refine qU8 ?_ ?_);omega)|((with_reducible refine qU32 ?_ ?_);omega)|((with_reducible refine qU64 ?_ ?_);omega)|((with_reducible refine qU16 ?_ ?_);omega))
    conv => whnf
    try rw [shr18]
    repeat((conv=>whnf);first|((with_reducible refine qS ?_ ?_ ?_);exact rfl;exact rfl)|with_reducible refine qB ?_|((with_reducible refine qI ?_ ?_);omega)|((with_reducible refine qDT ?_ ?_);omega)|((with_reducible refine qDF ?_ ?_);omega)|((with_reducible refine qNT ?_ ?_);omega)|((with_reducible refine qNF ?_ ?_);omega)|((with_reducible refine qU8 ?_ ?_);omega)|((with_reducible refine qU32 ?_ ?_);omega)|((with_reducible refine qU64 ?_ ?_);omega)|((with_reducible refine qU16 ?_ ?_);omega))
    conv => whnf
    refine trim0 rfl (congrArg sv ?_)
    rw [bs_app, bs_app, bs_app, bs_app]
    unfold arb
    simp
theorem arb_ok : ConOk Tryd.prog F.ref3_Arb arbC := con_of_run (clRunX_ok (d := 6) ttOk outsArb_ok tabArb_ok 2) (fn_enters (ok.ref3_Arb (D := 6) u0 _ (clRunX_ok (d := 6) ttOk .nil TabOk.nil 1))) fun p hp => arb_run p.ext p.id p.id rfl p.rtr p.data hp
/-! ### Its bits up to the sum -/
abbrev bodC : Con Frm := RoCon (fun p => [frmR p]) (fun _ => []) (fun p => p.ok) fun p => sv (bs (body p))
theorem bod_use {f : Frm} {h : Heap} {K : R → Heap → Prop} (hf : f.ok) (hk : K (sv (bs (body f))) h) : AskC bodC [frmR f] h K :=
  .use f [] hf rfl trivial ⟨⟨.inl rfl, .inl rfl, .inl rfl, .inl rfl, trivial⟩, trivial⟩ hk
abbrev outsBod : List (FuncId × Cx) := [(F.ref3_Is, AskC isFC), (F.ref3_Arb, AskC arbC), (F.ref1_Of, AskC ofC), (F.ref1_FromBytes, AskC byC)]
theorem outsBod_ok : OutsOk Tryd.prog outsBod := .cons (ask_ok isF_ok) (.cons (ask_ok arb_ok) (.cons (ask_ok ofb_ok) (.cons (ask_ok by_ok) .nil)))
noncomputable abbrev tabBod : List (FuncId × Eng.Fn) := [(F.ref3_Body, fn.ref3_Body u0)]
theorem tabBod_ok {d : Nat} : TabOk d tabBod tt := .cons (ok.ref3_Body u0) (TabOk.nil)
theorem arb_len (f : Frm) : (arb f).length ≤ 33 := by
  unfold arb
  split <;> simp [ofN_len]
theorem bod_run (ext : Bool) (id : Nat) (v : Int) (hv : v = (id : Int)) (rtr : Bool) (data : ByteArray) (hf : (Frm.mk ext id rtr data).ok) : clRunX 6 tt outsBod tabBod 2 F.ref3_Body [] [frmV ext v rtr data] ([]) (fun x h => Trim 0 x h fun x h => x = sv (bs (body ⟨ext, id, rtr, data⟩)) ∧ h = []) := by
  have hd : data.size ≤ 8 := hf.2.1
  subst hv
  repeat((conv=>whnf);first|((with_reducible refine qS ?_ ?_ ?_);exact rfl;exact rfl)|with_reducible refine qB ?_|((with_reducible refine qI ?_ ?_);omega)|((with_reducible refine qDT ?_ ?_);omega)|((with_reducible refine qDF ?_ ?_);omega)|((with_reducible refine qNT ?_ ?_);omega)|((with_reducible refine qNF ?_ ?_);omega)|((with_reducible refine qU8 ?_ ?_);omega)|((with_reducible refine qU32 ?_ ?_);omega)|((with_reducible refine qU64 ?_ ?_);omega)|((with_reducible refine qU16 ?_ ?_);omega))
  conv => whnf
  refine isF_use (f := ⟨ext, id, rtr, data⟩) (ok_in hf) ?_
  rw [decide_eq_true hf]
  repeat((conv=>whnf);first|((with_reducible refine qS ?_ ?_ ?_);exact rfl;exact rfl)|with_reducible refine qB ?_|((with_reducible refine qI ?_ ?_);omega)|((with_reducible refine qDT ?_ ?_);omega)|((with_reducible refine qDF ?_ ?_);omega)|((with_reducible refine qNT ?_ ?_);omega)|((with_reducible refine qNF ?_ ?_);omega)|((with_reducible refine qU8 ?_ ?_);omega)|((with_reducible refine qU32 ?_ ?_);omega)|((with_reducible refine qU64 ?_ ?_);omega)|((with_reducible refine qU16 ?_ ?_);omega))
  conv => whnf
  refine arb_use (f := ⟨ext, id, rtr, data⟩) hf ?_
  have ha := arb_len ⟨ext, id, rtr, data⟩
  have hz := bs_size (arb ⟨ext, id, rtr, data⟩)
  have hB : body ⟨ext, id, rtr, data⟩ = arb ⟨ext, id, rtr, data⟩ ++ (if ext then [false, false] else [false]) ++ ofN data.size 4 ++ byB data := rfl
  generalize arb ⟨ext, id, rtr, data⟩ = A at *
  rw [bs0]
  have z1 : (bs [false]).size = 1 := bs_size _
  have z2 : (bs A ++ bs [false]).size = A.length + 1 := by rw [bs_app, bs_size, List.length_append]; rfl
  have z3 : (bs A ++ bs [false] ++ bs [false]).size = A.length + 2 := by rw [bs_app, bs_app, bs_size, List.length_append, List.length_append]; rfl
  have z4 : (bs (ofN data.size 4)).size = 4 := by rw [bs_size, ofN_len]
  have z5 : (bs A ++ bs [false] ++ bs (ofN data.size 4)).size = A.length + 5 := by rw [bs_app, bs_app, bs_size, List.length_append, List.length_append, ofN_len]; rfl
  have z6 : (bs A ++ bs [false] ++ bs [false] ++ bs (ofN data.size 4)).size = A.length + 6 := by rw [bs_app, bs_app, bs_app, bs_size, List.length_append, List.length_append, List.length_append, ofN_len]; rfl
  have z7 : (bs (byB data)).size = 8 * data.size := by rw [bs_size, byB_len]
  cases ext
  · repeat((conv=>whnf);first|((with_reducible refine qS ?_ ?_ ?_);exact rfl;exact rfl)|with_reducible refine qB ?_|((with_reducible refine qI ?_ ?_);omega)|((with_reducible refine qDT ?_ ?_);omega)|((with_reducible refine qDF ?_ ?_);omega)|((with_reducible refine qNT ?_ ?_);omega)|((with_reducible refine qNF ?_ ?_);omega)|((with_reducible refine qU8 ?_ ?_);omega)|((with_reducible refine qU32 ?_ ?_);omega)|((with_reducible refine qU64 ?_ ?_);omega)|((with_reducible refine qU16 ?_ ?_);omega))
    conv => whnf
    refine of_use (n := data.size) (w := 4) (by omega) (by omega) ?_
    repeat((conv=>whnf);first|((with_reducible refine qS ?_ ?_ ?_);exact rfl;exact rfl)|with_reducible refine qB ?_|((with_reducible refine qI ?_ ?_);omega)|((with_reducible refine qDT ?_ ?_);omega)|((with_reducible refine qDF ?_ ?_);omega)|((with_reducible refine qNT ?_ ?_);omega)|((with_reducible refine qNF ?_ ?_);omega)|((with_reducible refine qU8 ?_ ?_);omega)|((with_reducible refine qU32 ?_ ?_);omega)|((with_reducible refine qU64 ?_ ?_);omega)|((with_reducible refine qU16 ?_ ?_);omega))
    conv => whnf
    refine by_use (by omega) ?_
    repeat((conv=>whnf);first|((with_reducible refine qS ?_ ?_ ?_);exact rfl;exact rfl)|with_reducible refine qB ?_|((with_reducible refine qI ?_ ?_);omega)|((with_reducible refine qDT ?_ ?_);omega)|((with_reducible refine qDF ?_ ?_);omega)|((with_reducible refine qNT ?_ ?_);omega)|((with_reducible refine qNF ?_ ?_);omega)|((with_reducible refine qU8 ?_ ?_);omega)|((with_reducible refine qU32 ?_ ?_);omega)|((with_reducible refine qU64 ?_ ?_);omega)|((with_reducible refine qU16 ?_ ?_);omega))
    conv => whnf
    refine trim0 rfl (congrArg sv ?_)
    rw [bs_app, bs_app, bs_app, hB]; rfl
  · repeat((conv=>whnf);first|((with_reducible refine qS ?_ ?_ ?_);exact rfl;exact rfl)|with_reducible refine qB ?_|((with_reducible refine qI ?_ ?_);omega)|((with_reducible refine qDT ?_ ?_);omega)|((with_reducible refine qDF ?_ ?_);omega)|((with_reducible refine qNT ?_ ?_);omega)|((with_reducible refine qNF ?_ ?_);omega)|((with_reducible refine qU8 ?_ ?_);omega)|((with_reducible refine qU32 ?_ ?_);omega)|((with_reducible refine qU64 ?_ ?_);omega)|((with_reducible refine qU16 ?_ ?_);omega))
    conv => whnf
    refine of_use (n := data.size) (w := 4) (by omega) (by omega) ?_
    repeat((conv=>whnf);first|((with_reducible refine qS ?_ ?_ ?_);exact rfl;exact rfl)|with_reducible refine qB ?_|((with_reducible refine qI ?_ ?_);omega)|((with_reducible refine qDT ?_ ?_);omega)|((with_reducible refine qDF ?_ ?_);omega)|((with_reducible refine qNT ?_ ?_);omega)|((with_reducible refine qNF ?_ ?_);omega)|((with_reducible refine qU8 ?_ ?_);omega)|((with_reducible refine qU32 ?_ ?_);omega)|((with_reducible refine qU64 ?_ ?_);omega)|((with_reducible refine qU16 ?_ ?_);omega))
    conv => whnf
    refine by_use (by omega) ?_
    repeat((conv=>whnf);first|((with_reducible refine qS ?_ ?_ ?_);exact rfl;exact rfl)|with_reducible refine qB ?_|((with_reducible refine qI ?_ ?_);omega)|((with_reducible refine qDT ?_ ?_);omega)|((with_reducible refine qDF ?_ ?_);omega)|((with_reducible refine qNT ?_ ?_);omega)|((with_reducible refine qNF ?_ ?_);omega)|((with_reducible refine qU8 ?_ ?_);omega)|((with_reducible refine qU32 ?_ ?_);omega)|((with_reducible refine qU64 ?_ ?_);omega)|((with_reducible refine qU16 ?_ ?_);omega))
    conv => whnf
    refine trim0 rfl (congrArg sv ?_)
    rw [bs_app, bs_app, bs_app, bs_app, hB]
    congr 1
    simp
theorem bod_ok : ConOk Tryd.prog F.ref3_Body bodC := con_of_run (clRunX_ok (d := 6) ttOk outsBod_ok tabBod_ok 2) (fn_enters (ok.ref3_Body (D := 6) u0 _ (clRunX_ok (d := 6) ttOk .nil TabOk.nil 1))) fun p hp => bod_run p.ext p.id p.id rfl p.rtr p.data hp
/-! ### Its bits on the wire -/
abbrev encC : Con Frm := RoCon (fun p => [frmR p]) (fun _ => []) FIn fun p => sv (enc p)
theorem enc_use {f : Frm} {h : Heap} {K : R → Heap → Prop} (hf : FIn f) (hk : K (sv (enc f)) h) : AskC encC [frmR f] h K :=
  .use f [] hf rfl trivial ⟨⟨.inl rfl, .inl rfl, .inl rfl, .inl rfl, trivial⟩, trivial⟩ hk
abbrev outsEnc : List (FuncId × Cx) := [(F.ref3_Is, AskC isFC), (F.ref3_Body, AskC bodC), (F.ref1_CRC, AskC crcC), (F.ref1_Of, AskC ofC), (F.ref1_Stuff, AskC stuC)]
theorem outsEnc_ok : OutsOk Tryd.prog outsEnc := .cons (ask_ok isF_ok) (.cons (ask_ok bod_ok) (.cons (ask_ok crc_ok) (.cons (ask_ok ofb_ok) (.cons (ask_ok stu_ok) .nil))))
noncomputable abbrev tabEnc : List (FuncId × Eng.Fn) := [(F.ref3_Encode, fn.ref3_Encode u0)]
theorem tabEnc_ok {d : Nat} : TabOk d tabEnc tt := .cons (ok.ref3_Encode u0) (TabOk.nil)
theorem bs10 : (⟨#[49, 49, 49, 49, 49, 49, 49, 49, 49, 49]⟩ : ByteArray) = bs (List.replicate 10 true) := rfl
theorem enc_run (ext : Bool) (id : Nat) (v : Int) (hv : v = (id : Int)) (rtr : Bool) (data : ByteArray) (hf : FIn ⟨ext, id, rtr, data⟩) : clRunX 6 tt outsEnc tabEnc 2 F.ref3_Encode [] [frmV ext v rtr data] ([]) (fun x h => Trim 0 x h fun x h => x = sv (enc ⟨ext, id, rtr, data⟩) ∧ h = []) := by
  subst hv
  repeat((conv=>whnf);first|((with_reducible refine qS ?_ ?_ ?_);exact rfl;exact rfl)|with_reducible refine qB ?_|((with_reducible refine qI ?_ ?_);omega)|((with_reducible refine qDT ?_ ?_);omega)|((with_reducible refine qDF ?_ ?_);omega)|((with_reducible refine qNT ?_ ?_);omega)|((with_reducible refine qNF ?_ ?_);omega)|((with_reducible refine qU8 ?_ ?_);omega)|((with_reducible refine qU32 ?_ ?_);omega)|((with_reducible refine qU64 ?_ ?_);omega)|((with_reducible refine qU16 ?_ ?_);omega))
  conv => whnf
  refine isF_use (f := ⟨ext, id, rtr, data⟩) hf ?_
  by_cases hok : (Frm.mk ext id rtr data).ok
  rotate_left
  · rw [decide_eq_false hok]
    repeat((conv=>whnf);first|((with_reducible refine qS ?_ ?_ ?_);exact rfl;exact rfl)|with_reducible refine qB ?_|((with_reducible refine qI ?_ ?_);omega)|((with_reducible refine qDT ?_ ?_);omega)|((with_reducible refine qDF ?_ ?_);omega)|((with_reducible refine qNT ?_ ?_);omega)|((with_reducible refine qNF ?_ ?_);omega)|((with_reducible refine qU8 ?_ ?_);omega)|((with_reducible refine qU32 ?_ ?_);omega)|((with_reducible refine qU64 ?_ ?_);omega)|((with_reducible refine qU16 ?_ ?_);omega))
    conv => whnf
    refine trim0 rfl (congrArg sv ?_)
    unfold enc
    rw [if_neg hok]; rfl
  rw [decide_eq_true hok]
  have hE : enc ⟨ext, id, rtr, data⟩ = bs (encB ⟨ext, id, rtr, data⟩) := if_pos hok
  have hE2 : encB ⟨ext, id, rtr, data⟩ = stuff (body ⟨ext, id, rtr, data⟩ ++ ofN (crc (body ⟨ext, id, rtr, data⟩)) 15) ++ List.replicate 10 true := rfl
  have hlen := body_len ⟨ext, id, rtr, data⟩
  have hd : data.size ≤ 8 := hok.2.1
  have ht : thr ⟨ext, id, rtr, data⟩ ≤ 39 := by unfold thr; split <;> omega
  have hlen : (body ⟨ext, id, rtr, data⟩).length ≤ 103 := by
    rw [hlen]; show thr _ + 8 * data.size ≤ 103; omega
  repeat((conv=>whnf);first|((with_reducible refine qS ?_ ?_ ?_);exact rfl;exact rfl)|with_reducible refine qB ?_|((with_reducible refine qI ?_ ?_);omega)|((with_reducible refine qDT ?_ ?_);omega)|((with_reducible refine qDF ?_ ?_);omega)|((with_reducible refine qNT ?_ ?_);omega)|((with_reducible refine qNF ?_ ?_);omega)|((with_reducible refine qU8 ?_ ?_);omega)|((with_reducible refine qU32 ?_ ?_);omega)|((with_reducible refine qU64 ?_ ?_);omega)|((with_reducible refine qU16 ?_ ?_);omega))
  conv => whnf
  refine bod_use (f := ⟨ext, id, rtr, data⟩) hok ?_
  rw [hE, hE2]
  generalize body ⟨ext, id, rtr, data⟩ = B at *
  have zb := bs_size B
  repeat((conv=>whnf);first|((with_reducible refine qS ?_ ?_ ?_);exact rfl;exact rfl)|with_reducible refine qB ?_|((with_reducible refine qI ?_ ?_);omega)|((with_reducible refine qDT ?_ ?_);omega)|((with_reducible refine qDF ?_ ?_);omega)|((with_reducible refine qNT ?_ ?_);omega)|((with_reducible refine qNF ?_ ?_);omega)|((with_reducible refine qU8 ?_ ?_);omega)|((with_reducible refine qU32 ?_ ?_);omega)|((with_reducible refine qU64 ?_ ?_);omega)|((with_reducible refine qU16 ?_ ?_);omega))
  conv => whnf
  refine crc_use (by omega) ?_
  rw [rd_bs]
  have hc := crc_lt B
  generalize hC : crc B = c at *
  repeat((conv=>whnf);first|((with_reducible refine qS ?_ ?_ ?_);exact rfl;exact rfl)|with_reducible refine qB ?_|((with_reducible refine qI ?_ ?_);omega)|((with_reducible refine qDT ?_ ?_);omega)|((with_reducible refine qDF ?_ ?_);omega)|((with_reducible refine qNT ?_ ?_);omega)|((with_reducible refine qNF ?_ ?_);omega)|((with_reducible refine qU8 ?_ ?_);omega)|((with_reducible refine qU32 ?_ ?_);omega)|((with_reducible refine qU64 ?_ ?_);omega)|((with_reducible refine qU16 ?_ ?_);omega))
  conv => whnf
  refine of_use (n := c) (w := 15) (by omega) (by omega) ?_
  have z1 : (bs (ofN c 15)).size = 15 := by rw [bs_size, ofN_len]
  repeat((conv=>whnf);first|((with_reducible refine qS ?_ ?_ ?_);exact rfl;exact rfl)|with_reducible refine qB ?_|((with_reducible refine qI ?_ ?_);omega)|((with_reducible refine qDT ?_ ?_);omega)|((with_reducible refine qDF ?_ ?_);omega)|((with_reducible refine qNT ?_ ?_);omega)|((with_reducible refine qNF ?_ ?_);omega)|((with_reducible refine qU8 ?_ ?_);omega)|((with_reducible refine qU32 ?_ ?_);omega)|((with_reducible refine qU64 ?_ ?_);omega)|((with_reducible refine qU16 ?_ ?_);omega))
  conv => whnf
  rw [bs_app]
  refine stu_use (by rw [bs_size, List.length_append, ofN_len]; omega) ?_
  rw [rd_bs, bs10]
  have z2 := stuffGo_len run0 (B ++ ofN c 15)
  rw [List.length_append, ofN_len] at z2
  have z3 := bs_size (stuff (B ++ ofN c 15))
  have z4 : (bs (List.replicate 10 true)).size = 10 := bs_size _
  have z2 : (stuff (B ++ ofN c 15)).length ≤ 2 * (B.length + 15) := z2
  repeat((conv=>whnf);first|((with_reducible refine qS ?_ ?_ ?_);exact rfl;exact rfl)|with_reducible refine qB ?_|((with_reducible refine qI ?_ ?_);omega)|((with_reducible refine qDT ?_ ?_);omega)|((with_reducible refine qDF ?_ ?_);omega)|((with_reducible refine qNT ?_ ?_);omega)|((with_reducible refine qNF ?_ ?_);omega)|((with_reducible refine qU8 ?_ ?_);omega)|((with_reducible refine qU32 ?_ ?_);omega)|((with_reducible refine qU64 ?_ ?_);omega)|((with_reducible refine qU16 ?_ ?_);omega))
  conv => whnf
  refine trim0 rfl (congrArg sv ?_)
  rw [bs_app]
theorem enc_ok : ConOk Tryd.prog F.ref3_Encode encC := con_of_run (clRunX_ok (d := 6) ttOk outsEnc_ok tabEnc_ok 2) (fn_enters (ok.ref3_Encode (D := 6) u0 _ (clRunX_ok (d := 6) ttOk .nil TabOk.nil 1))) fun p hp => enc_run p.ext p.id p.id rfl p.rtr p.data hp
end Go.Proofs.YtdeaigaafdnehaaDoor.Co
