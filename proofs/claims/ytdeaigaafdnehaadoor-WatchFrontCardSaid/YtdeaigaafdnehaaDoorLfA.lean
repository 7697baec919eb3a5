/- Layer 26: what is shared. -/
import Derived.Test.YtdeaigaafdnehaaDoorCbL
import Derived.Test.YtdeaigaafdnehaaDoorLgA
namespace Go.Proofs.YtdeaigaafdnehaaDoor.La
open Go Go.Eng Go.Proofs Go.Proofs.YtdeaigaafdnehaaDoor.Tb Go.Proofs.YtdeaigaafdnehaaDoor.Co Go.Pu
set_option maxRecDepth 100000
set_option maxHeartbeats 8000000
/-! ### Layer 26 -/
abbrev outs26 : List (FuncId × Cx) := [(F.ref3_Encode, AskC encC), (F.watch_Frames, AskC frsC), (F.watch_Quiet, AskC quC), (F.watch_Beats, AskC bsC)]
theorem outs26_ok : OutsOk Tryd.prog outs26 := .cons (ask_ok enc_ok) (.cons (ask_ok frs_ok) (.cons (ask_ok qu_ok) (.cons (ask_ok bs_ok) .nil)))
noncomputable abbrev tab26 : List (FuncId × Eng.Fn) := [(F.law26_known, fn.law26_known u0), (F.law26_least, fn.law26_least u0)]
theorem tab26_ok {d : Nat} : TabOk d tab26 tt := .cons (ok.law26_known u0) (.cons (ok.law26_least u0) (TabOk.nil))
def f26 : Frm := ⟨false, 5, false, ⟨#[120]⟩⟩
theorem f26_ok : f26.ok := by decide +kernel
abbrev o3 : ByteArray := ⟨#[49, 49, 49]⟩
theorem rd26 : rd (o3 ++ enc f26 ++ o3) = true :: true :: true :: (encB f26 ++ [true, true, true]) := by decide +kernel
theorem rw26 : rd (enc f26) = encB f26 ++ [] := by decide +kernel
theorem sz26 : (enc f26).size = (encB f26).length ∧ (encB f26).length ≤ 3000 ∧ 0 < (encB f26).length := by decide +kernel
theorem hd26 (r : List Bool) : ∃ l, encB f26 ++ r = false :: l := ⟨(encB f26).tail ++ r, by
  have : encB f26 = false :: (encB f26).tail := by decide +kernel
  rw [this]; rfl⟩
theorem fr_ones (n : Nat) : Fr [true, true, true] n [] := .one (.one (.one (.done _)))
theorem fr26 (r : List Bool) (n : Nat) (h : Fr r (n + (encB f26).length) []) : Fr (encB f26 ++ r) n [⟨n, (encB f26).length, f26, 0⟩] := by
  obtain ⟨l, hl⟩ := hd26 r
  have hd := dec_enc f26_ok r
  have hlen : (encB f26 ++ r).length = (encB f26).length + r.length := List.length_append
  have hdr : (encB f26 ++ r).drop (encB f26).length = r := List.drop_left
  rw [hl] at hd hlen hdr ⊢
  have hlen : l.length + 1 = (encB f26).length + r.length := hlen
  exact .ok hd sz26.2.2 (by omega) (by rw [hdr]; exact h)
theorem fr26a : Fr (rd (o3 ++ enc f26 ++ o3)) 0 [⟨3, (encB f26).length, f26, 0⟩] := by
  rw [rd26]
  exact .one (.one (.one (fr26 _ _ (fr_ones _))))
theorem fr26b : Fr (rd (enc f26)) 0 [⟨0, (encB f26).length, f26, 0⟩] := by
  rw [rw26]
  exact fr26 _ _ (.done _)
abbrev k26 : ByteArray := ⟨#[49, 48, 48, 48, 48, 48, 48, 49, 49, 49]⟩
abbrev l26 : List Bool := [false, false, false, false, false, true, true, true]
theorem fr26c : Fr (rd k26) 0 [⟨1, (dec (false :: l26)).2.1 + 1, frm0, 20⟩] := by
  have h1 : rd k26 = true :: false :: l26 := by decide +kernel
  have h2 : (dec (false :: l26)).2.2 = 20 ∧ (dec (false :: l26)).2.1 ≤ 8 := by decide +kernel
  rw [h1]
  refine .one (.err (f := (dec (false :: l26)).1) (n := (dec (false :: l26)).2.1) (e := 20) ?_ (by decide) (by decide) h2.2 (by show 8 < _; omega))
  rw [← h2.1]
def m26 : Mat := ⟨2, 3, 2, 120, 2, 64, 20, 16, 2, fun q => if q = 0 then 0 else 1, 2, fun q => if q = 0 then ⟨99, 2, false⟩ else ⟨50, 1, true⟩, 2, fun q => if q = 0 then ⟨1, 20, 40, 0, 1, 0⟩ else ⟨2, 50, 80, 0, 1, 0⟩⟩
theorem m26_ok : m26.Ok := by
  constructor <;> simp [m26, I64, U32] <;> intro i <;> split <;> simp
abbrev c26 : Caps := ⟨2, 2, 2, false, false, false⟩
theorem bs26 (N : Nat) : btsL m26 [⟨0, N, f26, 0⟩] 1 = [] := by
  have h : btB m26 ⟨0, N, f26, 0⟩ = false := by
    have : btOk m26 f26 = false := by decide +kernel
    unfold btB
    rw [this]; rfl
  show (if btB m26 ⟨0, N, f26, 0⟩ then _ else _) = _
  rw [h]; rfl
theorem snEq (x : Sn) (a n i z : Int) (e r : Bool) (d : ByteArray) : (decide ((x.at_ : Int) = a) && (decide ((x.n : Int) = n) && ((x.f.ext == e) && (decide ((x.f.id : Int) = i) && ((x.f.rtr == r) && (strEq x.f.data d && (decide ((x.e : Int) = z) && true))))))) = decide ((x.at_ : Int) = a ∧ (x.n : Int) = n ∧ x.f.ext = e ∧ (x.f.id : Int) = i ∧ x.f.rtr = r ∧ x.f.data = d ∧ (x.e : Int) = z) := by
  unfold strEq
  rw [Bool.eq_iff_iff]
  simp only [Bool.and_eq_true, decide_eq_true_eq, beq_iff_eq, and_true]
theorem known26_run : clRunX 7 tt outs26 tab26 4 F.law26_known [] [] [] (fun x _ => x = bv true) := by
  have hz := sz26
  have ha := fr26a
  have hb := fr26b
  obtain ⟨N, hN⟩ : ∃ N, (encB f26).length = N := ⟨_, rfl⟩
  obtain ⟨w, hw⟩ : ∃ w, enc f26 = w := ⟨_, rfl⟩
  rw [hN] at hz ha hb
  rw [hw] at hz ha hb
  have hs1 : (o3 ++ w).size ≤ 3003 := by rw [ByteArray.size_append]; show 3 + _ ≤ _; omega
  have hs2 : (o3 ++ w ++ o3).size ≤ 3006 := by rw [ByteArray.size_append]; show _ + 3 ≤ _; omega
  repeat((conv=>whnf);first|((with_reducible refine qS ?_ ?_ ?_);exact rfl;exact rfl)|with_reducible refine qB ?_|((with_reducible refine qI ?_ ?_);omega)|((with_reducible refine qDT ?_ ?_);omega)|((with_reducible refine qDF ?_ ?_);omega)|((with_reducible refine qNT ?_ ?_);omega)|((with_reducible refine qNF ?_ ?_);omega)|((with_reducible refine qU8 ?_ ?_);omega)|((with_reducible refine qU32 ?_ ?_);omega)|((with_reducible refine qU64 ?_ ?_);omega)|((with_reducible refine qU16 ?_ ?_);omega))
  conv => whnf
  refine enc_use (f := f26) (ok_in f26_ok) ?_
  rw [hw]
  repeat((conv=>whnf);first|((with_reducible refine qS ?_ ?_ ?_);exact rfl;exact rfl)|with_reducible refine qB ?_|((with_reducible refine qI ?_ ?_);omega)|((with_reducible refine qDT ?_ ?_);omega)|((with_reducible refine qDF ?_ ?_);omega)|((with_reducible refine qNT ?_ ?_);omega)|((with_reducible refine qNF ?_ ?_);omega)|((with_reducible refine qU8 ?_ ?_);omega)|((with_reducible refine qU32 ?_ ?_);omega)|((with_reducible refine qU64 ?_ ?_);omega)|((with_reducible refine qU16 ?_ ?_);omega))
  conv => whnf
  refine cT (decide_eq_true (by show 3 + w.size ≤ _; omega)) ?_
  repeat((conv=>whnf);first|((with_reducible refine qS ?_ ?_ ?_);exact rfl;exact rfl)|with_reducible refine qB ?_|((with_reducible refine qI ?_ ?_);omega)|((with_reducible refine qDT ?_ ?_);omega)|((with_reducible refine qDF ?_ ?_);omega)|((with_reducible refine qNT ?_ ?_);omega)|((with_reducible refine qNF ?_ ?_);omega)|((with_reducible refine qU8 ?_ ?_);omega)|((with_reducible refine qU32 ?_ ?_);omega)|((with_reducible refine qU64 ?_ ?_);omega)|((with_reducible refine qU16 ?_ ?_);omega))
  conv => whnf
  refine cT (decide_eq_true (by show (o3 ++ w).size + 3 ≤ _; omega)) ?_
  repeat((conv=>whnf);first|((with_reducible refine qS ?_ ?_ ?_);exact rfl;exact rfl)|with_reducible refine qB ?_|((with_reducible refine qI ?_ ?_);omega)|((with_reducible refine qDT ?_ ?_);omega)|((with_reducible refine qDF ?_ ?_);omega)|((with_reducible refine qNT ?_ ?_);omega)|((with_reducible refine qNF ?_ ?_);omega)|((with_reducible refine qU8 ?_ ?_);omega)|((with_reducible refine qU32 ?_ ?_);omega)|((with_reducible refine qU64 ?_ ?_);omega)|((with_reducible refine qU16 ?_ ?_);omega))
  conv => whnf
  refine frs_ask (s := o3 ++ w ++ o3) (W := [⟨3, N, f26, 0⟩]) (by omega) ha fun c1 hc1 => ?_
  repeat((conv=>whnf);first|((with_reducible refine qS ?_ ?_ ?_);exact rfl;exact rfl)|with_reducible refine qB ?_|((with_reducible refine qI ?_ ?_);omega)|((with_reducible refine qDT ?_ ?_);omega)|((with_reducible refine qDF ?_ ?_);omega)|((with_reducible refine qNT ?_ ?_);omega)|((with_reducible refine qNF ?_ ?_);omega)|((with_reducible refine qU8 ?_ ?_);omega)|((with_reducible refine qU32 ?_ ?_);omega)|((with_reducible refine qU64 ?_ ?_);omega)|((with_reducible refine qU16 ?_ ?_);omega))
  conv => whnf
  refine frs_ask (s := k26) (W := [⟨1, (dec (false :: l26)).2.1 + 1, frm0, 20⟩]) (by decide) fr26c fun c2 hc2 => ?_
  obtain ⟨E, hE⟩ : ∃ E, (dec (false :: l26)).2.1 + 1 = E := ⟨_, rfl⟩
  rw [hE]
  repeat((conv=>whnf);first|((with_reducible refine qS ?_ ?_ ?_);exact rfl;exact rfl)|with_reducible refine qB ?_|((with_reducible refine qI ?_ ?_);omega)|((with_reducible refine qDT ?_ ?_);omega)|((with_reducible refine qDF ?_ ?_);omega)|((with_reducible refine qNT ?_ ?_);omega)|((with_reducible refine qNF ?_ ?_);omega)|((with_reducible refine qU8 ?_ ?_);omega)|((with_reducible refine qU32 ?_ ?_);omega)|((with_reducible refine qU64 ?_ ?_);omega)|((with_reducible refine qU16 ?_ ?_);omega))
  conv => whnf
  rw [snEq, decide_eq_true (by
    show ((3 : Nat) : Int) = 3 ∧ (N : Int) = (w.size : Int) ∧ false = false ∧ ((5 : Nat) : Int) = 5 ∧ false = false ∧ (⟨#[120]⟩ : ByteArray) = ⟨#[120]⟩ ∧ ((0 : Nat) : Int) = 0
    exact ⟨rfl, by omega, rfl, rfl, rfl, rfl, rfl⟩)]
  repeat((conv=>whnf);first|((with_reducible refine qS ?_ ?_ ?_);exact rfl;exact rfl)|with_reducible refine qB ?_|((with_reducible refine qI ?_ ?_);omega)|((with_reducible refine qDT ?_ ?_);omega)|((with_reducible refine qDF ?_ ?_);omega)|((with_reducible refine qNT ?_ ?_);omega)|((with_reducible refine qNF ?_ ?_);omega)|((with_reducible refine qU8 ?_ ?_);omega)|((with_reducible refine qU32 ?_ ?_);omega)|((with_reducible refine qU64 ?_ ?_);omega)|((with_reducible refine qU16 ?_ ?_);omega))
  conv => whnf
  refine qu_use (by decide) ?_
  rw [show qn (rd ⟨#[48, 48, 49, 49]⟩) = 2 by decide]
  repeat((conv=>whnf);first|((with_reducible refine qS ?_ ?_ ?_);exact rfl;exact rfl)|with_reducible refine qB ?_|((with_reducible refine qI ?_ ?_);omega)|((with_reducible refine qDT ?_ ?_);omega)|((with_reducible refine qDF ?_ ?_);omega)|((with_reducible refine qNT ?_ ?_);omega)|((with_reducible refine qNF ?_ ?_);omega)|((with_reducible refine qU8 ?_ ?_);omega)|((with_reducible refine qU32 ?_ ?_);omega)|((with_reducible refine qU64 ?_ ?_);omega)|((with_reducible refine qU16 ?_ ?_);omega))
  conv => whnf
  refine bs_ask (m := m26) (c := c26) (s := w) (W := [⟨0, N, f26, 0⟩]) [4, 5, 6] [] (bs26 N) m26_ok (by decide) (by omega) hb (by show 1 ≤ 4000; decide) (fun q => ?_) rfl ?_ ?_ (fun q hq => ?_)
  · match q with
    | 0 => exact ok_in f26_ok
    | q + 1 => exact (show FIn frm0 from ⟨by decide, by decide⟩)
  · repeat'(first|exact leT_empty|exact trivial|exact rfl|exact .inl rfl|exact .inr rfl|exact .inr ⟨rfl,rfl⟩|exact Nat.le_refl _|exact Nat.zero_le _|exact fun _ _=>rfl|assumption|refine And.intro ?_ ?_|exact ul0|exact ul1 rfl|exact ul2 rfl rfl|exact ul3 rfl rfl rfl)
  · repeat'(first|exact leT_empty|exact trivial|exact rfl|exact .inl rfl|exact .inr rfl|exact .inr ⟨rfl,rfl⟩|exact Nat.le_refl _|exact Nat.zero_le _|exact fun _ _=>rfl|assumption|refine And.intro ?_ ?_|exact ul0|exact ul1 rfl|exact ul2 rfl rfl|exact ul3 rfl rfl rfl)
  repeat((conv=>whnf);first|((with_reducible refine qS ?_ ?_ ?_);exact rfl;exact rfl)|with_reducible refine qB ?_|((with_reducible refine qI ?_ ?_);omega)|((with_reducible refine qDT ?_ ?_);omega)|((with_reducible refine qDF ?_ ?_);omega)|((with_reducible refine qNT ?_ ?_);omega)|((with_reducible refine qNF ?_ ?_);omega)|((with_reducible refine qU8 ?_ ?_);omega)|((with_reducible refine qU32 ?_ ?_);omega)|((with_reducible refine qU64 ?_ ?_);omega)|((with_reducible refine qU16 ?_ ?_);omega))
  conv => whnf
  exact rfl
theorem known26_ok : ConOk Tryd.prog F.law26_known trueC := con_closed (clRunX_ok (d := 7) ttOk outs26_ok tab26_ok 4) (fn_enters (ok.law26_known (D := 7) u0 _ (clRunX_ok (d := 7) ttOk .nil TabOk.nil 1))) known26_run
end Go.Proofs.YtdeaigaafdnehaaDoor.La
