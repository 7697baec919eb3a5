/- WatchErrors: the walk. -/
import Derived.Test.YtdeaigaafdnehaaDoorLfJ
import Derived.Test.YtdeaigaafdnehaaDoorEnM
namespace Go.Proofs.YtdeaigaafdnehaaDoor.La
open Go Go.Eng Go.Proofs Go.Proofs.YtdeaigaafdnehaaDoor.Tb Go.Proofs.YtdeaigaafdnehaaDoor.Co Go.Pu
set_option maxRecDepth 100000
set_option maxHeartbeats 16000000
abbrev outsE26 : List (FuncId × Cx) := [(F.law26_known, AskC trueC), (F.ref3_Encode, AskC encC), (F.ref1_Of, AskC ofC), (F.watch_Frames, AskC frgC)]
theorem outsE26_ok : OutsOk Tryd.prog outsE26 := .cons (ask_ok known26_ok) (.cons (ask_ok enc_ok) (.cons (ask_ok ofb_ok) (.cons (ask_ok frg_ok) .nil)))
noncomputable abbrev tabE26 : List (FuncId × Eng.Fn) := [(F.law26_WatchErrors, fn.law26_WatchErrors u0)]
theorem tabE26_ok {d : Nat} : TabOk d tabE26 tt := .cons (ok.law26_WatchErrors u0) (TabOk.nil)
theorem errors26_run (f : Frm) (a b : Nat) (m : Int) (hf : FIn f) (hb : b < 256) :
    clRunX 7 tt outsE26 tabE26 2 F.law26_WatchErrors [] [frmR f, iv .u8 a, iv .u8 b] [glE m] (fun x _ => x = bv true) := by
  repeat((conv=>whnf);first|((with_reducible refine qS ?_ ?_ ?_);exact rfl;exact rfl)|with_reducible refine qB ?_|((with_reducible refine qI ?_ ?_);omega)|((with_reducible refine qDT ?_ ?_);omega)|((with_reducible refine qDF ?_ ?_);omega)|((with_reducible refine qNT ?_ ?_);omega)|((with_reducible refine qNF ?_ ?_);omega)|((with_reducible refine qU8 ?_ ?_);omega)|((with_reducible refine qU32 ?_ ?_);omega)|((with_reducible refine qU64 ?_ ?_);omega)|((with_reducible refine qU16 ?_ ?_);omega))
  conv => whnf
  refine true_use ?_
  repeat((conv=>whnf);first|((with_reducible refine qS ?_ ?_ ?_);exact rfl;exact rfl)|with_reducible refine qB ?_|((with_reducible refine qI ?_ ?_);omega)|((with_reducible refine qDT ?_ ?_);omega)|((with_reducible refine qDF ?_ ?_);omega)|((with_reducible refine qNT ?_ ?_);omega)|((with_reducible refine qNF ?_ ?_);omega)|((with_reducible refine qU8 ?_ ?_);omega)|((with_reducible refine qU32 ?_ ?_);omega)|((with_reducible refine qU64 ?_ ?_);omega)|((with_reducible refine qU16 ?_ ?_);omega))
  conv => whnf
  refine enc_use (f := f) hf ?_
  repeat((conv=>whnf);first|((with_reducible refine qS ?_ ?_ ?_);exact rfl;exact rfl)|with_reducible refine qB ?_|((with_reducible refine qI ?_ ?_);omega)|((with_reducible refine qDT ?_ ?_);omega)|((with_reducible refine qDF ?_ ?_);omega)|((with_reducible refine qNT ?_ ?_);omega)|((with_reducible refine qNF ?_ ?_);omega)|((with_reducible refine qU8 ?_ ?_);omega)|((with_reducible refine qU32 ?_ ?_);omega)|((with_reducible refine qU64 ?_ ?_);omega)|((with_reducible refine qU16 ?_ ?_);omega))
  conv => whnf
  by_cases g3 : 8 < f.data.size
  · repeat((conv=>whnf);first|((with_reducible refine qS ?_ ?_ ?_);exact rfl;exact rfl)|with_reducible refine qB ?_|((with_reducible refine qI ?_ ?_);omega)|((with_reducible refine qDT ?_ ?_);omega)|((with_reducible refine qDF ?_ ?_);omega)|((with_reducible refine qNT ?_ ?_);omega)|((with_reducible refine qNF ?_ ?_);omega)|((with_reducible refine qU8 ?_ ?_);omega)|((with_reducible refine qU32 ?_ ?_);omega)|((with_reducible refine qU64 ?_ ?_);omega)|((with_reducible refine qU16 ?_ ?_);omega))
    conv => whnf
    exact rfl
  by_cases hok : f.ok
  rotate_left
  · have e0 : enc f = ByteArray.empty := if_neg hok
    rw [e0]
    repeat((conv=>whnf);first|((with_reducible refine qS ?_ ?_ ?_);exact rfl;exact rfl)|with_reducible refine qB ?_|((with_reducible refine qI ?_ ?_);omega)|((with_reducible refine qDT ?_ ?_);omega)|((with_reducible refine qDF ?_ ?_);omega)|((with_reducible refine qNT ?_ ?_);omega)|((with_reducible refine qNF ?_ ?_);omega)|((with_reducible refine qU8 ?_ ?_);omega)|((with_reducible refine qU32 ?_ ?_);omega)|((with_reducible refine qU64 ?_ ?_);omega)|((with_reducible refine qU16 ?_ ?_);omega))
    conv => whnf
    exact rfl
  have e0 : enc f = bs (encB f) := if_pos hok
  have hp := encB_pos f
  have hl := encB_len hok
  have hes : (enc f).size = (encB f).length := by rw [e0, bs_size]
  have e1 : strEq (enc f) ⟨#[]⟩ = false := decide_eq_false fun h => by
    have := congrArg ByteArray.size h
    rw [hes] at this
    have : (encB f).length = 0 := this
    omega
  repeat((conv=>whnf);first|((with_reducible refine qS ?_ ?_ ?_);exact rfl;exact rfl)|with_reducible refine qB ?_|((with_reducible refine qI ?_ ?_);omega)|((with_reducible refine qDT ?_ ?_);omega)|((with_reducible refine qDF ?_ ?_);omega)|((with_reducible refine qNT ?_ ?_);omega)|((with_reducible refine qNF ?_ ?_);omega)|((with_reducible refine qU8 ?_ ?_);omega)|((with_reducible refine qU32 ?_ ?_);omega)|((with_reducible refine qU64 ?_ ?_);omega)|((with_reducible refine qU16 ?_ ?_);omega))
  conv => whnf
  rw [e1]
  repeat((conv=>whnf);first|((with_reducible refine qS ?_ ?_ ?_);exact rfl;exact rfl)|with_reducible refine qB ?_|((with_reducible refine qI ?_ ?_);omega)|((with_reducible refine qDT ?_ ?_);omega)|((with_reducible refine qDF ?_ ?_);omega)|((with_reducible refine qNT ?_ ?_);omega)|((with_reducible refine qNF ?_ ?_);omega)|((with_reducible refine qU8 ?_ ?_);omega)|((with_reducible refine qU32 ?_ ?_);omega)|((with_reducible refine qU64 ?_ ?_);omega)|((with_reducible refine qU16 ?_ ?_);omega))
  conv => whnf
  refine of_use (n := b) (w := 8) (by omega) (by omega) ?_
  have z6 : (⟨#[48, 48, 48, 48, 48, 48]⟩ : ByteArray) = bs (List.replicate 6 false) := rfl
  have z1 : (⟨#[48]⟩ : ByteArray) = bs [false] := rfl
  have s8 : (bs (ofN b 8)).size = 8 := by rw [bs_size, ofN_len]
  have h1 : (⟨#[48, 48, 48, 48, 48, 48]⟩ : ByteArray) ++ bs (ofN b 8) ++ ⟨#[48]⟩ = bs (errT b 0) := by
    rw [z6, z1, bs_app, bs_app]
    unfold errT
    rw [List.append_assoc]; rfl
  repeat((conv=>whnf);first|((with_reducible refine qS ?_ ?_ ?_);exact rfl;exact rfl)|with_reducible refine qB ?_|((with_reducible refine qI ?_ ?_);omega)|((with_reducible refine qDT ?_ ?_);omega)|((with_reducible refine qDF ?_ ?_);omega)|((with_reducible refine qNT ?_ ?_);omega)|((with_reducible refine qNF ?_ ?_);omega)|((with_reducible refine qU8 ?_ ?_);omega)|((with_reducible refine qU32 ?_ ?_);omega)|((with_reducible refine qU64 ?_ ?_);omega)|((with_reducible refine qU16 ?_ ?_);omega))
  conv => whnf
  refine .rd (fun p : Nat × ByteArray => p.1 ≤ a % 20 ∧ p.2 = bs (errT b p.1)) (fun p => [(8, sv p.2), (9, iv .i64 p.1)]) (fun p => a % 20 - p.1) (0, (⟨#[48, 48, 48, 48, 48, 48]⟩ : ByteArray) ++ bs (ofN b 8) ++ ⟨#[48]⟩) ⟨Nat.zero_le _, h1⟩ ?_ (fun p ⟨hj, ht⟩ => ?_)
  · conv => whnf
    refine Le.id rfl ?_ ?_
    all_goals(repeat'(first|exact leT_empty|exact trivial|exact rfl|exact .inl rfl|exact .inr rfl|exact .inr ⟨rfl,rfl⟩|exact Nat.le_refl _|exact Nat.zero_le _|exact fun _ _=>rfl|assumption|refine And.intro ?_ ?_|exact ul0|exact ul1 rfl|exact ul2 rfl rfl|exact ul3 rfl rfl rfl))
  generalize p.1 = j at *
  generalize p.2 = t at *
  have hts : t.size = 15 + j := by rw [ht, bs_size, errT_len]
  repeat((conv=>whnf);first|((with_reducible refine qS ?_ ?_ ?_);exact rfl;exact rfl)|with_reducible refine qB ?_|((with_reducible refine qI ?_ ?_);omega)|((with_reducible refine qDT ?_ ?_);omega)|((with_reducible refine qDF ?_ ?_);omega)|((with_reducible refine qNT ?_ ?_);omega)|((with_reducible refine qNF ?_ ?_);omega)|((with_reducible refine qU8 ?_ ?_);omega)|((with_reducible refine qU32 ?_ ?_);omega)|((with_reducible refine qU64 ?_ ?_);omega)|((with_reducible refine qU16 ?_ ?_);omega))
  conv => whnf
  rw [show ((a : Int)).tmod 20 = ((a % 20 : Nat) : Int) from rfl]
  repeat((conv=>whnf);first|((with_reducible refine qS ?_ ?_ ?_);exact rfl;exact rfl)|with_reducible refine qB ?_|((with_reducible refine qI ?_ ?_);omega)|((with_reducible refine qDT ?_ ?_);omega)|((with_reducible refine qDF ?_ ?_);omega)|((with_reducible refine qNT ?_ ?_);omega)|((with_reducible refine qNF ?_ ?_);omega)|((with_reducible refine qU8 ?_ ?_);omega)|((with_reducible refine qU32 ?_ ?_);omega)|((with_reducible refine qU64 ?_ ?_);omega)|((with_reducible refine qU16 ?_ ?_);omega))
  conv => whnf
  refine cD (fun h7 => ?_) (fun h7 => ?_)
  · repeat((conv=>whnf);first|((with_reducible refine qS ?_ ?_ ?_);exact rfl;exact rfl)|with_reducible refine qB ?_|((with_reducible refine qI ?_ ?_);omega)|((with_reducible refine qDT ?_ ?_);omega)|((with_reducible refine qDF ?_ ?_);omega)|((with_reducible refine qNT ?_ ?_);omega)|((with_reducible refine qNF ?_ ?_);omega)|((with_reducible refine qU8 ?_ ?_);omega)|((with_reducible refine qU32 ?_ ?_);omega)|((with_reducible refine qU64 ?_ ?_);omega)|((with_reducible refine qU16 ?_ ?_);omega))
    conv => whnf
    refine cDT (by show t.size + 1 ≤ _; omega) ?_
    repeat((conv=>whnf);first|((with_reducible refine qS ?_ ?_ ?_);exact rfl;exact rfl)|with_reducible refine qB ?_|((with_reducible refine qI ?_ ?_);omega)|((with_reducible refine qDT ?_ ?_);omega)|((with_reducible refine qDF ?_ ?_);omega)|((with_reducible refine qNT ?_ ?_);omega)|((with_reducible refine qNF ?_ ?_);omega)|((with_reducible refine qU8 ?_ ?_);omega)|((with_reducible refine qU32 ?_ ?_);omega)|((with_reducible refine qU64 ?_ ?_);omega)|((with_reducible refine qU16 ?_ ?_);omega))
    conv => whnf
    refine ⟨(j + 1, t ++ ⟨#[49]⟩), ⟨⟨by show j + 1 ≤ a % 20; omega, by show t ++ bs [true] = bs (errT b (j + 1)); rw [ht, errT_succ, ← bs_app]⟩, by show a % 20 - (j + 1) < a % 20 - j; omega⟩, ?_⟩
    conv => whnf
    refine Le.id rfl ?_ ?_
    all_goals(repeat'(first|exact leT_empty|exact trivial|exact rfl|exact .inl rfl|exact .inr rfl|exact .inr ⟨rfl,rfl⟩|exact Nat.le_refl _|exact Nat.zero_le _|exact fun _ _=>rfl|assumption|refine And.intro ?_ ?_|exact ul0|exact ul1 rfl|exact ul2 rfl rfl|exact ul3 rfl rfl rfl))
  obtain rfl : j = a % 20 := by omega
  repeat((conv=>whnf);first|((with_reducible refine qS ?_ ?_ ?_);exact rfl;exact rfl)|with_reducible refine qB ?_|((with_reducible refine qI ?_ ?_);omega)|((with_reducible refine qDT ?_ ?_);omega)|((with_reducible refine qDF ?_ ?_);omega)|((with_reducible refine qNT ?_ ?_);omega)|((with_reducible refine qNF ?_ ?_);omega)|((with_reducible refine qU8 ?_ ?_);omega)|((with_reducible refine qU32 ?_ ?_);omega)|((with_reducible refine qU64 ?_ ?_);omega)|((with_reducible refine qU16 ?_ ?_);omega))
  conv => whnf
  have hsz : (t ++ enc f).size ≤ 4000 := by rw [ByteArray.size_append]; omega
  have hF : FrG (rd (t ++ enc f)) 0 (⟨0, 6, frm0, 20⟩ :: if 11 ≤ a % 20 then [⟨15 + a % 20, (encB f).length, f, 0⟩] else []) := by
    rw [ht, e0, bs_app, rd_bs]
    exact frG_err hok b (a % 20)
  by_cases h11 : 11 ≤ a % 20
  · rw [if_pos h11] at hF
    refine frg_ask (h := [.ob (.own [.c (.v (.bool f.ext)), .c (.v (.int .u32 (f.id : Int))), .c (.v (.bool f.rtr)), .c (.v (.string f.data))])]) hsz hF fun fc hfc => ?_
    repeat((conv=>whnf);first|((with_reducible refine qS ?_ ?_ ?_);exact rfl;exact rfl)|with_reducible refine qB ?_|((with_reducible refine qI ?_ ?_);omega)|((with_reducible refine qDT ?_ ?_);omega)|((with_reducible refine qDF ?_ ?_);omega)|((with_reducible refine qNT ?_ ?_);omega)|((with_reducible refine qNF ?_ ?_);omega)|((with_reducible refine qU8 ?_ ?_);omega)|((with_reducible refine qU32 ?_ ?_);omega)|((with_reducible refine qU64 ?_ ?_);omega)|((with_reducible refine qU16 ?_ ?_);omega))
    conv => whnf
    rw [show ((a : Int)).tmod 20 = ((a % 20 : Nat) : Int) from rfl]
    repeat((conv=>whnf);first|((with_reducible refine qS ?_ ?_ ?_);exact rfl;exact rfl)|with_reducible refine qB ?_|((with_reducible refine qI ?_ ?_);omega)|((with_reducible refine qDT ?_ ?_);omega)|((with_reducible refine qDF ?_ ?_);omega)|((with_reducible refine qNT ?_ ?_);omega)|((with_reducible refine qNF ?_ ?_);omega)|((with_reducible refine qU8 ?_ ?_);omega)|((with_reducible refine qU32 ?_ ?_);omega)|((with_reducible refine qU64 ?_ ?_);omega)|((with_reducible refine qU16 ?_ ?_);omega))
    conv => whnf
    rw [show gs [⟨0, 6, frm0, 20⟩, ⟨15 + a % 20, (encB f).length, f, 0⟩] (0 + Int.toNat 1) = ⟨15 + a % 20, (encB f).length, f, 0⟩ from rfl, snEq]
    exact congrArg bv (decide_eq_true ⟨by show ((15 + a % 20 : Nat) : Int) = (t.size : Int); omega, by show (((encB f).length : Nat) : Int) = ((enc f).size : Int); omega, rfl, rfl, rfl, rfl, rfl⟩)
  · rw [if_neg h11] at hF
    refine frg_ask (h := [.ob (.own [.c (.v (.bool f.ext)), .c (.v (.int .u32 (f.id : Int))), .c (.v (.bool f.rtr)), .c (.v (.string f.data))])]) hsz hF fun fc hfc => ?_
    repeat((conv=>whnf);first|((with_reducible refine qS ?_ ?_ ?_);exact rfl;exact rfl)|with_reducible refine qB ?_|((with_reducible refine qI ?_ ?_);omega)|((with_reducible refine qDT ?_ ?_);omega)|((with_reducible refine qDF ?_ ?_);omega)|((with_reducible refine qNT ?_ ?_);omega)|((with_reducible refine qNF ?_ ?_);omega)|((with_reducible refine qU8 ?_ ?_);omega)|((with_reducible refine qU32 ?_ ?_);omega)|((with_reducible refine qU64 ?_ ?_);omega)|((with_reducible refine qU16 ?_ ?_);omega))
    conv => whnf
    rw [show ((a : Int)).tmod 20 = ((a % 20 : Nat) : Int) from rfl]
    repeat((conv=>whnf);first|((with_reducible refine qS ?_ ?_ ?_);exact rfl;exact rfl)|with_reducible refine qB ?_|((with_reducible refine qI ?_ ?_);omega)|((with_reducible refine qDT ?_ ?_);omega)|((with_reducible refine qDF ?_ ?_);omega)|((with_reducible refine qNT ?_ ?_);omega)|((with_reducible refine qNF ?_ ?_);omega)|((with_reducible refine qU8 ?_ ?_);omega)|((with_reducible refine qU32 ?_ ?_);omega)|((with_reducible refine qU64 ?_ ?_);omega)|((with_reducible refine qU16 ?_ ?_);omega))
    conv => whnf
    exact rfl
end Go.Proofs.YtdeaigaafdnehaaDoor.La
