/- Parts. -/
import Derived.Test.YtlckbdhpehkeoaaGreatJ03
import Derived.Test.YtlckbdhpehkeoaaGreatJ05
import Derived.Test.YtlckbdhpehkeoaaGreatJ06
import Derived.Test.YtlckbdhpehkeoaaGreatJ10
namespace Go.Proofs.YtlckbdhpehkeoaaGreat.Co
open Go Go.Eng Go.Proofs Go.Proofs.YtlckbdhpehkeoaaGreat.Tb Go.Pu
set_option maxRecDepth 100000
set_option maxHeartbeats 8000000
abbrev pR (n : Nat) : R:=.t (.one (.ptr n 0))
abbrev uR : R:=.tup []
abbrev nI (n : Nat) : Seg:=.c (.v (.int .i64 (n : Int)))
abbrev nU (n : Nat) : Seg:=.c (.v (.int .u16 (n : Int)))
abbrev zI (n : Int) : Seg:=.c (.v (.int .i64 n))
abbrev bS (b : Bool) : Seg:=.c (.v (.bool b))
abbrev clkE (c : Clk) : HE:=.ob (.own [nI c.unit,nI c.num,nI c.part,nU c.time])
noncomputable abbrev tabCkN : List (FuncId × Eng.Fn):=[(F.clock_New,fn.clock_New u0)]
theorem tabCkN_ok {d : Nat} : TabOk d tabCkN tt:=.cons (ok.clock_New u0) (TabOk.nil)
theorem ckNew_run (u : Int) : clRunX 5 tt outs0 tabCkN 2 F.clock_New [] [iv .i64 u] [] (fun x h=>Trim 0 x h fun x h=>x = pR 0 ∧ h = [clkE (Clk.new u)]):=by
 obtain ⟨n,hn⟩ : ∃ n : Nat,min (max u 1) 64 = (n : Int):=⟨(min (max u 1) 64).toNat,by omega⟩
 have e : Clk.new u = ⟨n,n * 256,0,0⟩:=by unfold Clk.new; rw [hn]; rfl
 have hb : n ≤ 64:=by omega
 rw [e]
 refine wB ?_
 rw [hn]
 refine wB ?_
 refine Trim.det (Le.id rfl wH wH)
abbrev ckNewC : Con Int:=DetCon (fun p=>[iv .i64 p]) (fun _=>[]) (fun _=>True) (fun _=>pR 0) fun p=>[clkE (Clk.new p)]
theorem ckNew_ok : ConOk Tryz.prog F.clock_New ckNewC:=con_of_run (clRunX_ok (d:=5) ttOk outs0_ok tabCkN_ok 2) (fn_enters (ok.clock_New (D:=5) u0 _ (clRunX_ok (d:=5) ttOk .nil TabOk.nil 1))) fun p _=>ckNew_run p
noncomputable abbrev tabCkT : List (FuncId × Eng.Fn):=[(F.clock_Clock_Tick,fn.clock_Clock_Tick u0)]
theorem tabCkT_ok {d : Nat} : TabOk d tabCkT tt:=.cons (ok.clock_Clock_Tick u0) (TabOk.nil)
theorem qU16F {n : Int} {a b : Prop} (h : ¬ (0 ≤ n ∧ n ≤ 65535)) (h1 : b) : Cnd.match_1 (fun _=>Prop) (inR .u16 n) (fun _=>a) (fun _=>b):=by
 have e : inR .u16 n = false:=Bool.eq_false_iff.2 fun hb=>h (inR_iff.1 hb)
 rw [e]; exact h1
theorem ckTick_run (cu cn cp ct : Nat) (t : Int) (k : Nat) (hk : min (max t 0) 8 = (k : Int)) (hn1 : 1 ≤ cn) (hn2 : cn ≤ 32768) (hp : cp < cn) (ht : ct < 65536) :
    clRunX 6 tt outs0 tabCkT 2 F.clock_Clock_Tick [] [pR 0, iv .i64 t] [.ob (.own [nI cu, nI cn, nI cp, nU ct])] (fun x h => Trim 1 x h fun x h => x = uR ∧ h = [.ob (.own [nI cu, nI cn, nI ((cp + k * 256) % cn), nU ((ct + (cp + k * 256) / cn) % 65536)])]) := by
  have hk8 : k ≤ 8 := by omega
  refine wB ?_
  rw [hk]
  refine wB ?_
  refine .inv (fun x : Nat × Nat × Nat => x.2.1 + cn * x.1 = cp + k * 256 ∧ x.2.2 = (ct + x.1) % 65536) (fun _ => []) (fun x => [.ob (.own [nI cu, nI cn, nI x.2.1, nU x.2.2])]) (fun x => x.2.1) (0, cp + k * 256, ct) ⟨rfl, (Nat.mod_eq_of_lt ht).symm⟩ ?_ (fun x ⟨hq, hs⟩ => ?_)
  · exact wF
  generalize x.1 = q at *
  generalize x.2.1 = p at *
  generalize x.2.2 = s at *
  have hs2 : s < 65536 := by rw [hs]; exact Nat.mod_lt _ (by decide)
  have hpb : p ≤ cp + k * 256 := by omega
  conv => whnf
  refine cD (fun h5 => ?_) (fun h5 => ?_)
  · refine wB ?_
    by_cases h6 : s = 65535
    · subst h6
      refine wB ?_
      rw [show (p : Int) - (cn : Int) = ((p - cn : Nat) : Int) by omega]
      refine ⟨(q + 1, p - cn, 0), ⟨⟨by show p - cn + cn * (q + 1) = cp + k * 256; rw [Nat.mul_succ]; omega, by show 0 = (ct + (q + 1)) % 65536; omega⟩, by show p - cn < p; omega⟩, ?_⟩
      exact wF
    · refine wB ?_
      rw [show (p : Int) - (cn : Int) = ((p - cn : Nat) : Int) by omega]
      refine ⟨(q + 1, p - cn, s + 1), ⟨⟨by show p - cn + cn * (q + 1) = cp + k * 256; rw [Nat.mul_succ]; omega, by show s + 1 = (ct + (q + 1)) % 65536; omega⟩, by show p - cn < p; omega⟩, ?_⟩
      exact wF
  · have hd : (cp + k * 256) / cn = q ∧ (cp + k * 256) % cn = p := by
      rw [← hq]
      exact ⟨by rw [Nat.add_mul_div_left _ _ hn1, Nat.div_eq_of_lt (by omega), Nat.zero_add], by rw [Nat.add_mul_mod_self_left, Nat.mod_eq_of_lt (by omega)]⟩
    rw [hd.1, hd.2, ← hs]
    refine wB ?_
    refine Trim.det ?_
    refine Le.id rfl ?_ ?_
    · exact wH
    · exact wH
abbrev ckTickC : Con (Clk × Int):=DetCon (fun p=>[pR 0,iv .i64 p.2]) (fun p=>[clkE p.1]) (fun p=>p.1.Ok) (fun _=>uR) fun p=>[clkE (p.1.tick p.2)]
theorem ckTick_ok : ConOk Tryz.prog F.clock_Clock_Tick ckTickC:=con_of_run (clRunX_ok (d:=6) ttOk outs0_ok tabCkT_ok 2) (fn_enters (ok.clock_Clock_Tick (D:=6) u0 _ (clRunX_ok (d:=6) ttOk .nil TabOk.nil 1))) fun p hp=>ckTick_run p.1.unit p.1.num p.1.part p.1.time p.2 (min (max p.2 0) 8).toNat (by omega) hp.n1 hp.n2 hp.p hp.t
noncomputable abbrev tabCkS : List (FuncId × Eng.Fn):=[(F.clock_Clock_SetRate,fn.clock_Clock_SetRate u0)]
theorem tabCkS_ok {d : Nat} : TabOk d tabCkS tt:=.cons (ok.clock_Clock_SetRate u0) (TabOk.nil)
theorem ckSet_run (cu cn cp ct : Nat) (n d : Int) (hu1 : 1 ≤ cu) (hu2 : cu ≤ 64) (hp : cp ≤ 32768) (c' : Clk) (b : Bool) (hc : c' = (⟨cu, cn, cp, ct⟩ : Clk).set n d) (hb : b = (⟨cu, cn, cp, ct⟩ : Clk).setOk n d) :
    clRunX 6 tt outs0 tabCkS 2 F.clock_Clock_SetRate [] [pR 0, iv .i64 n, iv .i64 d] [.ob (.own [nI cu, nI cn, nI cp, nU ct])] (fun x h => Trim 1 x h fun x h => x = bv b ∧ h = [clkE c']) := by
  have e8 : ((cu : Int) * 256).tdiv 8 = (cu : Int) * 32 := by
    rw [Int.tdiv_eq_ediv_of_nonneg (by omega)]; omega
  have eo : (⟨cu, cn, cp, ct⟩ : Clk).setOk n d = decide (d = 256 ∧ (cu * 256 - cu * 256 / 8 : Int) ≤ n ∧ n ≤ (cu * 256 + cu * 256 / 8 : Int)) := rfl
  have es : (⟨cu, cn, cp, ct⟩ : Clk).set n d = if (⟨cu, cn, cp, ct⟩ : Clk).setOk n d then ⟨cu, n.toNat, min cp (n.toNat - 1), ct⟩ else ⟨cu, cn, cp, ct⟩ := rfl
  rw [es, ← hb] at hc
  rw [eo] at hb
  by_cases hok : d = 256 ∧ (cu * 256 - cu * 256 / 8 : Int) ≤ n ∧ n ≤ (cu * 256 + cu * 256 / 8 : Int)
  rotate_left
  · rw [decide_eq_false hok] at hb
    rw [hb, if_neg (by simp)] at hc
    rw [hc, hb]
    by_cases h1 : d = 256
    · refine wB ?_
      rw [e8]
      refine wB ?_
      by_cases h2 : n < (cu : Int) * 256 - (cu : Int) * 32
      · refine wB ?_
        refine Trim.det (Le.id rfl wH wH)
      · refine wB ?_
        refine Trim.det (Le.id rfl wH wH)
    · refine wB ?_
      refine Trim.det (Le.id rfl wH wH)
  · rw [decide_eq_true hok] at hb
    rw [hb, if_pos rfl] at hc
    rw [hc, hb]
    obtain ⟨rfl, h1, h2⟩ := hok
    obtain ⟨n, rfl⟩ : ∃ k : Nat, n = (k : Int) := ⟨n.toNat, by omega⟩
    refine wB ?_
    rw [show min (cp : Int) ((n : Int) - 1) = ((min cp (n - 1) : Nat) : Int) by omega]
    refine Trim.det (Le.id rfl wH wH)
abbrev ckSetC : Con (Clk × Int × Int):=DetCon (fun p=>[pR 0,iv .i64 p.2.1,iv .i64 p.2.2]) (fun p=>[clkE p.1]) (fun p=>p.1.Ok) (fun p=>bv (p.1.setOk p.2.1 p.2.2)) fun p=>[clkE (p.1.set p.2.1 p.2.2)]
theorem ckSet_ok : ConOk Tryz.prog F.clock_Clock_SetRate ckSetC:=con_of_run (clRunX_ok (d:=6) ttOk outs0_ok tabCkS_ok 2) (fn_enters (ok.clock_Clock_SetRate (D:=6) u0 _ (clRunX_ok (d:=6) ttOk .nil TabOk.nil 1))) fun p hp=>ckSet_run p.1.unit p.1.num p.1.part p.1.time p.2.1 p.2.2 hp.u1 hp.u2 (by have:=hp.p; have:=hp.n2; omega) _ _ rfl rfl
abbrev mrkE (m : Mrk) : HE:=.ob (.own [nU m.sl,nI m.sn,nU m.bl,nI m.bn,nI m.cyc])
noncomputable abbrev tabMkN : List (FuncId × Eng.Fn):=[(F.mark_New,fn.mark_New u0)]
theorem tabMkN_ok {d : Nat} : TabOk d tabMkN tt:=.cons (ok.mark_New u0) (TabOk.nil)
theorem mkNew_run (u : Unit) : clRunX 5 tt outs0 tabMkN 2 F.mark_New [] [] [] (fun x h=>Trim 0 x h fun x h=>x = pR 0 ∧ h = [mrkE mrk0]):=by
 refine wB ?_
 refine Trim.det (Le.id rfl wH wH)
abbrev mkNewC : Con Unit:=DetCon (fun _=>[]) (fun _=>[]) (fun _=>True) (fun _=>pR 0) fun _=>[mrkE mrk0]
theorem mkNew_ok : ConOk Tryz.prog F.mark_New mkNewC:=con_of_run (clRunX_ok (d:=5) ttOk outs0_ok tabMkN_ok 2) (fn_enters (ok.mark_New (D:=5) u0 _ (clRunX_ok (d:=5) ttOk .nil TabOk.nil 1))) fun p _=>mkNew_run p
noncomputable abbrev tabMkS : List (FuncId × Eng.Fn):=[(F.mark_Mark_Start,fn.mark_Mark_Start u0),(F.mark_times_set,fn.mark_times_set u0)]
theorem tabMkS_ok {d : Nat} : TabOk d tabMkS tt:=.cons (ok.mark_Mark_Start u0) (.cons (ok.mark_times_set u0) (TabOk.nil))
theorem mkStart_run (sl sn bl bn cy t : Nat) : clRunX 6 tt outs0 tabMkS 3 F.mark_Mark_Start [] [pR 0,iv .u16 t] [.ob (.own [nU sl,nI sn,nU bl,nI bn,nI cy])] (fun x h=>Trim 1 x h fun x h=>x = uR ∧ h = [mrkE ⟨t,1,bl,bn,cy⟩]):=by
 refine wB ?_
 refine Trim.det (Le.nm [0] rfl wH wH)
abbrev mkStartC : Con (Mrk × Nat):=DetCon (fun p=>[pR 0,iv .u16 p.2]) (fun p=>[mrkE p.1]) (fun _=>True) (fun _=>uR) fun p=>[mrkE (p.1.start p.2)]
theorem mkStart_ok : ConOk Tryz.prog F.mark_Mark_Start mkStartC:=con_of_run (clRunX_ok (d:=6) ttOk outs0_ok tabMkS_ok 3) (fn_enters (ok.mark_Mark_Start (D:=6) u0 _ (clRunX_ok (d:=6) ttOk .nil TabOk.nil 1))) fun p _=>mkStart_run p.1.sl p.1.sn p.1.bl p.1.bn p.1.cyc p.2
noncomputable abbrev tabMkB : List (FuncId × Eng.Fn):=[(F.mark_Mark_Beat,fn.mark_Mark_Beat u0)]
theorem tabMkB_ok {d : Nat} : TabOk d tabMkB tt:=.cons (ok.mark_Mark_Beat u0) (TabOk.nil)
theorem mkBeat_run (sl sn bl bn cy : Nat) (c : Int) (m' : Mrk) (hm : m' = (⟨sl,sn,bl,bn,cy⟩ : Mrk).beat c) : clRunX 6 tt outs0 tabMkB 2 F.mark_Mark_Beat [] [pR 0,iv .i64 c] [.ob (.own [nU sl,nI sn,nU bl,nI bn,nI cy])] (fun x h=>Trim 1 x h fun x h=>x = uR ∧ h = [mrkE m']):=by
 have hm : m' = if 0 < sn then ⟨sl,sn,sl,sn,(min (max c 0) 7).toNat⟩ else ⟨sl,sn,bl,bn,cy⟩:=hm
 obtain ⟨k,hk⟩ : ∃ k : Nat,min (max c 0) 7 = (k : Int):=⟨(min (max c 0) 7).toNat,by omega⟩
 by_cases h : 0 < sn
 ·rw [if_pos h,hk] at hm
  rw [hm]
  refine wB ?_
  rw [hk]
  refine Trim.det (Le.id rfl wH wH)
 ·rw [if_neg h] at hm
  rw [hm]
  refine wB ?_
  refine Trim.det (Le.id rfl wH wH)
abbrev mkBeatC : Con (Mrk × Int):=DetCon (fun p=>[pR 0,iv .i64 p.2]) (fun p=>[mrkE p.1]) (fun _=>True) (fun _=>uR) fun p=>[mrkE (p.1.beat p.2)]
theorem mkBeat_ok : ConOk Tryz.prog F.mark_Mark_Beat mkBeatC:=con_of_run (clRunX_ok (d:=6) ttOk outs0_ok tabMkB_ok 2) (fn_enters (ok.mark_Mark_Beat (D:=6) u0 _ (clRunX_ok (d:=6) ttOk .nil TabOk.nil 1))) fun p _=>mkBeat_run p.1.sl p.1.sn p.1.bl p.1.bn p.1.cyc p.2 _ rfl
theorem qU16 {n : Int} {a b : Prop} (h : 0 ≤ n ∧ n ≤ 65535) (h1 : a) : Cnd.match_1 (fun _=>Prop) (inR .u16 n) (fun _=>a) (fun _=>b):=by
 have e : inR .u16 n = true:=inR_iff.2 h
 rw [e]; exact h1
theorem wrap16i (n : Int) : IntKind.u16.wrap n = n % 65536:=by
 unfold IntKind.wrap
 show (if (IntKind.u16.signed && _) = true then _ else _ % (2 ^ 16 : Int)) = _
 rw [show IntKind.u16.signed = false from rfl,Bool.false_and,if_neg (by simp)]; rfl
theorem since_w {a b : Nat} (ha : a < 65536) : IntKind.u16.wrap ((b : Int) - (a : Int)) = ((since a b : Nat) : Int):=by
 rw [wrap16i]; unfold since; omega
theorem since_n {a b : Nat} (hb : b < 65536) (h : a ≤ b) : (b : Int) - (a : Int) = ((since a b : Nat) : Int):=by
 unfold since; omega
noncomputable abbrev tabMkA : List (FuncId × Eng.Fn):=[(F.mark_Mark_At,fn.mark_Mark_At u0),(F.clock_Since,fn.clock_Since u0)]
theorem tabMkA_ok {d : Nat} : TabOk d tabMkA tt:=.cons (ok.mark_Mark_At u0) (.cons (ok.clock_Since u0) (TabOk.nil))
theorem mkAt_run (sl sn bl bn cy t : Nat) (hb : bl < 65536) (ht : t < 65536) : clRunX 6 tt outs0 tabMkA 3 F.mark_Mark_At [] [pR 0,iv .u16 t] [.ob (.own [nU sl,nI sn,nU bl,nI bn,nI cy])] (fun x h=>Trim 1 x h fun x h=>x = .tup [.one (.v (.int .i64 ((if bn = 0 then 0 else since bl t : Nat) : Int))),.one (.v (.bool (decide (0 < bn))))] ∧ h = [.ob (.own [nU sl,nI sn,nU bl,nI bn,nI cy])]):=by
 by_cases h : bn = 0
 ·rw [if_pos h,decide_eq_false (by omega)]
  refine wB ?_
  refine Trim.det (Le.id rfl wH wH)
 ·rw [if_neg h,decide_eq_true (by omega)]
  have hs:=since_lt bl t
  refine wB ?_
  by_cases h2 : bl ≤ t
  ·refine qU16 (by omega) ?_
   rw [since_n ht h2]
   refine wB ?_
   refine Trim.det (Le.id rfl wH wH)
  ·refine qU16F (by omega) ?_
   rw [since_w hb]
   refine wB ?_
   refine Trim.det (Le.id rfl wH wH)
abbrev mkAtC : Con (Mrk × Nat):=DetCon (fun p=>[pR 0,iv .u16 p.2]) (fun p=>[mrkE p.1]) (fun p=>p.1.Ok ∧ p.2 < 65536) (fun p=>.tup [.one (.v (.int .i64 (p.1.at_ p.2 : Nat))),.one (.v (.bool (decide (0 < p.1.bn))))]) fun p=>[mrkE p.1]
theorem mkAt_ok : ConOk Tryz.prog F.mark_Mark_At mkAtC:=con_of_run (clRunX_ok (d:=6) ttOk outs0_ok tabMkA_ok 3) (fn_enters (ok.mark_Mark_At (D:=6) u0 _ (clRunX_ok (d:=6) ttOk .nil TabOk.nil 1))) fun p hp=>mkAt_run p.1.sl p.1.sn p.1.bl p.1.bn p.1.cyc p.2 hp.1.bl hp.2
noncomputable abbrev tabMkF : List (FuncId × Eng.Fn):=[(F.mark_Mark_Forget,fn.mark_Mark_Forget u0)]
theorem tabMkF_ok {d : Nat} : TabOk d tabMkF tt:=.cons (ok.mark_Mark_Forget u0) (TabOk.nil)
theorem mkForget_run (sl sn bl bn cy : Nat) : clRunX 6 tt outs0 tabMkF 2 F.mark_Mark_Forget [] [pR 0] [.ob (.own [nU sl,nI sn,nU bl,nI bn,nI cy])] (fun x h=>Trim 1 x h fun x h=>x = uR ∧ h = [mrkE mrk0]):=by
 refine wB ?_
 refine Trim.det (Le.id rfl wH wH)
abbrev mkForgetC : Con Mrk:=DetCon (fun _=>[pR 0]) (fun p=>[mrkE p]) (fun _=>True) (fun _=>uR) fun _=>[mrkE mrk0]
theorem mkForget_ok : ConOk Tryz.prog F.mark_Mark_Forget mkForgetC:=con_of_run (clRunX_ok (d:=6) ttOk outs0_ok tabMkF_ok 2) (fn_enters (ok.mark_Mark_Forget (D:=6) u0 _ (clRunX_ok (d:=6) ttOk .nil TabOk.nil 1))) fun p _=>mkForget_run p.sl p.sn p.bl p.bn p.cyc
abbrev trnC : Con ByteArray:=RoCon (fun p=>[sv p,iv .i64 0]) (fun _=>[]) (fun p=>p.size = 1) fun p=>sv (bs [!(gb (rd p) 0)])
def tv (a b : Int) : Nat → Int
 | 0=>a
 | _ + 1=>b
noncomputable abbrev tabTrn : List (FuncId × Eng.Fn):=[(F.bits_Turn,fn.bits_Turn u0),(F.bits_clean,fn.bits_clean u0),(F.bits_sign,fn.bits_sign u0)]
theorem tabTrn_ok {d : Nat} : TabOk d tabTrn tt:=.cons (ok.bits_Turn u0) (.cons (ok.bits_clean u0) (.cons (ok.bits_sign u0) (TabOk.nil)))
theorem trn_run (s : ByteArray) (hs : s.size = 1) : clRunX 5 tt outs0b tabTrn 3 F.bits_Turn [] [sv s,iv .i64 0] ([]) (fun x h=>Trim 0 x h fun x h=>x = sv (bs [!(gb (rd s) 0)]) ∧ h = []):=by
 have h1 : (s.size : Int) = 1:=by omega
 have hd:=dec49 (s:=s) (i:=0) (by omega)
 have hs' : (1 : Int) = s.size:=h1.symm
 refine wB ?_
 rw [h1]
 refine wB ?_
 have hb:=bt_bd s 0
 refine .inv (fun i : Nat=>i ≤ 1) (fun i=>[(14,iv .i64 i)]) (fun i=>[.ob (.row 1 1 (fun q=>[.v (.int .u8 (tv (bt s 0) (cI (gb (rd s) 0)) i))]) 1)]) (fun i=>1 - i) 0 (Nat.zero_le _) ?_ (fun i hi=>?_)
 ·conv=>whnf
  refine Le.id rfl ?_ ?_
  all_goals(repeat'(first|exact wZ|refine And.intro ?_ ?_))
  intro q hq
  obtain rfl : q = 0:=by have hq : q < 1:=hq; omega
  show (if 0 ≤ 0 ∧ 0 < 0 + min s.size (Int.toNat 1) then [C.v (.int .u8 (bt s 0))] else [C.v (.int .u8 0)]) = [C.v (.int .u8 (bt s 0))]
  rw [if_pos (by rw [hs]; decide)]
 rcases i with _ | i
 ·refine wB ?_
  rw [show decide (tv (bt s 0) (cI (gb (rd s) 0)) 0 = 49) = gb (rd s) 0 from hd]
  generalize gb (rd s) 0 = b at *
  cases b
  ·refine wB ?_
   refine ⟨1,⟨by omega,by omega⟩, ?_⟩
   exact wF
  ·refine wB ?_
   refine ⟨1,⟨by omega,by omega⟩, ?_⟩
   exact wF
 obtain rfl : i = 0:=by omega
 generalize gb (rd s) 0 = b at *
 cases b
 ·refine wB ?_
  refine trim0 rfl (congrArg sv ?_)
  exact mkStr_bs (L:=1) (l:=[!false]) rfl fun q hq=>by
   obtain rfl : q = 0:=by omega
   rfl
 ·refine wB ?_
  refine trim0 rfl (congrArg sv ?_)
  exact mkStr_bs (L:=1) (l:=[!true]) rfl fun q hq=>by
   obtain rfl : q = 0:=by omega
   rfl
theorem trn_ok : ConOk Tryz.prog F.bits_Turn trnC:=con_of_run (clRunX_ok (d:=5) ttOk outs0b_ok tabTrn_ok 3) (fn_enters (ok.bits_Turn (D:=5) u0 _ (clRunX_ok (d:=5) ttOk .nil TabOk.nil 1))) fun p hp=>trn_run p hp
theorem trn_use {s : ByteArray} {h : Heap} {K : R → Heap → Prop} (hs : s.size = 1) (hk : K (sv (bs [!(gb (rd s) 0)])) h) : AskC trnC [sv s,iv .i64 0] h K :=
 .use s [] hs rfl trivial ⟨.inl rfl,.inl rfl,trivial⟩ hk
abbrev outsOne : List (FuncId × Cx):=[(F.bits_Turn,AskC trnC)]
theorem outsOne_ok : OutsOk Tryz.prog outsOne:=.cons (ask_ok trn_ok) .nil
noncomputable abbrev tabOne : List (FuncId × Eng.Fn):=[(F.stuff_one,fn.stuff_one u0)]
theorem tabOne_ok {d : Nat} : TabOk d tabOne tt:=.cons (ok.stuff_one u0) (TabOk.nil)
abbrev oneC : Con (ByteArray × Nat):=RoCon (fun p=>[sv p.1,iv .i64 p.2]) (fun _=>[]) (fun p=>p.2 < p.1.size ∧ p.1.size ≤ 1000000) fun p=>iv .u8 (cI (gb (rd p.1) p.2))
theorem one_run (s : ByteArray) (i : Nat) (hi : i < s.size) (hs : s.size ≤ 1000000) : clRunX 4 tt outsOne tabOne 2 F.stuff_one [] [sv s,iv .i64 i] ([]) (fun x h=>Trim 0 x h fun x h=>x = iv .u8 (cI (gb (rd s) i)) ∧ h = []):=by
 have e1 : (s.extract (i : Int).toNat ((i : Int) + 1).toNat).size = 1:=by rw [ByteArray.size_extract]; omega
 have e2 : gb (rd (s.extract (i : Int).toNat ((i : Int) + 1).toNat)) 0 = gb (rd s) i:=by
  rw [rd_ext,tn,show ((i : Int) + 1).toNat - i = 1 by omega]
  unfold gb
  simp
 refine wB ?_
 refine trn_use e1 ?_
 refine wB ?_
 refine trn_use rfl ?_
 rw [rd_bs,e2]
 generalize gb (rd s) i = b at *
 cases b
 ·refine wB ?_
  exact trim0 rfl rfl
 ·refine wB ?_
  exact trim0 rfl rfl
theorem one_ok : ConOk Tryz.prog F.stuff_one oneC:=con_of_run (clRunX_ok (d:=4) ttOk outsOne_ok tabOne_ok 2) (fn_enters (ok.stuff_one (D:=4) u0 _ (clRunX_ok (d:=4) ttOk .nil TabOk.nil 1))) fun p hp=>one_run p.1 p.2 hp.1 hp.2
theorem sone_use {s : ByteArray} {i : Nat} {h : Heap} {K : R → Heap → Prop} (hi : i < s.size) (hs : s.size ≤ 1000000) (hk : K (iv .u8 (cI (gb (rd s) i))) h) : AskC oneC [sv s,iv .i64 i] h K :=
 .use (s,i) [] ⟨hi,hs⟩ rfl trivial ⟨.inl rfl,.inl rfl,trivial⟩ hk
abbrev rnE (r : Run) : HE:=.ob (.own [.c (.v (.int .u8 (rlI r))),.c (.v (.int .i64 (r.n : Int)))])
noncomputable abbrev tabRad : List (FuncId × Eng.Fn):=[(F.stuff_Run_Add,fn.stuff_Run_Add u0)]
theorem tabRad_ok {d : Nat} : TabOk d tabRad tt:=.cons (ok.stuff_Run_Add u0) (TabOk.nil)
theorem rad_run (r : Run) (c : Bool) (hr : r.n ≤ 1000) : clRunX 5 tt outs0b tabRad 2 F.stuff_Run_Add [] [.t (.one (.ptr 0 0)),iv .u8 (cI c)] [rnE r] (fun x h=>Trim 1 x h fun x h=>x = uR ∧ h = [rnE (r.add c)]):=by
 by_cases hn : 0 < r.n
 ·cases c <;> cases hl : r.last
  ·have e:=add_same (r:=r) (b:=false) hn hl.symm
   have hz : rlI r = 48:=by unfold rlI; rw [if_neg (by omega),hl]; rfl
   have hz2 : rlI ⟨false,r.n + 1⟩ = 48:=by unfold rlI; rw [if_neg (by show ¬ r.n + 1 = 0; omega)]; rfl
   rw [e,hl]
   refine wB ?_
   rw [hz]
   refine wB ?_
   refine Trim.det ?_
   conv=>whnf
   refine Le.id rfl ?_ ?_
   all_goals(repeat'(first|exact wZ|refine And.intro ?_ ?_))
   exact congrArg (fun v=>C.v (.int .u8 v)) (hz.trans hz2.symm)
  ·have e:=add_un (r:=r) (b:=false) (by rw [hl]; simp)
   have hz : rlI r = 49:=by unfold rlI; rw [if_neg (by omega),hl]; rfl
   rw [e]
   refine wB ?_
   rw [hz]
   refine wB ?_
   refine Trim.det (Le.id rfl wH wH)
  ·have e:=add_un (r:=r) (b:=true) (by rw [hl]; simp)
   have hz : rlI r = 48:=by unfold rlI; rw [if_neg (by omega),hl]; rfl
   rw [e]
   refine wB ?_
   rw [hz]
   refine wB ?_
   refine Trim.det (Le.id rfl wH wH)
  ·have e:=add_same (r:=r) (b:=true) hn hl.symm
   have hz : rlI r = 49:=by unfold rlI; rw [if_neg (by omega),hl]; rfl
   have hz2 : rlI ⟨true,r.n + 1⟩ = 49:=by unfold rlI; rw [if_neg (by show ¬ r.n + 1 = 0; omega)]; rfl
   rw [e,hl]
   refine wB ?_
   rw [hz]
   refine wB ?_
   refine Trim.det ?_
   conv=>whnf
   refine Le.id rfl ?_ ?_
   all_goals(repeat'(first|exact wZ|refine And.intro ?_ ?_))
   exact congrArg (fun v=>C.v (.int .u8 v)) (hz.trans hz2.symm)
 ·have e:=add_un (r:=r) (b:=c) (fun h=>hn h.1)
  rw [e]
  cases c
  ·refine wB ?_
   refine Trim.det (Le.id rfl wH wH)
  ·refine wB ?_
   refine Trim.det (Le.id rfl wH wH)
abbrev radC : Con (Run × Bool):=DetCon (fun p=>.t (.one (.ptr 0 0)) :: [iv .u8 (cI p.2)]) (fun p=>[rnE p.1]) (fun p=>p.1.n ≤ 1000) (fun _=>uR) fun p=>[rnE (p.1.add p.2)]
theorem rad_ok : ConOk Tryz.prog F.stuff_Run_Add radC:=con_of_run (clRunX_ok (d:=5) ttOk outs0b_ok tabRad_ok 2) (fn_enters (ok.stuff_Run_Add (D:=5) u0 _ (clRunX_ok (d:=5) ttOk .nil TabOk.nil 1))) fun p hp=>rad_run p.1 p.2 hp
theorem rad_use {r : Run} {c : Bool} {h : Heap} {K : R → Heap → Prop} (n : Nat) (hr : r.n ≤ 1000) (hn : h[n]? = some (rnE r)) (hk : K uR (h.set n (rnE (r.add c)))) : AskC radC [.t (.one (.ptr n 0)),iv .u8 (cI c)] h K :=
 .one (X:=fun p : Run × Bool=>[iv .u8 (cI p.2)]) (E:=fun p=>rnE p.1) (E':=fun p=>rnE (p.1.add p.2)) (r,c) n hr hn rfl rfl (fun g=>⟨rfl,rfl,trivial⟩) (fun g=>rfl) hk
def stF (s : ByteArray) (j q : Nat) : List C:=if j = 0 then [.v (.int .u8 0)] else [cC (gb (stO (rd s) j) q)]
theorem stF_at {s : ByteArray} {j q : Nat} (hq : q < (stO (rd s) j).length) : stF s j q = [cC (gb (stO (rd s) j) q)]:=by
 refine if_neg fun e=>?_
 subst e
 simp [stO,stuffGo] at hq
theorem add_last (r : Run) (c : Bool) : (r.add c).last = c:=by
 unfold Run.add
 split
 ·rename_i h; exact h.2.symm
 ·rfl
def mostN (n : Nat) : Nat:=if n < 5 then n else n + 1 + (n - 5) / 4
abbrev mostC : Con Nat:=RoCon (fun p=>[iv .i64 p]) (fun _=>[]) (fun p=>p ≤ 10000) fun p=>iv .i64 (mostN p : Nat)
noncomputable abbrev tabMst : List (FuncId × Eng.Fn):=[(F.stuff_Most,fn.stuff_Most u0)]
theorem tabMst_ok {d : Nat} : TabOk d tabMst tt:=.cons (ok.stuff_Most u0) (TabOk.nil)
theorem most_run (n : Nat) (hn : n ≤ 10000) : clRunX 4 tt outs0b tabMst 2 F.stuff_Most [] [iv .i64 n] ([]) (fun x h=>Trim 0 x h fun x h=>x = iv .i64 (mostN n : Nat) ∧ h = []):=by
 have e0 : min (max (n : Int) 0) 10000 = n:=by omega
 have e1 : mostN n = if n < 5 then n else n + 1 + (n - 5) / 4:=rfl
 by_cases h : n < 5
 ·rw [if_pos h] at e1
  refine wB ?_
  rw [e0]
  refine wB ?_
  exact trim0 rfl (by rw [e1])
 ·rw [if_neg h] at e1
  have e2 : ((n : Int) - 5).tdiv 4 = (((n - 5) / 4 : Nat) : Int):=by rw [Int.tdiv_eq_ediv_of_nonneg (by omega)]; omega
  refine wB ?_
  rw [e0]
  refine wB ?_
  rw [e2]
  refine wB ?_
  exact trim0 rfl (by rw [e1]; rfl)
theorem most_ok : ConOk Tryz.prog F.stuff_Most mostC:=con_of_run (clRunX_ok (d:=4) ttOk outs0b_ok tabMst_ok 2) (fn_enters (ok.stuff_Most (D:=4) u0 _ (clRunX_ok (d:=4) ttOk .nil TabOk.nil 1))) fun p hp=>most_run p hp
theorem most_use {n : Nat} {h : Heap} {K : R → Heap → Prop} (hn : n ≤ 10000) (hk : K (iv .i64 (mostN n : Nat)) h) : AskC mostC [iv .i64 n] h K :=
 .use n [] hn rfl trivial ⟨.inl rfl,trivial⟩ hk
abbrev outsPst : List (FuncId × Cx):=[(F.stuff_one,AskC oneC),(F.stuff_Run_Add,AskC radC),(F.stuff_Most,AskC mostC)]
theorem outsPst_ok : OutsOk Tryz.prog outsPst:=.cons (ask_ok one_ok) (.cons (ask_ok rad_ok) (.cons (ask_ok most_ok) .nil))
noncomputable abbrev tabPst : List (FuncId × Eng.Fn):=[(F.stuff_Stuff,fn.stuff_Stuff u0),(F.stuff_Run_Full,fn.stuff_Run_Full u0),(F.stuff_Run_Other,fn.stuff_Run_Other u0),(F.stuff_other,fn.stuff_other u0)]
theorem tabPst_ok {d : Nat} : TabOk d tabPst tt:=.cons (ok.stuff_Stuff u0) (.cons (ok.stuff_Run_Full u0) (.cons (ok.stuff_Run_Other u0) (.cons (ok.stuff_other u0) (TabOk.nil))))
theorem pst_run (s : ByteArray) (hs : s.size ≤ 1000) : clRunX 6 tt outsPst tabPst 3 F.stuff_Stuff [] [sv s] ([]) (fun x h=>Trim 0 x h fun x h=>x = sv (bs (stuff (rd s))) ∧ h = []):=by
 obtain ⟨M,hM,hM2⟩ : ∃ M : Nat,mostN s.size = M ∧ M ≤ 2000:=⟨_,rfl,by unfold mostN; split <;> omega⟩
 refine wB ?_
 refine most_use (by omega) ?_
 rw [hM]
 refine wB ?_
 refine cDT ?_ ?_
 ·refine ⟨by omega,by omega, ?_,by omega⟩
  dsimp only
  omega
 try rw [tn]
 refine wB ?_
 refine .inv (fun p : Nat × Nat × Nat=>p.1 ≤ s.size ∧ ((p.1 = 0 ∧ p.2.1 = M) ∨ (p.1 ≠ 0 ∧ p.2.1 = (stO (rd s) p.1).length)) ∧ p.2.1 ≤ p.2.2) (fun p=>[(3,.t (.one (.slc 0 0 1 0 (stO (rd s) p.1).length p.2.2 false))),(10,.junk),(13,iv .i64 p.1)]) (fun p=>[.ob (.row 1 p.2.1 (stF s p.1) p.2.2),rnE (stR (rd s) p.1)]) (fun p=>s.size - p.1) (0,M,M) ⟨Nat.zero_le _,.inl ⟨rfl,rfl⟩,Nat.le_refl _⟩ ?_ (fun p ⟨hj,hl0,hcap⟩=>?_)
 ·exact wF
 generalize p.1 = j at *
 generalize p.2.1 = n at *
 generalize p.2.2 = cap at *
 have hr:=stR_bd (rd s) j
 have hle:=stO_len (rd s) j
 have h5:=fun a b=>stO_5 (l:=rd s) (j:=j) a b
 have hn:=fun a b=>stO_n (l:=rd s) (j:=j) a b
 have he : j = s.size → stO (rd s) j = stuff (rd s):=fun e=>by rw [e,← rd_len]; exact stO_all _
 have hF:=fun q (hq : q < (stO (rd s) j).length)=>stF_at hq
 have hF':=fun q (hq : q < (stO (rd s) (j + 1)).length)=>stF_at hq
 have h0 : j = 0 → (stO (rd s) j).length = 0:=fun e=>by rw [e]; rfl
 generalize hO : stO (rd s) j = O at *
 generalize hR : stR (rd s) j = r at *
 obtain ⟨k,hk⟩ : ∃ k,O.length = k:=⟨_,rfl⟩
 have hkn : k ≤ n:=by
  rcases hl0 with ⟨a,b⟩ | ⟨a,b⟩
  ·have:=h0 a; omega
  ·omega
 rw [hk] at hle ⊢
 conv=>whnf
 refine cD (fun h6=>?_) (fun h6=>?_)
 ·have hj' : j < (rd s).length:=by rw [rd_len]; omega
  refine wB ?_
  refine sone_use (by omega) (by omega) ?_
  have ha:=add_rl r (gb (rd s) j)
  have hla:=add_last r (gb (rd s) j)
  have h5:=h5 hj'
  have hn:=hn hj'
  generalize gb (rd s) j = c at *
  refine wB ?_
  refine cT (decide_eq_true (by show (k + 1) * 1 ≤ 1099511627776; omega)) ?_
  refine cT (decide_eq_true ⟨by omega,by omega⟩) ?_
  intro c1 hc1
  have hc1 : k + 1 ≤ c1:=hc1
  refine wB ?_
  refine rad_use 1 (by omega) rfl ?_
  generalize r.add c = r1 at *
  obtain ⟨ha1,ha2,ha3⟩:=ha
  by_cases h7 : r1.n = 5
  ·obtain ⟨e1,e2⟩:=h5 h7
   have el : (stO (rd s) (j + 1)).length = k + 1 + 1:=by rw [e1,List.length_append,hk]; rfl
   cases c
   ·refine wB ?_
    rw [ha1]
    refine wB ?_
    refine cT (decide_eq_true (by show (k + 1 + 1) * 1 ≤ 1099511627776; omega)) ?_
    refine wB ?_
    intro c2 hc2
    have hc2 : k + 1 + 1 ≤ c2:=hc2
    refine wB ?_
    rw [ha1]
    refine wB ?_
    refine rad_use (c:=true) 1 (by omega) rfl ?_
    have e3 : r1.add true = ⟨true,1⟩:=add_un (fun h=>by have h:=h.2; rw [hla] at h; cases h)
    rw [e3]
    refine wB ?_
    refine ⟨(j + 1,k + 1 + 1,c2),⟨⟨by show j + 1 ≤ s.size; omega,.inr ⟨by show j + 1 ≠ 0; omega,by show k + 1 + 1 = _; rw [el]⟩,hc2⟩,by show s.size - (j + 1) < s.size - j; omega⟩, ?_⟩
    rw [e2,el]
    conv=>whnf
    refine Le.nm [5,1] rfl ?_ ?_
    ·refine ⟨⟨rfl,rfl,rfl,fun q hq=>?_⟩,⟨rfl,rfl,trivial⟩,trivial⟩
     have hq : q < k + 1 + 1:=hq
     show (if q < k + 1 then (if 0 + q < k then stF s j (0 + (0 + q)) else nthD [] [[cC false]] (0 + (0 + q - k))) else nthD [] [[cC true]] (0 + (q - (k + 1)))) = stF s (j + 1) q
     rw [hF' q (by omega),show stO (rd s) (j + 1) = O ++ [false,true] from e1,← appb2 (O:=O) (c:=false) (e:=true) hk hq,Nat.zero_add q]
     by_cases c9 : q < k
     ·rw [if_pos c9,if_pos c9,if_pos (by omega),if_pos (by omega),Nat.zero_add,hF q (by omega)]
     ·rw [if_neg c9,if_neg c9]
    ·exact wH
   ·refine wB ?_
    rw [ha1]
    refine wB ?_
    refine cT (decide_eq_true (by show (k + 1 + 1) * 1 ≤ 1099511627776; omega)) ?_
    refine wB ?_
    intro c2 hc2
    have hc2 : k + 1 + 1 ≤ c2:=hc2
    refine wB ?_
    rw [ha1]
    refine wB ?_
    refine rad_use (c:=false) 1 (by omega) rfl ?_
    have e3 : r1.add false = ⟨false,1⟩:=add_un (fun h=>by have h:=h.2; rw [hla] at h; cases h)
    rw [e3]
    refine wB ?_
    refine ⟨(j + 1,k + 1 + 1,c2),⟨⟨by show j + 1 ≤ s.size; omega,.inr ⟨by show j + 1 ≠ 0; omega,by show k + 1 + 1 = _; rw [el]⟩,hc2⟩,by show s.size - (j + 1) < s.size - j; omega⟩, ?_⟩
    rw [e2,el]
    conv=>whnf
    refine Le.nm [5,1] rfl ?_ ?_
    ·refine ⟨⟨rfl,rfl,rfl,fun q hq=>?_⟩,⟨rfl,rfl,trivial⟩,trivial⟩
     have hq : q < k + 1 + 1:=hq
     show (if q < k + 1 then (if 0 + q < k then stF s j (0 + (0 + q)) else nthD [] [[cC true]] (0 + (0 + q - k))) else nthD [] [[cC false]] (0 + (q - (k + 1)))) = stF s (j + 1) q
     rw [hF' q (by omega),show stO (rd s) (j + 1) = O ++ [true,false] from e1,← appb2 (O:=O) (c:=true) (e:=false) hk hq,Nat.zero_add q]
     by_cases c9 : q < k
     ·rw [if_pos c9,if_pos c9,if_pos (by omega),if_pos (by omega),Nat.zero_add,hF q (by omega)]
     ·rw [if_neg c9,if_neg c9]
    ·exact wH
  ·obtain ⟨e1,e2⟩:=hn h7
   have el : (stO (rd s) (j + 1)).length = k + 1:=by rw [e1,List.length_append,hk]; rfl
   refine wB ?_
   refine ⟨(j + 1,k + 1,c1),⟨⟨by show j + 1 ≤ s.size; omega,.inr ⟨by show j + 1 ≠ 0; omega,by show k + 1 = _; rw [el]⟩,hc1⟩,by show s.size - (j + 1) < s.size - j; omega⟩, ?_⟩
   rw [e2,el]
   conv=>whnf
   refine Le.nm [3,1] rfl ?_ ?_
   ·refine ⟨⟨rfl,rfl,rfl,fun q hq=>?_⟩,⟨rfl,rfl,trivial⟩,trivial⟩
    have hq : q < k + 1:=hq
    show (if q < k then stF s j (0 + q) else nthD [] [[cC c]] (0 + (q - k))) = stF s (j + 1) q
    rw [hF' q (by omega),e1,← appb (O:=O) (c:=c) hk hq,Nat.zero_add q]
    by_cases c9 : q < k
    ·rw [if_pos c9,if_pos c9,hF q (by omega)]
    ·rw [if_neg c9,if_neg c9]
   ·exact wH
 refine wB ?_
 refine cT (bytesB_mk fun q hq=>⟨_,by rw [Nat.zero_add]; exact hF q (by omega)⟩) ?_
 refine wB ?_
 refine trim0 rfl (congrArg sv ?_)
 rw [← he (by omega)]
 exact mkStr_bs hk fun q hq=>by rw [Nat.zero_add]; exact hF q (by omega)
theorem pst_ok : ConOk Tryz.prog F.stuff_Stuff stuC:=con_of_run (clRunX_ok (d:=6) ttOk outsPst_ok tabPst_ok 3) (fn_enters (ok.stuff_Stuff (D:=6) u0 _ (clRunX_ok (d:=6) ttOk .nil TabOk.nil 1))) fun p hp=>pst_run p hp
abbrev rdE (l : List UInt8) (k : Nat) : HE:=.ob (.own [.c (.v (.string (tx (l.drop k)))),.c (.v (.bool (decide (l.length < k))))])
abbrev boxP (m : Mat) (c : Caps) : HE:=.ob (.own [.c (iC m.level),.c (iC m.nodes),.c (iC m.cycles),.c (iC m.length),.c (iC m.enable),.c (iC m.unit),.c (iC m.init),.c (uC m.ref),
 .c (.slc 0 0 1 0 m.nM c.c1 c.z1),.c (.slc 1 0 3 0 m.nG c.c2 c.z2),.c (.slc 2 0 6 0 m.nW c.c3 c.z3)])
theorem tx_emp (l : List UInt8) (k : Nat) : strEq (tx (l.drop k)) ⟨#[]⟩ = decide (l.length ≤ k):=by
 have:=emp_iff (tx (l.drop k))
 rw [tx_size,List.length_drop] at this
 rw [show (⟨#[]⟩ : ByteArray) = .empty from rfl,this]
 exact decide_eq_decide.2 (by omega)
abbrev rdOneC : Con (List UInt8 × Nat):=DetCon (fun _=>[pR 0]) (fun p=>[rdE p.1 p.2]) (fun p=>p.1.length ≤ 1000) (fun p=>iv .i64 (gI p.1 p.2)) fun p=>[rdE p.1 (p.2 + 1)]
abbrev rdTwoC : Con (List UInt8 × Nat):=DetCon (fun _=>[pR 0]) (fun p=>[rdE p.1 p.2]) (fun p=>p.1.length ≤ 1000) (fun p=>iv .i64 (wI p.1 p.2)) fun p=>[rdE p.1 (p.2 + 2)]
theorem rdE_in {l : List UInt8} {k : Nat} (h : ¬ l.length ≤ k) : rdE l (k + 1) = .ob (.own [.c (.v (.string (tx (l.drop (k + 1))))),.c (.v (.bool (decide (l.length < k))))]):=by
 show HE.ob (.own [.c (.v (.string (tx (l.drop (k + 1))))),.c (.v (.bool (decide (l.length < k + 1))))]) = _
 rw [decide_eq_false (show ¬ l.length < k + 1 by omega),decide_eq_false (show ¬ l.length < k by omega)]
theorem rdE_out {l : List UInt8} {k : Nat} (h : l.length ≤ k) : rdE l (k + 1) = .ob (.own [.c (.v (.string ⟨#[]⟩)),.c (.v (.bool true))]) ∧ rdE l k = .ob (.own [.c (.v (.string ⟨#[]⟩)),.c (.v (.bool (decide (l.length < k))))]):=by
 constructor
 ·show HE.ob (.own [.c (.v (.string (tx (l.drop (k + 1))))),.c (.v (.bool (decide (l.length < k + 1))))]) = _
  rw [List.drop_of_length_le (by omega),decide_eq_true (by omega)]; rfl
 ·show HE.ob (.own [.c (.v (.string (tx (l.drop k)))),.c (.v (.bool (decide (l.length < k))))]) = _
  rw [List.drop_of_length_le h]; rfl
theorem tx_in {l : List UInt8} {k : Nat} (hl : l.length ≤ 1000) (h : ¬ l.length ≤ k) : strEq (tx (l.drop k)) ⟨#[]⟩ = false ∧ (1 ≤ (tx (l.drop k)).size ∧ (tx (l.drop k)).size ≤ 1000) ∧ bt (tx (l.drop k)) 0 = gI l k ∧ (tx (l.drop k)).extract 1 (tx (l.drop k)).size = tx (l.drop (k + 1)):=by
 refine ⟨by rw [tx_emp,decide_eq_false h],by rw [tx_size,List.length_drop]; omega,tx_bt l k 0,tx_ext l k⟩
noncomputable abbrev tabCOne : List (FuncId × Eng.Fn):=[(F.config_reader_one,fn.config_reader_one u0)]
theorem tabCOne_ok {d : Nat} : TabOk d tabCOne tt:=.cons (ok.config_reader_one u0) (TabOk.nil)
theorem cOne_run (l : List UInt8) (k : Nat) (hl : l.length ≤ 1000) : clRunX 5 tt outs0 tabCOne 2 F.config_reader_one [] [pR 0] [rdE l k] (fun x h=>Trim 1 x h fun x h=>x = iv .i64 (gI l k) ∧ h = [rdE l (k + 1)]):=by
 by_cases h : l.length ≤ k
 ·rw [gI_big h,(rdE_out h).1,(rdE_out h).2]
  refine wB ?_
  refine Trim.det (Le.id rfl wH wH)
 ·rw [rdE_in h]
  obtain ⟨h1,h2,h3,h4⟩:=tx_in hl h
  rw [show rdE l k = .ob (.own [.c (.v (.string (tx (l.drop k)))),.c (.v (.bool (decide (l.length < k))))]) from rfl]
  generalize tx (l.drop k) = s at *
  have h3 : bt s (Int.toNat 0) = gI l k:=h3
  have hb:=gI_bd l k
  generalize gI l k = g at *
  refine wB ?_
  rw [h1]
  refine wB ?_
  rw [h3,show s.extract (Int.toNat 1) s.size = _ from h4]
  refine Trim.det (Le.id rfl wH wH)
theorem cOne_ok : ConOk Tryz.prog F.config_reader_one rdOneC:=con_of_run (clRunX_ok (d:=5) ttOk outs0_ok tabCOne_ok 2) (fn_enters (ok.config_reader_one (D:=5) u0 _ (clRunX_ok (d:=5) ttOk .nil TabOk.nil 1))) fun p hp=>cOne_run p.1 p.2 hp
noncomputable abbrev tabCTwo : List (FuncId × Eng.Fn):=[(F.config_reader_two,fn.config_reader_two u0)]
theorem tabCTwo_ok {d : Nat} : TabOk d tabCTwo tt:=.cons (ok.config_reader_two u0) (TabOk.nil)
abbrev outsCOne : List (FuncId × Cx):=[(F.config_reader_one,AskC rdOneC)]
theorem outsCOne_ok : OutsOk Tryz.prog outsCOne:=.cons (ask_ok cOne_ok) .nil
theorem one_use {l : List UInt8} {k : Nat} {n : Nat} {h : Heap} {K : R → Heap → Prop} (hl : l.length ≤ 1000) (hh : leH (sig h [n]) h [n] [rdE l k]) (hk : K (iv .i64 (gI l k)) (mrg (back h [rdE l k] [n]) h [n] [rdE l k] [rdE l (k + 1)])) : AskC rdOneC [pR n] h K :=
 .det (l,k) [n] (iv .i64 (gI l k)) _ hl rfl hh ⟨.inl rfl,trivial⟩ rfl rfl hk
theorem sh8 (g : Int) : g * 2 ^ min (Int.toNat 8) IntKind.i64.bits = 256 * g:=by
 rw [show min (Int.toNat 8) IntKind.i64.bits = 8 from rfl]; omega
theorem or8i (l : List UInt8) (k : Nat) : orI .i64 (256 * gI l k) (gI l (k + 1)) = wI l k:=by
 have:=or_wI l k
 rwa [sh8] at this
theorem cTwo_run (l : List UInt8) (k : Nat) (hl : l.length ≤ 1000) : clRunX 4 tt outsCOne tabCTwo 2 F.config_reader_two [] [pR 0] [rdE l k] (fun x h=>Trim 1 x h fun x h=>x = iv .i64 (wI l k) ∧ h = [rdE l (k + 2)]):=by
 have h1:=gI_bd l k
 have h2:=gI_bd l (k + 1)
 have h3:=or8i l k
 generalize hv : gI l k = v at *
 generalize hw : gI l (k + 1) = w at *
 refine wB ?_
 refine one_use (k:=k) hl ?_ ?_
 ·exact wH
 rw [hv]
 repeat(refine wA ?_;(conv=>whnf);first|rw [sh8])
 refine wB ?_
 refine one_use (k:=k + 1) hl ?_ ?_
 ·exact wH
 rw [hw]
 repeat(refine wA ?_;(conv=>whnf);first|rw [h3])
 refine wB ?_
 refine Trim.det (Le.id rfl wH wH)
theorem cTwo_ok : ConOk Tryz.prog F.config_reader_two rdTwoC:=con_of_run (clRunX_ok (d:=4) ttOk outsCOne_ok tabCTwo_ok 2) (fn_enters (ok.config_reader_two (D:=4) u0 _ (clRunX_ok (d:=4) ttOk .nil TabOk.nil 1))) fun p hp=>cTwo_run p.1 p.2 hp
abbrev nilR : R:=.t (.one (.v (.slice none 0 0)))
theorem cpy_row {f : Nat → List C} {z : List C} {n q : Nat} (h : q < n) : (if 0 ≤ q ∧ q < 0 + min n n then f (0 + (q - 0)) else z) = f q:=by
 rw [if_pos ⟨Nat.zero_le _,by rw [Nat.min_self]; omega⟩,Nat.zero_add,Nat.sub_zero]
noncomputable abbrev tabCpI : List (FuncId × Eng.Fn):=[(F.matrix_copied_int,fn.matrix_copied_int u0)]
theorem tabCpI_ok {d : Nat} : TabOk d tabCpI tt:=.cons (ok.matrix_copied_int u0) (TabOk.nil)
theorem cpI_run (M : Nat → Int) (n cap : Nat) (hn : n ≤ 1000) : clRunX 4 tt outs0 tabCpI 2 F.matrix_copied_int [] [.t (.one (.slc 0 0 1 0 n cap false))] [.ob (.ro 1 n fun i=>(fun v : Int=>[iC v]) (M i))] (fun x h=>Trim 1 x h fun x h=>x = .t (.one (.slc 1 0 1 0 n n false)) ∧ h = [.ob (.ro 1 n fun i=>(fun v : Int=>[iC v]) (M i)),.ob (.row 1 n (fun i=>(fun v : Int=>[iC v]) (M i)) n)]):=by
 refine wB ?_
 refine cDT ?_ ?_
 ·refine ⟨by omega,by omega, ?_,by omega⟩
  dsimp only
  omega
 try rw [tn]
 refine wB ?_
 refine Trim.det ?_
 refine Le.id rfl ?_ ?_
 ·refine ⟨⟨.inl rfl,Nat.le_refl _,fun _ _=>rfl⟩,⟨rfl,rfl,rfl,fun q hq=>?_⟩,trivial⟩
  exact cpy_row (f:=fun i=>(fun v : Int=>[iC v]) (M i)) hq
 ·exact wH
noncomputable abbrev tabCpG : List (FuncId × Eng.Fn):=[(F.matrix_copied_Message,fn.matrix_copied_Message u0)]
theorem tabCpG_ok {d : Nat} : TabOk d tabCpG tt:=.cons (ok.matrix_copied_Message u0) (TabOk.nil)
theorem cpG_run (M : Nat → Msg) (n cap : Nat) (hn : n ≤ 1000) : clRunX 4 tt outs0 tabCpG 2 F.matrix_copied_Message [] [.t (.one (.slc 0 0 3 0 n cap false))] [.ob (.ro 3 n fun i=>(msgL) (M i))] (fun x h=>Trim 1 x h fun x h=>x = .t (.one (.slc 1 0 3 0 n n false)) ∧ h = [.ob (.ro 3 n fun i=>(msgL) (M i)),.ob (.row 3 n (fun i=>(msgL) (M i)) n)]):=by
 refine wB ?_
 refine cDT ?_ ?_
 ·refine ⟨by omega,by omega, ?_,by omega⟩
  dsimp only
  omega
 try rw [tn]
 refine wB ?_
 refine Trim.det ?_
 refine Le.id rfl ?_ ?_
 ·refine ⟨⟨.inl rfl,Nat.le_refl _,fun _ _=>rfl⟩,⟨rfl,rfl,rfl,fun q hq=>?_⟩,trivial⟩
  exact cpy_row (f:=fun i=>(msgL) (M i)) hq
 ·exact wH
noncomputable abbrev tabCpW : List (FuncId × Eng.Fn):=[(F.matrix_copied_Window,fn.matrix_copied_Window u0)]
theorem tabCpW_ok {d : Nat} : TabOk d tabCpW tt:=.cons (ok.matrix_copied_Window u0) (TabOk.nil)
theorem cpW_run (M : Nat → Win) (n cap : Nat) (hn : n ≤ 1000) : clRunX 4 tt outs0 tabCpW 2 F.matrix_copied_Window [] [.t (.one (.slc 0 0 6 0 n cap false))] [.ob (.ro 6 n fun i=>(winL) (M i))] (fun x h=>Trim 1 x h fun x h=>x = .t (.one (.slc 1 0 6 0 n n false)) ∧ h = [.ob (.ro 6 n fun i=>(winL) (M i)),.ob (.row 6 n (fun i=>(winL) (M i)) n)]):=by
 refine wB ?_
 refine cDT ?_ ?_
 ·refine ⟨by omega,by omega, ?_,by omega⟩
  dsimp only
  omega
 try rw [tn]
 refine wB ?_
 refine Trim.det ?_
 refine Le.id rfl ?_ ?_
 ·refine ⟨⟨.inl rfl,Nat.le_refl _,fun _ _=>rfl⟩,⟨rfl,rfl,rfl,fun q hq=>?_⟩,trivial⟩
  exact cpy_row (f:=fun i=>(winL) (M i)) hq
 ·exact wH
end Go.Proofs.YtlckbdhpehkeoaaGreat.Co
