/- Parts. -/
import Derived.Test.YtlckbdhpehkeoaaGreatJ05
import Derived.Test.YtlckbdhpehkeoaaGreatJ10
import Derived.Test.YtlckbdhpehkeoaaGreatJ12
namespace Go.Proofs.YtlckbdhpehkeoaaGreat.Co
open Go Go.Eng Go.Proofs Go.Proofs.YtlckbdhpehkeoaaGreat.Tb Go.Pu
set_option maxRecDepth 100000
set_option maxHeartbeats 8000000
abbrev glbE (g : Glb) : HE:=.ob (.own [zI g.w0,nU g.g0,nU g.m0,zI g.w1,nU g.g1,nU g.m1,nI g.st])
abbrev glbL (w0 : Int) (g0 m0 : Nat) (w1 : Int) (g1 m1 st : Nat) : HE:=.ob (.own [zI w0,nU g0,nU m0,zI w1,nU g1,nU m1,nI st])
noncomputable abbrev tabGlN : List (FuncId × Eng.Fn):=[(F.global_New,fn.global_New u0)]
theorem tabGlN_ok {d : Nat} : TabOk d tabGlN tt:=.cons (ok.global_New u0) (TabOk.nil)
theorem glNew_run (u : Unit) : clRunX 5 tt outs0 tabGlN 2 F.global_New [] [] [] (fun x h=>Trim 0 x h fun x h=>x = pR 0 ∧ h = [glbE glb0]):=by
 refine wB ?_
 refine Trim.det (Le.id rfl wH wH)
abbrev glNewC : Con Unit:=DetCon (fun _=>[]) (fun _=>[]) (fun _=>True) (fun _=>pR 0) fun _=>[glbE glb0]
theorem glNew_ok : ConOk Tryz.prog F.global_New glNewC:=con_of_run (clRunX_ok (d:=5) ttOk outs0_ok tabGlN_ok 2) (fn_enters (ok.global_New (D:=5) u0 _ (clRunX_ok (d:=5) ttOk .nil TabOk.nil 1))) fun p _=>glNew_run p
noncomputable abbrev tabGlB : List (FuncId × Eng.Fn):=[(F.global_Global_Beat,fn.global_Global_Beat u0)]
theorem tabGlB_ok {d : Nat} : TabOk d tabGlB tt:=.cons (ok.global_Global_Beat u0) (TabOk.nil)
theorem glBeat_run (w0 : Int) (g0 m0 : Nat) (w1 : Int) (g1 m1 st : Nat) (who : Int) (gl mk : Nat) (disc : Bool) (hst : st ≤ 1000) (n : Nat) (hn : n = if st = 0 ∨ disc = true ∨ w0 ≠ who then 1 else min (st + 1) 1000) :
    clRunX 7 tt outs0 tabGlB 2 F.global_Global_Beat [] [pR 0, iv .i64 who, iv .u16 gl, iv .u16 mk, bv disc] [glbL w0 g0 m0 w1 g1 m1 st] (fun x h => Trim 1 x h fun x h => x = uR ∧ h = [glbL who gl mk w0 g0 m0 n]) := by
  by_cases h1 : st = 0
  · rw [if_pos (.inl h1)] at hn
    subst hn
    refine wB ?_
    refine Trim.det (Le.id rfl wH wH)
  cases disc
  rotate_left
  · rw [if_pos (.inr (.inl rfl))] at hn
    subst hn
    refine wB ?_
    refine Trim.det (Le.id rfl wH wH)
  by_cases h2 : w0 = who
  · rw [if_neg (by simp [h1, h2])] at hn
    subst hn
    refine wB ?_
    rw [show min ((st : Int) + 1) 1000 = ((min (st + 1) 1000 : Nat) : Int) by omega]
    refine Trim.det (Le.id rfl wH wH)
  · rw [if_pos (.inr (.inr h2))] at hn
    subst hn
    refine wB ?_
    refine Trim.det (Le.id rfl wH wH)
abbrev glBeatC : Con (Glb × Int × Nat × Nat × Bool):=DetCon (fun p=>[pR 0,iv .i64 p.2.1,iv .u16 p.2.2.1,iv .u16 p.2.2.2.1,bv p.2.2.2.2]) (fun p=>[glbE p.1]) (fun p=>p.1.Ok) (fun _=>uR) fun p=>[glbE (p.1.beat p.2.1 p.2.2.1 p.2.2.2.1 p.2.2.2.2)]
theorem glBeat_ok : ConOk Tryz.prog F.global_Global_Beat glBeatC:=con_of_run (clRunX_ok (d:=7) ttOk outs0_ok tabGlB_ok 2) (fn_enters (ok.global_Global_Beat (D:=7) u0 _ (clRunX_ok (d:=7) ttOk .nil TabOk.nil 1))) fun p hp=>glBeat_run p.1.w0 p.1.g0 p.1.m0 p.1.w1 p.1.g1 p.1.m1 p.1.st p.2.1 p.2.2.1 p.2.2.2.1 p.2.2.2.2 hp.st _ rfl
noncomputable abbrev tabGlA : List (FuncId × Eng.Fn):=[(F.global_Global_At,fn.global_Global_At u0)]
theorem tabGlA_ok {d : Nat} : TabOk d tabGlA tt:=.cons (ok.global_Global_At u0) (TabOk.nil)
theorem glAt_run (w0 : Int) (g0 m0 : Nat) (w1 : Int) (g1 m1 st : Nat) (t : Nat) (hg : g0 < 65536) (hm : m0 < 65536) (ht : t < 65536) (n : Nat) (hn : n = if st = 0 then t else (t + (g0 + 65536 - m0) % 65536) % 65536) :
    clRunX 6 tt outs0 tabGlA 2 F.global_Global_At [] [pR 0, iv .u16 t] [glbL w0 g0 m0 w1 g1 m1 st] (fun x h => Trim 1 x h fun x h => x = iv .u16 n ∧ h = [glbL w0 g0 m0 w1 g1 m1 st]) := by
  by_cases h1 : st = 0
  · rw [if_pos h1] at hn
    subst hn
    refine wB ?_
    refine Trim.det (Le.id rfl wH wH)
  rw [if_neg h1] at hn
  obtain ⟨d, hd⟩ : ∃ d, (g0 + 65536 - m0) % 65536 = d := ⟨_, rfl⟩
  have hd2 : d < 65536 := by rw [← hd]; exact Nat.mod_lt _ (by decide)
  rw [hd] at hn
  by_cases h2 : m0 ≤ g0
  · by_cases h3 : t + d < 65536
    · refine wB ?_
      rw [show (t : Int) + ((g0 : Int) - (m0 : Int)) = (n : Int) by omega]
      refine Trim.det (Le.id rfl wH wH)
    · refine wB ?_
      refine qU16F (by omega) ?_
      rw [wrap16i, show ((t : Int) + ((g0 : Int) - (m0 : Int))) % 65536 = (n : Int) by omega]
      refine wB ?_
      refine Trim.det (Le.id rfl wH wH)
  · refine wB ?_
    refine qU16F (by omega) ?_
    rw [wrap16i, show ((g0 : Int) - (m0 : Int)) % 65536 = (d : Int) by omega]
    by_cases h3 : t + d < 65536
    · refine wB ?_
      rw [show (t : Int) + (d : Int) = (n : Int) by omega]
      refine Trim.det (Le.id rfl wH wH)
    · refine wB ?_
      refine qU16F (by omega) ?_
      rw [wrap16i, show ((t : Int) + (d : Int)) % 65536 = (n : Int) by omega]
      refine wB ?_
      refine Trim.det (Le.id rfl wH wH)
abbrev glAtC : Con (Glb × Nat):=DetCon (fun p=>[pR 0,iv .u16 p.2]) (fun p=>[glbE p.1]) (fun p=>p.1.Ok ∧ p.2 < 65536) (fun p=>iv .u16 (p.1.at_ p.2 : Nat)) fun p=>[glbE p.1]
theorem glAt_ok : ConOk Tryz.prog F.global_Global_At glAtC:=con_of_run (clRunX_ok (d:=6) ttOk outs0_ok tabGlA_ok 2) (fn_enters (ok.global_Global_At (D:=6) u0 _ (clRunX_ok (d:=6) ttOk .nil TabOk.nil 1))) fun p hp=>glAt_run p.1.w0 p.1.g0 p.1.m0 p.1.w1 p.1.g1 p.1.m1 p.1.st p.2 hp.1.g0 hp.1.m0 hp.2 _ rfl
noncomputable abbrev tabGlF : List (FuncId × Eng.Fn):=[(F.global_Global_Forget,fn.global_Global_Forget u0)]
theorem tabGlF_ok {d : Nat} : TabOk d tabGlF tt:=.cons (ok.global_Global_Forget u0) (TabOk.nil)
theorem glForget_run (w0 : Int) (g0 m0 : Nat) (w1 : Int) (g1 m1 st : Nat) : clRunX 6 tt outs0 tabGlF 2 F.global_Global_Forget [] [pR 0] [glbL w0 g0 m0 w1 g1 m1 st] (fun x h=>Trim 1 x h fun x h=>x = uR ∧ h = [glbE glb0]):=by
 refine wB ?_
 refine Trim.det (Le.id rfl wH wH)
abbrev glForgetC : Con Glb:=DetCon (fun _=>[pR 0]) (fun p=>[glbE p]) (fun _=>True) (fun _=>uR) fun _=>[glbE glb0]
theorem glForget_ok : ConOk Tryz.prog F.global_Global_Forget glForgetC:=con_of_run (clRunX_ok (d:=6) ttOk outs0_ok tabGlF_ok 2) (fn_enters (ok.global_Global_Forget (D:=6) u0 _ (clRunX_ok (d:=6) ttOk .nil TabOk.nil 1))) fun p _=>glForget_run p.w0 p.g0 p.m0 p.w1 p.g1 p.m1 p.st
abbrev mstE (m : Mst) : HE:=.ob (.own [zI m.rank,nI m.state,zI m.lead])
abbrev mstL (r : Int) (s : Nat) (l : Int) : HE:=.ob (.own [zI r,nI s,zI l])
noncomputable abbrev tabMsN : List (FuncId × Eng.Fn):=[(F.master_New,fn.master_New u0),(F.master_nothing,fn.master_nothing u0)]
theorem tabMsN_ok {d : Nat} : TabOk d tabMsN tt:=.cons (ok.master_New u0) (.cons (ok.master_nothing u0) (TabOk.nil))
theorem msNew_run (r : Int) : clRunX 5 tt outs0 tabMsN 3 F.master_New [] [iv .i64 r] [] (fun x h=>Trim 0 x h fun x h=>x = pR 0 ∧ h = [mstL (max r (-1)) 0 (-1)]):=by
 refine wB ?_
 refine Trim.det (Le.nm [1] rfl wH wH)
abbrev msNewC : Con Int:=DetCon (fun p=>[iv .i64 p]) (fun _=>[]) (fun _=>True) (fun _=>pR 0) fun p=>[mstE (Mst.new p)]
theorem msNew_ok : ConOk Tryz.prog F.master_New msNewC:=con_of_run (clRunX_ok (d:=5) ttOk outs0_ok tabMsN_ok 3) (fn_enters (ok.master_New (D:=5) u0 _ (clRunX_ok (d:=5) ttOk .nil TabOk.nil 1))) fun p _=>msNew_run p
noncomputable abbrev tabMsB : List (FuncId × Eng.Fn):=[(F.master_Master_Beat,fn.master_Master_Beat u0)]
theorem tabMsB_ok {d : Nat} : TabOk d tabMsB tt:=.cons (ok.master_Master_Beat u0) (TabOk.nil)
theorem msBeat_run (r : Int) (s : Nat) (l : Int) (k : Int) (hs : s ≤ 2) : clRunX 6 tt outs0 tabMsB 2 F.master_Master_Beat [] [pR 0,iv .i64 k] [mstL r s l] (fun x h=>Trim 1 x h fun x h=>x = uR ∧ h = [mstL r (min (s + 1) 2) k]):=by
 refine wB ?_
 rw [show min ((s : Int) + 1) 2 = ((min (s + 1) 2 : Nat) : Int) by omega]
 refine Trim.det (Le.id rfl wH wH)
abbrev msBeatC : Con (Mst × Int):=DetCon (fun p=>[pR 0,iv .i64 p.2]) (fun p=>[mstE p.1]) (fun p=>p.1.Ok) (fun _=>uR) fun p=>[mstE (p.1.beat p.2)]
theorem msBeat_ok : ConOk Tryz.prog F.master_Master_Beat msBeatC:=con_of_run (clRunX_ok (d:=6) ttOk outs0_ok tabMsB_ok 2) (fn_enters (ok.master_Master_Beat (D:=6) u0 _ (clRunX_ok (d:=6) ttOk .nil TabOk.nil 1))) fun p hp=>msBeat_run p.1.rank p.1.state p.1.lead p.2 hp.s
noncomputable abbrev tabMsS : List (FuncId × Eng.Fn):=[(F.master_Master_Sent,fn.master_Master_Sent u0),(F.master_Master_Stands,fn.master_Master_Stands u0)]
theorem tabMsS_ok {d : Nat} : TabOk d tabMsS tt:=.cons (ok.master_Master_Sent u0) (.cons (ok.master_Master_Stands u0) (TabOk.nil))
theorem msSent_run (r : Int) (s : Nat) (l : Int) (m' : Mst) (hm : m' = if 0 ≤ r then ⟨r,2,r⟩ else ⟨r,s,l⟩) : clRunX 6 tt outs0 tabMsS 3 F.master_Master_Sent [] [pR 0] [mstL r s l] (fun x h=>Trim 1 x h fun x h=>x = uR ∧ h = [mstE m']):=by
 by_cases h : 0 ≤ r
 ·rw [if_pos h] at hm
  rw [hm]
  refine wB ?_
  refine Trim.det (Le.id rfl wH wH)
 ·rw [if_neg h] at hm
  rw [hm]
  refine wB ?_
  refine Trim.det (Le.id rfl wH wH)
abbrev msSentC : Con Mst:=DetCon (fun _=>[pR 0]) (fun p=>[mstE p]) (fun _=>True) (fun _=>uR) fun p=>[mstE p.sent]
theorem msSent_ok : ConOk Tryz.prog F.master_Master_Sent msSentC:=con_of_run (clRunX_ok (d:=6) ttOk outs0_ok tabMsS_ok 3) (fn_enters (ok.master_Master_Sent (D:=6) u0 _ (clRunX_ok (d:=6) ttOk .nil TabOk.nil 1))) fun p _=>msSent_run p.rank p.state p.lead _ rfl
noncomputable abbrev tabMsW : List (FuncId × Eng.Fn):=[(F.master_Master_Watch,fn.master_Master_Watch u0),(F.master_nothing,fn.master_nothing u0)]
theorem tabMsW_ok {d : Nat} : TabOk d tabMsW tt:=.cons (ok.master_Master_Watch u0) (.cons (ok.master_nothing u0) (TabOk.nil))
theorem msWatch_run (r : Int) (s : Nat) (l : Int) : clRunX 6 tt outs0 tabMsW 3 F.master_Master_Watch [] [pR 0] [mstL r s l] (fun x h=>Trim 1 x h fun x h=>x = uR ∧ h = [mstL r 0 (-1)]):=by
 by_cases h : s = 0 ∧ l = -1
 ·obtain ⟨rfl,rfl⟩:=h
  refine wB ?_
  refine Trim.det (Le.nm [0] rfl wH wH)
 ·have e : (decide ((s : Int) = 0) && (decide (l = -1) && true)) = false:=by
   rw [Bool.and_true,Bool.and_eq_false_iff,decide_eq_false_iff_not,decide_eq_false_iff_not]
   omega
  refine wB ?_
  rw [e]
  refine wB ?_
  refine Trim.det (Le.nm [0] rfl wH wH)
abbrev msWatchC : Con Mst:=DetCon (fun _=>[pR 0]) (fun p=>[mstE p]) (fun _=>True) (fun _=>uR) fun p=>[mstE p.watch]
theorem msWatch_ok : ConOk Tryz.prog F.master_Master_Watch msWatchC:=con_of_run (clRunX_ok (d:=6) ttOk outs0_ok tabMsW_ok 3) (fn_enters (ok.master_Master_Watch (D:=6) u0 _ (clRunX_ok (d:=6) ttOk .nil TabOk.nil 1))) fun p _=>msWatch_run p.rank p.state p.lead
noncomputable abbrev tabMsL : List (FuncId × Eng.Fn):=[(F.master_Master_Leads,fn.master_Master_Leads u0),(F.master_Master_Stands,fn.master_Master_Stands u0)]
theorem tabMsL_ok {d : Nat} : TabOk d tabMsL tt:=.cons (ok.master_Master_Leads u0) (.cons (ok.master_Master_Stands u0) (TabOk.nil))
theorem msLeads_run (r : Int) (s : Nat) (l : Int) (b : Bool) (hb : b = decide (0 ≤ r ∧ s = 2 ∧ r ≤ l)) : clRunX 6 tt outs0 tabMsL 3 F.master_Master_Leads [] [pR 0] [mstL r s l] (fun x h=>Trim 1 x h fun x h=>x = bv b ∧ h = [mstL r s l]):=by
 by_cases h1 : 0 ≤ r
 ·by_cases h2 : s = 2
  ·by_cases h3 : r ≤ l
   ·rw [decide_eq_true ⟨h1,h2,h3⟩] at hb
    subst hb
    refine wB ?_
    rw [decide_eq_true h3]
    refine Trim.det (Le.id rfl wH wH)
   ·rw [decide_eq_false (fun h=>h3 h.2.2)] at hb
    subst hb
    refine wB ?_
    rw [decide_eq_false h3]
    refine Trim.det (Le.id rfl wH wH)
  ·rw [decide_eq_false (fun h=>h2 h.2.1)] at hb
   subst hb
   refine wB ?_
   refine Trim.det (Le.id rfl wH wH)
 ·rw [decide_eq_false (fun h=>h1 h.1)] at hb
  subst hb
  refine wB ?_
  refine Trim.det (Le.id rfl wH wH)
abbrev msLeadsC : Con Mst:=DetCon (fun _=>[pR 0]) (fun p=>[mstE p]) (fun _=>True) (fun p=>bv p.leads) fun p=>[mstE p]
theorem msLeads_ok : ConOk Tryz.prog F.master_Master_Leads msLeadsC:=con_of_run (clRunX_ok (d:=6) ttOk outs0_ok tabMsL_ok 3) (fn_enters (ok.master_Master_Leads (D:=6) u0 _ (clRunX_ok (d:=6) ttOk .nil TabOk.nil 1))) fun p _=>msLeads_run p.rank p.state p.lead _ rfl
abbrev ctsT (c : Cts) : R:=.t (.agg [nI c.sent,nI c.got])
noncomputable abbrev tabCfS : List (FuncId × Eng.Fn):=[(F.confine_Sent,fn.confine_Sent u0),(F.confine_Is,fn.confine_Is u0)]
theorem tabCfS_ok {d : Nat} : TabOk d tabCfS tt:=.cons (ok.confine_Sent u0) (.cons (ok.confine_Is u0) (TabOk.nil))
theorem cfIs (s g : Nat) (hs : s ≤ 1000) (hg : g ≤ 1000) : (decide (min (max (s : Int) 0) 1000 = (s : Int)) && (decide (min (max (g : Int) 0) 1000 = (g : Int)) && true)) = true:=by
 rw [decide_eq_true (by omega),decide_eq_true (by omega)]; rfl
theorem cfSent_run (s g : Nat) (ok : Bool) (hs : s ≤ 1000) (hg : g ≤ 1000) (c : Cts) (hc : c = (⟨s,g⟩ : Cts).send ok) : clRunX 6 tt outs0 tabCfS 3 F.confine_Sent [] [.t (.agg [nI s,nI g]),bv ok] [] (fun x h=>Trim 0 x h fun x h=>x = ctsT c ∧ h = []):=by
 have hc : c = if ok then ⟨s - 1,g⟩ else ⟨min (s + 8) 1000,g⟩:=hc
 cases ok
 ·rw [if_neg (by simp)] at hc
  rw [hc]
  refine wB ?_
  rw [cfIs s g hs hg]
  refine wB ?_
  rw [show min ((s : Int) + 8) 1000 = ((min (s + 8) 1000 : Nat) : Int) by omega]
  refine Trim.det (Le.nm [] rfl wH wH)
 ·rw [if_pos rfl] at hc
  rw [hc]
  refine wB ?_
  rw [cfIs s g hs hg]
  refine wB ?_
  rw [show max ((s : Int) - 1) 0 = ((s - 1 : Nat) : Int) by omega]
  refine Trim.det (Le.nm [] rfl wH wH)
abbrev cfSentC : Con (Cts × Bool):=DetCon (fun p=>[ctsT p.1,bv p.2]) (fun _=>[]) (fun p=>p.1.Ok) (fun p=>ctsT (p.1.send p.2)) fun _=>[]
theorem cfSent_ok : ConOk Tryz.prog F.confine_Sent cfSentC:=con_of_run (clRunX_ok (d:=6) ttOk outs0_ok tabCfS_ok 3) (fn_enters (ok.confine_Sent (D:=6) u0 _ (clRunX_ok (d:=6) ttOk .nil TabOk.nil 1))) fun p hp=>cfSent_run p.1.sent p.1.got p.2 hp.1 hp.2 _ rfl
noncomputable abbrev tabCfG : List (FuncId × Eng.Fn):=[(F.confine_Got,fn.confine_Got u0),(F.confine_Is,fn.confine_Is u0)]
theorem tabCfG_ok {d : Nat} : TabOk d tabCfG tt:=.cons (ok.confine_Got u0) (.cons (ok.confine_Is u0) (TabOk.nil))
theorem cfGot_run (s g : Nat) (ok : Bool) (hs : s ≤ 1000) (hg : g ≤ 1000) (c : Cts) (hc : c = (⟨s,g⟩ : Cts).take ok) : clRunX 6 tt outs0 tabCfG 3 F.confine_Got [] [.t (.agg [nI s,nI g]),bv ok] [] (fun x h=>Trim 0 x h fun x h=>x = ctsT c ∧ h = []):=by
 have hc : c = if ok then (if 127 < g then ⟨s,120⟩ else ⟨s,g - 1⟩) else ⟨s,min (g + 1) 1000⟩:=hc
 cases ok
 ·rw [if_neg (by simp)] at hc
  rw [hc]
  refine wB ?_
  rw [cfIs s g hs hg]
  refine wB ?_
  rw [show min ((g : Int) + 1) 1000 = ((min (g + 1) 1000 : Nat) : Int) by omega]
  refine Trim.det (Le.nm [] rfl wH wH)
 ·rw [if_pos rfl] at hc
  by_cases h : 127 < g
  ·rw [if_pos h] at hc
   rw [hc]
   refine wB ?_
   rw [cfIs s g hs hg]
   refine wB ?_
   refine Trim.det (Le.nm [] rfl wH wH)
  ·rw [if_neg h] at hc
   rw [hc]
   refine wB ?_
   rw [cfIs s g hs hg]
   refine wB ?_
   rw [show max ((g : Int) - 1) 0 = ((g - 1 : Nat) : Int) by omega]
   refine Trim.det (Le.nm [] rfl wH wH)
abbrev cfGotC : Con (Cts × Bool):=DetCon (fun p=>[ctsT p.1,bv p.2]) (fun _=>[]) (fun p=>p.1.Ok) (fun p=>ctsT (p.1.take p.2)) fun _=>[]
theorem cfGot_ok : ConOk Tryz.prog F.confine_Got cfGotC:=con_of_run (clRunX_ok (d:=6) ttOk outs0_ok tabCfG_ok 3) (fn_enters (ok.confine_Got (D:=6) u0 _ (clRunX_ok (d:=6) ttOk .nil TabOk.nil 1))) fun p hp=>cfGot_run p.1.sent p.1.got p.2 hp.1 hp.2 _ rfl
noncomputable abbrev tabCfO : List (FuncId × Eng.Fn):=[(F.confine_IsOff,fn.confine_IsOff u0)]
theorem tabCfO_ok {d : Nat} : TabOk d tabCfO tt:=.cons (ok.confine_IsOff u0) (TabOk.nil)
theorem cfOff_run (s g : Nat) : clRunX 5 tt outs0 tabCfO 2 F.confine_IsOff [] [.t (.agg [nI s,nI g])] [] (fun x h=>Trim 0 x h fun x h=>x = bv (decide (256 ≤ s)) ∧ h = []):=by
 refine wB ?_
 rw [show decide ((256 : Int) ≤ (s : Int)) = decide (256 ≤ s) from decide_eq_decide.2 (by omega)]
 refine Trim.det (Le.nm [] rfl wH wH)
abbrev cfOffC : Con Cts:=DetCon (fun p=>[ctsT p]) (fun _=>[]) (fun _=>True) (fun p=>bv p.off) fun _=>[]
theorem cfOff_ok : ConOk Tryz.prog F.confine_IsOff cfOffC:=con_of_run (clRunX_ok (d:=5) ttOk outs0_ok tabCfO_ok 2) (fn_enters (ok.confine_IsOff (D:=5) u0 _ (clRunX_ok (d:=5) ttOk .nil TabOk.nil 1))) fun p _=>cfOff_run p.sent p.got
noncomputable abbrev tabCfP : List (FuncId × Eng.Fn):=[(F.confine_IsPassive,fn.confine_IsPassive u0),(F.confine_IsOff,fn.confine_IsOff u0)]
theorem tabCfP_ok {d : Nat} : TabOk d tabCfP tt:=.cons (ok.confine_IsPassive u0) (.cons (ok.confine_IsOff u0) (TabOk.nil))
theorem cfPas_run (s g : Nat) (b : Bool) (hb : b = (⟨s,g⟩ : Cts).passive) : clRunX 6 tt outs0 tabCfP 3 F.confine_IsPassive [] [.t (.agg [nI s,nI g])] [] (fun x h=>Trim 0 x h fun x h=>x = bv b ∧ h = []):=by
 have hb : b = (!decide (256 ≤ s) && decide (128 ≤ s ∨ 128 ≤ g)):=hb
 by_cases h1 : 256 ≤ s
 ·rw [decide_eq_true h1] at hb
  have hb : b = false:=hb
  subst hb
  refine wB ?_
  refine Trim.det (Le.nm [] rfl wH wH)
 ·rw [decide_eq_false h1] at hb
  by_cases h2 : 128 ≤ s
  ·rw [decide_eq_true (.inl h2)] at hb
   have hb : b = true:=hb
   subst hb
   refine wB ?_
   refine Trim.det (Le.nm [] rfl wH wH)
  ·by_cases h3 : 128 ≤ g
   ·rw [decide_eq_true (.inr h3)] at hb
    have hb : b = true:=hb
    subst hb
    refine wB ?_
    rw [decide_eq_true (show (128 : Int) ≤ (g : Int) by omega)]
    refine Trim.det (Le.nm [] rfl wH wH)
   ·rw [decide_eq_false (by omega)] at hb
    have hb : b = false:=hb
    subst hb
    refine wB ?_
    rw [decide_eq_false (show ¬ (128 : Int) ≤ (g : Int) by omega)]
    refine Trim.det (Le.nm [] rfl wH wH)
abbrev cfPasC : Con Cts:=DetCon (fun p=>[ctsT p]) (fun _=>[]) (fun _=>True) (fun p=>bv p.passive) fun _=>[]
theorem cfPas_ok : ConOk Tryz.prog F.confine_IsPassive cfPasC:=con_of_run (clRunX_ok (d:=6) ttOk outs0_ok tabCfP_ok 3) (fn_enters (ok.confine_IsPassive (D:=6) u0 _ (clRunX_ok (d:=6) ttOk .nil TabOk.nil 1))) fun p _=>cfPas_run p.sent p.got _ rfl
noncomputable abbrev tabSi : List (FuncId × Eng.Fn):=[(F.clock_Since,fn.clock_Since u0)]
theorem tabSi_ok {d : Nat} : TabOk d tabSi tt:=.cons (ok.clock_Since u0) (TabOk.nil)
theorem since_run (a b : Nat) (ha : a < 65536) (hb : b < 65536) : clRunX 5 tt outs0 tabSi 2 F.clock_Since [] [iv .u16 a,iv .u16 b] [] (fun x h=>Trim 0 x h fun x h=>x = iv .i64 (since a b : Nat) ∧ h = []):=by
 have hs:=since_lt a b
 by_cases h2 : a ≤ b
 ·refine wB ?_
  rw [since_n hb h2]
  refine Trim.det (Le.nm [] rfl wH wH)
 ·refine wB ?_
  refine qU16F (by omega) ?_
  rw [since_w ha]
  refine wB ?_
  refine Trim.det (Le.nm [] rfl wH wH)
abbrev sinceC : Con (Nat × Nat):=RoCon (fun p=>[iv .u16 p.1,iv .u16 p.2]) (fun _=>[]) (fun p=>p.1 < 65536 ∧ p.2 < 65536) fun p=>iv .i64 (since p.1 p.2 : Nat)
theorem since_ok : ConOk Tryz.prog F.clock_Since sinceC:=con_of_run (clRunX_ok (d:=5) ttOk outs0_ok tabSi_ok 2) (fn_enters (ok.clock_Since (D:=5) u0 _ (clRunX_ok (d:=5) ttOk .nil TabOk.nil 1))) fun p hp=>since_run p.1 p.2 hp.1 hp.2
theorem since_use {a b : Nat} {h : Heap} {K : R → Heap → Prop} (ha : a < 65536) (hb : b < 65536) (hk : K (iv .i64 (since a b : Nat)) h) : AskC sinceC [iv .u16 a,iv .u16 b] h K :=
 .use (a,b) [] ⟨ha,hb⟩ rfl trivial ⟨.inl rfl,.inl rfl,trivial⟩ hk
abbrev outsSi : List (FuncId × Cx):=[(F.clock_Since,AskC sinceC)]
theorem outsSi_ok : OutsOk Tryz.prog outsSi:=.cons (ask_ok since_ok) .nil
noncomputable abbrev tabGlR : List (FuncId × Eng.Fn):=[(F.global_Global_Rate,fn.global_Global_Rate u0),(F.global_Global_Lengths,fn.global_Global_Lengths u0)]
theorem tabGlR_ok {d : Nat} : TabOk d tabGlR tt:=.cons (ok.global_Global_Rate u0) (.cons (ok.global_Global_Lengths u0) (TabOk.nil))
theorem glRate_run (w0 : Int) (g0 m0 : Nat) (w1 : Int) (g1 m1 st : Nat) (n : Int) (h0 : g0 < 65536) (h1 : m0 < 65536) (h2 : g1 < 65536) (h3 : m1 < 65536) (k : Int) (b : Bool) (hk : k = (⟨w0, g0, m0, w1, g1, m1, st⟩ : Glb).rate n) (hb : b = (⟨w0, g0, m0, w1, g1, m1, st⟩ : Glb).rateOk n) :
    clRunX 7 tt outsSi tabGlR 3 F.global_Global_Rate [] [pR 0, iv .i64 n] [glbL w0 g0 m0 w1 g1 m1 st] (fun x h => Trim 1 x h fun x h => x = .tup [.one (.v (.int .i64 k)), .one (.v (.bool b))] ∧ h = [glbL w0 g0 m0 w1 g1 m1 st]) := by
  obtain ⟨th, hth⟩ : ∃ th, since g1 g0 = th := ⟨_, rfl⟩
  obtain ⟨ou, hou⟩ : ∃ ou, since m1 m0 = ou := ⟨_, rfl⟩
  have ht2 : th < 65536 := by rw [← hth]; exact since_lt _ _
  have ho2 : ou < 65536 := by rw [← hou]; exact since_lt _ _
  have hk : k = if st < 2 ∨ since g1 g0 = 0 ∨ since m1 m0 = 0 ∨ n < 1 ∨ 1000000 < n then n else n * (since m1 m0 : Nat) / (since g1 g0 : Nat) := hk
  have hb : b = decide ¬ (st < 2 ∨ since g1 g0 = 0 ∨ since m1 m0 = 0 ∨ n < 1 ∨ 1000000 < n) := hb
  rw [hth, hou] at hk hb
  by_cases hs : st < 2
  · rw [if_pos (.inl hs)] at hk
    rw [decide_eq_false (fun h => h (.inl hs))] at hb
    rw [hb, hk]
    refine wB ?_
    refine Trim.det (Le.id rfl wH wH)
  · refine wB ?_
    refine since_use h2 h0 ?_
    refine wB ?_
    refine since_use h3 h1 ?_
    rw [hth, hou]
    by_cases hbad : th = 0 ∨ ou = 0 ∨ n < 1 ∨ 1000000 < n
    · rw [if_pos (.inr hbad)] at hk
      rw [decide_eq_false (fun h => h (.inr hbad))] at hb
      rw [hb, hk]
      by_cases q1 : th = 0
      · refine wB ?_
        refine Trim.det (Le.id rfl wH wH)
      by_cases q2 : ou = 0
      · refine wB ?_
        refine Trim.det (Le.id rfl wH wH)
      by_cases q3 : n < 1
      · refine wB ?_
        refine Trim.det (Le.id rfl wH wH)
      · refine wB ?_
        refine Trim.det (Le.id rfl wH wH)
    · have hno : ¬ (st < 2 ∨ th = 0 ∨ ou = 0 ∨ n < 1 ∨ 1000000 < n) := by omega
      rw [if_neg hno] at hk
      rw [decide_eq_true hno] at hb
      have hm1 : n * (ou : Int) ≤ 1000000 * 65536 := Int.mul_le_mul (by omega) (by omega) (by omega) (by omega)
      have hm0 : 0 ≤ n * (ou : Int) := Int.mul_nonneg (by omega) (by omega)
      have hq : (n * (ou : Int)).tdiv (th : Int) = n * (ou : Int) / (th : Int) := Int.tdiv_eq_ediv_of_nonneg hm0
      have hq0 : 0 ≤ n * (ou : Int) / (th : Int) := Int.ediv_nonneg hm0 (by omega)
      have hq1 : n * (ou : Int) / (th : Int) ≤ n * (ou : Int) := Int.ediv_le_self _ hm0
      rw [hb, hk]
      refine wB ?_
      rw [hq]
      refine wB ?_
      refine Trim.det (Le.id rfl wH wH)
abbrev glRateC : Con (Glb × Int):=DetCon (fun p=>[pR 0,iv .i64 p.2]) (fun p=>[glbE p.1]) (fun p=>p.1.Ok) (fun p=>.tup [.one (.v (.int .i64 (p.1.rate p.2))),.one (.v (.bool (p.1.rateOk p.2)))]) fun p=>[glbE p.1]
theorem glRate_ok : ConOk Tryz.prog F.global_Global_Rate glRateC:=con_of_run (clRunX_ok (d:=7) ttOk outsSi_ok tabGlR_ok 3) (fn_enters (ok.global_Global_Rate (D:=7) u0 _ (clRunX_ok (d:=7) ttOk .nil TabOk.nil 1))) fun p hp=>glRate_run p.1.w0 p.1.g0 p.1.m0 p.1.w1 p.1.g1 p.1.m1 p.1.st p.2 hp.g0 hp.m0 hp.g1 hp.m1 _ _ rfl rfl
abbrev macS (st lf sn gt : Nat) (w : Bool) (f : Frm) (on : Bool) (bits : ByteArray) (arb pos : Nat) (r : Rd) : HE:=.ob (.own [nI st,nI lf,nI sn,nI gt,bS w,bS f.ext,.c (.v (.int .u32 (f.id : Int))),bS f.rtr,.c (.v (.string f.data)),bS on,.c (.v (.string bits)),nI arb,nI pos,
 .c (.v (.int .u8 (rlI r.run))),.c (.v (.int .i64 (r.run.n : Int))),.arr 128 (rbF r.b),.c (.v (.int .i64 (r.b.length : Int))),.c (.v (.int .i64 (r.need : Int))),.c (.v (.int .u16 (r.sum : Int))),.c (.v (.int .i64 (r.fin : Int))),.c (.v (.bool r.laid))])
abbrev macE (m : Mac) : HE:=macS m.state m.left m.c.sent m.c.got m.waits m.f m.on (bs m.bits) m.arb m.pos m.r
noncomputable abbrev tabFis : List (FuncId × Eng.Fn):=[(F.frame_Is,fn.frame_Is u0)]
theorem tabFis_ok {d : Nat} : TabOk d tabFis tt:=.cons (ok.frame_Is u0) (TabOk.nil)
theorem fis_run (ext : Bool) (v : Int) (rtr : Bool) (data : ByteArray) (b : Bool) (hb : b = decide ((rtr = true → data.size = 0) ∧ data.size ≤ 8 ∧ v < (if ext then 536870912 else 2048))) : clRunX 5 tt outs0 tabFis 2 F.frame_Is [] [frmV ext v rtr data] [] (fun x h=>Trim 0 x h fun x h=>x = bv b ∧ h = []):=by
 have ee:=emp_iff data
 have es : strEq data ⟨#[]⟩ = decide (data.size = 0):=ee
 by_cases h0 : data.size ≤ 8
 ·by_cases h1 : rtr = true ∧ data.size ≠ 0
  ·obtain ⟨rfl,h1⟩:=h1
   rw [decide_eq_false (fun h=>h1 (h.1 rfl))] at hb
   subst hb
   refine wB ?_
   rw [es,decide_eq_false h1]
   refine wB ?_
   refine Trim.det (Le.nm [] rfl wH wH)
  ·have hq : (rtr = true → data.size = 0):=fun h=>Classical.byContradiction fun hn=>h1 ⟨h,hn⟩
   cases ext
   ·rw [decide_eq_decide.2 (show _ ↔ v < 2048 from ⟨fun h=>by have:=h.2.2; rwa [if_neg (by simp)] at this,fun h=>⟨hq,h0,by rw [if_neg (by simp)]; exact h⟩⟩)] at hb
    rw [hb]
    cases rtr
    ·refine wB ?_
     refine Trim.det (Le.nm [] rfl wH wH)
    ·refine wB ?_
     rw [es,decide_eq_true (hq rfl)]
     refine wB ?_
     refine Trim.det (Le.nm [] rfl wH wH)
   ·rw [decide_eq_decide.2 (show _ ↔ v < 536870912 from ⟨fun h=>by have:=h.2.2; rwa [if_pos rfl] at this,fun h=>⟨hq,h0,by rw [if_pos rfl]; exact h⟩⟩)] at hb
    rw [hb]
    cases rtr
    ·refine wB ?_
     refine Trim.det (Le.nm [] rfl wH wH)
    ·refine wB ?_
     rw [es,decide_eq_true (hq rfl)]
     refine wB ?_
     refine Trim.det (Le.nm [] rfl wH wH)
 ·rw [decide_eq_false (fun h=>h0 h.2.1)] at hb
  subst hb
  cases rtr
  ·refine wB ?_
   refine Trim.det (Le.nm [] rfl wH wH)
  ·refine wB ?_
   rw [es]
   by_cases h1 : data.size = 0
   ·omega
   ·rw [decide_eq_false h1]
    refine wB ?_
    refine Trim.det (Le.nm [] rfl wH wH)
theorem fis_ok : ConOk Tryz.prog F.frame_Is isFC:=con_of_run (clRunX_ok (d:=5) ttOk outs0_ok tabFis_ok 2) (fn_enters (ok.frame_Is (D:=5) u0 _ (clRunX_ok (d:=5) ttOk .nil TabOk.nil 1))) fun p hp=>fis_run p.ext (p.id : Int) p.rtr p.data (decide p.ok) (decide_eq_decide.2 (by
 unfold Frm.ok
 cases p.ext
 ·rw [if_neg (by simp),if_neg (by simp)]
  constructor <;> intro ⟨a,b,c⟩ <;> exact ⟨a,b,by omega⟩
 ·rw [if_pos rfl,if_pos rfl]
  constructor <;> intro ⟨a,b,c⟩ <;> exact ⟨a,b,by omega⟩))
theorem rb0 (i : Nat) : rbF [] i = .v (.int .u8 0):=by unfold rbF; rw [if_neg (show ¬ i < [].length from Nat.not_lt_zero i)]
noncomputable abbrev tabMacN : List (FuncId × Eng.Fn):=[(F.mac_New,fn.mac_New u0)]
theorem tabMacN_ok {d : Nat} : TabOk d tabMacN tt:=.cons (ok.mac_New u0) (TabOk.nil)
theorem macNew_run (u : Unit) : clRunX 5 tt outs0 tabMacN 2 F.mac_New [] [] [] (fun x h=>Trim 0 x h fun x h=>x = pR 0 ∧ h = [macE mac0]):=by
 refine wB ?_
 refine Trim.det ?_
 refine Le.id rfl ?_ ?_
 ·refine ⟨?_,trivial⟩
  refine ⟨rfl,rfl,rfl,rfl,rfl,rfl,rfl,rfl,rfl,rfl,rfl,rfl,rfl,rfl,rfl,⟨rfl,fun i _=>by show _ = renC _ (rbF [] i); rw [rb0]; rfl⟩,rfl,rfl,rfl,rfl,rfl,trivial⟩
 ·exact wH
abbrev macNewC : Con Unit:=DetCon (fun _=>[]) (fun _=>[]) (fun _=>True) (fun _=>pR 0) fun _=>[macE mac0]
theorem macNew_ok : ConOk Tryz.prog F.mac_New macNewC:=con_of_run (clRunX_ok (d:=5) ttOk outs0_ok tabMacN_ok 2) (fn_enters (ok.mac_New (D:=5) u0 _ (clRunX_ok (d:=5) ttOk .nil TabOk.nil 1))) fun p _=>macNew_run p
noncomputable abbrev tabMacA : List (FuncId × Eng.Fn):=[(F.mac_Mac_Ask,fn.mac_Mac_Ask u0)]
theorem tabMacA_ok {d : Nat} : TabOk d tabMacA tt:=.cons (ok.mac_Mac_Ask u0) (TabOk.nil)
abbrev outsFis : List (FuncId × Cx):=[(F.frame_Is,AskC isFC)]
theorem outsFis_ok : OutsOk Tryz.prog outsFis:=.cons (ask_ok fis_ok) .nil
theorem macAsk_run (st lf sn gt : Nat) (w : Bool) (f : Frm) (on : Bool) (bits : List Bool) (arb pos : Nat) (r : Rd) (g : Frm) (hg : FIn g) (e : Nat) (m' : Mac) (he : e = (⟨st, lf, ⟨sn, gt⟩, w, f, on, bits, arb, pos, r⟩ : Mac).askE g) (hm : m' = (⟨st, lf, ⟨sn, gt⟩, w, f, on, bits, arb, pos, r⟩ : Mac).ask g) :
    clRunX 6 tt outsFis tabMacA 2 F.mac_Mac_Ask [] [pR 0, frmR g] [macS st lf sn gt w f on (bs bits) arb pos r] (fun x h => Trim 1 x h fun x h => x = iv .i64 e ∧ h = [macE m']) := by
  have he : e = if st = 7 then 73 else if ¬ g.ok then 12 else if w then 72 else 0 := he
  have hm : m' = if (if st = 7 then 73 else if ¬ g.ok then 12 else if w then 72 else 0) = 0 then ⟨st, lf, ⟨sn, gt⟩, true, g, on, bits, arb, pos, r⟩ else ⟨st, lf, ⟨sn, gt⟩, w, f, on, bits, arb, pos, r⟩ := hm
  rw [← he] at hm
  by_cases h1 : st = 7
  · rw [if_pos h1] at he
    subst he
    rw [if_neg (by decide)] at hm
    rw [hm]
    refine wB ?_
    refine Trim.det (Le.id rfl wH wH)
  rw [if_neg h1] at he
  by_cases h2 : g.ok
  · rw [if_neg (fun h => h h2)] at he
    cases w
    · rw [if_neg (by simp)] at he
      subst he
      rw [if_pos rfl] at hm
      rw [hm]
      refine wB ?_
      refine isF_use hg ?_
      rw [decide_eq_true h2]
      refine wB ?_
      refine Trim.det (Le.nm [0] rfl wH wH)
    · rw [if_pos rfl] at he
      subst he
      rw [if_neg (by decide)] at hm
      rw [hm]
      refine wB ?_
      refine isF_use hg ?_
      rw [decide_eq_true h2]
      refine wB ?_
      refine Trim.det (Le.nm [0] rfl wH wH)
  · rw [if_pos h2] at he
    subst he
    rw [if_neg (by decide)] at hm
    rw [hm]
    refine wB ?_
    refine isF_use hg ?_
    rw [decide_eq_false h2]
    refine wB ?_
    refine Trim.det (Le.nm [0] rfl wH wH)
abbrev macAskC : Con (Mac × Frm):=DetCon (fun p=>[pR 0,frmR p.2]) (fun p=>[macE p.1]) (fun p=>FIn p.2) (fun p=>iv .i64 (p.1.askE p.2 : Nat)) fun p=>[macE (p.1.ask p.2)]
theorem macAsk_ok : ConOk Tryz.prog F.mac_Mac_Ask macAskC:=con_of_run (clRunX_ok (d:=6) ttOk outsFis_ok tabMacA_ok 2) (fn_enters (ok.mac_Mac_Ask (D:=6) u0 _ (clRunX_ok (d:=6) ttOk .nil TabOk.nil 1))) fun p hp=>macAsk_run p.1.state p.1.left p.1.c.sent p.1.c.got p.1.waits p.1.f p.1.on p.1.bits p.1.arb p.1.pos p.1.r p.2 hp _ _ rfl rfl
noncomputable abbrev tabMacC : List (FuncId × Eng.Fn):=[(F.mac_Mac_Cancel,fn.mac_Mac_Cancel u0),(F.mac_Mac_done,fn.mac_Mac_done u0)]
theorem tabMacC_ok {d : Nat} : TabOk d tabMacC tt:=.cons (ok.mac_Mac_Cancel u0) (.cons (ok.mac_Mac_done u0) (TabOk.nil))
theorem macCancel_run (st lf sn gt : Nat) (w : Bool) (f : Frm) (on : Bool) (bits : List Bool) (arb pos : Nat) (r : Rd) (m' : Mac) (hm : m' = (⟨st, lf, ⟨sn, gt⟩, w, f, on, bits, arb, pos, r⟩ : Mac).cancel) :
    clRunX 6 tt outs0 tabMacC 3 F.mac_Mac_Cancel [] [pR 0] [macS st lf sn gt w f on (bs bits) arb pos r] (fun x h => Trim 1 x h fun x h => x = bv (w && !on) ∧ h = [macE m']) := by
  have hm : m' = if (w && !on) = true then ⟨st, lf, ⟨sn, gt⟩, false, frm0, false, [], 0, 0, r⟩ else ⟨st, lf, ⟨sn, gt⟩, w, f, on, bits, arb, pos, r⟩ := hm
  cases w
  · rw [if_neg (by simp)] at hm
    rw [hm]
    refine wB ?_
    refine Trim.det (Le.id rfl wH wH)
  cases on
  · rw [if_pos (by simp)] at hm
    rw [hm]
    refine wB ?_
    refine Trim.det (Le.id rfl wH wH)
  · rw [if_neg (by simp)] at hm
    rw [hm]
    refine wB ?_
    refine Trim.det (Le.id rfl wH wH)
abbrev macCancelC : Con Mac:=DetCon (fun _=>[pR 0]) (fun p=>[macE p]) (fun _=>True) (fun p=>bv p.lets) fun p=>[macE p.cancel]
theorem macCancel_ok : ConOk Tryz.prog F.mac_Mac_Cancel macCancelC:=con_of_run (clRunX_ok (d:=6) ttOk outs0_ok tabMacC_ok 3) (fn_enters (ok.mac_Mac_Cancel (D:=6) u0 _ (clRunX_ok (d:=6) ttOk .nil TabOk.nil 1))) fun p _=>macCancel_run p.state p.left p.c.sent p.c.got p.waits p.f p.on p.bits p.arb p.pos p.r _ rfl
abbrev outsDrv : List (FuncId × Cx):=[(F.confine_IsPassive,AskC cfPasC)]
theorem outsDrv_ok : OutsOk Tryz.prog outsDrv:=.cons (ask_ok cfPas_ok) .nil
theorem pas_use {c : Cts} {h : Heap} {K : R → Heap → Prop} (hk : K (bv c.passive) h) : AskC cfPasC [ctsT c] h K:=by
 refine .det c [] (bv c.passive) h trivial rfl trivial ⟨⟨.inl rfl,.inl rfl,trivial⟩,trivial⟩ rfl ?_ hk
 have:=mrg_ro (g:=back h [] []) (h:=h) (l:=[]) (h':=[]) rfl []
 simpa using this
noncomputable abbrev tabDrv : List (FuncId × Eng.Fn):=[(F.mac_Mac_Drive,fn.mac_Mac_Drive u0),(F.code_Reader_AtAck,fn.code_Reader_AtAck u0),(F.code_Reader_Right,fn.code_Reader_Right u0),(F.code_Reader_inBits,fn.code_Reader_inBits u0)]
theorem tabDrv_ok {d : Nat} : TabOk d tabDrv tt:=.cons (ok.mac_Mac_Drive u0) (.cons (ok.code_Reader_AtAck u0) (.cons (ok.code_Reader_Right u0) (.cons (ok.code_Reader_inBits u0) (TabOk.nil))))
theorem macDrive_run (st lf sn gt : Nat) (w : Bool) (f : Frm) (on : Bool) (bits : List Bool) (arb pos : Nat) (r : Rd) (hp : on = true → pos < bits.length) (hr : r.need ≤ 1000) (b : Bool) (hb : b = (⟨st, lf, ⟨sn, gt⟩, w, f, on, bits, arb, pos, r⟩ : Mac).drive) :
    clRunX 6 tt outsDrv tabDrv 4 F.mac_Mac_Drive [] [pR 0] [macS st lf sn gt w f on (bs bits) arb pos r] (fun x h => Trim 1 x h fun x h => x = iv .u8 (cI b) ∧ h = [macS st lf sn gt w f on (bs bits) arb pos r]) := by
  have hb : b = if st = 0 then !w else if st = 1 then (if on then gb bits pos else !(decide (r.fin = 1) && r.right)) else if st = 3 then (⟨sn, gt⟩ : Cts).passive else true := hb
  by_cases h0 : st = 0
  · rw [if_pos h0] at hb
    cases w
    · have hb : b = true := hb
      rw [hb]
      refine wB ?_
      refine Trim.det (Le.id rfl wH wH)
    · have hb : b = false := hb
      rw [hb]
      refine wB ?_
      refine Trim.det (Le.id rfl wH wH)
  rw [if_neg h0] at hb
  by_cases h1 : st = 1
  · rw [if_pos h1] at hb
    cases on
    · rw [if_neg (by simp)] at hb
      have er : r.right = (!decide (r.need = 0 ∨ r.b.length < r.need + 15) && decide (r.sum = 0)) := rfl
      rw [er] at hb
      by_cases h2 : r.fin = 1
      · by_cases h3 : r.need = 0
        · rw [decide_eq_true h2, decide_eq_true (Or.inl h3 : r.need = 0 ∨ r.b.length < r.need + 15)] at hb
          have hb : b = true := hb
          rw [hb]
          refine wB ?_
          refine Trim.det (Le.id rfl wH wH)
        · by_cases h4 : r.b.length < r.need + 15
          · rw [decide_eq_true h2, decide_eq_true (Or.inr h4 : r.need = 0 ∨ r.b.length < r.need + 15)] at hb
            have hb : b = true := hb
            rw [hb]
            refine wB ?_
            refine Trim.det (Le.id rfl wH wH)
          · rw [decide_eq_true h2, decide_eq_false (show ¬ (r.need = 0 ∨ r.b.length < r.need + 15) by omega)] at hb
            by_cases h5 : r.sum = 0
            · rw [decide_eq_true h5] at hb
              have hb : b = false := hb
              rw [hb]
              refine wB ?_
              refine Trim.det (Le.id rfl wH wH)
            · rw [decide_eq_false h5] at hb
              have hb : b = true := hb
              rw [hb]
              refine wB ?_
              refine Trim.det (Le.id rfl wH wH)
      · rw [decide_eq_false h2] at hb
        have hb : b = true := hb
        rw [hb]
        refine wB ?_
        refine Trim.det (Le.id rfl wH wH)
    · rw [if_pos rfl] at hb
      have hp := hp rfl
      refine wB ?_
      refine cDT (by rw [bs_size]; omega) ?_
      refine wB ?_
      rw [show bt (bs bits) (Int.toNat (pos : Int)) = cI b by rw [hb]; exact bt_bs hp]
      refine wB ?_
      refine Trim.det (Le.id rfl wH wH)
  rw [if_neg h1] at hb
  by_cases h3 : st = 3
  · rw [if_pos h3] at hb
    refine wB ?_
    refine pas_use (c := ⟨sn, gt⟩) ?_
    rw [← hb]
    cases b
    · refine wB ?_
      refine Trim.det (Le.id rfl wH wH)
    · refine wB ?_
      refine Trim.det (Le.id rfl wH wH)
  · rw [if_neg h3] at hb
    rw [hb]
    refine wB ?_
    refine Trim.det (Le.id rfl wH wH)
abbrev macDriveC : Con Mac:=DetCon (fun _=>[pR 0]) (fun p=>[macE p]) (fun p=>(p.on = true → p.pos < p.bits.length) ∧ p.r.need ≤ 1000) (fun p=>iv .u8 (cI p.drive)) fun p=>[macE p]
theorem macDrive_ok : ConOk Tryz.prog F.mac_Mac_Drive macDriveC:=con_of_run (clRunX_ok (d:=6) ttOk outsDrv_ok tabDrv_ok 4) (fn_enters (ok.mac_Mac_Drive (D:=6) u0 _ (clRunX_ok (d:=6) ttOk .nil TabOk.nil 1))) fun p hp=>macDrive_run p.state p.left p.c.sent p.c.got p.waits p.f p.on p.bits p.arb p.pos p.r hp.1 hp.2 _ rfl
end Go.Proofs.YtlckbdhpehkeoaaGreat.Co
