/- Parts. -/
import Derived.Test.YtlckbdhpehkeoaaGreatJ18
namespace Go.Proofs.YtlckbdhpehkeoaaGreat.Co
open Go Go.Eng Go.Proofs Go.Proofs.YtlckbdhpehkeoaaGreat.Tb Go.Pu
set_option maxRecDepth 100000
set_option maxHeartbeats 8000000
abbrev outsBe : List (FuncId × Cx):=[(F.mac_Mac_Cancel,AskC macCancelC),(F.mark_Mark_Beat,AskC mkBeatC),(F.sched_Sched_Begin,AskC sbeginB),(F.global_Global_At,AskC glAtC),(F.global_Global_Beat,AskC glBeatC),(F.global_Global_Rate,AskC glRateC),(F.clock_Clock_SetRate,AskC ckSetC),(F.master_Master_Sent,AskC msSentC),(F.master_Master_Beat,AskC msBeatC)]
theorem outsBe_ok : OutsOk Tryz.prog outsBe:=.cons (ask_ok macCancel_ok) (.cons (ask_ok mkBeat_ok) (.cons (ask_ok sbeginB_ok) (.cons (ask_ok glAt_ok) (.cons (ask_ok glBeat_ok) (.cons (ask_ok glRate_ok) (.cons (ask_ok ckSet_ok) (.cons (ask_ok msSent_ok) (.cons (ask_ok msBeat_ok) .nil))))))))
noncomputable abbrev tabBe : List (FuncId × Eng.Fn):=[(F.node_Node_beat,fn.node_Node_beat u0),(F.mark_Mark_Last,fn.mark_Mark_Last u0),(F.global_Global_Steady,fn.global_Global_Steady u0),(F.clock_Clock_Rate,fn.clock_Clock_Rate u0)]
theorem tabBe_ok {d : Nat} : TabOk d tabBe tt:=.cons (ok.node_Node_beat u0) (.cons (ok.mark_Mark_Last u0) (.cons (ok.global_Global_Steady u0) (.cons (ok.clock_Clock_Rate u0) (TabOk.nil))))
def Nd.beat1 (n : Nd) (b : Bt) (G : Glb) (C : Clk) (M : Mst) : Nd :=
 { n with mac:=n.mac.cancel,mrk:=n.mrk.beat b.cyc,sch:=n.sch.begin b.cyc,glb:=G,clk:=C,mst:=M,silent:=false,wait:=0,came:=fun _=>false }
def Nd.told (n : Nd) (b : Bt) : Nat:=if n.m.level = 1 then n.glb.at_ (n.mrk.beat b.cyc).bl else b.glob
def Nd.glbB (n : Nd) (b : Bt) : Glb:=n.glb.beat b.rank (n.told b) (n.mrk.beat b.cyc).bl b.disc
def Nd.clkB (n : Nd) (b : Bt) : Clk:=if 3 ≤ (n.glbB b).st ∧ b.rank ≠ n.rank then n.clk.set ((n.glbB b).rate n.clk.num) 256 else n.clk
theorem beat_eq (n : Nd) (b : Bt) (s : Bool) : n.beat b s = n.beat1 b (n.glbB b) (n.clkB b) (if s then n.mst.sent else n.mst.beat b.rank):=rfl
structure BtOk (b : Bt) : Prop where
 rank : I64 b.rank
 glob : b.glob < 65536
theorem glb_use {g G : Glb} {who : Int} {gl mk : Nat} {d : Bool} {h : Heap} {K : R → Heap → Prop} (n : Nat) (hn : h[n]? = some (glbE g)) (ho : g.Ok) (hG : g.beat who gl mk d = G) (hk : K uR (h.set n (glbE G))) : AskC glBeatC [.t (.one (.ptr n 0)),iv .i64 who,iv .u16 gl,iv .u16 mk,bv d] h K:=by
 subst hG
 exact AskC.one (g,who,gl,mk,d) n ho hn rfl rfl (glb_le _) (fun _=>rfl) hk
theorem ckset_use {c C : Clk} {a d : Int} {h : Heap} {K : R → Heap → Prop} (n : Nat) (hn : h[n]? = some (clkE c)) (ho : c.Ok) (hC : c.set a d = C) (hk : K (bv (c.setOk a d)) (h.set n (clkE C))) : AskC ckSetC [.t (.one (.ptr n 0)),iv .i64 a,iv .i64 d] h K:=by
 subst hC
 exact AskC.one (c,a,d) n ho hn rfl rfl (clk_le _) (fun _=>rfl) hk
theorem nbeat_run (n : Nd) (x : NdX) (b : Bt) (s : Bool) (ho : n.Ok) (hb : BtOk b) (hx : XOk n x) (n' : Nd) (hn : n.beat b s = n') : clRunX 8 tt outsBe tabBe 3 F.node_Node_beat [] [pR 0,.t (btT b),bv s] (ndH n x []) (fun x h=>Trim 14 x h fun x h=>∃ q,XOk n' q ∧ x = uR ∧ h = ndH n' q []):=by
 rw [beat_eq] at hn
 have hmo:=Mrk.beat_ok ho.mrk b.cyc
 have hbl:=hmo.bl
 have htold : n.told b < 65536:=by unfold Nd.told; split; exact Glb.at_lt hbl; exact hb.glob
 have hgo : (n.glbB b).Ok:=Glb.beat_ok ho.glb hb.rank htold hbl
 have hT : n.told b = if n.m.level = 1 then n.glb.at_ (n.mrk.beat b.cyc).bl else b.glob:=rfl
 have hG : n.glbB b = n.glb.beat b.rank (n.told b) (n.mrk.beat b.cyc).bl b.disc:=rfl
 have hC : n.clkB b = if 3 ≤ (n.glbB b).st ∧ b.rank ≠ n.rank then n.clk.set ((n.glbB b).rate n.clk.num) 256 else n.clk:=rfl
 refine wB ?_
 refine AskC.one n.mac 5 trivial rfl rfl rfl (mac_le _) (fun _=>rfl) ?_
 refine wB ?_
 refine AskC.one (n.mrk,(b.cyc : Int)) 6 trivial rfl rfl rfl (mrk_le _) (fun _=>rfl) ?_
 refine wB ?_
 refine AskC.ex (n.sch,(b.cyc : Int)) x.fc 11 trivial rfl rfl (fun fc'=>?_)
 generalize hM : n.mrk.beat b.cyc = M at *
 refine wB ?_
 refine cD (fun hl=>?_) (fun hl=>?_)
 ·refine wB ?_
  refine AskC.one (n.glb,M.bl) 7 ⟨ho.glb,hbl⟩ rfl rfl rfl (glb_le _) (fun _=>rfl) ?_
  refine wB ?_
  refine glb_use (g:=n.glb) (G:=n.glbB b) (gl:=n.glb.at_ M.bl) 7 rfl ho.glb (by rw [hG,hT,if_pos hl]) ?_
  generalize n.glbB b = G at *
  generalize n.clkB b = C at *
  by_cases hst : 3 ≤ G.st
  ·by_cases hrk : b.rank = n.rank
   ·rw [if_neg (fun c=>c.2 hrk)] at hC
    subst hC
    refine wB ?_
    cases s
    ·refine wB ?_
     refine AskC.one (n.mst,b.rank) 10 ho.mst rfl rfl rfl (mst_le _) (fun _=>rfl) ?_
     refine wB ?_
     subst hn
     subst hM
     exact nd_end (n:=n.beat1 b G n.clk (n.mst.beat b.rank)) (x:={ x with fc:=fc' }) (q:={ x with fc:=fc' }) (rest:=_) hx rfl rfl rfl rfl
    ·refine wB ?_
     refine AskC.one n.mst 10 trivial rfl rfl rfl (mst_le _) (fun _=>rfl) ?_
     refine wB ?_
     subst hn
     subst hM
     exact nd_end (n:=n.beat1 b G n.clk n.mst.sent) (x:={ x with fc:=fc' }) (q:={ x with fc:=fc' }) (rest:=_) hx rfl rfl rfl rfl
   ·rw [if_pos ⟨hst,hrk⟩] at hC
    refine wB ?_
    refine AskC.one (G,(n.clk.num : Int)) 7 hgo rfl rfl rfl (glb_le _) (fun _=>rfl) ?_
    refine wB ?_
    refine ckset_use (c:=n.clk) (C:=C) 4 rfl ho.clk hC.symm ?_
    cases s
    ·refine wB ?_
     refine AskC.one (n.mst,b.rank) 10 ho.mst rfl rfl rfl (mst_le _) (fun _=>rfl) ?_
     refine wB ?_
     subst hn
     subst hM
     exact nd_end (n:=n.beat1 b G C (n.mst.beat b.rank)) (x:={ x with fc:=fc' }) (q:={ x with fc:=fc' }) (rest:=_) hx rfl rfl rfl rfl
    ·refine wB ?_
     refine AskC.one n.mst 10 trivial rfl rfl rfl (mst_le _) (fun _=>rfl) ?_
     refine wB ?_
     subst hn
     subst hM
     exact nd_end (n:=n.beat1 b G C n.mst.sent) (x:={ x with fc:=fc' }) (q:={ x with fc:=fc' }) (rest:=_) hx rfl rfl rfl rfl
  ·rw [if_neg (fun c=>hst c.1)] at hC
   subst hC
   refine wB ?_
   cases s
   ·refine wB ?_
    refine AskC.one (n.mst,b.rank) 10 ho.mst rfl rfl rfl (mst_le _) (fun _=>rfl) ?_
    refine wB ?_
    subst hn
    subst hM
    exact nd_end (n:=n.beat1 b G n.clk (n.mst.beat b.rank)) (x:={ x with fc:=fc' }) (q:={ x with fc:=fc' }) (rest:=_) hx rfl rfl rfl rfl
   ·refine wB ?_
    refine AskC.one n.mst 10 trivial rfl rfl rfl (mst_le _) (fun _=>rfl) ?_
    refine wB ?_
    subst hn
    subst hM
    exact nd_end (n:=n.beat1 b G n.clk n.mst.sent) (x:={ x with fc:=fc' }) (q:={ x with fc:=fc' }) (rest:=_) hx rfl rfl rfl rfl
 ·refine wB ?_
  refine glb_use (g:=n.glb) (G:=n.glbB b) (gl:=b.glob) 7 rfl ho.glb (by rw [hG,hT,if_neg hl]) ?_
  generalize n.glbB b = G at *
  generalize n.clkB b = C at *
  by_cases hst : 3 ≤ G.st
  ·by_cases hrk : b.rank = n.rank
   ·rw [if_neg (fun c=>c.2 hrk)] at hC
    subst hC
    refine wB ?_
    cases s
    ·refine wB ?_
     refine AskC.one (n.mst,b.rank) 10 ho.mst rfl rfl rfl (mst_le _) (fun _=>rfl) ?_
     refine wB ?_
     subst hn
     subst hM
     exact nd_end (n:=n.beat1 b G n.clk (n.mst.beat b.rank)) (x:={ x with fc:=fc' }) (q:={ x with fc:=fc' }) (rest:=_) hx rfl rfl rfl rfl
    ·refine wB ?_
     refine AskC.one n.mst 10 trivial rfl rfl rfl (mst_le _) (fun _=>rfl) ?_
     refine wB ?_
     subst hn
     subst hM
     exact nd_end (n:=n.beat1 b G n.clk n.mst.sent) (x:={ x with fc:=fc' }) (q:={ x with fc:=fc' }) (rest:=_) hx rfl rfl rfl rfl
   ·rw [if_pos ⟨hst,hrk⟩] at hC
    refine wB ?_
    refine AskC.one (G,(n.clk.num : Int)) 7 hgo rfl rfl rfl (glb_le _) (fun _=>rfl) ?_
    refine wB ?_
    refine ckset_use (c:=n.clk) (C:=C) 4 rfl ho.clk hC.symm ?_
    cases s
    ·refine wB ?_
     refine AskC.one (n.mst,b.rank) 10 ho.mst rfl rfl rfl (mst_le _) (fun _=>rfl) ?_
     refine wB ?_
     subst hn
     subst hM
     exact nd_end (n:=n.beat1 b G C (n.mst.beat b.rank)) (x:={ x with fc:=fc' }) (q:={ x with fc:=fc' }) (rest:=_) hx rfl rfl rfl rfl
    ·refine wB ?_
     refine AskC.one n.mst 10 trivial rfl rfl rfl (mst_le _) (fun _=>rfl) ?_
     refine wB ?_
     subst hn
     subst hM
     exact nd_end (n:=n.beat1 b G C n.mst.sent) (x:={ x with fc:=fc' }) (q:={ x with fc:=fc' }) (rest:=_) hx rfl rfl rfl rfl
  ·rw [if_neg (fun c=>hst c.1)] at hC
   subst hC
   refine wB ?_
   cases s
   ·refine wB ?_
    refine AskC.one (n.mst,b.rank) 10 ho.mst rfl rfl rfl (mst_le _) (fun _=>rfl) ?_
    refine wB ?_
    subst hn
    subst hM
    exact nd_end (n:=n.beat1 b G n.clk (n.mst.beat b.rank)) (x:={ x with fc:=fc' }) (q:={ x with fc:=fc' }) (rest:=_) hx rfl rfl rfl rfl
   ·refine wB ?_
    refine AskC.one n.mst 10 trivial rfl rfl rfl (mst_le _) (fun _=>rfl) ?_
    refine wB ?_
    subst hn
    subst hM
    exact nd_end (n:=n.beat1 b G n.clk n.mst.sent) (x:={ x with fc:=fc' }) (q:={ x with fc:=fc' }) (rest:=_) hx rfl rfl rfl rfl
abbrev nbeatC:=NdCon (fun p : Nd × Bt × Bool=>[.t (btT p.2.1),bv p.2.2]) (fun p=>p.1) (fun p=>p.1.Ok ∧ BtOk p.2.1) (fun _=>uR) fun p=>p.1.beat p.2.1 p.2.2
theorem nbeat_ok : ConOk Tryz.prog F.node_Node_beat nbeatC:=con_of_run (clRunX_ok (d:=8) ttOk outsBe_ok tabBe_ok 3) (fn_enters (ok.node_Node_beat (D:=8) u0 _ (clRunX_ok (d:=8) ttOk .nil TabOk.nil 1))) fun p hp=>nbeat_run p.1.1 p.2 p.1.2.1 p.1.2.2 hp.1.1 hp.1.2 hp.2 _ rfl
abbrev mevT (e : Ev) : T:=.agg [.c (.v (.int .i64 (e.kind : Int))),.c (.v (.bool e.f.ext)),.c (.v (.int .u32 (e.f.id : Int))),.c (.v (.bool e.f.rtr)),.c (.v (.string e.f.data)),.c (.v (.int .i64 (e.e : Int)))]
abbrev outsMs : List (FuncId × Cx):=[(F.object_Objects_Got,AskC ogotB),(F.node_Node_inTime,AskC ninC),(F.object_Objects_Sent,AskC osentB),(F.status_Table_Good,AskC sgoodB),(F.sched_Sched_Open,AskC sopenB),(F.status_Table_Bad,AskC sbadB),(F.sched_Sched_Close,AskC scloseB)]
theorem outsMs_ok : OutsOk Tryz.prog outsMs:=.cons (ask_ok ogotB_ok) (.cons (ask_ok nin_ok) (.cons (ask_ok osentB_ok) (.cons (ask_ok sgoodB_ok) (.cons (ask_ok sopenB_ok) (.cons (ask_ok sbadB_ok) (.cons (ask_ok scloseB_ok) .nil))))))
noncomputable abbrev tabMs : List (FuncId × Eng.Fn):=[(F.node_Node_message,fn.node_Node_message u0),(F.node_latest_Delivery,fn.node_latest_Delivery u0),(F.node_latest_int,fn.node_latest_int u0)]
theorem tabMs_ok {d : Nat} : TabOk d tabMs tt:=.cons (ok.node_Node_message u0) (.cons (ok.node_latest_Delivery u0) (.cons (ok.node_latest_int u0) (TabOk.nil)))
theorem nmsg0 (n : Nd) (x : NdX) (msg : Int) (e : Ev) (ho : n.Ok) (hx : XOk n x) (h2 : e.kind ≠ 2) (h1 : e.kind ≠ 1) (n' : Nd) (hn : n.message msg e = n') : clRunX 7 tt outsMs tabMs 3 F.node_Node_message [] [pR 0,iv .i64 msg,.t (mevT e)] (ndH n x []) (fun x h=>Trim 14 x h fun x h=>∃ q,XOk n' q ∧ x = uR ∧ h = ndH n' q []):=by
 unfold Nd.message at hn
 rw [if_neg h2,if_neg h1] at hn
 refine wB ?_
 refine AskC.ex n.sch x.fc 11 trivial rfl rfl (fun fc'=>?_)
 cases his : n.sch.is
 ·rw [his] at hn
  repeat(refine wA ?_;(conv=>whnf);first|rw [his])
  refine wB ?_
  refine AskC.ex n.sch fc' 11 trivial rfl rfl (fun fc2=>?_)
  refine wB ?_
  subst hn
  exact nd_end (n:={ n with sch:=n.sch.close }) (x:={ x with fc:=fc2 }) (q:={ x with fc:=fc2 }) (rest:=_) hx rfl rfl rfl rfl
 ·rw [his] at hn
  by_cases hk : n.sch.o.kind = 1
  ·rw [decide_eq_true hk] at hn
   repeat(refine wA ?_;(conv=>whnf);first|rw [his])
   refine wB ?_
   refine AskC.bs (n.tab,msg) x.fs 9 ho.tab rfl rfl (fun fs'=>?_)
   refine wB ?_
   refine AskC.ex n.sch fc' 11 trivial rfl rfl (fun fc2=>?_)
   refine wB ?_
   subst hn
   exact nd_end (n:={ n with tab:=chg n.tab msg 1,sch:=n.sch.close }) (x:={ x with fc:=fc2,fs:=fs' }) (q:={ x with fc:=fc2,fs:=fs' }) (rest:=_) hx rfl rfl rfl rfl
  ·rw [decide_eq_false hk] at hn
   repeat(refine wA ?_;(conv=>whnf);first|rw [his])
   refine wB ?_
   refine AskC.ex n.sch fc' 11 trivial rfl rfl (fun fc2=>?_)
   refine wB ?_
   subst hn
   exact nd_end (n:={ n with sch:=n.sch.close }) (x:={ x with fc:=fc2 }) (q:={ x with fc:=fc2 }) (rest:=_) hx rfl rfl rfl rfl
theorem intF_app {l : List Int} {q : Nat} {d : Int} (hq : q < l.length + 1) : (if q < l.length then intF l (0 + q) else nthD [] [[iC d]] (0 + (q - l.length))) = intF (l ++ [d]) q:=by
 by_cases h : q < l.length
 ·rw [if_pos h,Nat.zero_add]
  show [iC _] = [iC _]
  simp [List.getD_eq_getElem?_getD,List.getElem?_append_left h]
 ·obtain rfl : q = l.length:=by omega
  rw [if_neg h,Nat.sub_self]
  show [iC _] = [iC _]
  simp [List.getD_eq_getElem?_getD]
theorem dvF_app1 {l : List Dv} {q : Nat} {d : Dv} (hq : q < l.length + 1) : (if q < l.length then dvF l (0 + q) else nthD [] [dvC d] (0 + (q - l.length))) = dvF (l ++ [d]) q:=by
 by_cases h : q < l.length
 ·rw [if_pos h,Nat.zero_add]
  show dvC _ = dvC _
  simp [List.getD_eq_getElem?_getD,List.getElem?_append_left h]
 ·obtain rfl : q = l.length:=by omega
  rw [if_neg h,Nat.sub_self]
  show dvC _ = dvC _
  simp [List.getD_eq_getElem?_getD]
abbrev ndOb (n : Nd) (x : NdX) (bd bc dl cl : Nat) : HE:=.ob (.own [.c (iC n.m.level),.c (iC n.m.nodes),.c (iC n.m.cycles),.c (iC n.m.length),.c (iC n.m.enable),.c (iC n.m.unit),.c (iC n.m.init),.c (uC n.m.ref),
 .c (.slc 1 0 1 0 n.m.nM n.c.c1 n.c.z1),.c (.slc 2 0 3 0 n.m.nG n.c.c2 n.c.z2),.c (.slc 3 0 6 0 n.m.nW n.c.c3 n.c.z3),.c (bC true),.c (iC n.rank),
 .c (.ptr 4 0),.c (.ptr 5 0),.c (.ptr 6 0),.c (.ptr 7 0),.c (.ptr 8 0),.c (.ptr 9 0),.c (.ptr 10 0),.c (.ptr 11 0),.c (iC n.wait),.c (bC n.silent),.arr 12 (fun i=>bC (n.came i)),
 .c (.slc bd 0 2 0 dl x.cd x.zd),.c (.slc bc 0 1 0 cl x.cc x.zc)])
abbrev ndHb (n : Nd) (x : NdX) (bd bc dl cl : Nat) (e12 e13 : HE) (rest : Heap) : Heap:=ndOb n x bd bc dl cl :: roM n.m :: roG n.m :: roW n.m :: clkE n.clk :: macE n.mac :: mrkE n.mrk :: glbE n.glb :: bx (objQ n.m n.c.z2 n.c.z3 n.obj) x.fo :: bx (statQ n.tab) x.fs :: mstE n.mst :: bx (schQ n.sch) x.fc :: e12 :: e13 :: rest
def ndW (n : Nd) (x : NdX) : Nat → Heap
 | 0=>ndH n x []
 | 1=>ndHb n x 14 13 n.del.length n.conf.length .dead (confE n.conf x.cc) [delE n.del x.cd]
 | _=>ndHb n x 12 14 n.del.length n.conf.length (delE n.del x.cd) .dead [confE n.conf x.cc]
def Nd.gotN (n : Nd) (k : Nat) (e : Ev) : Nd:={ n with obj:=n.obj.gets n.m k e.f.data,came:=fun i=>if (i : Int) = (k : Int) then true else n.came i }
theorem lat_le {α : Type} {l : List α} (h : l.length ≤ 100) : latest l = l:=by unfold latest; rw [Nat.sub_eq_zero_of_le h]; rfl
theorem lat_len {α : Type} {l : List α} {d : α} (h : l.length = 100) : (latest (l ++ [d])).length = 100:=by unfold latest; simp [h]
theorem lat_at {α : Type} {l : List α} {d z : α} (h : l.length = 100) (i : Nat) : (latest (l ++ [d])).getD i z = (l ++ [d]).getD (1 + i) z:=by
 unfold latest
 rw [List.length_append,h,List.getD_eq_getElem?_getD,List.getD_eq_getElem?_getD,List.getElem?_drop]
 rfl
theorem lat_dv {l : List Dv} {d : Dv} {i : Nat} (h : l.length = 100) (hi : i < 100) : (if 1 + i < 100 then dvF l (0 + (1 + i)) else nthD [] [dvC d] (0 + (1 + i - 100))) = dvF (latest (l ++ [d])) i:=by
 have e:=@dvF_app1 l (1 + i) d (by omega)
 rw [h] at e
 rw [e]
 show dvC _ = dvC _
 rw [lat_at h]
theorem lat_int {l : List Int} {d : Int} {i : Nat} (h : l.length = 100) (hi : i < 100) : (if 1 + i < 100 then intF l (0 + (1 + i)) else nthD [] [[iC d]] (0 + (1 + i - 100))) = intF (latest (l ++ [d])) i:=by
 have e:=@intF_app l (1 + i) d (by omega)
 rw [h] at e
 rw [e]
 show [iC _] = [iC _]
 rw [lat_at h]
theorem nmsg2 (n : Nd) (x : NdX) (k : Nat) (e : Ev) (ho : n.Ok) (hd : n.del.length ≤ 100) (hx : XOk n x) (hk : k < 12) (h2 : e.kind = 2) (n' : Nd) (hn : n.message k e = n') : clRunX 7 tt outsMs tabMs 3 F.node_Node_message [] [pR 0,iv .i64 k,.t (mevT e)] (ndH n x []) (fun x h=>Trim 14 x h fun x h=>∃ q,XOk n' q ∧ x = uR ∧ h = ndW n' q (if n.inTime then 1 else 0)):=by
 unfold Nd.message at hn
 rw [if_pos h2] at hn
 have z0 : ((k : Int)).toNat = k:=by omega
 have hcame : (fun q : Nat=>if q = k then bC true else bC (n.came q)) = fun q : Nat=>bC (if (q : Int) = (k : Int) then true else n.came q):=by
  funext i
  by_cases h : i = k
  ·rw [if_pos h,if_pos (by omega)]
  ·rw [if_neg h,if_neg (by omega)]
 refine wB ?_
 refine AskC.bs ((⟨n.m,n.c.z2,n.c.z3,n.obj⟩,(k : Int),e.f.data) : ObP × Int × ByteArray) x.fo 8 trivial rfl rfl (fun fo'=>?_)
 repeat(refine wA ?_;(conv=>whnf);first|rw [z0])
 refine wB ?_
 rw [hcame]
 refine AskC.nd (n.gotN k e) { x with fo:=fo' } _ trivial hx rfl rfl (fun q hq=>?_)
 have ea : n.inTime = (n.gotN k e).inTime:=rfl
 have hdg : (n.gotN k e).del.length = n.del.length:=rfl
 rw [ea] at hn
 cases hi : (n.gotN k e).inTime
 ·rw [hi] at hn
  rw [ea,hi]
  repeat(refine wA ?_;(conv=>whnf);first|rw [hi])
  refine wB ?_
  subst hn
  exact nd_end (n:=n.gotN k e) (rest:=_) hq rfl rfl rfl rfl
 ·rw [hi,if_pos rfl] at hn
  rw [ea,hi]
  repeat(refine wA ?_;(conv=>whnf);first|rw [hi])
  refine wB ?_
  refine cT (decide_eq_true (by show (n.del.length + 1) * 24 ≤ 1099511627776; omega)) ?_
  refine cT (decide_eq_true ⟨by omega,by omega⟩) ?_
  intro cap' hcap'
  have hcap' : n.del.length + 1 ≤ cap':=hcap'
  by_cases h100 : n.del.length = 100
  ·rw [show (n.gotN k e).del.length = 100 from h100]
   refine wB ?_
   intro cap2 hcap2
   have hcap2 : 100 ≤ cap2:=hcap2
   refine wB ?_
   have hLl:=lat_len (d:=((k : Int),e.f.data)) h100
   subst hn
   refine ⟨⟨uR,ndHb (n.gotN k e) { q with cd:=cap2,zd:=false } 14 13 100 n.conf.length .dead (confE n.conf q.cc) [.ob (.row 2 100 (dvF (latest (n.del ++ [((k : Int),e.f.data)]))) cap2)], ?_,{ q with cd:=cap2,zd:=false },⟨?_,hq.2⟩,rfl, ?_⟩⟩
   ·refine Le.nm [0,1,2,3,4,5,6,7,8,9,10,11,12,13,17] rfl ?_ ?_
    ·refine ⟨?_, ?_, ?_, ?_, ?_, ?_, ?_, ?_, ?_, ?_, ?_, ?_,trivial, ?_,⟨rfl,rfl,rfl,fun i hi=>lat_dv (l:=n.del) (d:=((k : Int),e.f.data)) h100 hi⟩,trivial⟩
     all_goals (repeat'(first|exact wZ|refine And.intro ?_ ?_))
    ·exact wH
   ·show (latest (n.del ++ [((k : Int),e.f.data)])).length ≤ cap2
    rw [hLl]; exact hcap2
   ·show _ = ndHb (n.gotN k e) { q with cd:=cap2,zd:=false } 14 13 (latest (n.del ++ [((k : Int),e.f.data)])).length n.conf.length .dead (confE n.conf q.cc) [delE (latest (n.del ++ [((k : Int),e.f.data)])) cap2]
    rw [delE,hLl]
  ·have hL : latest (n.del ++ [((k : Int),e.f.data)]) = n.del ++ [((k : Int),e.f.data)]:=lat_le (by rw [List.length_append]; show n.del.length + 1 ≤ 100; omega)
   rw [hL] at hn
   refine wB ?_
   subst hn
   refine ⟨⟨uR,ndHb (n.gotN k e) { q with cd:=cap',zd:=q.zd && decide (1 = 0) } 14 13 (n.del.length + 1) n.conf.length .dead (confE n.conf q.cc) [.ob (.row 2 (n.del.length + 1) (dvF (n.del ++ [((k : Int),e.f.data)])) cap')], ?_,{ q with cd:=cap',zd:=q.zd && decide (1 = 0) },⟨?_,hq.2⟩,rfl, ?_⟩⟩
   ·refine Le.nm [0,1,2,3,4,5,6,7,8,9,10,11,12,13,16] rfl ?_ ?_
    ·refine ⟨?_, ?_, ?_, ?_, ?_, ?_, ?_, ?_, ?_, ?_, ?_, ?_,trivial, ?_,⟨rfl,rfl,rfl,fun i hi=>dvF_app1 (l:=n.del) (d:=((k : Int),e.f.data)) hi⟩,trivial⟩
     all_goals (repeat'(first|exact wZ|refine And.intro ?_ ?_))
    ·exact wH
   ·show (n.del ++ [((k : Int),e.f.data)]).length ≤ cap'
    rw [List.length_append]; exact hcap'
   ·show _ = ndHb (n.gotN k e) { q with cd:=cap',zd:=q.zd && decide (1 = 0) } 14 13 (n.del ++ [((k : Int),e.f.data)]).length n.conf.length .dead (confE n.conf q.cc) [delE (n.del ++ [((k : Int),e.f.data)]) cap']
    rw [delE,List.length_append]; rfl
def Nd.sentN (n : Nd) (msg : Int) : Nd:={ n with obj:=n.obj.sent n.m msg,tab:=chg n.tab msg (-1),sch:=n.sch.close }
theorem nmsg1 (n : Nd) (x : NdX) (msg : Int) (e : Ev) (ho : n.Ok) (hd : n.conf.length ≤ 100) (hx : XOk n x) (h1 : e.kind = 1) (n' : Nd) (hn : n.message msg e = n') : clRunX 7 tt outsMs tabMs 3 F.node_Node_message [] [pR 0,iv .i64 msg,.t (mevT e)] (ndH n x []) (fun x h=>Trim 14 x h fun x h=>∃ q,XOk n' q ∧ x = uR ∧ h = ndW n' q 2):=by
 unfold Nd.message at hn
 rw [if_neg (by omega),if_pos h1] at hn
 refine wB ?_
 refine AskC.bs ((⟨n.m,n.c.z2,n.c.z3,n.obj⟩,msg) : ObP × Int) x.fo 8 ho.obj rfl rfl (fun fo'=>?_)
 refine wB ?_
 refine AskC.bs (n.tab,msg) x.fs 9 ho.tab rfl rfl (fun fs'=>?_)
 refine wB ?_
 refine cT (decide_eq_true (by show (n.conf.length + 1) * 8 ≤ 1099511627776; omega)) ?_
 refine cT (decide_eq_true ⟨by omega,by omega⟩) ?_
 intro cap' hcap'
 have hcap' : n.conf.length + 1 ≤ cap':=hcap'
 by_cases h100 : n.conf.length = 100
 ·rw [h100]
  refine wB ?_
  intro cap2 hcap2
  have hcap2 : 100 ≤ cap2:=hcap2
  refine wB ?_
  refine AskC.ex n.sch x.fc 11 trivial rfl rfl (fun fc'=>?_)
  refine wB ?_
  have hLl:=lat_len (d:=msg) h100
  subst hn
  refine ⟨⟨uR,ndHb (n.sentN msg) { x with fo:=fo',fs:=fs',fc:=fc',cc:=cap2,zc:=false } 12 14 n.del.length 100 (delE n.del x.cd) .dead [.ob (.row 1 100 (intF (latest (n.conf ++ [msg]))) cap2)], ?_,{ x with fo:=fo',fs:=fs',fc:=fc',cc:=cap2,zc:=false },⟨hx.1, ?_⟩,rfl, ?_⟩⟩
  ·refine Le.nm [0,1,2,3,4,5,6,7,8,9,10,11,12,13,17] rfl ?_ ?_
   ·refine ⟨?_, ?_, ?_, ?_, ?_, ?_, ?_, ?_, ?_, ?_, ?_, ?_, ?_,trivial,⟨rfl,rfl,rfl,fun i hi=>lat_int (l:=n.conf) (d:=msg) h100 hi⟩,trivial⟩
    all_goals (repeat'(first|exact wZ|refine And.intro ?_ ?_))
   ·exact wH
  ·show (latest (n.conf ++ [msg])).length ≤ cap2
   rw [hLl]; exact hcap2
  ·show _ = ndHb (n.sentN msg) { x with fo:=fo',fs:=fs',fc:=fc',cc:=cap2,zc:=false } 12 14 n.del.length (latest (n.conf ++ [msg])).length (delE n.del x.cd) .dead [confE (latest (n.conf ++ [msg])) cap2]
   rw [confE,hLl]
 ·have hL : latest (n.conf ++ [msg]) = n.conf ++ [msg]:=lat_le (by rw [List.length_append]; show n.conf.length + 1 ≤ 100; omega)
  rw [hL] at hn
  refine wB ?_
  refine AskC.ex n.sch x.fc 11 trivial rfl rfl (fun fc'=>?_)
  refine wB ?_
  subst hn
  refine ⟨⟨uR,ndHb (n.sentN msg) { x with fo:=fo',fs:=fs',fc:=fc',cc:=cap',zc:=x.zc && decide (1 = 0) } 12 14 n.del.length (n.conf.length + 1) (delE n.del x.cd) .dead [.ob (.row 1 (n.conf.length + 1) (intF (n.conf ++ [msg])) cap')], ?_,{ x with fo:=fo',fs:=fs',fc:=fc',cc:=cap',zc:=x.zc && decide (1 = 0) },⟨hx.1, ?_⟩,rfl, ?_⟩⟩
  ·refine Le.nm [0,1,2,3,4,5,6,7,8,9,10,11,12,13,16] rfl ?_ ?_
   ·refine ⟨?_, ?_, ?_, ?_, ?_, ?_, ?_, ?_, ?_, ?_, ?_, ?_, ?_,trivial,⟨rfl,rfl,rfl,fun i hi=>intF_app (l:=n.conf) (d:=msg) hi⟩,trivial⟩
    all_goals (repeat'(first|exact wZ|refine And.intro ?_ ?_))
   ·exact wH
  ·show (n.conf ++ [msg]).length ≤ cap'
   rw [List.length_append]; exact hcap'
  ·show _ = ndHb (n.sentN msg) { x with fo:=fo',fs:=fs',fc:=fc',cc:=cap',zc:=x.zc && decide (1 = 0) } 12 14 n.del.length (n.conf ++ [msg]).length (delE n.del x.cd) .dead [confE (n.conf ++ [msg]) cap']
   rw [confE,List.length_append]; rfl
def msgW (n : Nd) (e : Ev) : Nat:=if e.kind = 2 then (if n.inTime then 1 else 0) else if e.kind = 1 then 2 else 0
def RowsOk (n : Nd) : Prop:=n.del.length ≤ 100 ∧ n.conf.length ≤ 100
abbrev nmsgC : Con ((Nd × Nat × Ev) × NdX):=FamCon (β:=NdX) (fun p=>[pR 0,iv .i64 p.1.2.1,.t (mevT p.1.2.2)]) (fun p=>ndH p.1.1 p.2 []) (fun p=>p.1.1.Ok ∧ RowsOk p.1.1 ∧ p.1.2.1 < 12 ∧ XOk p.1.1 p.2) (fun p q=>XOk (p.1.1.message p.1.2.1 p.1.2.2) q) (fun _ _=>uR) fun p q=>ndW (p.1.1.message p.1.2.1 p.1.2.2) q (msgW p.1.1 p.1.2.2)
theorem nmsg_runs (n : Nd) (k : Nat) (e : Ev) (x : NdX) (ho : n.Ok) (hr : RowsOk n) (hk : k < 12) (hx : XOk n x) : clRunX 7 tt outsMs tabMs 3 F.node_Node_message [] [pR 0,iv .i64 k,.t (mevT e)] (ndH n x []) (fun x h=>Trim 14 x h fun x h=>∃ q,XOk (n.message k e) q ∧ x = uR ∧ h = ndW (n.message k e) q (msgW n e)):=by
 by_cases h2 : e.kind = 2
 ·rw [msgW,if_pos h2]; exact nmsg2 n x k e ho hr.1 hx hk h2 _ rfl
 by_cases h1 : e.kind = 1
 ·rw [msgW,if_neg h2,if_pos h1]; exact nmsg1 n x k e ho hr.2 hx h1 _ rfl
 rw [msgW,if_neg h2,if_neg h1]; exact nmsg0 n x k e ho hx h2 h1 _ rfl
theorem nmsg_ok : ConOk Tryz.prog F.node_Node_message nmsgC:=con_of_run (clRunX_ok (d:=7) ttOk outsMs_ok tabMs_ok 3) (fn_enters (ok.node_Node_message (D:=7) u0 _ (clRunX_ok (d:=7) ttOk .nil TabOk.nil 1))) fun p hp=>nmsg_runs p.1.1 p.1.2.1 p.1.2.2 p.2 hp.1 hp.2.1 hp.2.2.1 hp.2.2.2
def ndWr (n : Nd) (x : NdX) (rest : Heap) : Nat → Heap
 | 0=>ndH n x rest
 | 1=>ndHb n x (rest.length + 14) 13 n.del.length n.conf.length .dead (confE n.conf x.cc) (rest ++ [delE n.del x.cd])
 | _=>ndHb n x 12 (rest.length + 14) n.del.length n.conf.length (delE n.del x.cd) .dead (rest ++ [confE n.conf x.cc])
theorem nd_mrgW (n n' : Nd) (x x' : NdX) (rest : Heap) (hm : n'.m = n.m) (w : Nat) : mrg (back (ndH n x rest) (ndH n x []) ndL) (ndH n x rest) ndL (ndH n x []) (ndW n' x' w) = ndWr n' x' rest w:=by
 have hr : ∀ A : Heap,mrgGo (back (ndH n x rest) (ndH n x []) ndL) ndL (ndH n x []) A 14 rest = rest:=fun A=>mrgGo_rest rest 14 (by decide)
 match w with
 | 0=>exact nd_mrg n n' x x' rest hm
 | 1 =>
  have e : mrg (back (ndH n x rest) (ndH n x []) ndL) (ndH n x rest) ndL (ndH n x []) (ndW n' x' 1) = [ndOb n' x' (rest.length + 14) 13 n'.del.length n'.conf.length,roM n.m,roG n.m,roW n.m,clkE n'.clk,macE n'.mac,mrkE n'.mrk,glbE n'.glb,bx (objQ n'.m n'.c.z2 n'.c.z3 n'.obj) x'.fo,bx (statQ n'.tab) x'.fs,mstE n'.mst,bx (schQ n'.sch) x'.fc,.dead,confE n'.conf x'.cc] ++
   mrgGo (back (ndH n x rest) (ndH n x []) ndL) ndL (ndH n x []) (ndW n' x' 1) 14 rest ++ [delE n'.del x'.cd]:=rfl
  rw [e,hr,← hm,List.append_assoc]
  rfl
 | w + 2 =>
  have e : mrg (back (ndH n x rest) (ndH n x []) ndL) (ndH n x rest) ndL (ndH n x []) (ndW n' x' (w + 2)) = [ndOb n' x' 12 (rest.length + 14) n'.del.length n'.conf.length,roM n.m,roG n.m,roW n.m,clkE n'.clk,macE n'.mac,mrkE n'.mrk,glbE n'.glb,bx (objQ n'.m n'.c.z2 n'.c.z3 n'.obj) x'.fo,bx (statQ n'.tab) x'.fs,mstE n'.mst,bx (schQ n'.sch) x'.fc,delE n'.del x'.cd,.dead] ++
   mrgGo (back (ndH n x rest) (ndH n x []) ndL) ndL (ndH n x []) (ndW n' x' (w + 2)) 14 rest ++ [confE n'.conf x'.cc]:=rfl
  rw [e,hr,← hm,List.append_assoc]
  rfl
theorem message_m (n : Nd) (msg : Int) (e : Ev) : (n.message msg e).m = n.m:=by unfold Nd.message; split <;> (try rfl); split <;> rfl
theorem nd_msg {n : Nd} {x : NdX} {k : Nat} {e : Ev} {rest : Heap} {K : R → Heap → Prop} (ho : n.Ok) (hr : RowsOk n) (hk : k < 12) (hx : XOk n x) (hK : ∀ q,XOk (n.message k e) q → K uR (ndWr (n.message k e) q rest (msgW n e))) : AskC nmsgC [pR 0,iv .i64 k,.t (mevT e)] (ndH n x rest) K :=
 .fam ((n,k,e),x) ndL (fun _=>uR) (fun q=>ndWr (n.message k e) q rest (msgW n e)) ⟨ho,hr,hk,hx⟩ rfl (nd_le _ _ _) ⟨.inl rfl,.inl rfl,⟨.inl rfl,.inl rfl,.inl rfl,.inl rfl,.inl rfl,.inl rfl,trivial⟩,trivial⟩ (fun q=>rfl) (fun q=>nd_mrgW _ _ _ _ _ (message_m _ _ _) _) hK
abbrev evRow (L : List Ev) (cap : Nat) : HE:=.ob (.row 6 L.length (evF L) cap)
theorem nsmp_cons {m m' : Mac} {v : Int} {L : List Ev} {h : Heap} {K : R → Heap → Prop} (n : Nat) (hn : h[n]? = some (macE m)) (hp : MacIn m (!decide (v = 48)) ∧ 0 ≤ v ∧ v ≤ 255) (hs : m.sample (!decide (v = 48)) = (m', L)) (hL : L ≠ [])
    (hk : ∀ cap, L.length ≤ cap → K (.t (.one (.slc h.length 0 6 0 L.length cap false))) (h.set n (macE m') ++ [evRow L cap])) : AskC smpC [.t (.one (.ptr n 0)), iv .u8 v] h K := by
  refine .fam (m, v) [n] (fun q => .t (.one (.slc h.length 0 6 0 L.length q false))) (fun q => h.set n (macE m') ++ [evRow L q]) hp (by simp [obB, sepB, sep1]) ⟨hent_of hn (mac_le _ _), trivial⟩ ⟨.inl rfl, .inl rfl, trivial⟩ (fun q => ?_) (fun q => ?_) (fun q hq => hk q (by have hq : (m.sample (!decide (v = 48))).2.length ≤ q := hq; rw [hs] at hq; exact hq))
  · show renR _ (evR (m.sample (!decide (v = 48))).2 1 q) = _
    rw [hs]
    cases L with
    | nil => exact absurd rfl hL
    | cons e l => rfl
  · show mrg _ h [n] [macE m] (macE (m.sample (!decide (v = 48))).1 :: rowsE (m.sample (!decide (v = 48))).2 q) = _
    rw [hs, mrg_set rfl]
    cases L with
    | nil => exact absurd rfl hL
    | cons e l =>
      show h.set n (macE m') ++ [HE.ob (.row 6 (e :: l).length (fun i => (evF (e :: l) i).map (renC _)) q)] = _
      rw [show (fun i => (evF (e :: l) i).map (renC (back h [macE m] [n]))) = evF (e :: l) from funext fun i => evF_ren _ _ _]
theorem nsmp_nil {m m' : Mac} {v : Int} {h : Heap} {K : R → Heap → Prop} (n : Nat) (hn : h[n]? = some (macE m)) (hp : MacIn m (!decide (v = 48)) ∧ 0 ≤ v ∧ v ≤ 255) (hs : m.sample (!decide (v = 48)) = (m',[])) (hk : K nilS (h.set n (macE m'))) : AskC smpC [.t (.one (.ptr n 0)),iv .u8 v] h K:=by
 refine .fam (m,v) [n] (fun q=>nilS) (fun q=>h.set n (macE m')) hp (by simp [obB,sepB,sep1]) ⟨hent_of hn (mac_le _ _),trivial⟩ ⟨.inl rfl,.inl rfl,trivial⟩ (fun q=>?_) (fun q=>?_) (fun q hq=>hk)
 ·show renR _ (evR (m.sample (!decide (v = 48))).2 1 q) = _
  rw [hs]; rfl
 ·show mrg _ h [n] [macE m] (macE (m.sample (!decide (v = 48))).1 :: rowsE (m.sample (!decide (v = 48))).2 q) = _
  rw [hs,mrg_set rfl]
  show h.set n (macE m') ++ [] = _
  rw [List.append_nil]
theorem evF_at : ∀ {L : List Ev} {i : Nat},i < L.length → evF L i = evC (L.getD i ev0)
 | [],_,h=>absurd h (Nat.not_lt_zero _)
 | _ :: _,0,_=>rfl
 | _ :: L,i + 1,h=>by
  show evF L i = evC _
  rw [evF_at (Nat.lt_of_succ_lt_succ h)]; rfl
theorem nfind_lt {m : Mat} {f : Frm} (h : 0 ≤ findM m f) : ∃ k : Nat,findM m f = k ∧ k < m.nG:=by
 unfold findM at h ⊢
 split at h
 ·omega
 ·rename_i hc
  rw [if_neg hc]
  rcases first_cases m.nG (fun j=>decide ((m.G j).id = (f.id : Int))) with ⟨e,_⟩ | ⟨j,hj,e,_⟩
  ·unfold find at h; omega
  ·exact ⟨j,e,hj⟩
theorem bt_in {m : Mat} {f : Frm} (hm : m.Ok) (hf : FIn f) : BtOk (btR m f) ∧ (btR m f).cyc ≤ 255:=by
 have h1:=hm.ref
 have h2:=hf.1
 have b0:=byN_lt f.data 0
 have b2:=byN_lt f.data 2
 have b3:=byN_lt f.data 3
 unfold U32 at h1
 unfold btR
 split
 ·unfold btOf
  split
  ·exact ⟨⟨by unfold I64; dsimp only; omega,by dsimp only; omega⟩,by dsimp only; omega⟩
  ·exact ⟨⟨by unfold I64; dsimp only; omega,by dsimp only; omega⟩,by dsimp only; omega⟩
 ·exact ⟨⟨by unfold I64; show _ ≤ (0 : Int) ∧ (0 : Int) ≤ _; omega,by decide⟩,by decide⟩
section
variable {n : Nd}
theorem Nd.Ok.beat (h : n.Ok) {b : Bt} (hb : BtOk b) (hc : b.cyc ≤ 255) (s : Bool) : (n.beat b s).Ok:=by
 have hmo:=Mrk.beat_ok h.mrk b.cyc
 have htold : n.told b < 65536:=by unfold Nd.told; split; exact Glb.at_lt hmo.bl; exact hb.glob
 have hgo : (n.glbB b).Ok:=Glb.beat_ok h.glb hb.rank htold hmo.bl
 rw [beat_eq]
 refine ⟨h.mo,h.is,h.rank, ?_,hmo,hgo, ?_,h.tab,h.obj,⟨h.sch.n, ?_⟩,h.trg⟩
 ·show (n.clkB b).Ok
  unfold Nd.clkB
  split
  ·exact Clk.set_ok h.clk _ _
  ·exact h.clk
 ·show (if s = true then n.mst.sent else n.mst.beat b.rank).Ok
  obtain ⟨m1,m2,m3⟩:=h.mst
  split
  ·unfold Mst.sent
   split
   ·exact ⟨m1,Nat.le_refl 2,m1⟩
   ·exact ⟨m1,m2,m3⟩
  ·exact ⟨m1,by show min (n.mst.state + 1) 2 ≤ 2; omega,hb.rank⟩
 ·show I64 (b.cyc : Int)
  unfold I64; omega
theorem sent_q (m : Mat) (o : Plc) (msg : Int) (h : o.Ok) : (o.sent m msg).Ok:=by
 obtain ⟨who,st,got,q⟩:=o
 have h : q.length ≤ 4:=h
 unfold Plc.sent
 split
 ·exact h
 ·cases q with
  | nil=>exact h
  | cons d l =>
   dsimp only
   split
   ·have : l.length + 1 ≤ 4:=h
    show l.length ≤ 4; omega
   ·exact h
theorem gets_q (m : Mat) (o : Plc) (msg : Int) (s : ByteArray) (h : o.Ok) : (o.gets m msg s).Ok:=by
 unfold Plc.gets
 split
 ·exact h
 ·exact h
theorem Nd.Ok.message (h : n.Ok) (msg : Int) (e : Ev) : (n.message msg e).Ok:=by
 unfold Nd.message
 split
 ·exact ⟨h.mo,h.is,h.rank,h.clk,h.mrk,h.glb,h.mst,h.tab,gets_q _ _ _ _ h.obj,h.sch,h.trg⟩
 ·split
  ·exact ⟨h.mo,h.is,h.rank,h.clk,h.mrk,h.glb,h.mst,chg_ok h.tab _ _,sent_q _ _ _ h.obj,⟨h.sch.n,h.sch.cy⟩,h.trg⟩
  ·refine ⟨h.mo,h.is,h.rank,h.clk,h.mrk,h.glb,h.mst, ?_,h.obj,⟨h.sch.n,h.sch.cy⟩,h.trg⟩
   show (if _ then chg n.tab msg 1 else n.tab).Ok
   split
   ·exact chg_ok h.tab _ _
   ·exact h.tab
theorem Nd.Ok.event (h : n.Ok) {e : Ev} (hf : FIn e.f) : (n.event e).Ok:=by
 unfold Nd.event
 split
 ·exact ⟨h.mo,h.is,h.rank,h.clk,Mrk.start_ok h.mrk h.clk.t,h.glb,h.mst,h.tab,h.obj,h.sch,h.trg⟩
 ·split
  ·have hb:=bt_in (m:=n.m) h.mo hf
   exact h.beat hb.1 hb.2 _
  ·split
   ·split
    ·exact h.message _ _
    ·exact h
   ·exact h
theorem lat_100 {α : Type} (l : List α) : (latest l).length ≤ 100:=by unfold latest; rw [List.length_drop]; omega
theorem RowsOk.event (h : RowsOk n) (e : Ev) : RowsOk (n.event e):=by
 obtain ⟨h1,h2⟩:=h
 unfold Nd.event
 split
 ·exact ⟨h1,h2⟩
 ·split
  ·exact ⟨h1,h2⟩
  ·split
   ·split
    ·unfold Nd.message
     split
     ·refine ⟨?_,h2⟩
      show (if n.inTime = true then latest _ else n.del).length ≤ 100
      split
      ·exact lat_100 _
      ·exact h1
     ·split
      ·exact ⟨h1,lat_100 _⟩
      ·exact ⟨h1,h2⟩
    ·exact ⟨h1,h2⟩
   ·exact ⟨h1,h2⟩
end
theorem eventsL_app : ∀ (l : List Ev) (w : Ev) (n : Nd),eventsL (l ++ [w]) n = (eventsL l n).event w
 | [],w,n=>rfl
 | x :: l,w,n=>eventsL_app l w (n.event x)
theorem Nd.Ok.eventsL : ∀ (l : List Ev) {n : Nd},n.Ok → RowsOk n → (∀ e,e ∈ l → FIn e.f) → (Co.eventsL l n).Ok ∧ RowsOk (Co.eventsL l n)
 | [],n,h,hr,_=>⟨h,hr⟩
 | x :: l,n,h,hr,hf=>Nd.Ok.eventsL l (h.event (hf x (List.mem_cons_self ..))) (hr.event x) fun e he=>hf e (List.mem_cons_of_mem _ he)
end Go.Proofs.YtlckbdhpehkeoaaGreat.Co
