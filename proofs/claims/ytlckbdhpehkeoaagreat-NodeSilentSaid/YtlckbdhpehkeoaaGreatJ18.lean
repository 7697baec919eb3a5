/- Parts. -/
import Derived.Test.YtlckbdhpehkeoaaGreatJ17
namespace Go.Proofs.YtlckbdhpehkeoaaGreat.Co
open Go Go.Eng Go.Proofs Go.Proofs.YtlckbdhpehkeoaaGreat.Tb Go.Pu
set_option maxRecDepth 100000
set_option maxHeartbeats 8000000
theorem sends_tab (n : Nd) (msg : Int) (s : ByteArray) : (n.sends msg s).tab = n.tab:=by unfold Nd.sends; split <;> rfl
theorem sends_m (n : Nd) (msg : Int) (s : ByteArray) : (n.sends msg s).m = n.m:=by unfold Nd.sends; split <;> rfl
theorem asks_m (n : Nd) (t : Nat) : (n.asks t).m = n.m:=by unfold Nd.asks; split <;> rfl
theorem looks_m (n : Nd) (k : Int) : (n.looks k).m = n.m:=by unfold Nd.looks; split <;> rfl
abbrev outsDo : List (FuncId × Cx):=[(F.object_Objects_State,AskC ostateB),(F.node_Node_level,AskC nlevC),(F.level_Beats,AskC (numB beatsB)),(F.level_May,AskC (numB mayB)),(F.node_Node_sends,AskC nsendsC),(F.status_Table_Bad,AskC sbadB),(F.sched_Sched_Close,AskC scloseB),
 (F.object_Objects_Event,AskC oevB),(F.node_Node_looks,AskC nlooksC),(F.node_Node_asks,AskC nasksC),(F.node_Node_loses,AskC nlosesC),(F.master_Master_Leads,AskC msLeadsC)]
theorem outsDo_ok : OutsOk Tryz.prog outsDo:=.cons (ask_ok ostateB_ok) (.cons (ask_ok nlev_ok) (.cons (ask_ok beats_ok) (.cons (ask_ok may_ok) (.cons (ask_ok nsends_ok) (.cons (ask_ok sbadB_ok) (.cons (ask_ok scloseB_ok) (.cons (ask_ok oevB_ok) (.cons (ask_ok nlooks_ok) (.cons (ask_ok nasks_ok) (.cons (ask_ok nloses_ok) (.cons (ask_ok msLeads_ok) .nil)))))))))))
noncomputable abbrev tabDo : List (FuncId × Eng.Fn):=[(F.node_Node_does,fn.node_Node_does u0),(F.master_Master_Stands,fn.master_Master_Stands u0)]
theorem tabDo_ok {d : Nat} : TabOk d tabDo tt:=.cons (ok.node_Node_does u0) (.cons (ok.master_Master_Stands u0) (TabOk.nil))
def TrgOk (w : Trg) : Prop:=w.kind = 3 → 0 ≤ w.msg ∧ w.msg < 12
theorem bs_pl {o : Option ByteArray} : (true && plR (lkR o)) = true:=by rw [lkR_pl]; rfl
theorem ev_pl {l : List Dv} : (true && plR (hdR l)) = true:=by rw [hdR_pl]; rfl
theorem ndoes1 (n : Nd) (x : NdX) (w : Trg) (t : Nat) (ho : n.Ok) (hx : XOk n x) (hk : w.kind = 1) (n' : Nd) (hn : n.does w t = n') : clRunX 7 tt outsDo tabDo 3 F.node_Node_does [] [pR 0,.t (trT w),iv .u16 t] (ndH n x []) (fun x h=>Trim 14 x h fun x h=>∃ q,XOk n' q ∧ x = uR ∧ h = ndH n' q []):=by
 unfold Nd.does at hn
 rw [if_pos hk] at hn
 refine wB ?_
 refine AskC.bs ((⟨n.m,n.c.z2,n.c.z3,n.obj⟩,w.msg) : ObP × Int) x.fo 8 trivial rfl bs_pl (fun fo'=>?_)
 cases hs : n.obj.st w.msg
 ·rw [hs] at hn
  repeat(refine wA ?_;(conv=>whnf);first|rw [hs])
  refine wB ?_
  refine AskC.bs (n.tab,w.msg) x.fs 9 ho.tab rfl rfl (fun fs'=>?_)
  refine wB ?_
  refine AskC.ex n.sch x.fc 11 trivial rfl rfl (fun fc'=>?_)
  refine wB ?_
  subst hn
  exact nd_end (n:=n.bad w.msg) (x:={ x with fo:=fo',fs:=fs',fc:=fc' }) (q:={ x with fo:=fo',fs:=fs',fc:=fc' }) (rest:=[_]) hx rfl rfl rfl rfl
 ·rename_i s
  rw [hs] at hn
  dsimp only at hn
  repeat(refine wA ?_;(conv=>whnf);first|rw [hs])
  refine wB ?_
  refine AskC.nd n { x with fo:=fo' } _ ho.tab hx rfl rfl (fun q hq=>?_)
  refine wB ?_
  refine numB_use ?_
  cases hb : beatsB n.level
  ·rw [hb] at hn
   repeat(refine wA ?_;(conv=>whnf);first|rw [hb])
   refine wB ?_
   refine AskC.bs (n.tab,w.msg) q.fs 9 ho.tab rfl rfl (fun fs'=>?_)
   refine wB ?_
   refine AskC.ex n.sch q.fc 11 trivial rfl rfl (fun fc'=>?_)
   refine wB ?_
   subst hn
   exact nd_end (n:=n.bad w.msg) (x:={ q with fs:=fs',fc:=fc' }) (q:={ q with fs:=fs',fc:=fc' }) (rest:=[_]) hq rfl rfl rfl rfl
  ·rw [hb] at hn
   rw [if_pos rfl] at hn
   repeat(refine wA ?_;(conv=>whnf);first|rw [hb])
   refine wB ?_
   refine AskC.nd (n,w.msg,s) q _ ho.mo hq rfl (sends_m _ _ _) (fun q hq=>?_)
   have hT : (n.sends w.msg s).tab.Ok:=by rw [sends_tab]; exact ho.tab
   cases hc : n.sendsOk w.msg s
   ·rw [hc] at hn
    repeat(refine wA ?_;(conv=>whnf);first|rw [hc])
    refine wB ?_
    refine AskC.bs ((n.sends w.msg s).tab,w.msg) q.fs 9 hT rfl rfl (fun fs'=>?_)
    refine wB ?_
    refine AskC.ex (n.sends w.msg s).sch q.fc 11 trivial rfl rfl (fun fc'=>?_)
    refine wB ?_
    subst hn
    exact nd_end (n:=(n.sends w.msg s).bad w.msg) (x:={ q with fs:=fs',fc:=fc' }) (q:={ q with fs:=fs',fc:=fc' }) (rest:=[_]) hq rfl rfl rfl rfl
   ·rw [hc] at hn
    rw [if_pos rfl] at hn
    repeat(refine wA ?_;(conv=>whnf);first|rw [hc])
    refine wB ?_
    subst hn
    exact nd_end (rest:=[_]) hq rfl rfl rfl rfl
theorem ndoes2 (n : Nd) (x : NdX) (w : Trg) (t : Nat) (ho : n.Ok) (hx : XOk n x) (hk : w.kind = 2) (n' : Nd) (hn : n.does w t = n') : clRunX 7 tt outsDo tabDo 3 F.node_Node_does [] [pR 0,.t (trT w),iv .u16 t] (ndH n x []) (fun x h=>Trim 14 x h fun x h=>∃ q,XOk n' q ∧ x = uR ∧ h = ndH n' q []):=by
 unfold Nd.does at hn
 rw [if_neg (by omega),if_pos hk] at hn
 refine wB ?_
 refine AskC.bs (⟨n.m,n.c.z2,n.c.z3,n.obj⟩ : ObP) x.fo 8 ho.obj rfl ev_pl (fun fo'=>?_)
 cases hs : n.obj.q
 ·rw [hs] at hn
  repeat(refine wA ?_;(conv=>whnf);first|rw [hs])
  refine wB ?_
  refine AskC.ex n.sch x.fc 11 trivial rfl rfl (fun fc'=>?_)
  refine wB ?_
  subst hn
  exact nd_end (n:=n.close) (x:={ x with fo:=fo',fc:=fc' }) (q:={ x with fo:=fo',fc:=fc' }) (rest:=[_,_]) hx rfl rfl rfl rfl
 ·rename_i d l
  obtain ⟨dm,ds⟩:=d
  rw [hs] at hn
  dsimp only at hn
  repeat(refine wA ?_;(conv=>whnf);first|rw [hs])
  refine wB ?_
  refine AskC.nd n { x with fo:=fo' } _ ho.tab hx rfl rfl (fun q hq=>?_)
  refine wB ?_
  refine numB_use ?_
  cases hb : mayB n.level
  ·rw [hb] at hn
   repeat(refine wA ?_;(conv=>whnf);first|rw [hb])
   refine wB ?_
   refine AskC.ex n.sch q.fc 11 trivial rfl rfl (fun fc'=>?_)
   refine wB ?_
   subst hn
   exact nd_end (n:=n.close) (x:={ q with fc:=fc' }) (q:={ q with fc:=fc' }) (rest:=[_,_]) hq rfl rfl rfl rfl
  ·rw [hb] at hn
   rw [if_pos rfl] at hn
   repeat(refine wA ?_;(conv=>whnf);first|rw [hb])
   refine wB ?_
   refine AskC.nd (n,dm,ds) q _ ho.mo hq rfl (sends_m _ _ _) (fun q hq=>?_)
   cases hc : n.sendsOk dm ds
   ·rw [hc] at hn
    repeat(refine wA ?_;(conv=>whnf);first|rw [hc])
    refine wB ?_
    refine AskC.ex (n.sends dm ds).sch q.fc 11 trivial rfl rfl (fun fc'=>?_)
    refine wB ?_
    subst hn
    exact nd_end (n:=(n.sends dm ds).close) (x:={ q with fc:=fc' }) (q:={ q with fc:=fc' }) (rest:=[_,_]) hq rfl rfl rfl rfl
   ·rw [hc] at hn
    rw [if_pos rfl] at hn
    repeat(refine wA ?_;(conv=>whnf);first|rw [hc])
    refine wB ?_
    subst hn
    exact nd_end (rest:=[_,_]) hq rfl rfl rfl rfl
theorem ndoes3 (n : Nd) (x : NdX) (w : Trg) (t : Nat) (ho : n.Ok) (hx : XOk n x) (hk : w.kind = 3) (hw : TrgOk w) (n' : Nd) (hn : n.does w t = n') : clRunX 7 tt outsDo tabDo 3 F.node_Node_does [] [pR 0,.t (trT w),iv .u16 t] (ndH n x []) (fun x h=>Trim 14 x h fun x h=>∃ q,XOk n' q ∧ x = uR ∧ h = ndH n' q []):=by
 unfold Nd.does at hn
 rw [if_neg (by omega),if_neg (by omega),if_pos hk] at hn
 obtain ⟨k,hm⟩ : ∃ k : Nat,w.msg = k:=⟨w.msg.toNat,by have:=hw hk; omega⟩
 have hk12 : k < 12:=by have:=hw hk; omega
 rw [hm] at hn
 repeat(refine wA ?_;(conv=>whnf);first|rw [hm])
 refine wB ?_
 refine AskC.nd (n,k) x _ ⟨ho.tab,hk12⟩ hx rfl (looks_m _ _) (fun q hq=>?_)
 refine wB ?_
 subst hn
 exact nd_end (rest:=[_]) hq rfl rfl rfl rfl
theorem ndoes4 (n : Nd) (x : NdX) (w : Trg) (t : Nat) (ho : n.Ok) (ht : t < 65536) (hx : XOk n x) (hk : w.kind = 4) (n' : Nd) (hn : n.does w t = n') : clRunX 7 tt outsDo tabDo 3 F.node_Node_does [] [pR 0,.t (trT w),iv .u16 t] (ndH n x []) (fun x h=>Trim 14 x h fun x h=>∃ q,XOk n' q ∧ x = uR ∧ h = ndH n' q []):=by
 unfold Nd.does at hn
 rw [if_neg (by omega),if_neg (by omega),if_neg (by omega),if_pos hk] at hn
 have hst : n.mst.stands = decide (0 ≤ n.mst.rank):=rfl
 refine wB ?_
 refine AskC.one n.mst 10 trivial rfl rfl rfl (mst_le _) (fun _=>rfl) ?_
 by_cases h1 : w.msg = 1
 ·rw [if_pos h1] at hn
  by_cases h2 : 0 ≤ n.mst.rank
  ·rw [hst,decide_eq_true h2,Bool.true_and] at hn
   refine wB ?_
   refine AskC.nd n x _ ho.tab hx rfl rfl (fun q hq=>?_)
   refine wB ?_
   refine numB_use ?_
   cases hb : beatsB n.level
   ·rw [hb] at hn
    repeat(refine wA ?_;(conv=>whnf);first|rw [hb])
    refine wB ?_
    subst hn
    exact nd_end (rest:=[_]) hq rfl rfl rfl rfl
   ·rw [hb,if_pos rfl] at hn
    repeat(refine wA ?_;(conv=>whnf);first|rw [hb])
    refine wB ?_
    refine AskC.nd (n,t) q _ ⟨ho,ht⟩ hq rfl (asks_m _ _) (fun q hq=>?_)
    refine wB ?_
    subst hn
    exact nd_end (rest:=[_]) hq rfl rfl rfl rfl
  ·rw [hst,decide_eq_false h2,Bool.false_and] at hn
   refine wB ?_
   subst hn
   exact nd_end (rest:=[_]) hx rfl rfl rfl rfl
 ·rw [if_neg h1] at hn
  cases h2 : n.mst.leads
  ·rw [h2,Bool.false_and] at hn
   repeat(refine wA ?_;(conv=>whnf);first|rw [h2])
   refine wB ?_
   subst hn
   exact nd_end (rest:=[_]) hx rfl rfl rfl rfl
  ·rw [h2,Bool.true_and] at hn
   repeat(refine wA ?_;(conv=>whnf);first|rw [h2])
   refine wB ?_
   refine AskC.nd n x _ ho.tab hx rfl rfl (fun q hq=>?_)
   refine wB ?_
   refine numB_use ?_
   cases hb : beatsB n.level
   ·rw [hb] at hn
    repeat(refine wA ?_;(conv=>whnf);first|rw [hb])
    refine wB ?_
    subst hn
    exact nd_end (rest:=[_]) hq rfl rfl rfl rfl
   ·rw [hb,if_pos rfl] at hn
    repeat(refine wA ?_;(conv=>whnf);first|rw [hb])
    refine wB ?_
    refine AskC.nd (n,t) q _ ⟨ho,ht⟩ hq rfl (asks_m _ _) (fun q hq=>?_)
    refine wB ?_
    subst hn
    exact nd_end (rest:=[_]) hq rfl rfl rfl rfl
theorem ndoes5 (n : Nd) (x : NdX) (w : Trg) (t : Nat) (hx : XOk n x) (hk : w.kind = 5) (n' : Nd) (hn : n.does w t = n') : clRunX 7 tt outsDo tabDo 3 F.node_Node_does [] [pR 0,.t (trT w),iv .u16 t] (ndH n x []) (fun x h=>Trim 14 x h fun x h=>∃ q,XOk n' q ∧ x = uR ∧ h = ndH n' q []):=by
 unfold Nd.does at hn
 rw [if_neg (by omega),if_neg (by omega),if_neg (by omega),if_neg (by omega),if_pos hk] at hn
 refine wB ?_
 refine AskC.nd n x _ trivial hx rfl rfl (fun q hq=>?_)
 refine wB ?_
 subst hn
 exact nd_end (n:=n.loses) (rest:=[_]) hq rfl rfl rfl rfl
theorem ndoes0 (n : Nd) (x : NdX) (w : Trg) (t : Nat) (hx : XOk n x) (h1 : w.kind ≠ 1) (h2 : w.kind ≠ 2) (h3 : w.kind ≠ 3) (h4 : w.kind ≠ 4) (h5 : w.kind ≠ 5) (n' : Nd) (hn : n.does w t = n') : clRunX 7 tt outsDo tabDo 3 F.node_Node_does [] [pR 0,.t (trT w),iv .u16 t] (ndH n x []) (fun x h=>Trim 14 x h fun x h=>∃ q,XOk n' q ∧ x = uR ∧ h = ndH n' q []):=by
 unfold Nd.does at hn
 rw [if_neg h1,if_neg h2,if_neg h3,if_neg h4,if_neg h5] at hn
 refine wB ?_
 subst hn
 exact nd_end (rest:=[_]) hx rfl rfl rfl rfl
abbrev ndoesC:=NdCon (fun p : Nd × Trg × Nat=>[.t (trT p.2.1),iv .u16 p.2.2]) (fun p=>p.1) (fun p=>p.1.Ok ∧ TrgOk p.2.1 ∧ p.2.2 < 65536) (fun _=>uR) fun p=>p.1.does p.2.1 p.2.2
theorem ndoes_ok : ConOk Tryz.prog F.node_Node_does ndoesC:=con_of_run (clRunX_ok (d:=7) ttOk outsDo_ok tabDo_ok 3) (fn_enters (ok.node_Node_does (D:=7) u0 _ (clRunX_ok (d:=7) ttOk .nil TabOk.nil 1))) fun p hp=>by
 obtain ⟨⟨n,w,t⟩,x⟩:=p
 obtain ⟨⟨ho,hw,ht⟩,hx⟩:=hp
 by_cases h1 : w.kind = 1
 ·exact ndoes1 n x w t ho hx h1 _ rfl
 by_cases h2 : w.kind = 2
 ·exact ndoes2 n x w t ho hx h2 _ rfl
 by_cases h3 : w.kind = 3
 ·exact ndoes3 n x w t ho hx h3 hw _ rfl
 by_cases h4 : w.kind = 4
 ·exact ndoes4 n x w t ho ht hx h4 _ rfl
 by_cases h5 : w.kind = 5
 ·exact ndoes5 n x w t hx h5 _ rfl
 exact ndoes0 n x w t hx h1 h2 h3 h4 h5 _ rfl
theorem nd_step {n : Nd} {x : NdX} {rest : Heap} {K : R → Heap → Prop} (hm : n.m.Ok) (hk : K (iv .i64 (Pu.step n.m)) (ndH n x rest)) : AskC stepC [matT n.m n.c 1 2 3] (ndH n x rest) K :=
 .use (n.m,n.c) [1,2,3] hm rfl (mat1_le n x rest) ⟨mat1_lx _ _ _,trivial⟩ hk
abbrev outsWt : List (FuncId × Cx):=[(F.check_Step,AskC stepC),(F.level_Of,AskC slevB),(F.level_Beats,AskC (numB beatsB)),(F.node_Node_asks,AskC nasksC)]
theorem outsWt_ok : OutsOk Tryz.prog outsWt:=.cons (ask_ok step_ok) (.cons (ask_ok slevB_ok) (.cons (ask_ok beats_ok) (.cons (ask_ok nasks_ok) .nil)))
noncomputable abbrev tabWt : List (FuncId × Eng.Fn):=[(F.node_Node_waits,fn.node_Node_waits u0),(F.master_Master_Stands,fn.master_Master_Stands u0)]
theorem tabWt_ok {d : Nat} : TabOk d tabWt tt:=.cons (ok.node_Node_waits u0) (.cons (ok.master_Master_Stands u0) (TabOk.nil))
theorem nwaits_run (n : Nd) (x : NdX) (u : Int) (t : Nat) (ho : n.Ok) (ht : t < 65536) (hu : 0 ≤ u ∧ u ≤ 65535) (hw : 0 ≤ n.wait ∧ n.wait ≤ 1000000000000000000) (hx : XOk n x) (n' : Nd) (hn : n.waits u t = n') :
    clRunX 6 tt outsWt tabWt 3 F.node_Node_waits [] [pR 0, iv .i64 u, iv .u16 t] (ndH n x []) (fun x h => Trim 14 x h fun x h => ∃ q, XOk n' q ∧ x = uR ∧ h = ndH n' q []) := by
  have hr := ho.rank
  have hh := ho.is.head
  have hst := step_bd (m := n.m)
  unfold headP at hh
  unfold Nd.waits at hn
  have hs : n.mst.stands = decide (0 ≤ n.mst.rank) := rfl
  have hmul : 0 ≤ (n.rank + 1) * Pu.step n.m ∧ (n.rank + 1) * Pu.step n.m ≤ 4 * Pu.step n.m := ⟨Int.mul_nonneg (by omega) (by omega), Int.mul_le_mul_of_nonneg_right (by omega) (by omega)⟩
  generalize hS : (n.rank + 1) * Pu.step n.m = S at *
  repeat(refine wA ?_;(conv=>whnf);first|rw [hS])
  refine wB ?_
  refine nd_step (n := { n with wait := n.wait + u }) (x := x) (rest := []) ho.mo ?_
  repeat(refine wA ?_;(conv=>whnf);first|rw [hS])
  refine wB ?_
  by_cases h1 : n.wait + u < n.m.init + S
  · rw [if_pos (.inl h1)] at hn
    repeat(refine wA ?_;(conv=>whnf);first|rw [hS])
    refine wB ?_
    subst hn
    exact nd_end (n := { n with wait := n.wait + u }) (rest := []) hx rfl rfl rfl rfl
  by_cases h2 : 0 ≤ n.mst.rank
  · repeat(refine wA ?_;(conv=>whnf);first|rw [hS])
    refine wB ?_
    refine AskC.bs (n.tab, false, false) x.fs 9 ho.tab rfl rfl (fun fs' => ?_)
    refine wB ?_
    refine numB_use ?_
    cases hb : beatsB (levelN n.tab false false)
    · rw [if_pos (.inr (.inr hb))] at hn
      repeat(refine wA ?_;(conv=>whnf);first|rw [hb])
      refine wB ?_
      subst hn
      exact nd_end (n := { n with wait := n.wait + u }) (x := { x with fs := fs' }) (q := { x with fs := fs' }) (rest := []) hx rfl rfl rfl rfl
    · rw [if_neg (fun c => by rcases c with c | c | c; exact h1 c; rw [hs] at c; exact absurd (decide_eq_true h2) (by rw [c]; decide); rw [hb] at c; cases c)] at hn
      have ho' : ({ n with wait := n.wait + u } : Nd).Ok := ⟨ho.mo, ho.is, ho.rank, ho.clk, ho.mrk, ho.glb, ho.mst, ho.tab, ho.obj, ho.sch, ho.trg⟩
      repeat(refine wA ?_;(conv=>whnf);first|rw [hb])
      refine wB ?_
      refine AskC.nd (({ n with wait := n.wait + u } : Nd), t) { x with fs := fs' } _ ⟨ho', ht⟩ hx rfl (asks_m _ _) (fun q hq => ?_)
      refine wB ?_
      subst hn
      exact nd_end (n := { ({ n with wait := n.wait + u } : Nd).asks t with wait := 0 }) (rest := []) hq rfl rfl rfl rfl
  · rw [if_pos (.inr (.inl (by rw [hs]; exact decide_eq_false h2)))] at hn
    repeat(refine wA ?_;(conv=>whnf);first|rw [hS])
    refine wB ?_
    subst hn
    exact nd_end (n := { n with wait := n.wait + u }) (rest := []) hx rfl rfl rfl rfl
abbrev nwaitsC:=NdCon (fun p : Nd × Int × Nat=>[iv .i64 p.2.1,iv .u16 p.2.2]) (fun p=>p.1) (fun p=>p.1.Ok ∧ p.2.2 < 65536 ∧ (0 ≤ p.2.1 ∧ p.2.1 ≤ 65535) ∧ (0 ≤ p.1.wait ∧ p.1.wait ≤ 1000000000000000000)) (fun _=>uR) fun p=>p.1.waits p.2.1 p.2.2
theorem nwaits_ok : ConOk Tryz.prog F.node_Node_waits nwaitsC:=con_of_run (clRunX_ok (d:=6) ttOk outsWt_ok tabWt_ok 3) (fn_enters (ok.node_Node_waits (D:=6) u0 _ (clRunX_ok (d:=6) ttOk .nil TabOk.nil 1))) fun p hp=>nwaits_run p.1.1 p.2 p.1.2.1 p.1.2.2 hp.1.1 hp.1.2.1 hp.1.2.2.1 hp.1.2.2.2 hp.2 _ rfl
section
variable {n : Nd}
theorem Nd.Ok.asks (h : n.Ok) (t : Nat) : (n.asks t).Ok:=by
 unfold Nd.asks
 split
 ·exact ⟨h.mo,h.is,h.rank,h.clk,h.mrk,h.glb,h.mst,h.tab,h.obj,h.sch,h.trg⟩
 ·exact h
theorem Nd.Ok.sends (h : n.Ok) (msg : Int) (s : ByteArray) : (n.sends msg s).Ok:=by
 unfold Nd.sends
 split
 ·exact ⟨h.mo,h.is,h.rank,h.clk,h.mrk,h.glb,h.mst,h.tab,h.obj,h.sch,h.trg⟩
 ·exact h
theorem Nd.Ok.close (h : n.Ok) : n.close.Ok:=⟨h.mo,h.is,h.rank,h.clk,h.mrk,h.glb,h.mst,h.tab,h.obj,⟨h.sch.n,h.sch.cy⟩,h.trg⟩
theorem Nd.Ok.bad (h : n.Ok) (msg : Int) : (n.bad msg).Ok:=⟨h.mo,h.is,h.rank,h.clk,h.mrk,h.glb,h.mst,chg_ok h.tab _ _,h.obj,⟨h.sch.n,h.sch.cy⟩,h.trg⟩
theorem Nd.Ok.looks (h : n.Ok) (msg : Int) : (n.looks msg).Ok:=by
 unfold Nd.looks
 split
 ·exact ⟨h.mo,h.is,h.rank,h.clk,h.mrk,h.glb,h.mst,chg_ok h.tab _ _,h.obj,h.sch,h.trg⟩
 ·exact h
theorem Nd.Ok.loses (h : n.Ok) : n.loses.Ok:=⟨h.mo,h.is,h.rank,h.clk,mrk0_ok,glb0_ok,⟨h.mst.r,Nat.zero_le _,(by show I64 (-1); unfold I64; omega)⟩,h.tab,h.obj,⟨h.sch.n,h.sch.cy⟩,h.trg⟩
theorem Nd.Ok.closes (h : n.Ok) : n.closes.Ok:=by
 refine ⟨h.mo,h.is,h.rank,h.clk,h.mrk,h.glb,h.mst, ?_,h.obj,⟨h.sch.n,h.sch.cy⟩,h.trg⟩
 show (if n.mac.lets && decide (n.sch.o.kind = 1) then chg n.tab n.sch.o.msg 1 else n.tab).Ok
 split
 ·exact chg_ok h.tab _ _
 ·exact h.tab
theorem Nd.Ok.does (h : n.Ok) (w : Trg) (t : Nat) : (n.does w t).Ok:=by
 unfold Nd.does
 repeat' split
 all_goals first | exact h | exact h.asks _ | exact h.sends _ _ | exact h.close | exact h.bad _ | exact h.looks _ | exact h.loses | exact (h.sends _ _).bad _ | exact (h.sends _ _).close
theorem does_m (n : Nd) (w : Trg) (t : Nat) : (n.does w t).m = n.m:=by
 unfold Nd.does
 repeat' split
 all_goals first | rfl | exact sends_m _ _ _ | exact looks_m _ _ | exact asks_m _ _
theorem doesL_app (t : Nat) : ∀ (l : List Trg) (w : Trg) (n : Nd),doesL t (l ++ [w]) n = (doesL t l n).does w t
 | [],w,n=>rfl
 | x :: l,w,n=>doesL_app t l w (n.does x t)
theorem Nd.Ok.doesL (t : Nat) : ∀ (l : List Trg) {n : Nd},n.Ok → (Co.doesL t l n).Ok
 | [],n,h=>h
 | x :: l,n,h=>Nd.Ok.doesL t l (h.does x t)
theorem Nd.Ok.waits (h : n.Ok) (u : Int) (t : Nat) : (n.waits u t).Ok:=by
 have h' : ({ n with wait:=n.wait + u } : Nd).Ok:=⟨h.mo,h.is,h.rank,h.clk,h.mrk,h.glb,h.mst,h.tab,h.obj,h.sch,h.trg⟩
 unfold Nd.waits
 split
 ·exact h'
 ·have h2:=h'.asks t
  exact ⟨h2.mo,h2.is,h2.rank,h2.clk,h2.mrk,h2.glb,h2.mst,h2.tab,h2.obj,h2.sch,h2.trg⟩
end
theorem due_trg {n : Nd} (h : n.Ok) {b : Int} {w : Trg} (hw : w ∈ n.sch.due b) : TrgOk w:=by
 unfold Sch.due at hw
 split at hw
 ·cases hw
 ·obtain ⟨i,hi,e⟩:=due_from hw
  subst e
  exact fun _=>h.trg i hi
abbrev outsTk : List (FuncId × Cx):=[(F.clock_Since,AskC sinceC),(F.clock_Clock_Tick,AskC ckTickC),(F.mark_Mark_At,AskC mkAtC),(F.sched_Sched_Now,AskC snowB),(F.node_Node_does,AskC ndoesC),(F.node_Node_waits,AskC nwaitsC),(F.sched_Sched_Over,AskC soverB),(F.node_Node_closes,AskC nclosesC)]
theorem outsTk_ok : OutsOk Tryz.prog outsTk:=.cons (ask_ok since_ok) (.cons (ask_ok ckTick_ok) (.cons (ask_ok mkAt_ok) (.cons (ask_ok snowB_ok) (.cons (ask_ok ndoes_ok) (.cons (ask_ok nwaits_ok) (.cons (ask_ok soverB_ok) (.cons (ask_ok ncloses_ok) .nil)))))))
noncomputable abbrev tabTk : List (FuncId × Eng.Fn):=[(F.node_Node_Tick,fn.node_Node_Tick u0),(F.clock_Clock_Time,fn.clock_Clock_Time u0)]
theorem tabTk_ok {d : Nat} : TabOk d tabTk tt:=.cons (ok.node_Node_Tick u0) (.cons (ok.clock_Clock_Time u0) (TabOk.nil))
def Nd.ends (b : Nd) (t : Nat) : Nd:=if 0 < b.mrk.bn ∧ b.sch.over (b.mrk.at_ t) = true then b.closes else b
def Nd.ticked (n : Nd) (ticks : Int) : Nd:={ n with clk:=n.clk.tick ticks }
def Nd.nowed (n : Nd) (b : Int) : Nd:={ n with sch:=n.sch.now b }
def Nd.mid (a : Nd) (was : Nat) : Nd:=if 0 < a.mrk.bn then doesL a.clk.time (a.sch.due (a.mrk.at_ a.clk.time)) (a.nowed (a.mrk.at_ a.clk.time : Nat)) else a.waits (since was a.clk.time) a.clk.time
theorem snow_bk {s : Sch} {b : Int} {fg : FG} {n : Nat} {h : Heap} {K : R → Heap → Prop} (hb : b < s.a) (hs : s.Ok) (hn : h[n]? = some (bx (schQ s) fg)) (hk : ∀ fg',K nilS (h.set n (bx (schQ s) fg'))) : AskC snowB [.t (.one (.ptr n 0)),iv .i64 b] h K:=by
 refine AskC.bx (s,b) fg n hs hn rfl (fun _ fg' _=>?_)
 show K (renR _ (if b < s.a then nilS else _)) (h.set n (bx (schQ (s.now b)) fg') ++ List.map _ (if b < s.a then [] else _))
 rw [if_pos hb,if_pos hb,show s.now b = s from if_pos hb]
 have:=hk fg'
 rw [← List.append_nil (h.set n _)] at this
 exact this
theorem snow_fw {s : Sch} {b : Int} {fg : FG} {n : Nat} {h : Heap} {K : R → Heap → Prop} (hb : ¬ b < s.a) (hs : s.Ok) (hn : h[n]? = some (bx (schQ s) fg)) (hk : ∀ fg',K (slT h.length (s.due b).length s.n false) (h.set n (bx (schQ (s.now b)) fg') ++ [rowT (at0L (s.due b)) s.n s.n])) : AskC snowB [.t (.one (.ptr n 0)),iv .i64 b] h K:=by
 refine AskC.bx (s,b) fg n hs hn rfl (fun _ fg' _=>?_)
 show K (renR _ (if b < s.a then nilS else slT 1 (s.due b).length s.n false)) (h.set n (bx (schQ (s.now b)) fg') ++ List.map _ (if b < s.a then [] else [rowT (at0L (s.due b)) s.n s.n]))
 rw [if_neg hb,if_neg hb]
 exact hk fg'
theorem waits_m (n : Nd) (u : Int) (t : Nat) : (n.waits u t).m = n.m:=by
 unfold Nd.waits
 split
 ·rfl
 ·exact asks_m _ _
theorem due_len (s : Sch) (b : Int) : (s.due b).length ≤ s.n:=by
 unfold Sch.due
 split
 ·exact Nat.zero_le _
 ·exact dueL_len _ _ _ _ _
theorem Nd.Ok.now {n : Nd} (h : n.Ok) (b : Int) : (n.nowed b).Ok:=by
 have e : (n.sch.now b).T = n.sch.T ∧ (n.sch.now b).n = n.sch.n ∧ (n.sch.now b).cy = n.sch.cy:=by unfold Sch.now; split <;> exact ⟨rfl,rfl,rfl⟩
 refine ⟨h.mo,h.is,h.rank,h.clk,h.mrk,h.glb,h.mst,h.tab,h.obj,⟨?_, ?_⟩, ?_⟩
 ·show (n.sch.now b).n ≤ 100; rw [e.2.1]; exact h.sch.n
 ·show I64 (n.sch.now b).cy; rw [e.2.2]; exact h.sch.cy
 ·show ∀ i,i < (n.sch.now b).n → 0 ≤ ((n.sch.now b).T i).msg ∧ ((n.sch.now b).T i).msg < 12
  rw [e.1,e.2.1]; exact h.trg
theorem tick_eq (n : Nd) (k : Int) : n.tick k = ((n.ticked k).mid n.clk.time).ends (n.ticked k).clk.time:=rfl
theorem ntick_run (n : Nd) (x : NdX) (k : Int) (ho : n.Ok) (hw : 0 ≤ n.wait ∧ n.wait ≤ 1000000000000000000) (hx : XOk n x) (n' : Nd) (hn : n.tick k = n') :
    clRunX 7 tt outsTk tabTk 3 F.node_Node_Tick [] [pR 0, iv .i64 k] (ndH n x []) (fun x h => Trim 14 x h fun x h => ∃ q, XOk n' q ∧ x = uR ∧ h = ndH n' q []) := by
  rw [tick_eq] at hn
  have hc := ho.clk
  have hc' := Clk.tick_ok hc k
  have ht := hc'.t
  have hwas := hc.t
  have hoA : (n.ticked k).Ok := ⟨ho.mo, ho.is, ho.rank, hc', ho.mrk, ho.glb, ho.mst, ho.tab, ho.obj, ho.sch, ho.trg⟩
  have hmA : 0 ≤ (n.ticked k).wait ∧ (n.ticked k).wait ≤ 1000000000000000000 := hw
  have hxA : XOk (n.ticked k) x := hx
  have hbn : (n.ticked k).mrk = n.mrk := rfl
  have hsc : (n.ticked k).sch = n.sch := rfl
  have hck : (n.ticked k).clk = n.clk.tick k := rfl
  refine wB ?_
  refine AskC.one (n.clk, k) 4 hc rfl rfl rfl (clk_le _) (fun _ => rfl) ?_
  refine wB ?_
  refine AskC.one (n.mrk, (n.clk.tick k).time) 6 ⟨ho.mrk, ht⟩ rfl rfl rfl (mrk_le _) (fun _ => rfl) ?_
  have hnd : ∀ rest, ndH { n with clk := n.clk.tick k } x rest = ndH (n.ticked k) x rest := fun _ => rfl
  by_cases hb : 0 < n.mrk.bn
  · rw [show (n.ticked k).mid n.clk.time = doesL (n.ticked k).clk.time ((n.ticked k).sch.due ((n.ticked k).mrk.at_ (n.ticked k).clk.time)) ((n.ticked k).nowed ((n.ticked k).mrk.at_ (n.ticked k).clk.time : Nat)) from if_pos hb] at hn
    have hoN := hoA.now (((n.ticked k).mrk.at_ (n.ticked k).clk.time : Nat) : Int)
    rw [hbn, hsc, hck] at hn
    rw [hbn, hck] at hoN
    generalize (n.clk.tick k).time = t at *
    have hdue : ∀ w, w ∈ n.sch.due (n.mrk.at_ t : Nat) → TrgOk w := fun w hw => due_trg ho hw
    have hdl := due_len n.sch ((n.mrk.at_ t : Nat) : Int)
    have hn100 := ho.sch.n
    refine wB ?_
    by_cases hba : ((n.mrk.at_ t : Nat) : Int) < n.sch.a
    · have hd0 : n.sch.due (n.mrk.at_ t : Nat) = [] := if_pos hba
      have hs0 : n.sch.now (n.mrk.at_ t : Nat) = n.sch := if_pos hba
      have eA : (n.ticked k).nowed ((n.mrk.at_ t : Nat) : Int) = n.ticked k := by unfold Nd.nowed; rw [hsc, hs0]; rfl
      rw [hd0, eA] at hn
      refine snow_bk (s := n.sch) hba ho.sch rfl (fun fc' => ?_)
      refine wB ?_
      refine .rd (fun _ : Unit => True) (fun _ => [(55, iv .i64 0)]) (fun _ => 0) () trivial ?_ (fun _ _ => ?_)
      · exact wF
      have hbo : (n.ticked k).Ok := hoA
      have hn : (n.ticked k).ends t = n' := hn
      refine wB ?_
      refine AskC.one ((n.ticked k).mrk, t) 6 ⟨hbo.mrk, ht⟩ rfl rfl rfl (mrk_le _) (fun _ => rfl) ?_
      unfold Nd.ends at hn
      by_cases h2 : 0 < (n.ticked k).mrk.bn
      · cases h3 : (n.ticked k).sch.over ((n.ticked k).mrk.at_ t)
        · rw [if_neg (fun c => by rw [h3] at c; cases c.2)] at hn
          refine wB ?_
          refine AskC.ex ((n.ticked k).sch, (((n.ticked k).mrk.at_ t : Nat) : Int)) fc' 11 trivial rfl rfl (fun fc2 => ?_)
          repeat(refine wA ?_;(conv=>whnf);first|rw [h3])
          refine wB ?_
          subst hn
          exact nd_end (n := n.ticked k) (x := { x with fc := fc2 }) (q := { x with fc := fc2 }) (rest := _) hx rfl rfl rfl rfl
        · rw [if_pos ⟨h2, h3⟩] at hn
          refine wB ?_
          refine AskC.ex ((n.ticked k).sch, (((n.ticked k).mrk.at_ t : Nat) : Int)) fc' 11 trivial rfl rfl (fun fc2 => ?_)
          repeat(refine wA ?_;(conv=>whnf);first|rw [h3])
          refine wB ?_
          refine AskC.nd (n.ticked k) { x with fc := fc2 } _ hbo.tab hx rfl rfl (fun q hq => ?_)
          refine wB ?_
          subst hn
          exact nd_end (rest := _) hq rfl rfl rfl rfl
      · rw [if_neg (fun c => h2 c.1)] at hn
        refine wB ?_
        subst hn
        exact nd_end (n := n.ticked k) (x := { x with fc := fc' }) (q := { x with fc := fc' }) (rest := _) hx rfl rfl rfl rfl
    · refine snow_fw (s := n.sch) hba ho.sch rfl (fun fc' => ?_)
      generalize n.sch.due (n.mrk.at_ t : Nat) = D at *
      refine wB ?_
      refine .inv (fun p : Nat × NdX => p.1 ≤ D.length ∧ XOk (doesL t (D.take p.1) ((n.ticked k).nowed ((n.mrk.at_ t : Nat) : Int))) p.2) (fun p => [(55, iv .i64 p.1)]) (fun p => ndH (doesL t (D.take p.1) ((n.ticked k).nowed ((n.mrk.at_ t : Nat) : Int))) p.2 [rowT (at0L D) n.sch.n n.sch.n]) (fun p => D.length - p.1) (0, { x with fc := fc' }) ⟨Nat.zero_le _, hx⟩ ?_ (fun p ⟨hi, hq⟩ => ?_)
      · exact wF
      generalize p.1 = i at *
      generalize p.2 = q at *
      have hbo := Nd.Ok.doesL t (D.take i) hoN
      conv => whnf
      refine cD (fun h5 => ?_) (fun h5 => ?_)
      · have hlt : i < D.length := by omega
        have hN1 : doesL t (D.take (i + 1)) ((n.ticked k).nowed ((n.mrk.at_ t : Nat) : Int)) = (doesL t (D.take i) ((n.ticked k).nowed ((n.mrk.at_ t : Nat) : Int))).does (at0L D i) t := by
          rw [List.take_add_one, show D[i]?.toList = [at0L D i] by rw [List.getElem?_eq_getElem hlt]; simp [at0L, List.getD_eq_getElem?_getD, List.getElem?_eq_getElem hlt], doesL_app]
        have hmem : at0L D i ∈ D := by
          have : at0L D i = D[i] := by simp [at0L, List.getD_eq_getElem?_getD, List.getElem?_eq_getElem hlt]
          rw [this]; exact List.getElem_mem hlt
        have z0 : 0 + ((i : Int)).toNat = i := by omega
        generalize hB : doesL t (D.take i) ((n.ticked k).nowed ((n.mrk.at_ t : Nat) : Int)) = b at *
        repeat(refine wA ?_;(conv=>whnf);first|rw [z0])
        refine wB ?_
        refine AskC.nd (b, at0L D i, t) q _ ⟨hbo, hdue _ hmem, ht⟩ hq rfl (does_m _ _ _) (fun q2 hq2 => ?_)
        refine wB ?_
        refine ⟨(i + 1, q2), ⟨⟨hlt, by show XOk (doesL t (D.take (i + 1)) _) q2; rw [hN1]; exact hq2⟩, by show D.length - (i + 1) < D.length - i; omega⟩, ?_⟩
        conv => whnf
        refine Le.nm [0, 1, 2, 3, 4, 5, 6, 7, 8, 9, 10, 11, 12, 13, 14] rfl (show leH _ _ _ (ndH (doesL t (D.take (i + 1)) ((n.ticked k).nowed ((n.mrk.at_ t : Nat) : Int))) q2 [rowT (at0L D) n.sch.n n.sch.n]) from ?_) ?_
        · rw [hN1]
          exact wH
        · exact wH
      obtain rfl : i = D.length := by omega
      rw [List.take_length] at hq hbo ⊢
      generalize doesL t D ((n.ticked k).nowed ((n.mrk.at_ t : Nat) : Int)) = b at *
      refine wB ?_
      refine AskC.one (b.mrk, t) 6 ⟨hbo.mrk, ht⟩ rfl rfl rfl (mrk_le _) (fun _ => rfl) ?_
      unfold Nd.ends at hn
      by_cases h2 : 0 < b.mrk.bn
      · cases h3 : b.sch.over (b.mrk.at_ t)
        · rw [if_neg (fun c => by rw [h3] at c; cases c.2)] at hn
          refine wB ?_
          refine AskC.ex (b.sch, ((b.mrk.at_ t : Nat) : Int)) q.fc 11 trivial rfl rfl (fun fc' => ?_)
          repeat(refine wA ?_;(conv=>whnf);first|rw [h3])
          refine wB ?_
          subst hn
          exact nd_end (n := b) (x := { q with fc := fc' }) (q := { q with fc := fc' }) (rest := _) hq rfl rfl rfl rfl
        · rw [if_pos ⟨h2, h3⟩] at hn
          refine wB ?_
          refine AskC.ex (b.sch, ((b.mrk.at_ t : Nat) : Int)) q.fc 11 trivial rfl rfl (fun fc' => ?_)
          repeat(refine wA ?_;(conv=>whnf);first|rw [h3])
          refine wB ?_
          refine AskC.nd b { q with fc := fc' } _ hbo.tab hq rfl rfl (fun q hq => ?_)
          refine wB ?_
          subst hn
          exact nd_end (rest := _) hq rfl rfl rfl rfl
      · rw [if_neg (fun c => h2 c.1)] at hn
        refine wB ?_
        subst hn
        exact nd_end (rest := _) hq rfl rfl rfl rfl
  · rw [show (n.ticked k).mid n.clk.time = (n.ticked k).waits (since n.clk.time (n.ticked k).clk.time : Nat) (n.ticked k).clk.time from if_neg hb] at hn
    rw [hck] at hn
    generalize (n.clk.tick k).time = t at *
    have hsl := since_lt n.clk.time t
    refine wB ?_
    refine .use (n.clk.time, t) [] ⟨hwas, ht⟩ rfl trivial ⟨.inl rfl, .inl rfl, trivial⟩ ?_
    refine wB ?_
    refine AskC.nd ((n.ticked k), ((since n.clk.time t : Nat) : Int), t) x _ ⟨hoA, ht, ⟨by dsimp only; omega, by dsimp only; omega⟩, hw⟩ hx rfl (waits_m _ _ _) (fun q hq => ?_)
    have hbo := hoA.waits ((since n.clk.time t : Nat) : Int) t
    dsimp only at hq ⊢
    generalize (n.ticked k).waits ((since n.clk.time t : Nat) : Int) t = b at *
    refine wB ?_
    refine AskC.one (b.mrk, t) 6 ⟨hbo.mrk, ht⟩ rfl rfl rfl (mrk_le _) (fun _ => rfl) ?_
    unfold Nd.ends at hn
    by_cases h2 : 0 < b.mrk.bn
    · cases h3 : b.sch.over (b.mrk.at_ t)
      · rw [if_neg (fun c => by rw [h3] at c; cases c.2)] at hn
        refine wB ?_
        refine AskC.ex (b.sch, ((b.mrk.at_ t : Nat) : Int)) q.fc 11 trivial rfl rfl (fun fc' => ?_)
        repeat(refine wA ?_;(conv=>whnf);first|rw [h3])
        refine wB ?_
        subst hn
        exact nd_end (n := b) (x := { q with fc := fc' }) (q := { q with fc := fc' }) (rest := _) hq rfl rfl rfl rfl
      · rw [if_pos ⟨h2, h3⟩] at hn
        refine wB ?_
        refine AskC.ex (b.sch, ((b.mrk.at_ t : Nat) : Int)) q.fc 11 trivial rfl rfl (fun fc' => ?_)
        repeat(refine wA ?_;(conv=>whnf);first|rw [h3])
        refine wB ?_
        refine AskC.nd b { q with fc := fc' } _ hbo.tab hq rfl rfl (fun q hq => ?_)
        refine wB ?_
        subst hn
        exact nd_end (rest := _) hq rfl rfl rfl rfl
    · rw [if_neg (fun c => h2 c.1)] at hn
      refine wB ?_
      subst hn
      exact nd_end (rest := _) hq rfl rfl rfl rfl
abbrev ntickC:=NdCon (fun p : Nd × Int=>[iv .i64 p.2]) (fun p=>p.1) (fun p=>p.1.Ok ∧ (0 ≤ p.1.wait ∧ p.1.wait ≤ 1000000000000000000)) (fun _=>uR) fun p=>p.1.tick p.2
theorem ntick_ok : ConOk Tryz.prog F.node_Node_Tick ntickC:=con_of_run (clRunX_ok (d:=7) ttOk outsTk_ok tabTk_ok 3) (fn_enters (ok.node_Node_Tick (D:=7) u0 _ (clRunX_ok (d:=7) ttOk .nil TabOk.nil 1))) fun p hp=>ntick_run p.1.1 p.2 p.1.2 hp.1.1 hp.1.2 hp.2 _ rfl
abbrev outsNd1 : List (FuncId × Cx):=[(F.mac_Mac_Drive,AskC macDriveC)]
theorem outsNd1_ok : OutsOk Tryz.prog outsNd1:=.cons (ask_ok macDrive_ok) .nil
noncomputable abbrev tabNd1 : List (FuncId × Eng.Fn):=[(F.node_Node_Drive,fn.node_Node_Drive u0)]
theorem tabNd1_ok {d : Nat} : TabOk d tabNd1 tt:=.cons (ok.node_Node_Drive u0) (TabOk.nil)
def DrvOk (m : Mac) : Prop:=(m.on = true → m.pos < m.bits.length) ∧ m.r.need ≤ 1000
theorem ndrive_run (n : Nd) (x : NdX) (hd : DrvOk n.mac) (hx : XOk n x) : clRunX 5 tt outsNd1 tabNd1 2 F.node_Node_Drive [] [pR 0] (ndH n x []) (fun x h=>Trim 14 x h fun x h=>∃ q,XOk n q ∧ x = iv .u8 (cI n.mac.drive) ∧ h = ndH n q []):=by
 refine wB ?_
 refine AskC.one n.mac 5 hd rfl rfl rfl (mac_le _) (fun _=>rfl) ?_
 refine wB ?_
 exact nd_end (rest:=[]) hx rfl rfl rfl rfl
abbrev ndriveC:=NdCon (fun _ : Nd=>[]) (fun n=>n) (fun n=>DrvOk n.mac) (fun n=>iv .u8 (cI n.mac.drive)) fun n=>n
theorem ndrive_ok : ConOk Tryz.prog F.node_Node_Drive ndriveC:=con_of_run (clRunX_ok (d:=5) ttOk outsNd1_ok tabNd1_ok 2) (fn_enters (ok.node_Node_Drive (D:=5) u0 _ (clRunX_ok (d:=5) ttOk .nil TabOk.nil 1))) fun p hp=>ndrive_run p.1 p.2 hp.1 hp.2
def Nd.send (n : Nd) (msg : Int) (s : ByteArray) : Nd:={ n with obj:=n.obj.send n.m msg s }
abbrev outsNd2 : List (FuncId × Cx):=[(F.object_Objects_Send,AskC osendB)]
theorem outsNd2_ok : OutsOk Tryz.prog outsNd2:=.cons (ask_ok osendB_ok) .nil
noncomputable abbrev tabNd2 : List (FuncId × Eng.Fn):=[(F.node_Node_Send,fn.node_Node_Send u0)]
theorem tabNd2_ok {d : Nat} : TabOk d tabNd2 tt:=.cons (ok.node_Node_Send u0) (TabOk.nil)
theorem nsend_run (n : Nd) (x : NdX) (msg : Int) (s : ByteArray) (hx : XOk n x) : clRunX 5 tt outsNd2 tabNd2 2 F.node_Node_Send [] [pR 0,iv .i64 msg,sv s] (ndH n x []) (fun x h=>Trim 14 x h fun x h=>∃ q,XOk (n.send msg s) q ∧ x = iv .i64 (n.obj.sendE n.m msg s) ∧ h = ndH (n.send msg s) q []):=by
 refine wB ?_
 refine AskC.bs ((⟨n.m,n.c.z2,n.c.z3,n.obj⟩,msg,s) : ObP × Int × ByteArray) x.fo 8 trivial rfl rfl (fun fo'=>?_)
 refine wB ?_
 exact nd_end (n:=n.send msg s) (x:={ x with fo:=fo' }) (q:={ x with fo:=fo' }) (rest:=[]) hx rfl rfl rfl rfl
abbrev nsendC:=NdCon (fun p : Nd × Int × ByteArray=>[iv .i64 p.2.1,sv p.2.2]) (fun p=>p.1) (fun _=>True) (fun p=>iv .i64 (p.1.obj.sendE p.1.m p.2.1 p.2.2)) fun p=>p.1.send p.2.1 p.2.2
theorem nsend_ok : ConOk Tryz.prog F.node_Node_Send nsendC:=con_of_run (clRunX_ok (d:=5) ttOk outsNd2_ok tabNd2_ok 2) (fn_enters (ok.node_Node_Send (D:=5) u0 _ (clRunX_ok (d:=5) ttOk .nil TabOk.nil 1))) fun p hp=>nsend_run p.1.1 p.2 p.1.2.1 p.1.2.2 hp.2
abbrev stR (n : Nd) : R:=.t (.agg [.c (iC (n.mst.state : Nat)),.c (iC n.level),.c (bC n.leads),.c (iC (n.mrk.cyc : Nat)),.c (iC (n.mac.c.sent : Nat)),.c (iC (n.mac.c.got : Nat)),.c (bC n.mac.c.off)])
abbrev outsNd4 : List (FuncId × Cx):=[(F.node_Node_level,AskC nlevC),(F.node_Node_leads,AskC nleadsC),(F.confine_IsOff,AskC cfOffC)]
theorem outsNd4_ok : OutsOk Tryz.prog outsNd4:=.cons (ask_ok nlev_ok) (.cons (ask_ok nleads_ok) (.cons (ask_ok cfOff_ok) .nil))
noncomputable abbrev tabNd4 : List (FuncId × Eng.Fn):=[(F.node_Node_Status,fn.node_Node_Status u0),(F.master_Master_State,fn.master_Master_State u0),(F.mac_Mac_Counts,fn.mac_Mac_Counts u0),(F.mark_Mark_Cycle,fn.mark_Mark_Cycle u0)]
theorem tabNd4_ok {d : Nat} : TabOk d tabNd4 tt:=.cons (ok.node_Node_Status u0) (.cons (ok.master_Master_State u0) (.cons (ok.mac_Mac_Counts u0) (.cons (ok.mark_Mark_Cycle u0) (TabOk.nil))))
theorem nstat_run (n : Nd) (x : NdX) (ht : n.tab.Ok) (hx : XOk n x) : clRunX 6 tt outsNd4 tabNd4 3 F.node_Node_Status [] [pR 0] (ndH n x []) (fun x h=>Trim 14 x h fun x h=>∃ q,XOk n q ∧ x = stR n ∧ h = ndH n q []):=by
 refine wB ?_
 refine AskC.nd n x _ ht hx rfl rfl (fun q hq=>?_)
 refine wB ?_
 refine AskC.nd n q _ trivial hq rfl rfl (fun q hq=>?_)
 refine wB ?_
 refine .det n.mac.c [] (bv n.mac.c.off) _ trivial rfl trivial ⟨?_,trivial⟩ rfl rfl ?_
 ·exact wH
 refine wB ?_
 exact nd_end (F:=stR n) (rest:=_) hq rfl rfl rfl rfl
abbrev nstatC:=NdCon (fun _ : Nd=>[]) (fun n=>n) (fun n=>n.tab.Ok) (fun n=>stR n) fun n=>n
theorem nstat_ok : ConOk Tryz.prog F.node_Node_Status nstatC:=con_of_run (clRunX_ok (d:=6) ttOk outsNd4_ok tabNd4_ok 3) (fn_enters (ok.node_Node_Status (D:=6) u0 _ (clRunX_ok (d:=6) ttOk .nil TabOk.nil 1))) fun p hp=>nstat_run p.1 p.2 hp.1 hp.2
end Go.Proofs.YtlckbdhpehkeoaaGreat.Co
