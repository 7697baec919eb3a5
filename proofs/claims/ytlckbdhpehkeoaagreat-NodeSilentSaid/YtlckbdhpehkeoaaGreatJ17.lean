/- Parts. -/
import Derived.Test.YtlckbdhpehkeoaaGreatJ10
import Derived.Test.YtlckbdhpehkeoaaGreatJ13
import Derived.Test.YtlckbdhpehkeoaaGreatJ16
namespace Go.Proofs.YtlckbdhpehkeoaaGreat.Co
open Go Go.Eng Go.Proofs Go.Proofs.YtlckbdhpehkeoaaGreat.Tb Go.Pu
set_option maxRecDepth 100000
set_option maxHeartbeats 16000000
abbrev btT (b : Bt) : T:=.agg [.c (.v (.int .i64 b.rank)),.c (.v (.int .i64 (b.cyc : Int))),.c (.v (.int .u16 (b.glob : Int))),.c (.v (.bool b.disc))]
abbrev btP (m : Mat) (f : Frm) : R:=.tup [btT (btR m f),.one (.v (.bool (btOk m f)))]
abbrev btC : Con (Mat × Caps × Frm):=RoCon (fun p=>[matT p.1 p.2.1 0 1 2,frmR p.2.2]) (fun p=>matH p.1 []) (fun p=>p.1.Ok ∧ p.1.nM ≤ 1000 ∧ FIn p.2.2) fun p=>btP p.1 p.2.2
abbrev outsBt : List (FuncId × Cx):=[(F.refmsg_Build,AskC bldC)]
theorem outsBt_ok : OutsOk Tryz.prog outsBt:=.cons (ask_ok bld_ok) .nil
noncomputable abbrev tabBt : List (FuncId × Eng.Fn):=[(F.refmsg_Parse,fn.refmsg_Parse u0)]
theorem tabBt_ok {d : Nat} : TabOk d tabBt tt:=.cons (ok.refmsg_Parse u0) (TabOk.nil)
theorem bt_run (m : Mat) (c : Caps) (f : Frm) (v : Int) (hv : v = (f.id : Int)) (hm : m.Ok) (hn : m.nM ≤ 1000) (hf : FIn f) : clRunX 7 tt outsBt tabBt 2 F.refmsg_Parse [] [matT m c 0 1 2,frmV f.ext v f.rtr f.data] (matH m []) (fun x h=>Trim 3 x h fun x h=>x = btP m f ∧ h = matH m []):=by
 have hr0:=hm.ref
 unfold U32 at hr0
 obtain ⟨hf1,hf2⟩:=hf
 have eO : btOk m f = (!(decide (f.data.size = 0 ∨ (f.id : Int) < m.ref ∨ (m.nM : Int) ≤ f.id - m.ref)) && (bldOk m (btOf m f).rank (btOf m f).cyc && frmEq (bldF m (btOf m f).rank (btOf m f).cyc (btOf m f).glob (btOf m f).disc) f)):=rfl
 have eR : btR m f = if btOk m f then btOf m f else bt00:=rfl
 have no : ∀ x,btOk m f = false → x = R.tup [btT bt00,.one (.v (.bool false))] → x = btP m f:=fun x h e=>by
  rw [e]
  show _ = R.tup [btT (btR m f),.one (.v (.bool (btOk m f)))]
  rw [eR,h]; rfl
 have b0:=byN_lt f.data 0
 have b2:=byN_lt f.data 2
 have b3:=byN_lt f.data 3
 have q0 : bt f.data (Int.toNat 0) = (byN f.data 0 : Int):=rfl
 have q1 : bt f.data (Int.toNat 1) = (byN f.data 1 : Int):=rfl
 have q2 : bt f.data (Int.toNat 2) = (byN f.data 2 : Int):=rfl
 have q3 : bt f.data (Int.toNat 3) = (byN f.data 3 : Int):=rfl
 by_cases g1 : f.data.size = 0
 ·refine wB ?_
  exact trimM rfl (no _ (by rw [eO,decide_eq_true (.inl g1)]; rfl) rfl)
 by_cases g2 : v < m.ref
 ·refine wB ?_
  exact trimM rfl (no _ (by rw [eO,decide_eq_true (.inr (.inl (by omega)))]; rfl) rfl)
 by_cases g3 : (m.nM : Int) ≤ v - m.ref
 ·refine wB ?_
  exact trimM rfl (no _ (by rw [eO,decide_eq_true (.inr (.inr (by omega)))]; rfl) rfl)
 rw [decide_eq_false (by omega)] at eO
 by_cases g4 : m.level = 2 ∧ f.data.size = 4
 ·have eD : decide (byN f.data 1 = 1) = decide ((byN f.data 1 : Int) = 1):=decide_eq_decide.2 (by omega)
  have eB : btOf m f = ⟨v - m.ref,byN f.data 0,byN f.data 2 * 256 + byN f.data 3,decide ((byN f.data 1 : Int) = 1)⟩:=by
   rw [hv,← eD]
   exact if_pos g4
  rw [eB] at eO
  dsimp only [Bool.not_false,Bool.true_and] at eO
  obtain ⟨g5,g6⟩:=g4
  refine wB ?_
  rw [q0]
  refine wB ?_
  rw [q2,shl168]
  refine wB ?_
  rw [q3,or8 b2 b3]
  refine wB ?_
  rw [q1]
  refine wB ?_
  refine bld_use (m:=m) (c:=c) (rank:=v - m.ref) (cyc:=(byN f.data 0 : Int)) (a:=byN f.data 2 * 256 + byN f.data 3) (disc:=decide ((byN f.data 1 : Int) = 1)) hm (by omega) ?_
  refine wB ?_
  cases hk : bldOk m (v - m.ref) (byN f.data 0 : Int)
  ·refine wB ?_
   exact trimM rfl (no _ (by rw [eO,hk]; rfl) rfl)
  rw [hk,Bool.true_and] at eO
  cases hq : frmEq (bldF m (v - m.ref) (byN f.data 0 : Int) (byN f.data 2 * 256 + byN f.data 3) (decide ((byN f.data 1 : Int) = 1))) f
  ·have eQ:=hq
   unfold frmEq at hq
   rw [← hv] at hq
   refine wB ?_
   rw [hq]
   refine wB ?_
   exact trimM rfl (no _ (by rw [eO,eQ]; rfl) rfl)
  ·rw [hq] at eO
   unfold frmEq at hq
   rw [← hv] at hq
   refine wB ?_
   rw [hq]
   refine wB ?_
   refine trimM rfl ?_
   show _ = R.tup [btT (btR m f),.one (.v (.bool (btOk m f)))]
   rw [eR,eO]
   show _ = R.tup [btT (btOf m f),.one (.v (.bool true))]
   rw [eB]
 ·have eB : btOf m f = ⟨v - m.ref,byN f.data 0,0,false⟩:=by
   rw [hv]
   exact if_neg g4
  rw [eB] at eO
  dsimp only [Bool.not_false,Bool.true_and] at eO
  refine wB ?_
  rw [q0]
  by_cases g5 : m.level = 2
  ·have g6 : f.data.size ≠ 4:=fun h=>g4 ⟨g5,h⟩
   refine wB ?_
   refine bld_use (m:=m) (c:=c) (rank:=v - m.ref) (cyc:=(byN f.data 0 : Int)) (a:=0) (disc:=false) hm (by omega) ?_
   refine wB ?_
   cases hk : bldOk m (v - m.ref) (byN f.data 0 : Int)
   ·refine wB ?_
    exact trimM rfl (no _ (by rw [eO,hk]; rfl) rfl)
   rw [hk,Bool.true_and] at eO
   cases hq : frmEq (bldF m (v - m.ref) (byN f.data 0 : Int) (0) (false)) f
   ·have eQ:=hq
    unfold frmEq at hq
    rw [← hv] at hq
    refine wB ?_
    rw [hq]
    refine wB ?_
    exact trimM rfl (no _ (by rw [eO,eQ]; rfl) rfl)
   ·rw [hq] at eO
    unfold frmEq at hq
    rw [← hv] at hq
    refine wB ?_
    rw [hq]
    refine wB ?_
    refine trimM rfl ?_
    show _ = R.tup [btT (btR m f),.one (.v (.bool (btOk m f)))]
    rw [eR,eO]
    show _ = R.tup [btT (btOf m f),.one (.v (.bool true))]
    rw [eB]
    rfl
  ·refine wB ?_
   refine bld_use (m:=m) (c:=c) (rank:=v - m.ref) (cyc:=(byN f.data 0 : Int)) (a:=0) (disc:=false) hm (by omega) ?_
   refine wB ?_
   cases hk : bldOk m (v - m.ref) (byN f.data 0 : Int)
   ·refine wB ?_
    exact trimM rfl (no _ (by rw [eO,hk]; rfl) rfl)
   rw [hk,Bool.true_and] at eO
   cases hq : frmEq (bldF m (v - m.ref) (byN f.data 0 : Int) (0) (false)) f
   ·have eQ:=hq
    unfold frmEq at hq
    rw [← hv] at hq
    refine wB ?_
    rw [hq]
    refine wB ?_
    exact trimM rfl (no _ (by rw [eO,eQ]; rfl) rfl)
   ·rw [hq] at eO
    unfold frmEq at hq
    rw [← hv] at hq
    refine wB ?_
    rw [hq]
    refine wB ?_
    refine trimM rfl ?_
    show _ = R.tup [btT (btR m f),.one (.v (.bool (btOk m f)))]
    rw [eR,eO]
    show _ = R.tup [btT (btOf m f),.one (.v (.bool true))]
    rw [eB]
    rfl
theorem bt_ok : ConOk Tryz.prog F.refmsg_Parse btC:=con_of_run (clRunX_ok (d:=7) ttOk outsBt_ok tabBt_ok 2) (fn_enters (ok.refmsg_Parse (D:=7) u0 _ (clRunX_ok (d:=7) ttOk .nil TabOk.nil 1))) fun p hp=>by
 obtain ⟨m,c,⟨ext,id,rtr,data⟩⟩:=p
 exact bt_run m c ⟨ext,id,rtr,data⟩ (id : Int) rfl hp.1 hp.2.1 hp.2.2
end Go.Proofs.YtlckbdhpehkeoaaGreat.Co
namespace Go.Proofs.YtlckbdhpehkeoaaGreat.Co
open Go Go.Eng Go.Proofs Go.Proofs.YtlckbdhpehkeoaaGreat.Tb Go.Pu
set_option maxRecDepth 100000
set_option maxHeartbeats 8000000
structure Nd where
 m : Mat
 c : Caps
 rank : Int
 clk : Clk
 mac : Mac
 mrk : Mrk
 glb : Glb
 obj : Plc
 tab : Tb
 mst : Mst
 sch : Sch
 wait : Int
 silent : Bool
 came : Nat → Bool
 del : List Dv
 conf : List Int
def Nd.level (n : Nd) : Int:=levelN n.tab n.silent false
def Nd.leads (n : Nd) : Bool:=decide (0 ≤ n.rank ∧ n.mst.lead = n.rank)
def Nd.inTime (n : Nd) : Bool:=decide (n.mst.state = 2)
def beatsB (l : Int) : Bool:=decide (0 ≤ l ∧ l < 3)
def mayB (l : Int) : Bool:=decide (0 ≤ l ∧ l < 2)
def Nd.nextC (n : Nd) : Int:=if n.mrk.bn = 0 then 0 else ((n.mrk.cyc : Int) + 1).tmod n.m.cycles
def Nd.asks (n : Nd) (t : Nat) : Nd:=if bldOk n.m n.rank n.nextC then { n with mac:=n.mac.ask (bldF n.m n.rank n.nextC (n.glb.at_ t) (!n.leads)) } else n
def mfr (m : Mat) (msg : Int) (s : ByteArray) : Frm:=⟨false,(m.G msg.toNat).id.toNat,false,s⟩
def Nd.sendsOk (n : Nd) (msg : Int) (s : ByteArray) : Bool:=n.inTime && (frOk n.m msg s && decide (n.mac.askE (mfr n.m msg s) = 0))
def Nd.sends (n : Nd) (msg : Int) (s : ByteArray) : Nd:=if n.inTime && frOk n.m msg s then { n with mac:=n.mac.ask (mfr n.m msg s) } else n
def Nd.closes (n : Nd) : Nd:={ n with mac:=n.mac.cancel,sch:=n.sch.close,tab:=if n.mac.lets && decide (n.sch.o.kind = 1) then chg n.tab n.sch.o.msg 1 else n.tab }
def Nd.loses (n : Nd) : Nd:={ n with mst:=n.mst.watch,mrk:=mrk0,glb:=glb0,mac:=n.mac.cancel,sch:=n.sch.close,silent:=true,wait:=0 }
def Nd.looks (n : Nd) (msg : Int) : Nd:=if n.inTime then { n with tab:=chg n.tab msg (if n.came msg.toNat then -1 else 1) } else n
def Nd.bad (n : Nd) (msg : Int) : Nd:={ n with tab:=chg n.tab msg 1,sch:=n.sch.close }
def Nd.close (n : Nd) : Nd:={ n with sch:=n.sch.close }
def Nd.does (n : Nd) (x : Trg) (t : Nat) : Nd :=
 if x.kind = 1 then match n.obj.st x.msg with
  | none=>n.bad x.msg
  | some s=>if beatsB n.level then (if n.sendsOk x.msg s then n.sends x.msg s else (n.sends x.msg s).bad x.msg) else n.bad x.msg
 else if x.kind = 2 then match n.obj.q with
  | []=>n.close
  | d :: _=>if mayB n.level then (if n.sendsOk d.1 d.2 then n.sends d.1 d.2 else (n.sends d.1 d.2).close) else n.close
 else if x.kind = 3 then n.looks x.msg
 else if x.kind = 4 then (if (if x.msg = 1 then n.mst.stands else n.mst.leads) && beatsB n.level then n.asks t else n)
 else if x.kind = 5 then n.loses
 else n
def Nd.waits (n : Nd) (u : Int) (t : Nat) : Nd :=
 if n.wait + u < n.m.init + (n.rank + 1) * Pu.step n.m ∨ n.mst.stands = false ∨ beatsB (levelN n.tab false false) = false then { n with wait:=n.wait + u }
 else { ({ n with wait:=n.wait + u } : Nd).asks t with wait:=0 }
def doesL (t : Nat) : List Trg → Nd → Nd
 | [],n=>n
 | x :: l,n=>doesL t l (n.does x t)
def Nd.tick (n : Nd) (ticks : Int) : Nd :=
 let a : Nd:={ n with clk:=n.clk.tick ticks }
 let t:=a.clk.time
 let b:=if 0 < a.mrk.bn then doesL t (a.sch.due (a.mrk.at_ t)) { a with sch:=a.sch.now (a.mrk.at_ t) } else a.waits (since n.clk.time t) t
 if 0 < b.mrk.bn ∧ b.sch.over (b.mrk.at_ t) = true then b.closes else b
def latest {α : Type} (l : List α) : List α:=l.drop (l.length - 100)
def Nd.beat (n : Nd) (b : Bt) (sent : Bool) : Nd :=
 let mrk:=n.mrk.beat b.cyc
 let glb:=n.glb.beat b.rank (if n.m.level = 1 then n.glb.at_ mrk.bl else b.glob) mrk.bl b.disc
 { n with mac:=n.mac.cancel,mrk:=mrk,sch:=n.sch.begin b.cyc,glb:=glb,clk:=(if 3 ≤ glb.st ∧ b.rank ≠ n.rank then n.clk.set (glb.rate n.clk.num) 256 else n.clk),mst:=(if sent then n.mst.sent else n.mst.beat b.rank),silent:=false,wait:=0,came:=fun _=>false }
def Nd.message (n : Nd) (msg : Int) (x : Ev) : Nd :=
 if x.kind = 2 then { n with obj:=n.obj.gets n.m msg x.f.data,came:=(fun i=>if (i : Int) = msg then true else n.came i),del:=if n.inTime then latest (n.del ++ [(msg,x.f.data)]) else n.del }
 else if x.kind = 1 then { n with obj:=n.obj.sent n.m msg,tab:=chg n.tab msg (-1),conf:=latest (n.conf ++ [msg]),sch:=n.sch.close }
 else { n with tab:=if n.sch.is && decide (n.sch.o.kind = 1) then chg n.tab msg 1 else n.tab,sch:=n.sch.close }
def Nd.event (n : Nd) (x : Ev) : Nd :=
 if x.kind = 6 then { n with mrk:=n.mrk.start n.clk.time }
 else if (x.kind = 2 ∨ x.kind = 1) ∧ btOk n.m x.f = true then n.beat (btR n.m x.f) (decide (x.kind = 1))
 else if x.kind = 2 ∨ x.kind = 1 ∨ x.kind = 4 ∨ x.kind = 3 then (if 0 ≤ findM n.m x.f then n.message (findM n.m x.f) x else n)
 else n
def eventsL : List Ev → Nd → Nd
 | [],n=>n
 | x :: l,n=>eventsL l (n.event x)
def Nd.sample (n : Nd) (lv : Bool) : Nd:=eventsL (n.mac.sample lv).2 { n with mac:=(n.mac.sample lv).1 }
structure NdX where
 fo : FG
 fs : FG
 fc : FG
 cd : Nat
 cc : Nat
 zd : Bool
 zc : Bool
abbrev ndO (n : Nd) (x : NdX) : HE:=.ob (.own [.c (iC n.m.level),.c (iC n.m.nodes),.c (iC n.m.cycles),.c (iC n.m.length),.c (iC n.m.enable),.c (iC n.m.unit),.c (iC n.m.init),.c (uC n.m.ref),
 .c (.slc 1 0 1 0 n.m.nM n.c.c1 n.c.z1),.c (.slc 2 0 3 0 n.m.nG n.c.c2 n.c.z2),.c (.slc 3 0 6 0 n.m.nW n.c.c3 n.c.z3),.c (bC true),.c (iC n.rank),
 .c (.ptr 4 0),.c (.ptr 5 0),.c (.ptr 6 0),.c (.ptr 7 0),.c (.ptr 8 0),.c (.ptr 9 0),.c (.ptr 10 0),.c (.ptr 11 0),.c (iC n.wait),.c (bC n.silent),.arr 12 (fun i=>bC (n.came i)),
 .c (.slc 12 0 2 0 n.del.length x.cd x.zd),.c (.slc 13 0 1 0 n.conf.length x.cc x.zc)])
abbrev delE (l : List Dv) (cap : Nat) : HE:=.ob (.row 2 l.length (dvF l) cap)
def intF (l : List Int) (q : Nat) : List C:=[iC (l.getD q 0)]
abbrev confE (l : List Int) (cap : Nat) : HE:=.ob (.row 1 l.length (intF l) cap)
abbrev ndH (n : Nd) (x : NdX) (rest : Heap) : Heap:=ndO n x :: roM n.m :: roG n.m :: roW n.m :: clkE n.clk :: macE n.mac :: mrkE n.mrk :: glbE n.glb :: bx (objQ n.m n.c.z2 n.c.z3 n.obj) x.fo :: bx (statQ n.tab) x.fs :: mstE n.mst :: bx (schQ n.sch) x.fc :: delE n.del x.cd :: confE n.conf x.cc :: rest
abbrev ndL : List Nat:=[0,1,2,3,4,5,6,7,8,9,10,11,12,13]
def XOk (n : Nd) (x : NdX) : Prop:=n.del.length ≤ x.cd ∧ n.conf.length ≤ x.cc
theorem nd_le (n : Nd) (x : NdX) (rest : Heap) : leH (sig (ndH n x rest) ndL) (ndH n x rest) ndL (ndH n x []):=by
 exact wH
theorem mat1_le (n : Nd) (x : NdX) (rest : Heap) : leH (sig (ndH n x rest) [1,2,3]) (ndH n x rest) [1,2,3] (matH n.m []):=by
 exact wH
theorem mrgGo_rest {g : Nat → Nat} {l : List Nat} {A B : Heap} : ∀ (h : Heap) (k : Nat),(∀ j,j ∈ l → j < k) → mrgGo g l A B k h = h:=fun h=>by
 induction h with
 | nil=>intro k _; rfl
 | cons e h ih =>
  intro k hk
  have hp : ∀ (l : List Nat) (A B : Heap),(∀ j,j ∈ l → j < k) → pickHE g e k l A B = e:=fun l=>by
   induction l with
   | nil=>intro A B _; cases A <;> cases B <;> rfl
   | cons j l ihl =>
    intro A B hl
    cases A with
    | nil=>rfl
    | cons a A=>cases B with
     | nil=>rfl
     | cons b B =>
      have : Nat.beq j k = false:=by
       cases hb : Nat.beq j k with
       | true=>have h1:=Nat.eq_of_beq_eq_true hb; have h2:=hl j (List.mem_cons_self ..); omega
       | false=>rfl
      unfold pickHE
      rw [this]
      exact ihl A B fun j hj=>hl j (List.mem_cons_of_mem _ hj)
  show pickHE g e k l A B :: mrgGo g l A B (k + 1) h = e :: h
  rw [hp l A B hk,ih (k + 1) fun j hj=>Nat.lt_succ_of_lt (hk j hj)]
theorem nd_mrg (n n' : Nd) (x x' : NdX) (rest : Heap) (hm : n'.m = n.m) : mrg (back (ndH n x rest) (ndH n x []) ndL) (ndH n x rest) ndL (ndH n x []) (ndH n' x' []) = ndH n' x' rest := by
  have hr : mrgGo (back (ndH n x rest) (ndH n x []) ndL) ndL (ndH n x []) (ndH n' x' []) 14 rest = rest := mrgGo_rest rest 14 (by decide)
  have e : mrg (back (ndH n x rest) (ndH n x []) ndL) (ndH n x rest) ndL (ndH n x []) (ndH n' x' []) = [ndO n' x', roM n.m, roG n.m, roW n.m, clkE n'.clk, macE n'.mac, mrkE n'.mrk, glbE n'.glb, bx (objQ n'.m n'.c.z2 n'.c.z3 n'.obj) x'.fo, bx (statQ n'.tab) x'.fs, mstE n'.mst, bx (schQ n'.sch) x'.fc, delE n'.del x'.cd, confE n'.conf x'.cc] ++
      mrgGo (back (ndH n x rest) (ndH n x []) ndL) ndL (ndH n x []) (ndH n' x' []) 14 rest ++ [] := rfl
  rw [e, hr, ← hm, List.append_nil]
  rfl
section
variable {α : Type}
abbrev NdCon (X : α → List R) (nd : α → Nd) (pre : α → Prop) (F : α → R) (nd' : α → Nd) : Con (α × NdX) :=
 FamCon (β:=NdX) (fun p=>pR 0 :: X p.1) (fun p=>ndH (nd p.1) p.2 []) (fun p=>pre p.1 ∧ XOk (nd p.1) p.2) (fun p q=>XOk (nd' p.1) q) (fun p _=>F p.1) fun p q=>ndH (nd' p.1) q []
theorem AskC.nd {X : α → List R} {nd : α → Nd} {pre : α → Prop} {F : α → R} {nd' : α → Nd} {K : R → Heap → Prop} (p : α) (x : NdX) (rest : Heap) (hp : pre p) (hx : XOk (nd p) x) (hX : ((X p).all plR && (X p).all isT && plR (F p)) = true) (hm : (nd' p).m = (nd p).m)
    (hk : ∀ q, XOk (nd' p) q → K (F p) (ndH (nd' p) q rest)) : AskC (NdCon X nd pre F nd') (pR 0 :: X p) (ndH (nd p) x rest) K := by
  simp only [Bool.and_eq_true] at hX
  exact .fam (p, x) ndL (fun _ => F p) (fun q => ndH (nd' p) q rest) ⟨hp, hx⟩ rfl (nd_le _ _ _) ⟨.inl rfl, plRs_leX (by rw [hX.1.1, hX.1.2]; rfl)⟩ (fun q => plR_ren hX.2) (fun q => nd_mrg _ _ _ _ _ hm) hk
end
theorem nd_end {n n' : Nd} {x q : NdX} {y F : R} {rest : Heap} (hq : XOk n' q) (hF : plR F = true) (e : y = F) (hn : n = n') (hx : x = q) : Trim 14 y (ndH n x rest) (fun x h=>∃ q,XOk n' q ∧ x = F ∧ h = ndH n' q []):=by
 subst e; subst hn; subst hx
 exact .fam x hq ⟨⟨ndL,rfl,nd_le _ _ _,plR_leR hF⟩⟩
theorem clk_le (a : Clk) (g : Nat → Nat) : leHE g (clkE a) (clkE a):=by
 repeat' (first | trivial | exact rfl | exact fun _ _=>rfl | refine And.intro ?_ ?_)
theorem mrk_le (a : Mrk) (g : Nat → Nat) : leHE g (mrkE a) (mrkE a):=by
 repeat' (first | trivial | exact rfl | exact fun _ _=>rfl | refine And.intro ?_ ?_)
theorem glb_le (a : Glb) (g : Nat → Nat) : leHE g (glbE a) (glbE a):=by
 repeat' (first | trivial | exact rfl | exact fun _ _=>rfl | refine And.intro ?_ ?_)
theorem mst_le (a : Mst) (g : Nat → Nat) : leHE g (mstE a) (mstE a):=by
 repeat' (first | trivial | exact rfl | exact fun _ _=>rfl | refine And.intro ?_ ?_)
theorem mac_le (a : Mac) (g : Nat → Nat) : leHE g (macE a) (macE a):=by
 repeat' (first | trivial | exact rfl | exact fun _ _=>rfl | refine And.intro ?_ ?_)
abbrev outsLo : List (FuncId × Cx):=[(F.master_Master_Watch,AskC msWatchC),(F.mark_Mark_Forget,AskC mkForgetC),(F.global_Global_Forget,AskC glForgetC),(F.mac_Mac_Cancel,AskC macCancelC),(F.sched_Sched_Close,AskC scloseB)]
theorem outsLo_ok : OutsOk Tryz.prog outsLo:=.cons (ask_ok msWatch_ok) (.cons (ask_ok mkForget_ok) (.cons (ask_ok glForget_ok) (.cons (ask_ok macCancel_ok) (.cons (ask_ok scloseB_ok) .nil))))
noncomputable abbrev tabLo : List (FuncId × Eng.Fn):=[(F.node_Node_loses,fn.node_Node_loses u0)]
theorem tabLo_ok {d : Nat} : TabOk d tabLo tt:=.cons (ok.node_Node_loses u0) (TabOk.nil)
theorem loses_run (n : Nd) (x : NdX) (hx : XOk n x) : clRunX 6 tt outsLo tabLo 2 F.node_Node_loses [] [pR 0] (ndH n x []) (fun x h=>Trim 14 x h fun x h=>∃ q,XOk n.loses q ∧ x = uR ∧ h = ndH n.loses q []):=by
 refine wB ?_
 refine AskC.one n.mst 10 trivial rfl rfl rfl (mst_le _) (fun _=>rfl) ?_
 refine wB ?_
 refine AskC.one n.mrk 6 trivial rfl rfl rfl (mrk_le _) (fun _=>rfl) ?_
 refine wB ?_
 refine AskC.one n.glb 7 trivial rfl rfl rfl (glb_le _) (fun _=>rfl) ?_
 refine wB ?_
 refine AskC.one n.mac 5 trivial rfl rfl rfl (mac_le _) (fun _=>rfl) ?_
 refine wB ?_
 refine AskC.ex n.sch x.fc 11 trivial rfl rfl (fun fc'=>?_)
 refine wB ?_
 exact nd_end (n:=n.loses) (n':=n.loses) (x:={ x with fc:=fc' }) (q:={ x with fc:=fc' }) (rest:=[]) hx rfl rfl rfl rfl
structure Nd.Ok (n : Nd) : Prop where
 mo : n.m.Ok
 is : n.m.Is
 rank : -1 ≤ n.rank ∧ n.rank ≤ 3
 clk : n.clk.Ok
 mrk : n.mrk.Ok
 glb : n.glb.Ok
 mst : n.mst.Ok
 tab : n.tab.Ok
 obj : n.obj.Ok
 sch : n.sch.Ok
 trg : ∀ i,i < n.sch.n → 0 ≤ (n.sch.T i).msg ∧ (n.sch.T i).msg < 12
noncomputable abbrev tabNl : List (FuncId × Eng.Fn):=[(F.node_Node_leads,fn.node_Node_leads u0),(F.master_Master_Leader,fn.master_Master_Leader u0)]
theorem tabNl_ok {d : Nat} : TabOk d tabNl tt:=.cons (ok.node_Node_leads u0) (.cons (ok.master_Master_Leader u0) (TabOk.nil))
theorem nleads_run (n : Nd) (x : NdX) (hx : XOk n x) : clRunX 5 tt outs0 tabNl 3 F.node_Node_leads [] [pR 0] (ndH n x []) (fun x h=>Trim 14 x h fun x h=>∃ q,XOk n q ∧ x = bv n.leads ∧ h = ndH n q []):=by
 by_cases h1 : 0 ≤ n.rank
 ·refine wB ?_
  exact nd_end (F:=bv n.leads) (rest:=[]) hx rfl (congrArg bv (decide_eq_decide.2 ⟨fun h=>⟨h1,h⟩,fun h=>h.2⟩)) rfl rfl
 ·refine wB ?_
  exact nd_end (F:=bv n.leads) (rest:=[]) hx rfl (congrArg bv (decide_eq_false fun h=>h1 h.1).symm) rfl rfl
abbrev nleadsC:=NdCon (fun _ : Nd=>[]) (fun n=>n) (fun _=>True) (fun n=>bv n.leads) fun n=>n
theorem nleads_ok : ConOk Tryz.prog F.node_Node_leads nleadsC:=con_of_run (clRunX_ok (d:=5) ttOk outs0_ok tabNl_ok 3) (fn_enters (ok.node_Node_leads (D:=5) u0 _ (clRunX_ok (d:=5) ttOk .nil TabOk.nil 1))) fun p hp=>nleads_run p.1 p.2 hp.2
noncomputable abbrev tabNi : List (FuncId × Eng.Fn):=[(F.node_Node_inTime,fn.node_Node_inTime u0),(F.master_Master_State,fn.master_Master_State u0)]
theorem tabNi_ok {d : Nat} : TabOk d tabNi tt:=.cons (ok.node_Node_inTime u0) (.cons (ok.master_Master_State u0) (TabOk.nil))
theorem nin_run (n : Nd) (x : NdX) (hx : XOk n x) : clRunX 5 tt outs0 tabNi 3 F.node_Node_inTime [] [pR 0] (ndH n x []) (fun x h=>Trim 14 x h fun x h=>∃ q,XOk n q ∧ x = bv n.inTime ∧ h = ndH n q []):=by
 refine wB ?_
 exact nd_end (rest:=[]) hx rfl (congrArg bv (decide_eq_decide.2 (by omega))) rfl rfl
abbrev ninC:=NdCon (fun _ : Nd=>[]) (fun n=>n) (fun _=>True) (fun n=>bv n.inTime) fun n=>n
theorem nin_ok : ConOk Tryz.prog F.node_Node_inTime ninC:=con_of_run (clRunX_ok (d:=5) ttOk outs0_ok tabNi_ok 3) (fn_enters (ok.node_Node_inTime (D:=5) u0 _ (clRunX_ok (d:=5) ttOk .nil TabOk.nil 1))) fun p hp=>nin_run p.1 p.2 hp.2
abbrev outsNv : List (FuncId × Cx):=[(F.level_Of,AskC slevB)]
theorem outsNv_ok : OutsOk Tryz.prog outsNv:=.cons (ask_ok slevB_ok) .nil
noncomputable abbrev tabNv : List (FuncId × Eng.Fn):=[(F.node_Node_level,fn.node_Node_level u0)]
theorem tabNv_ok {d : Nat} : TabOk d tabNv tt:=.cons (ok.node_Node_level u0) (TabOk.nil)
theorem nlev_run (n : Nd) (x : NdX) (ht : n.tab.Ok) (hx : XOk n x) : clRunX 5 tt outsNv tabNv 2 F.node_Node_level [] [pR 0] (ndH n x []) (fun x h=>Trim 14 x h fun x h=>∃ q,XOk n q ∧ x = iv .i64 n.level ∧ h = ndH n q []):=by
 refine wB ?_
 refine AskC.bs (n.tab,n.silent,false) x.fs 9 ht rfl rfl (fun fs'=>?_)
 refine wB ?_
 exact nd_end (x:={ x with fs:=fs' }) (q:={ x with fs:=fs' }) (rest:=[]) hx rfl rfl rfl rfl
abbrev nlevC:=NdCon (fun _ : Nd=>[]) (fun n=>n) (fun n=>n.tab.Ok) (fun n=>iv .i64 n.level) fun n=>n
theorem nlev_ok : ConOk Tryz.prog F.node_Node_level nlevC:=con_of_run (clRunX_ok (d:=5) ttOk outsNv_ok tabNv_ok 2) (fn_enters (ok.node_Node_level (D:=5) u0 _ (clRunX_ok (d:=5) ttOk .nil TabOk.nil 1))) fun p hp=>nlev_run p.1 p.2 hp.1 hp.2
abbrev outsNc : List (FuncId × Cx):=[(F.sched_Sched_Open,AskC sopenB),(F.mac_Mac_Cancel,AskC macCancelC),(F.status_Table_Bad,AskC sbadB),(F.sched_Sched_Close,AskC scloseB)]
theorem outsNc_ok : OutsOk Tryz.prog outsNc:=.cons (ask_ok sopenB_ok) (.cons (ask_ok macCancel_ok) (.cons (ask_ok sbadB_ok) (.cons (ask_ok scloseB_ok) .nil)))
noncomputable abbrev tabNc : List (FuncId × Eng.Fn):=[(F.node_Node_closes,fn.node_Node_closes u0)]
theorem tabNc_ok {d : Nat} : TabOk d tabNc tt:=.cons (ok.node_Node_closes u0) (TabOk.nil)
theorem ncloses_run (n : Nd) (x : NdX) (ht : n.tab.Ok) (hx : XOk n x) (n' : Nd) (hn : n.closes = n') : clRunX 6 tt outsNc tabNc 2 F.node_Node_closes [] [pR 0] (ndH n x []) (fun x h=>Trim 14 x h fun x h=>∃ q,XOk n' q ∧ x = uR ∧ h = ndH n' q []):=by
 refine wB ?_
 refine AskC.ex n.sch x.fc 11 trivial rfl rfl (fun fc'=>?_)
 refine wB ?_
 refine AskC.one n.mac 5 trivial rfl rfl rfl (mac_le _) (fun _=>rfl) ?_
 unfold Nd.closes at hn
 cases hl : n.mac.lets
 ·rw [hl] at hn
  refine wB ?_
  refine AskC.ex n.sch fc' 11 trivial rfl rfl (fun fc2=>?_)
  refine wB ?_
  subst hn
  exact nd_end (n:={ n with mac:=n.mac.cancel,sch:=n.sch.close }) (x:={ x with fc:=fc2 }) (q:={ x with fc:=fc2 }) (rest:=[_]) hx rfl rfl rfl rfl
 ·rw [hl] at hn
  by_cases hk : n.sch.o.kind = 1
  ·rw [decide_eq_true hk] at hn
   refine wB ?_
   refine AskC.bs (n.tab,n.sch.o.msg) x.fs 9 ht rfl rfl (fun fs'=>?_)
   refine wB ?_
   refine AskC.ex n.sch fc' 11 trivial rfl rfl (fun fc2=>?_)
   refine wB ?_
   subst hn
   exact nd_end (n:={ n with mac:=n.mac.cancel,sch:=n.sch.close,tab:=chg n.tab n.sch.o.msg 1 }) (x:={ x with fc:=fc2,fs:=fs' }) (q:={ x with fc:=fc2,fs:=fs' }) (rest:=[_]) hx rfl rfl rfl rfl
  ·rw [decide_eq_false hk] at hn
   refine wB ?_
   refine AskC.ex n.sch fc' 11 trivial rfl rfl (fun fc2=>?_)
   refine wB ?_
   subst hn
   exact nd_end (n:={ n with mac:=n.mac.cancel,sch:=n.sch.close }) (x:={ x with fc:=fc2 }) (q:={ x with fc:=fc2 }) (rest:=[_]) hx rfl rfl rfl rfl
abbrev nclosesC:=NdCon (fun _ : Nd=>[]) (fun n=>n) (fun n=>n.tab.Ok) (fun _=>uR) fun n=>n.closes
theorem ncloses_ok : ConOk Tryz.prog F.node_Node_closes nclosesC:=con_of_run (clRunX_ok (d:=6) ttOk outsNc_ok tabNc_ok 2) (fn_enters (ok.node_Node_closes (D:=6) u0 _ (clRunX_ok (d:=6) ttOk .nil TabOk.nil 1))) fun p hp=>ncloses_run p.1 p.2 hp.1 hp.2 _ rfl
abbrev nlosesC:=NdCon (fun _ : Nd=>[]) (fun n=>n) (fun n=>True) (fun _=>uR) fun n=>n.loses
theorem nloses_ok : ConOk Tryz.prog F.node_Node_loses nlosesC:=con_of_run (clRunX_ok (d:=6) ttOk outsLo_ok tabLo_ok 2) (fn_enters (ok.node_Node_loses (D:=6) u0 _ (clRunX_ok (d:=6) ttOk .nil TabOk.nil 1))) fun p hp=>loses_run p.1 p.2 hp.2
abbrev outsNk : List (FuncId × Cx):=[(F.node_Node_inTime,AskC ninC),(F.status_Table_Bad,AskC sbadB),(F.status_Table_Good,AskC sgoodB)]
theorem outsNk_ok : OutsOk Tryz.prog outsNk:=.cons (ask_ok nin_ok) (.cons (ask_ok sbadB_ok) (.cons (ask_ok sgoodB_ok) .nil))
noncomputable abbrev tabNk : List (FuncId × Eng.Fn):=[(F.node_Node_looks,fn.node_Node_looks u0)]
theorem tabNk_ok {d : Nat} : TabOk d tabNk tt:=.cons (ok.node_Node_looks u0) (TabOk.nil)
theorem nlooks_run (n : Nd) (x : NdX) (k : Nat) (ht : n.tab.Ok) (hk : k < 12) (hx : XOk n x) (n' : Nd) (hn : n.looks k = n') : clRunX 6 tt outsNk tabNk 2 F.node_Node_looks [] [pR 0,iv .i64 k] (ndH n x []) (fun x h=>Trim 14 x h fun x h=>∃ q,XOk n' q ∧ x = uR ∧ h = ndH n' q []):=by
 unfold Nd.looks at hn
 have z0 : ((k : Int)).toNat = k:=by omega
 rw [z0] at hn
 refine wB ?_
 refine AskC.nd n x [] trivial hx rfl rfl (fun q hq=>?_)
 cases hi : n.inTime
 ·rw [hi] at hn
  refine wB ?_
  subst hn
  exact nd_end (rest:=[]) hq rfl rfl rfl rfl
 ·rw [hi,if_pos rfl] at hn
  cases hc : n.came k
  ·rw [hc] at hn
   repeat(refine wA ?_;(conv=>whnf);first|rw [hc]|rw [z0])
   refine wB ?_
   refine AskC.bs (n.tab,(k : Int)) q.fs 9 ht rfl rfl (fun fs'=>?_)
   refine wB ?_
   subst hn
   exact nd_end (n:={ n with tab:=chg n.tab k 1 }) (x:={ q with fs:=fs' }) (q:={ q with fs:=fs' }) (rest:=[]) hq rfl rfl rfl rfl
  ·rw [hc] at hn
   repeat(refine wA ?_;(conv=>whnf);first|rw [hc]|rw [z0])
   refine wB ?_
   refine AskC.bs (n.tab,(k : Int)) q.fs 9 ht rfl rfl (fun fs'=>?_)
   refine wB ?_
   subst hn
   exact nd_end (n:={ n with tab:=chg n.tab k (-1) }) (x:={ q with fs:=fs' }) (q:={ q with fs:=fs' }) (rest:=[]) hq rfl rfl rfl rfl
abbrev nlooksC:=NdCon (fun p : Nd × Nat=>[iv .i64 p.2]) (fun p=>p.1) (fun p=>p.1.tab.Ok ∧ p.2 < 12) (fun _=>uR) fun p=>p.1.looks p.2
theorem nlooks_ok : ConOk Tryz.prog F.node_Node_looks nlooksC:=con_of_run (clRunX_ok (d:=6) ttOk outsNk_ok tabNk_ok 2) (fn_enters (ok.node_Node_looks (D:=6) u0 _ (clRunX_ok (d:=6) ttOk .nil TabOk.nil 1))) fun p hp=>nlooks_run p.1.1 p.2 p.1.2 hp.1.1 hp.1.2 hp.2 _ rfl
theorem mat1_lx (m : Mat) (c : Caps) (h : Heap) : leX 3 (sig h [1,2,3]) (matT m c 1 2 3) (matT m c 0 1 2) :=
 ⟨.inl rfl,.inl rfl,.inl rfl,.inl rfl,.inl rfl,.inl rfl,.inl rfl,.inl rfl,.inl rfl,.inl rfl,.inl rfl,trivial⟩
theorem bldD_sz (m : Mat) (cyc : Int) (a : Nat) (d : Bool) : (bldD m cyc a d).size ≤ 4:=by
 unfold bldD
 split
 ·exact Nat.le_refl 4
 ·show 1 ≤ 4; decide
theorem bldF_in {m : Mat} {rank cyc : Int} {a : Nat} {d : Bool} (hm : m.Ok) : FIn (bldF m rank cyc a d):=by
 unfold bldF
 split
 ·rename_i h
  have hs:=bldD_sz m cyc a d
  unfold bldOk at h
  simp only [Bool.and_eq_true,decide_eq_true_eq] at h
  have hi:=isM_iff.1 h.1
  have h1:=hi.size.2.1
  have hr:=hi.head
  unfold headP at hr
  exact ⟨by show (m.ref + rank).toNat < 4294967296; omega,by show (bldD m cyc a d).size ≤ _; omega⟩
 ·exact ⟨by decide,by decide⟩
theorem nd_bld {n : Nd} {x : NdX} {rest : Heap} {K : R → Heap → Prop} {rank cyc : Int} {a : Nat} {disc : Bool} (hm : n.m.Ok) (ha : a < 65536) (hk : K (bldR n.m rank cyc a disc) (ndH n x rest)) : AskC bldC [matT n.m n.c 1 2 3,iv .i64 rank,iv .i64 cyc,iv .u16 a,bv disc] (ndH n x rest) K :=
 .use (n.m,n.c,rank,cyc,a,disc) [1,2,3] ⟨hm,ha⟩ rfl (mat1_le n x rest) ⟨mat1_lx _ _ _,.inl rfl,.inl rfl,.inl rfl,.inl rfl,trivial⟩ hk
abbrev outsNa : List (FuncId × Cx):=[(F.node_Node_leads,AskC nleadsC),(F.refmsg_Build,AskC bldC),(F.mac_Mac_Ask,AskC macAskC),(F.global_Global_At,AskC glAtC)]
theorem outsNa_ok : OutsOk Tryz.prog outsNa:=.cons (ask_ok nleads_ok) (.cons (ask_ok bld_ok) (.cons (ask_ok macAsk_ok) (.cons (ask_ok glAt_ok) .nil)))
noncomputable abbrev tabNa : List (FuncId × Eng.Fn):=[(F.node_Node_asks,fn.node_Node_asks u0),(F.mark_Mark_Last,fn.mark_Mark_Last u0),(F.mark_Mark_Cycle,fn.mark_Mark_Cycle u0)]
theorem tabNa_ok {d : Nat} : TabOk d tabNa tt:=.cons (ok.node_Node_asks u0) (.cons (ok.mark_Mark_Last u0) (.cons (ok.mark_Mark_Cycle u0) (TabOk.nil)))
theorem nasks_run (n : Nd) (x : NdX) (t : Nat) (ho : n.Ok) (ht : t < 65536) (hx : XOk n x) (n' : Nd) (hn : n.asks t = n') : clRunX 6 tt outsNa tabNa 3 F.node_Node_asks [] [pR 0,iv .u16 t] (ndH n x []) (fun x h=>Trim 14 x h fun x h=>∃ q,XOk n' q ∧ x = uR ∧ h = ndH n' q []):=by
 have hcy:=ho.is.head
 have hc7:=ho.mrk.cyc
 unfold headP power at hcy
 unfold Nd.asks at hn
 have hg:=Glb.at_lt (g:=n.glb) ht
 have key : ∀ (c : Int) (q : NdX) (rest : Heap),n.nextC = c → XOk n q → True:=fun _ _ _ _ _=>trivial
 by_cases hb : n.mrk.bn = 0
 ·have hc : n.nextC = 0:=if_pos hb
  rw [hc] at hn
  refine wB ?_
  all_goals (try with_reducible refine And.intro ?_ ?_)
  all_goals
   refine wB ?_
   refine AskC.one (n.glb,t) 7 ⟨ho.glb,ht⟩ rfl rfl rfl (glb_le _) (fun _=>rfl) ?_
   refine wB ?_
  all_goals (try with_reducible refine And.intro ?_ ?_)
  all_goals
   refine wB ?_
   refine AskC.nd n x _ trivial hx rfl rfl (fun q hq=>?_)
   refine wB ?_
  all_goals (try with_reducible refine And.intro ?_ ?_)
  all_goals
   refine wB ?_
   refine nd_bld (n:=n) (x:=q) (rest:=_) ho.mo hg ?_
   cases hk : bldOk n.m n.rank 0
   ·rw [hk] at hn
    repeat(refine wA ?_;(conv=>whnf);first|rw [hk])
    refine wB ?_
    subst hn
    exact nd_end (rest:=[_]) hq rfl rfl rfl rfl
   ·rw [hk,if_pos rfl] at hn
    repeat(refine wA ?_;(conv=>whnf);first|rw [hk])
    refine wB ?_
    refine AskC.one (n.mac,bldF n.m n.rank 0 (n.glb.at_ t) (!n.leads)) 5 (bldF_in ho.mo) rfl rfl rfl (mac_le _) (fun _=>rfl) ?_
    refine wB ?_
    subst hn
    exact nd_end (n:={ n with mac:=n.mac.ask (bldF n.m n.rank 0 (n.glb.at_ t) (!n.leads)) }) (rest:=[_]) hq rfl rfl rfl rfl
 ·have hb':=ho.mrk.bn
  have hc : n.nextC = ((n.mrk.cyc : Int) + 1).tmod n.m.cycles:=if_neg hb
  rw [hc] at hn
  generalize hC : ((n.mrk.cyc : Int) + 1).tmod n.m.cycles = C at hn
  repeat(refine wA ?_;(conv=>whnf);first|rw [hC])
  refine wB ?_
  all_goals (try with_reducible refine And.intro ?_ ?_)
  all_goals
   repeat(refine wA ?_;(conv=>whnf);first|rw [hC])
   refine wB ?_
   refine AskC.one (n.glb,t) 7 ⟨ho.glb,ht⟩ rfl rfl rfl (glb_le _) (fun _=>rfl) ?_
   repeat(refine wA ?_;(conv=>whnf);first|rw [hC])
   refine wB ?_
  all_goals (try with_reducible refine And.intro ?_ ?_)
  all_goals
   repeat(refine wA ?_;(conv=>whnf);first|rw [hC])
   refine wB ?_
   refine AskC.nd n x _ trivial hx rfl rfl (fun q hq=>?_)
   repeat(refine wA ?_;(conv=>whnf);first|rw [hC])
   refine wB ?_
  all_goals (try with_reducible refine And.intro ?_ ?_)
  all_goals
   repeat(refine wA ?_;(conv=>whnf);first|rw [hC])
   refine wB ?_
   refine nd_bld (n:=n) (x:=q) (rest:=_) ho.mo hg ?_
   cases hk : bldOk n.m n.rank C
   ·rw [hk] at hn
    repeat(refine wA ?_;(conv=>whnf);first|rw [hk])
    refine wB ?_
    subst hn
    exact nd_end (rest:=[_]) hq rfl rfl rfl rfl
   ·rw [hk,if_pos rfl] at hn
    repeat(refine wA ?_;(conv=>whnf);first|rw [hk])
    refine wB ?_
    refine AskC.one (n.mac,bldF n.m n.rank C (n.glb.at_ t) (!n.leads)) 5 (bldF_in ho.mo) rfl rfl rfl (mac_le _) (fun _=>rfl) ?_
    refine wB ?_
    subst hn
    exact nd_end (n:={ n with mac:=n.mac.ask (bldF n.m n.rank C (n.glb.at_ t) (!n.leads)) }) (rest:=[_]) hq rfl rfl rfl rfl
abbrev nasksC:=NdCon (fun p : Nd × Nat=>[iv .u16 p.2]) (fun p=>p.1) (fun p=>p.1.Ok ∧ p.2 < 65536) (fun _=>uR) fun p=>p.1.asks p.2
theorem nasks_ok : ConOk Tryz.prog F.node_Node_asks nasksC:=con_of_run (clRunX_ok (d:=6) ttOk outsNa_ok tabNa_ok 3) (fn_enters (ok.node_Node_asks (D:=6) u0 _ (clRunX_ok (d:=6) ttOk .nil TabOk.nil 1))) fun p hp=>nasks_run p.1.1 p.2 p.1.2 hp.1.1 hp.1.2 hp.2 _ rfl
theorem mfrV_t {m : Mat} {msg : Int} {s : ByteArray} (hm : m.Ok) (h : frOk m msg s = true) : mfrV m msg s = .tup [frmT (mfr m msg s),.one (.v (.bool true))]:=by
 have ht:=h
 unfold frOk there at ht
 simp only [Bool.and_eq_true,decide_eq_true_eq] at ht
 have hu:=(hm.G msg.toNat (by omega)).1
 unfold U32 at hu
 have e : (((m.G msg.toNat).id.toNat : Nat) : Int) = (m.G msg.toNat).id:=by omega
 rw [mfrV,if_pos h]
 show R.tup [.agg [.c (bC false),.c (uC (m.G msg.toNat).id),_,_],_] = R.tup [.agg [.c (bC false),.c (uC (((m.G msg.toNat).id.toNat : Nat) : Int)),_,_],_]
 rw [e]; rfl
theorem mfrV_f {m : Mat} {msg : Int} {s : ByteArray} (h : frOk m msg s = false) : mfrV m msg s = .tup [frmT frm0,.one (.v (.bool false))]:=by
 rw [mfrV,h]; rfl
theorem mfr_in {m : Mat} {msg : Int} {s : ByteArray} (hm : m.Ok) (h : frOk m msg s = true) : FIn (mfr m msg s):=by
 unfold frOk there at h
 simp only [Bool.and_eq_true,decide_eq_true_eq] at h
 have hu:=(hm.G msg.toNat (by omega)).1
 unfold U32 at hu
 exact ⟨by show (m.G msg.toNat).id.toNat < 4294967296; omega,by show s.size ≤ _; omega⟩
theorem mfrV_pl (m : Mat) (msg : Int) (s : ByteArray) : plR (mfrV m msg s) = true:=by
 by_cases h : frOk m msg s = true
 ·rw [mfrV,if_pos h]; rfl
 ·rw [mfrV,if_neg h]; rfl
theorem nd_mfr {n : Nd} {x : NdX} {rest : Heap} {K : R → Heap → Prop} {msg : Int} {s : ByteArray} (hm : n.m.Ok) (hk : K (mfrV n.m msg s) (ndH n x rest)) : AskC mfrC [matT n.m n.c 1 2 3,iv .i64 msg,sv s] (ndH n x rest) K :=
 .use (n.m,n.c,msg,s) [1,2,3] hm (by show (true && (true && plR (mfrV n.m msg s))) = true; rw [mfrV_pl]; rfl) (mat1_le n x rest) ⟨mat1_lx _ _ _,.inl rfl,.inl rfl,trivial⟩ hk
abbrev outsNs : List (FuncId × Cx):=[(F.node_Node_inTime,AskC ninC),(F.matrix_Frame,AskC mfrC),(F.mac_Mac_Ask,AskC macAskC)]
theorem outsNs_ok : OutsOk Tryz.prog outsNs:=.cons (ask_ok nin_ok) (.cons (ask_ok mfr_ok) (.cons (ask_ok macAsk_ok) .nil))
noncomputable abbrev tabNs : List (FuncId × Eng.Fn):=[(F.node_Node_sends,fn.node_Node_sends u0)]
theorem tabNs_ok {d : Nat} : TabOk d tabNs tt:=.cons (ok.node_Node_sends u0) (TabOk.nil)
theorem nsends_run (n : Nd) (x : NdX) (msg : Int) (s : ByteArray) (hm : n.m.Ok) (hx : XOk n x) (n' : Nd) (hn : n.sends msg s = n') (b : Bool) (hb : n.sendsOk msg s = b) : clRunX 6 tt outsNs tabNs 2 F.node_Node_sends [] [pR 0,iv .i64 msg,sv s] (ndH n x []) (fun x h=>Trim 14 x h fun x h=>∃ q,XOk n' q ∧ x = bv b ∧ h = ndH n' q []):=by
 unfold Nd.sends at hn
 unfold Nd.sendsOk at hb
 refine wB ?_
 refine AskC.nd n x [] trivial hx rfl rfl (fun q hq=>?_)
 cases hi : n.inTime
 ·rw [hi,Bool.false_and] at hn hb
  refine wB ?_
  subst hn; subst hb
  exact nd_end (rest:=[]) hq rfl rfl rfl rfl
 ·rw [hi,Bool.true_and] at hn hb
  refine wB ?_
  refine nd_mfr (n:=n) (x:=q) (rest:=[]) hm ?_
  cases hf : frOk n.m msg s
  ·rw [hf] at hn hb
   rw [Bool.false_and] at hb
   rw [mfrV_f hf]
   refine wB ?_
   subst hn; subst hb
   exact nd_end (rest:=[_]) hq rfl rfl rfl rfl
  ·rw [hf] at hn hb
   rw [Bool.true_and] at hb
   rw [if_pos rfl] at hn
   rw [mfrV_t hm hf]
   refine wB ?_
   refine AskC.one (n.mac,mfr n.m msg s) 5 (mfr_in hm hf) rfl rfl rfl (mac_le _) (fun _=>rfl) ?_
   refine wB ?_
   subst hn
   refine nd_end (n:={ n with mac:=n.mac.ask (mfr n.m msg s) }) (F:=bv b) (rest:=[_]) hq rfl ?_ rfl rfl
   subst hb
   exact congrArg bv (decide_eq_decide.2 (by dsimp only; omega))
abbrev nsendsC:=NdCon (fun p : Nd × Int × ByteArray=>[iv .i64 p.2.1,sv p.2.2]) (fun p=>p.1) (fun p=>p.1.m.Ok) (fun p=>bv (p.1.sendsOk p.2.1 p.2.2)) fun p=>p.1.sends p.2.1 p.2.2
theorem nsends_ok : ConOk Tryz.prog F.node_Node_sends nsendsC:=con_of_run (clRunX_ok (d:=6) ttOk outsNs_ok tabNs_ok 2) (fn_enters (ok.node_Node_sends (D:=6) u0 _ (clRunX_ok (d:=6) ttOk .nil TabOk.nil 1))) fun p hp=>nsends_run p.1.1 p.2 p.1.2.1 p.1.2.2 hp.1 hp.2 _ rfl _ rfl
end Go.Proofs.YtlckbdhpehkeoaaGreat.Co
