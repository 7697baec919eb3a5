/- Parts. -/
import Derived.Test.YtlckbdhpehkeoaaGreatJ03
import Derived.Test.YtlckbdhpehkeoaaGreatJ05
import Derived.Test.YtlckbdhpehkeoaaGreatJ07
import Derived.Test.YtlckbdhpehkeoaaGreatJ08
import Derived.Test.YtlckbdhpehkeoaaGreatJ15
namespace Go.Proofs.YtlckbdhpehkeoaaGreat.Co
open Go Go.Eng Go.Proofs Go.Proofs.YtlckbdhpehkeoaaGreat.Tb Go.Pu
set_option maxRecDepth 100000
set_option maxHeartbeats 8000000
abbrev objO (m : Mat) (z2 z3 : Bool) (who : Int) : HE:=.ob (.own [.c (iC m.level),.c (iC m.nodes),.c (iC m.cycles),.c (iC m.length),.c (iC m.enable),.c (iC m.unit),.c (iC m.init),.c (uC m.ref),
 .c (.slc 1 0 1 0 m.nM m.nM false),.c (.slc 2 0 3 0 m.nG m.nG z2),.c (.slc 3 0 6 0 m.nW m.nW z3),.c (iC who),.c (.mp 4),.c (.mp 5),.c (.ptr 6 0)])
abbrev roM (m : Mat) : HE:=.ob (.ro 1 m.nM fun i=>[iC (m.M i)])
abbrev roG (m : Mat) : HE:=.ob (.ro 3 m.nG fun i=>msgL (m.G i))
abbrev roW (m : Mat) : HE:=.ob (.ro 6 m.nW fun i=>winL (m.W i))
abbrev objH (m : Mat) (z2 z3 : Bool) (o : Plc) (rest : Heap) : Heap:=objO m z2 z3 o.who :: roM m :: roG m :: roW m :: .ob (.raw (.ms o.st)) :: .ob (.raw (.ms o.got)) :: quO 7 :: quQ o.q :: rest
structure ObP where
 m : Mat
 z2 : Bool
 z3 : Bool
 o : Plc
abbrev ObP.H (p : ObP) : Heap:=objH p.m p.z2 p.z3 p.o []
def _root_.Go.Pu.Plc.Ok (o : Plc) : Prop:=o.q.length ≤ 4
abbrev othR (m : Mat) (msg : Int) : R:=if there m msg then .tup [.agg ((msgL (m.G msg.toNat)).map .c),.one (.v (.bool true))] else .tup [.agg [.c (uC 0),.c (iC 0),.c (bC false)],.one (.v (.bool false))]
noncomputable abbrev tabOt : List (FuncId × Eng.Fn):=[(F.object_Objects_there,fn.object_Objects_there u0)]
theorem tabOt_ok {d : Nat} : TabOk d tabOt tt:=.cons (ok.object_Objects_there u0) (TabOk.nil)
theorem othere_run (m : Mat) (z2 z3 : Bool) (o : Plc) (msg : Int) : clRunX 5 tt outs0 tabOt 2 F.object_Objects_there [] [pR 0,iv .i64 msg] (objH m z2 z3 o []) (fun x h=>Trim 8 x h fun x h=>x = othR m msg ∧ h = objH m z2 z3 o []):=by
 by_cases h1 : msg < 0
 ·have ht : there m msg = false:=decide_eq_false (by omega)
  rw [othR,ht]
  refine wB ?_
  refine Trim.det (Le.id rfl wH wH)
 obtain ⟨k,rfl⟩ : ∃ k : Nat,msg = k:=⟨msg.toNat,by omega⟩
 by_cases h2 : k < m.nG
 ·have ht : there m k = true:=decide_eq_true (by omega)
  have z0 : 0 + ((k : Int)).toNat = k:=by omega
  have z1 : ((k : Int)).toNat = k:=by omega
  rw [othR,ht]
  rw [z1]
  refine wB ?_
  rw [z0]
  refine wB ?_
  refine Trim.det (Le.id rfl wH wH)
 ·have ht : there m k = false:=decide_eq_false (by omega)
  rw [othR,ht]
  refine wB ?_
  refine Trim.det (Le.id rfl wH wH)
abbrev othC : Con (ObP × Int):=DetCon (fun p=>[pR 0,iv .i64 p.2]) (fun p=>p.1.H) (fun _=>True) (fun p=>othR p.1.m p.2) fun p=>p.1.H
theorem othere_ok : ConOk Tryz.prog F.object_Objects_there othC:=con_of_run (clRunX_ok (d:=5) ttOk outs0_ok tabOt_ok 2) (fn_enters (ok.object_Objects_there (D:=5) u0 _ (clRunX_ok (d:=5) ttOk .nil TabOk.nil 1))) fun p _=>othere_run p.1.m p.1.z2 p.1.z3 p.1.o p.2
theorem othR_ren (g : Nat → Nat) (m : Mat) (msg : Int) : renR g (othR m msg) = othR m msg:=by
 rw [othR]
 split <;> rfl
theorem oth_use {m : Mat} {z2 z3 : Bool} {o : Plc} {msg : Int} {K : R → Heap → Prop} (hk : K (othR m msg) (objH m z2 z3 o [])) : AskC othC [pR 0,iv .i64 msg] (objH m z2 z3 o []) K:=by
 refine .det (⟨m,z2,z3,o⟩,msg) [0,1,2,3,4,5,6,7] (othR m msg) (objH m z2 z3 o []) trivial rfl ?_ ?_ (othR_ren _ _ _) rfl hk
 ·exact wH
 ·exact wH
theorem oth_t {m : Mat} {msg : Int} (h : there m msg = true) : othR m msg = .tup [.agg [.c (uC (m.G msg.toNat).id),.c (iC (m.G msg.toNat).ow),.c (bC (m.G msg.toNat).ev)],.one (.v (.bool true))]:=by rw [othR,if_pos h]; rfl
theorem oth_f {m : Mat} {msg : Int} (h : there m msg = false) : othR m msg = .tup [.agg [.c (uC 0),.c (iC 0),.c (bC false)],.one (.v (.bool false))]:=by rw [othR,h]; rfl
abbrev outsOs : List (FuncId × Cx):=[(F.object_Objects_there,AskC othC),(F.queue_Queue_Put,AskC qputC)]
theorem outsOs_ok : OutsOk Tryz.prog outsOs:=.cons (ask_ok othere_ok) (.cons (ask_ok qput_ok) .nil)
noncomputable abbrev tabOs : List (FuncId × Eng.Fn):=[(F.object_Objects_Send,fn.object_Objects_Send u0)]
theorem tabOs_ok {d : Nat} : TabOk d tabOs tt:=.cons (ok.object_Objects_Send u0) (TabOk.nil)
theorem osend_run (m : Mat) (z2 z3 : Bool) (o : Plc) (msg : Int) (data : ByteArray) (E : Int) (o' : Plc) (hE : E = o.sendE m msg data) (ho : o' = o.send m msg data) : clRunX 6 tt outsOs tabOs 2 F.object_Objects_Send [] [pR 0,iv .i64 msg,sv data] (objH m z2 z3 o []) (fun x h=>Trim 8 x h fun x h=>x = iv .i64 E ∧ h = objH m z2 z3 o' []):=by
 by_cases ht : there m msg = true
 ·simp only [Plc.sendE,Plc.send,ht,not_true_eq_false,false_or] at hE ho
  refine wB ?_
  refine oth_use ?_
  rw [oth_t ht]
  generalize (m.G msg.toNat).id = id at *
  generalize (m.G msg.toNat).ow = ow at *
  generalize (m.G msg.toNat).ev = ev at *
  by_cases h1 : ow = o.who
  ·subst h1
   by_cases h2 : 8 < data.size
   ·have hE : E = 12:=by simpa [h2] using hE
    have ho : o' = o:=by simpa [h2] using ho
    subst hE; rw [ho]
    refine wB ?_
    refine Trim.det (Le.id rfl wH wH)
   ·cases ev
    ·have hE : E = 0:=by simpa [h2] using hE
     have ho : o' = { o with st:=setAt o.st msg data }:=by simpa [h2] using ho
     subst hE; rw [ho]
     refine wB ?_
     refine Trim.det (Le.id rfl wH wH)
    ·by_cases h3 : o.q.length < 4
     ·have h3' : ¬ 4 ≤ o.q.length:=by omega
      have hE : E = 0:=by simpa [h2,h3'] using hE
      have ho : o' = { o with q:=o.q ++ [(msg,data)] }:=by simpa [h2,h3'] using ho
      subst hE; rw [ho]
      refine wB ?_
      refine .det (o.q,msg,data) [6,7] (iv .i64 0) (objH m z2 z3 { o with q:=o.q ++ [(msg,data)] } [.ob (.own [.c (uC id),.c (iC o.who),.c (bC true)])]) trivial rfl ?_ ?_ (by rw [if_pos h3]; rfl) (by rw [if_pos h3]; rfl) ?_
      ·exact wH
      ·exact wH
      refine wB ?_
      refine Trim.det (Le.id rfl wH wH)
     ·have h3' : 4 ≤ o.q.length:=by omega
      have hE : E = 170:=by simpa [h2,h3'] using hE
      have ho : o' = o:=by simpa [h2,h3'] using ho
      subst hE; rw [ho]
      refine wB ?_
      refine .det (o.q,msg,data) [6,7] (iv .i64 170) (objH m z2 z3 o [.ob (.own [.c (uC id),.c (iC o.who),.c (bC true)])]) trivial rfl ?_ ?_ (by rw [if_neg h3]; rfl) (by rw [if_neg h3]; rfl) ?_
      ·exact wH
      ·exact wH
      refine wB ?_
      refine Trim.det (Le.id rfl wH wH)
  ·have hE : E = 145:=by simpa [h1] using hE
   have ho : o' = o:=by simpa [h1] using ho
   subst hE; rw [ho]
   refine wB ?_
   refine Trim.det (Le.id rfl wH wH)
 ·have ht : there m msg = false:=by simpa using ht
  have hE : E = 145:=by rw [hE]; simp [Plc.sendE,ht]
  have ho : o' = o:=by rw [ho]; simp [Plc.send,Plc.sendE,ht]
  subst hE; rw [ho]
  refine wB ?_
  refine oth_use ?_
  rw [oth_f ht]
  refine wB ?_
  refine Trim.det (Le.id rfl wH wH)
abbrev osendC : Con (ObP × Int × ByteArray):=DetCon (fun p=>[pR 0,iv .i64 p.2.1,sv p.2.2]) (fun p=>p.1.H) (fun _=>True) (fun p=>iv .i64 (p.1.o.sendE p.1.m p.2.1 p.2.2)) fun p=>objH p.1.m p.1.z2 p.1.z3 (p.1.o.send p.1.m p.2.1 p.2.2) []
theorem osend_ok : ConOk Tryz.prog F.object_Objects_Send osendC:=con_of_run (clRunX_ok (d:=6) ttOk outsOs_ok tabOs_ok 2) (fn_enters (ok.object_Objects_Send (D:=6) u0 _ (clRunX_ok (d:=6) ttOk .nil TabOk.nil 1))) fun p _=>osend_run p.1.m p.1.z2 p.1.z3 p.1.o p.2.1 p.2.2 _ _ rfl rfl
abbrev lkR (o : Option ByteArray) : R:=match o with
 | some s=>.tup [.one (.v (.string s)),.one (.v (.bool true))]
 | none=>.tup [.one (.v (.string .empty)),.one (.v (.bool false))]
noncomputable abbrev tabOst : List (FuncId × Eng.Fn):=[(F.object_Objects_State,fn.object_Objects_State u0)]
theorem tabOst_ok {d : Nat} : TabOk d tabOst tt:=.cons (ok.object_Objects_State u0) (TabOk.nil)
theorem ostate_run (m : Mat) (z2 z3 : Bool) (o : Plc) (msg : Int) : clRunX 5 tt outs0 tabOst 2 F.object_Objects_State [] [pR 0,iv .i64 msg] (objH m z2 z3 o []) (fun x h=>Trim 8 x h fun x h=>x = lkR (o.st msg) ∧ h = objH m z2 z3 o []):=by
 cases h : o.st msg
 ·repeat(refine wA ?_;(conv=>whnf);first|rw [h])
  refine wB ?_
  refine Trim.det (Le.id rfl wH wH)
 ·repeat(refine wA ?_;(conv=>whnf);first|rw [h])
  refine wB ?_
  refine Trim.det (Le.id rfl wH wH)
abbrev ostateC : Con (ObP × Int):=DetCon (fun p=>[pR 0,iv .i64 p.2]) (fun p=>p.1.H) (fun _=>True) (fun p=>lkR (p.1.o.st p.2)) fun p=>p.1.H
theorem ostate_ok : ConOk Tryz.prog F.object_Objects_State ostateC:=con_of_run (clRunX_ok (d:=5) ttOk outs0_ok tabOst_ok 2) (fn_enters (ok.object_Objects_State (D:=5) u0 _ (clRunX_ok (d:=5) ttOk .nil TabOk.nil 1))) fun p _=>ostate_run p.1.m p.1.z2 p.1.z3 p.1.o p.2
abbrev outsOev : List (FuncId × Cx):=[(F.queue_Queue_Head,AskC qheadC)]
theorem outsOev_ok : OutsOk Tryz.prog outsOev:=.cons (ask_ok qhead_ok) .nil
noncomputable abbrev tabOev : List (FuncId × Eng.Fn):=[(F.object_Objects_Event,fn.object_Objects_Event u0)]
theorem tabOev_ok {d : Nat} : TabOk d tabOev tt:=.cons (ok.object_Objects_Event u0) (TabOk.nil)
theorem oev_run (m : Mat) (z2 z3 : Bool) (o : Plc) (ho : o.Ok) : clRunX 5 tt outsOev tabOev 2 F.object_Objects_Event [] [pR 0] (objH m z2 z3 o []) (fun x h=>Trim 8 x h fun x h=>x = hdR o.q ∧ h = objH m z2 z3 o []):=by
 obtain ⟨who,st,got,q⟩:=o
 have ho : q.length ≤ 4:=ho
 cases q with
 | nil =>
  refine wB ?_
  refine .det ([] : List Dv) [6,7] (hdR []) (objH m z2 z3 ⟨who,st,got,[]⟩ [.ob (.own [.c (.v (.int .i64 0)),.c (.v (.string .empty))])]) ho rfl ?_ ?_ rfl rfl ?_
  ·exact wH
  ·exact wH
  refine wB ?_
  refine Trim.det (Le.id rfl wH wH)
 | cons d q =>
  obtain ⟨dm,ds⟩:=d
  refine wB ?_
  refine .det ((dm,ds) :: q) [6,7] (hdR ((dm,ds) :: q)) (objH m z2 z3 ⟨who,st,got,(dm,ds) :: q⟩ [.ob (.own [.c (.v (.int .i64 0)),.c (.v (.string .empty))])]) ho rfl ?_ ?_ rfl rfl ?_
  ·exact wH
  ·exact wH
  refine wB ?_
  refine Trim.det (Le.id rfl wH wH)
abbrev oevC : Con ObP:=DetCon (fun _=>[pR 0]) (fun p=>p.H) (fun p=>p.o.Ok) (fun p=>hdR p.o.q) fun p=>p.H
theorem oev_ok : ConOk Tryz.prog F.object_Objects_Event oevC:=con_of_run (clRunX_ok (d:=5) ttOk outsOev_ok tabOev_ok 2) (fn_enters (ok.object_Objects_Event (D:=5) u0 _ (clRunX_ok (d:=5) ttOk .nil TabOk.nil 1))) fun p hp=>oev_run p.m p.z2 p.z3 p.o hp
abbrev outsOg : List (FuncId × Cx):=[(F.object_Objects_there,AskC othC)]
theorem outsOg_ok : OutsOk Tryz.prog outsOg:=.cons (ask_ok othere_ok) .nil
noncomputable abbrev tabOg : List (FuncId × Eng.Fn):=[(F.object_Objects_Got,fn.object_Objects_Got u0)]
theorem tabOg_ok {d : Nat} : TabOk d tabOg tt:=.cons (ok.object_Objects_Got u0) (TabOk.nil)
theorem ogot_run (m : Mat) (z2 z3 : Bool) (o : Plc) (msg : Int) (data : ByteArray) : clRunX 5 tt outsOg tabOg 2 F.object_Objects_Got [] [pR 0,iv .i64 msg,sv data] (objH m z2 z3 o []) (fun x h=>Trim 8 x h fun x h=>x = uR ∧ h = objH m z2 z3 (o.gets m msg data) []):=by
 by_cases ht : there m msg = true
 ·rw [Plc.gets,if_pos ht]
  refine wB ?_
  refine oth_use ?_
  rw [oth_t ht]
  refine wB ?_
  refine Trim.det (Le.id rfl wH wH)
 ·have ht : there m msg = false:=by simpa using ht
  rw [Plc.gets,ht]
  refine wB ?_
  refine oth_use ?_
  rw [oth_f ht]
  refine wB ?_
  refine Trim.det (Le.id rfl wH wH)
abbrev ogotC : Con (ObP × Int × ByteArray):=DetCon (fun p=>[pR 0,iv .i64 p.2.1,sv p.2.2]) (fun p=>p.1.H) (fun _=>True) (fun _=>uR) fun p=>objH p.1.m p.1.z2 p.1.z3 (p.1.o.gets p.1.m p.2.1 p.2.2) []
theorem ogot_ok : ConOk Tryz.prog F.object_Objects_Got ogotC:=con_of_run (clRunX_ok (d:=5) ttOk outsOg_ok tabOg_ok 2) (fn_enters (ok.object_Objects_Got (D:=5) u0 _ (clRunX_ok (d:=5) ttOk .nil TabOk.nil 1))) fun p _=>ogot_run p.1.m p.1.z2 p.1.z3 p.1.o p.2.1 p.2.2
abbrev outsOx : List (FuncId × Cx):=[(F.object_Objects_there,AskC othC),(F.queue_Queue_Head,AskC qheadC),(F.queue_Queue_Take,AskC qtakeC)]
theorem outsOx_ok : OutsOk Tryz.prog outsOx:=.cons (ask_ok othere_ok) (.cons (ask_ok qhead_ok) (.cons (ask_ok qtake_ok) .nil))
noncomputable abbrev tabOx : List (FuncId × Eng.Fn):=[(F.object_Objects_Sent,fn.object_Objects_Sent u0)]
theorem tabOx_ok {d : Nat} : TabOk d tabOx tt:=.cons (ok.object_Objects_Sent u0) (TabOk.nil)
theorem osent_run (m : Mat) (z2 z3 : Bool) (o : Plc) (msg : Int) (o' : Plc) (hq : o.Ok) (ho : o' = o.sent m msg) : clRunX 6 tt outsOx tabOx 2 F.object_Objects_Sent [] [pR 0,iv .i64 msg] (objH m z2 z3 o []) (fun x h=>Trim 8 x h fun x h=>x = uR ∧ h = objH m z2 z3 o' []):=by
 by_cases ht : there m msg = true
 ·refine wB ?_
  refine oth_use ?_
  rw [oth_t ht]
  simp only [Plc.sent,ht,Bool.true_eq_false,false_or] at ho
  generalize (m.G msg.toNat).id = id at *
  generalize (m.G msg.toNat).ow = ow at *
  generalize (m.G msg.toNat).ev = ev at *
  cases ev
  ·have ho : o' = o:=by simpa using ho
   rw [ho]
   refine wB ?_
   refine Trim.det (Le.id rfl wH wH)
  ·obtain ⟨who,st,got,q⟩:=o
   have hq : q.length ≤ 4:=hq
   cases q with
   | nil =>
    have ho : o' = ⟨who,st,got,[]⟩:=by simpa using ho
    rw [ho]
    refine wB ?_
    refine .det ([] : List Dv) [6,7] (hdR []) (objH m z2 z3 ⟨who,st,got,[]⟩ [.ob (.own [.c (uC id),.c (iC ow),.c (bC true)])]) hq rfl ?_ ?_ rfl rfl ?_
    ·exact wH
    ·exact wH
    refine wB ?_
    refine Trim.det (Le.id rfl wH wH)
   | cons d q =>
    obtain ⟨dm,ds⟩:=d
    by_cases hd : dm = msg
    ·have ho : o' = ⟨who,st,got,q⟩:=by simpa [hd] using ho
     rw [ho]
     subst hd
     refine wB ?_
     refine .det ((dm,ds) :: q) [6,7] (hdR ((dm,ds) :: q)) (objH m z2 z3 ⟨who,st,got,(dm,ds) :: q⟩ [.ob (.own [.c (uC id),.c (iC ow),.c (bC true)])]) hq rfl ?_ ?_ rfl rfl ?_
     ·exact wH
     ·exact wH
     refine wB ?_
     refine .det (((dm,ds),q) : Dv × List Dv) [6,7] (.tup [dvT (dm,ds),.one (.v (.int .i64 0))]) (objH m z2 z3 ⟨who,st,got,q⟩ [.ob (.own [.c (uC id),.c (iC ow),.c (bC true)]),.ob (.own [.c (.v (.int .i64 dm)),.c (.v (.string ds))])]) trivial rfl ?_ ?_ rfl rfl ?_
     ·exact wH
     ·exact wH
     refine wB ?_
     refine Trim.det (Le.id rfl wH wH)
    ·have ho : o' = ⟨who,st,got,(dm,ds) :: q⟩:=by simpa [hd] using ho
     rw [ho]
     refine wB ?_
     refine .det ((dm,ds) :: q) [6,7] (hdR ((dm,ds) :: q)) (objH m z2 z3 ⟨who,st,got,(dm,ds) :: q⟩ [.ob (.own [.c (uC id),.c (iC ow),.c (bC true)])]) hq rfl ?_ ?_ rfl rfl ?_
     ·exact wH
     ·exact wH
     refine wB ?_
     refine Trim.det (Le.id rfl wH wH)
 ·have ht : there m msg = false:=by simpa using ht
  have ho : o' = o:=by rw [ho]; simp [Plc.sent,ht]
  rw [ho]
  refine wB ?_
  refine oth_use ?_
  rw [oth_f ht]
  refine wB ?_
  refine Trim.det (Le.id rfl wH wH)
abbrev osentC : Con (ObP × Int):=DetCon (fun p=>[pR 0,iv .i64 p.2]) (fun p=>p.1.H) (fun p=>p.1.o.Ok) (fun _=>uR) fun p=>objH p.1.m p.1.z2 p.1.z3 (p.1.o.sent p.1.m p.2) []
theorem osent_ok : ConOk Tryz.prog F.object_Objects_Sent osentC:=con_of_run (clRunX_ok (d:=6) ttOk outsOx_ok tabOx_ok 2) (fn_enters (ok.object_Objects_Sent (D:=6) u0 _ (clRunX_ok (d:=6) ttOk .nil TabOk.nil 1))) fun p hp=>osent_run p.1.m p.1.z2 p.1.z3 p.1.o p.2 _ hp rfl
abbrev outsOn : List (FuncId × Cx):=[(F.matrix_Copy,AskC cpmC),(F.queue_New,AskC qnewC)]
theorem outsOn_ok : OutsOk Tryz.prog outsOn:=.cons (ask_ok cpm_ok) (.cons (ask_ok qnew_ok) .nil)
noncomputable abbrev tabOn : List (FuncId × Eng.Fn):=[(F.object_New,fn.object_New u0)]
theorem tabOn_ok {d : Nat} : TabOk d tabOn tt:=.cons (ok.object_New u0) (TabOk.nil)
abbrev onT (m : Mat) (s1 s2 s3 : C) (who : Int) (a b q : Nat) : HE:=.ob (.own [.c (iC m.level),.c (iC m.nodes),.c (iC m.cycles),.c (iC m.length),.c (iC m.enable),.c (iC m.unit),.c (iC m.init),.c (uC m.ref),.c s1,.c s2,.c s3,.c (iC who),.c (.mp a),.c (.mp b),.c (.ptr q 0)])
abbrev onR (o : Plc) (q : Nat) : Heap:=[.ob (.raw (.ms o.st)),.ob (.raw (.ms o.got)),quO q,quQ o.q]
abbrev mcE (m : Mat) (c : Caps) : HE:=.ob (.own [.c (iC m.level),.c (iC m.nodes),.c (iC m.cycles),.c (iC m.length),.c (iC m.enable),.c (iC m.unit),.c (iC m.init),.c (uC m.ref),.c (.slc 0 0 1 0 m.nM c.c1 c.z1),.c (.slc 1 0 3 0 m.nG c.c2 c.z2),.c (.slc 2 0 6 0 m.nW c.c3 c.z3)])
def onH (m : Mat) (z2 z3 : Bool) (who : Int) : Heap:=match z2,z3 with
 | false,false=>onT m (slN 4 1 m.nM) (slN 5 3 m.nG) (slN 6 6 m.nW) who 7 8 9 :: cwM m :: cwG m :: cwW m :: onR (.new who) 10
 | false,true=>onT m (slN 4 1 m.nM) (slN 5 3 m.nG) cNil who 6 7 8 :: cwM m :: cwG m :: onR (.new who) 9
 | true,false=>onT m (slN 4 1 m.nM) cNil (slN 5 6 m.nW) who 6 7 8 :: cwM m :: cwW m :: onR (.new who) 9
 | true,true=>onT m (slN 4 1 m.nM) cNil cNil who 5 6 7 :: cwM m :: onR (.new who) 8
theorem onew_run (m : Mat) (c1 c2 c3 : Nat) (z2 z3 : Bool) (who : Int) (h1 : m.nM ≤ 1000) (h2 : m.nG ≤ 1000) (h3 : m.nW ≤ 1000) : clRunX 5 tt outsOn tabOn 2 F.object_New [] [matT m ⟨c1,c2,c3,false,z2,z3⟩ 0 1 2,iv .i64 who] (matH m []) (fun x h=>Trim 3 x h fun x h=>x = pR 3 ∧ h = matH m [] ++ onH m z2 z3 who):=by
 cases z2 <;> cases z3
 ·refine wB ?_
  refine .det ((m,c1,c2,c3,false,false) : CpP) [0,1,2] (.t (matG m (slN 4 1 m.nM) (slN 5 3 m.nG) (slN 6 6 m.nW))) [roM m,roG m,roW m,mcE m ⟨c1,c2,c3,false,false,false⟩,cwM m,cwG m,cwW m] ⟨h1,h2,h3⟩ rfl ?_ ?_ rfl rfl ?_
  ·exact wH
  ·exact wH
  refine wB ?_
  refine .det () [] (pR 9) [roM m,roG m,roW m,mcE m ⟨c1,c2,c3,false,false,false⟩,cwM m,cwG m,cwW m,.ob (.raw (.ms fun _=>none)),.ob (.raw (.ms fun _=>none)),quO 10,quQ []] trivial rfl ?_ ?_ rfl rfl ?_
  ·exact wH
  ·exact wH
  refine wB ?_
  refine Trim.det (Le.nm [0,1,2,11,4,5,6,7,8,9,10] rfl wH wH)
 ·refine wB ?_
  refine .det ((m,c1,c2,c3,false,true) : CpP) [0,1,2] (.t (matG m (slN 4 1 m.nM) (slN 5 3 m.nG) (cNil))) [roM m,roG m,roW m,mcE m ⟨c1,c2,c3,false,false,true⟩,cwM m,cwG m] ⟨h1,h2,h3⟩ rfl ?_ ?_ rfl rfl ?_
  ·exact wH
  ·exact wH
  refine wB ?_
  refine .det () [] (pR 8) [roM m,roG m,roW m,mcE m ⟨c1,c2,c3,false,false,true⟩,cwM m,cwG m,.ob (.raw (.ms fun _=>none)),.ob (.raw (.ms fun _=>none)),quO 9,quQ []] trivial rfl ?_ ?_ rfl rfl ?_
  ·exact wH
  ·exact wH
  refine wB ?_
  refine Trim.det (Le.nm [0,1,2,10,4,5,6,7,8,9] rfl wH wH)
 ·refine wB ?_
  refine .det ((m,c1,c2,c3,true,false) : CpP) [0,1,2] (.t (matG m (slN 4 1 m.nM) (cNil) (slN 5 6 m.nW))) [roM m,roG m,roW m,mcE m ⟨c1,c2,c3,false,true,false⟩,cwM m,cwW m] ⟨h1,h2,h3⟩ rfl ?_ ?_ rfl rfl ?_
  ·exact wH
  ·exact wH
  refine wB ?_
  refine .det () [] (pR 8) [roM m,roG m,roW m,mcE m ⟨c1,c2,c3,false,true,false⟩,cwM m,cwW m,.ob (.raw (.ms fun _=>none)),.ob (.raw (.ms fun _=>none)),quO 9,quQ []] trivial rfl ?_ ?_ rfl rfl ?_
  ·exact wH
  ·exact wH
  refine wB ?_
  refine Trim.det (Le.nm [0,1,2,10,4,5,6,7,8,9] rfl wH wH)
 ·refine wB ?_
  refine .det ((m,c1,c2,c3,true,true) : CpP) [0,1,2] (.t (matG m (slN 4 1 m.nM) (cNil) (cNil))) [roM m,roG m,roW m,mcE m ⟨c1,c2,c3,false,true,true⟩,cwM m] ⟨h1,h2,h3⟩ rfl ?_ ?_ rfl rfl ?_
  ·exact wH
  ·exact wH
  refine wB ?_
  refine .det () [] (pR 7) [roM m,roG m,roW m,mcE m ⟨c1,c2,c3,false,true,true⟩,cwM m,.ob (.raw (.ms fun _=>none)),.ob (.raw (.ms fun _=>none)),quO 8,quQ []] trivial rfl ?_ ?_ rfl rfl ?_
  ·exact wH
  ·exact wH
  refine wB ?_
  refine Trim.det (Le.nm [0,1,2,9,4,5,6,7,8] rfl wH wH)
abbrev onewC : Con (CpP × Int):=DetCon (fun p=>[matT p.1.1 ⟨p.1.2.1,p.1.2.2.1,p.1.2.2.2.1,false,p.1.2.2.2.2.1,p.1.2.2.2.2.2⟩ 0 1 2,iv .i64 p.2]) (fun p=>matH p.1.1 []) (fun p=>p.1.1.nM ≤ 1000 ∧ p.1.1.nG ≤ 1000 ∧ p.1.1.nW ≤ 1000) (fun _=>pR 3) fun p=>matH p.1.1 [] ++ onH p.1.1 p.1.2.2.2.2.1 p.1.2.2.2.2.2 p.2
theorem onew_ok : ConOk Tryz.prog F.object_New onewC:=con_of_run (clRunX_ok (d:=5) ttOk outsOn_ok tabOn_ok 2) (fn_enters (ok.object_New (D:=5) u0 _ (clRunX_ok (d:=5) ttOk .nil TabOk.nil 1))) fun p hp=>onew_run p.1.1 p.1.2.1 p.1.2.2.1 p.1.2.2.2.1 p.1.2.2.2.2.1 p.1.2.2.2.2.2 p.2 hp.1 hp.2.1 hp.2.2
abbrev oNm : List Nat:=[0,1,2,3,4,5,6,7]
abbrev objQ (m : Mat) (z2 z3 : Bool) (o : Plc) : Heap → Prop:=fun G=>G = objH m z2 z3 o []
theorem obj_le (m : Mat) (z2 z3 : Bool) (o : Plc) : leH (sig (objH m z2 z3 o []) oNm) (objH m z2 z3 o []) oNm (objH m z2 z3 o []):=by
 exact wH
abbrev osendB:=BsCon (fun p : ObP × Int × ByteArray=>[iv .i64 p.2.1,sv p.2.2]) (fun p=>p.1.H) (fun _=>True) (fun p=>iv .i64 (p.1.o.sendE p.1.m p.2.1 p.2.2)) fun p=>objH p.1.m p.1.z2 p.1.z3 (p.1.o.send p.1.m p.2.1 p.2.2) []
theorem osendB_ok : ConOk Tryz.prog F.object_Objects_Send osendB:=box_same osend_ok (fun _=>rfl) oNm rfl (fun _=>⟨_,_,rfl⟩) (fun _=>rfl) fun _=>obj_le _ _ _ _
theorem lkR_pl (o : Option ByteArray) : plR (lkR o) = true:=by cases o <;> rfl
theorem hdR_pl (l : List Dv) : plR (hdR l) = true:=by cases l <;> rfl
abbrev ostateB:=BsCon (fun p : ObP × Int=>[iv .i64 p.2]) (fun p=>p.1.H) (fun _=>True) (fun p=>lkR (p.1.o.st p.2)) fun p=>p.1.H
theorem ostateB_ok : ConOk Tryz.prog F.object_Objects_State ostateB:=box_same ostate_ok (fun _=>lkR_pl _) oNm rfl (fun _=>⟨_,_,rfl⟩) (fun _=>rfl) fun _=>obj_le _ _ _ _
abbrev oevB:=BsCon (fun _ : ObP=>[]) (fun p=>p.H) (fun p=>p.o.Ok) (fun p=>hdR p.o.q) fun p=>p.H
theorem oevB_ok : ConOk Tryz.prog F.object_Objects_Event oevB:=box_same oev_ok (fun _=>hdR_pl _) oNm rfl (fun _=>⟨_,_,rfl⟩) (fun _=>rfl) fun _=>obj_le _ _ _ _
abbrev ogotB:=BsCon (fun p : ObP × Int × ByteArray=>[iv .i64 p.2.1,sv p.2.2]) (fun p=>p.1.H) (fun _=>True) (fun _=>uR) fun p=>objH p.1.m p.1.z2 p.1.z3 (p.1.o.gets p.1.m p.2.1 p.2.2) []
theorem ogotB_ok : ConOk Tryz.prog F.object_Objects_Got ogotB:=box_same ogot_ok (fun _=>rfl) oNm rfl (fun _=>⟨_,_,rfl⟩) (fun _=>rfl) fun _=>obj_le _ _ _ _
abbrev osentB:=BsCon (fun p : ObP × Int=>[iv .i64 p.2]) (fun p=>p.1.H) (fun p=>p.1.o.Ok) (fun _=>uR) fun p=>objH p.1.m p.1.z2 p.1.z3 (p.1.o.sent p.1.m p.2) []
theorem osentB_ok : ConOk Tryz.prog F.object_Objects_Sent osentB:=box_same osent_ok (fun _=>rfl) oNm rfl (fun _=>⟨_,_,rfl⟩) (fun _=>rfl) fun _=>obj_le _ _ _ _
abbrev onewB:=BxNew (γ:=Unit) (fun p : CpP × Int=>[matT p.1.1 ⟨p.1.2.1,p.1.2.2.1,p.1.2.2.2.1,false,p.1.2.2.2.2.1,p.1.2.2.2.2.2⟩ 0 1 2,iv .i64 p.2]) (fun p=>matH p.1.1 [])
 (fun p=>(p.1.1.nM ≤ 1000 ∧ p.1.1.nG ≤ 1000 ∧ p.1.1.nW ≤ 1000) ∧ (p.1.2.2.2.2.1 = true → p.1.1.nG = 0) ∧ (p.1.2.2.2.2.2 = true → p.1.1.nW = 0)) (fun _ _=>True) (fun _ _=>pR 3) (fun p _=>objQ p.1.1 p.1.2.2.2.2.1 p.1.2.2.2.2.2 (.new p.2)) (fun p _=>matH p.1.1 []) fun _ _=>[]
theorem onewB_ok : ConOk Tryz.prog F.object_New onewB:=by
 refine box_new onew_ok fun p ⟨hp,hz2,hz3⟩=>⟨p,hp,rfl,rfl,fun x h' ⟨e1,e2⟩=>⟨(),trivial, ?_, ?_,rfl⟩⟩
 ·obtain ⟨⟨m,c1,c2,c3,z2,z3⟩,who⟩:=p
  subst e1; subst e2
  obtain ⟨a1,a2,a3,a4,a5,a6,a7,a8,nM,M,nG,G,nW,W⟩:=m
  cases z2 <;> cases z3
  ·refine ⟨[3,4,5,6,7,8,9,10],[0,1,2,3],onT ⟨a1,a2,a3,a4,a5,a6,a7,a8,nM,M,nG,G,nW,W⟩ (.slc 1 0 1 0 nM nM false) (.slc 2 0 3 0 nG nG false) (.slc 3 0 6 0 nW nW false) who 4 5 6 :: roM ⟨a1,a2,a3,a4,a5,a6,a7,a8,nM,M,nG,G,nW,W⟩ :: roG ⟨a1,a2,a3,a4,a5,a6,a7,a8,nM,M,nG,G,nW,W⟩ :: roW ⟨a1,a2,a3,a4,a5,a6,a7,a8,nM,M,nG,G,nW,W⟩ :: onR (.new who) 7,_,_,_,rfl,rfl,rfl,⟨?_, ?_⟩, ?_,rfl,rfl, ?_,rfl⟩
   ·exact wH
   ·refine ⟨?_,nilE_self _ _,nilE_self _ _,nilE_self _ _,nilE_self _ _,nilE_self _ _,nilE_self _ _,nilE_self _ _,trivial⟩
    refine ⟨.inl rfl,.inl rfl,.inl rfl,.inl rfl,.inl rfl,.inl rfl,.inl rfl,.inl rfl,.inl rfl, ?_, ?_,.inl rfl,.inl rfl,.inl rfl,.inl rfl,trivial⟩
    all_goals (first | exact .inl rfl | exact .inr ⟨rfl,rfl⟩)
   ·exact wH
   ·intro i j hi hj
    rcases i with _ | _ | _ | _ | i
    iterate 3
     cases hj; decide
    ·exact absurd rfl hi
    ·cases hj
  ·obtain rfl : nW = 0:=hz3 rfl
   refine ⟨[3,4,5,3,6,7,8,9],[0,1,2,3],onT ⟨a1,a2,a3,a4,a5,a6,a7,a8,nM,M,nG,G,0,W⟩ (.slc 1 0 1 0 nM nM false) (.slc 2 0 3 0 nG nG false) cNil who 4 5 6 :: roM ⟨a1,a2,a3,a4,a5,a6,a7,a8,nM,M,nG,G,0,W⟩ :: roG ⟨a1,a2,a3,a4,a5,a6,a7,a8,nM,M,nG,G,0,W⟩ :: roW ⟨a1,a2,a3,a4,a5,a6,a7,a8,nM,M,nG,G,0,W⟩ :: onR (.new who) 7,_,_,_,rfl,rfl,rfl,⟨?_, ?_⟩, ?_,rfl,rfl, ?_,rfl⟩
   ·exact wH
   ·refine ⟨?_,nilE_self _ _,nilE_self _ _,nilE_self _ _,nilE_self _ _,nilE_self _ _,nilE_self _ _,nilE_self _ _,trivial⟩
    refine ⟨.inl rfl,.inl rfl,.inl rfl,.inl rfl,.inl rfl,.inl rfl,.inl rfl,.inl rfl,.inl rfl, ?_, ?_,.inl rfl,.inl rfl,.inl rfl,.inl rfl,trivial⟩
    all_goals (first | exact .inl rfl | exact .inr ⟨rfl,rfl⟩)
   ·exact wH
   ·intro i j hi hj
    rcases i with _ | _ | _ | _ | i
    iterate 3
     cases hj; decide
    ·exact absurd rfl hi
    ·cases hj
  ·obtain rfl : nG = 0:=hz2 rfl
   refine ⟨[3,4,3,5,6,7,8,9],[0,1,2,3],onT ⟨a1,a2,a3,a4,a5,a6,a7,a8,nM,M,0,G,nW,W⟩ (.slc 1 0 1 0 nM nM false) cNil (.slc 3 0 6 0 nW nW false) who 4 5 6 :: roM ⟨a1,a2,a3,a4,a5,a6,a7,a8,nM,M,0,G,nW,W⟩ :: roG ⟨a1,a2,a3,a4,a5,a6,a7,a8,nM,M,0,G,nW,W⟩ :: roW ⟨a1,a2,a3,a4,a5,a6,a7,a8,nM,M,0,G,nW,W⟩ :: onR (.new who) 7,_,_,_,rfl,rfl,rfl,⟨?_, ?_⟩, ?_,rfl,rfl, ?_,rfl⟩
   ·exact wH
   ·refine ⟨?_,nilE_self _ _,nilE_self _ _,nilE_self _ _,nilE_self _ _,nilE_self _ _,nilE_self _ _,nilE_self _ _,trivial⟩
    refine ⟨.inl rfl,.inl rfl,.inl rfl,.inl rfl,.inl rfl,.inl rfl,.inl rfl,.inl rfl,.inl rfl, ?_, ?_,.inl rfl,.inl rfl,.inl rfl,.inl rfl,trivial⟩
    all_goals (first | exact .inl rfl | exact .inr ⟨rfl,rfl⟩)
   ·exact wH
   ·intro i j hi hj
    rcases i with _ | _ | _ | _ | i
    iterate 3
     cases hj; decide
    ·exact absurd rfl hi
    ·cases hj
  ·obtain rfl : nG = 0:=hz2 rfl
   obtain rfl : nW = 0:=hz3 rfl
   refine ⟨[3,4,3,3,5,6,7,8],[0,1,2,3],onT ⟨a1,a2,a3,a4,a5,a6,a7,a8,nM,M,0,G,0,W⟩ (.slc 1 0 1 0 nM nM false) cNil cNil who 4 5 6 :: roM ⟨a1,a2,a3,a4,a5,a6,a7,a8,nM,M,0,G,0,W⟩ :: roG ⟨a1,a2,a3,a4,a5,a6,a7,a8,nM,M,0,G,0,W⟩ :: roW ⟨a1,a2,a3,a4,a5,a6,a7,a8,nM,M,0,G,0,W⟩ :: onR (.new who) 7,_,_,_,rfl,rfl,rfl,⟨?_, ?_⟩, ?_,rfl,rfl, ?_,rfl⟩
   ·exact wH
   ·refine ⟨?_,nilE_self _ _,nilE_self _ _,nilE_self _ _,nilE_self _ _,nilE_self _ _,nilE_self _ _,nilE_self _ _,trivial⟩
    refine ⟨.inl rfl,.inl rfl,.inl rfl,.inl rfl,.inl rfl,.inl rfl,.inl rfl,.inl rfl,.inl rfl, ?_, ?_,.inl rfl,.inl rfl,.inl rfl,.inl rfl,trivial⟩
    all_goals (first | exact .inl rfl | exact .inr ⟨rfl,rfl⟩)
   ·exact wH
   ·intro i j hi hj
    rcases i with _ | _ | _ | _ | i
    iterate 3
     cases hj; decide
    ·exact absurd rfl hi
    ·cases hj
 ·obtain ⟨⟨m,c1,c2,c3,z2,z3⟩,who⟩:=p
  subst e2
  intro j ob0 hj hs
  cases z2 <;> cases z3 <;> rcases j with _ | _ | _ | _ | _ | _ | _ | _ | j <;> cases hj <;> exact hs.elim
abbrev schH (s : Sch) (cap : Nat) : Heap:=[schO (plC 1 s.n cap) s.cy s.a s.o s.is,rdT s.T s.n]
abbrev schQ (s : Sch) : Heap → Prop:=fun G=>∃ cap,G = schH s cap
theorem sch_le (s : Sch) (cap : Nat) : leH (sig (schH s cap) [0,1]) (schH s cap) [0,1] (schH s cap):=by
 exact wH
noncomputable abbrev tabSc1 : List (FuncId × Eng.Fn):=[(F.sched_Sched_Close,fn.sched_Sched_Close u0)]
theorem tabSc1_ok {d : Nat} : TabOk d tabSc1 tt:=.cons (ok.sched_Sched_Close u0) (TabOk.nil)
theorem sclose_run (s : Sch) (cap : Nat) : clRunX 5 tt outs0 tabSc1 2 F.sched_Sched_Close [] [pR 0] (schH s cap) (fun x h=>Trim 2 x h fun x h=>x = uR ∧ h = schH s.close cap):=by
 refine wB ?_
 refine Trim.det (Le.id rfl wH wH)
abbrev scloseC : Con (Sch × Nat):=DetCon (fun _=>[pR 0]) (fun p=>schH p.1 p.2) (fun _=>True) (fun _=>uR) fun p=>schH p.1.close p.2
theorem sclose_ok : ConOk Tryz.prog F.sched_Sched_Close scloseC:=con_of_run (clRunX_ok (d:=5) ttOk outs0_ok tabSc1_ok 2) (fn_enters (ok.sched_Sched_Close (D:=5) u0 _ (clRunX_ok (d:=5) ttOk .nil TabOk.nil 1))) fun p _=>sclose_run p.1 p.2
abbrev scloseB:=ExCon (ε:=Nat) (fun _ : Sch=>[]) (fun p e=>schH p e) (fun _=>True) (fun _=>uR) fun p e=>schH p.close e
theorem scloseB_ok : ConOk Tryz.prog F.sched_Sched_Close scloseB:=box_ex sclose_ok (fun _=>rfl) [0,1] rfl (fun _ _=>⟨_,_,rfl⟩) (fun _ _=>rfl) fun _ _=>sch_le _ _
noncomputable abbrev tabSc2 : List (FuncId × Eng.Fn):=[(F.sched_Sched_Begin,fn.sched_Sched_Begin u0),(F.sched_Sched_Close,fn.sched_Sched_Close u0)]
theorem tabSc2_ok {d : Nat} : TabOk d tabSc2 tt:=.cons (ok.sched_Sched_Begin u0) (.cons (ok.sched_Sched_Close u0) (TabOk.nil))
theorem sbegin_run (s : Sch) (cap : Nat) (c : Int) : clRunX 5 tt outs0 tabSc2 3 F.sched_Sched_Begin [] [pR 0,iv .i64 c] (schH s cap) (fun x h=>Trim 2 x h fun x h=>x = uR ∧ h = schH (s.begin c) cap):=by
 refine wB ?_
 refine Trim.det (Le.id rfl wH wH)
abbrev sbeginC : Con ((Sch × Int) × Nat):=DetCon (fun p=>[pR 0,iv .i64 p.1.2]) (fun p=>schH p.1.1 p.2) (fun _=>True) (fun _=>uR) fun p=>schH (p.1.1.begin p.1.2) p.2
theorem sbegin_ok : ConOk Tryz.prog F.sched_Sched_Begin sbeginC:=con_of_run (clRunX_ok (d:=5) ttOk outs0_ok tabSc2_ok 3) (fn_enters (ok.sched_Sched_Begin (D:=5) u0 _ (clRunX_ok (d:=5) ttOk .nil TabOk.nil 1))) fun p _=>sbegin_run p.1.1 p.2 p.1.2
abbrev sbeginB:=ExCon (ε:=Nat) (fun p : Sch × Int=>[iv .i64 p.2]) (fun p e=>schH p.1 e) (fun _=>True) (fun _=>uR) fun p e=>schH (p.1.begin p.2) e
theorem sbeginB_ok : ConOk Tryz.prog F.sched_Sched_Begin sbeginB:=box_ex sbegin_ok (fun _=>rfl) [0,1] rfl (fun _ _=>⟨_,_,rfl⟩) (fun _ _=>rfl) fun _ _=>sch_le _ _
noncomputable abbrev tabSc3 : List (FuncId × Eng.Fn):=[(F.sched_Sched_Over,fn.sched_Sched_Over u0)]
theorem tabSc3_ok {d : Nat} : TabOk d tabSc3 tt:=.cons (ok.sched_Sched_Over u0) (TabOk.nil)
theorem sover_run (s : Sch) (cap : Nat) (b : Int) : clRunX 5 tt outs0 tabSc3 2 F.sched_Sched_Over [] [pR 0,iv .i64 b] (schH s cap) (fun x h=>Trim 2 x h fun x h=>x = bv (s.over b) ∧ h = schH s cap):=by
 obtain ⟨T,n,cy,a,o,is⟩:=s
 cases is
 ·refine wB ?_
  refine Trim.det (Le.id rfl wH wH)
 ·refine wB ?_
  refine Trim.det (Le.id rfl wH wH)
abbrev soverC : Con ((Sch × Int) × Nat):=DetCon (fun p=>[pR 0,iv .i64 p.1.2]) (fun p=>schH p.1.1 p.2) (fun _=>True) (fun p=>bv (p.1.1.over p.1.2)) fun p=>schH p.1.1 p.2
theorem sover_ok : ConOk Tryz.prog F.sched_Sched_Over soverC:=con_of_run (clRunX_ok (d:=5) ttOk outs0_ok tabSc3_ok 2) (fn_enters (ok.sched_Sched_Over (D:=5) u0 _ (clRunX_ok (d:=5) ttOk .nil TabOk.nil 1))) fun p _=>sover_run p.1.1 p.2 p.1.2
abbrev soverB:=ExCon (ε:=Nat) (fun p : Sch × Int=>[iv .i64 p.2]) (fun p e=>schH p.1 e) (fun _=>True) (fun p=>bv (p.1.over p.2)) fun p e=>schH p.1 e
theorem soverB_ok : ConOk Tryz.prog F.sched_Sched_Over soverB:=box_ex sover_ok (fun _=>rfl) [0,1] rfl (fun _ _=>⟨_,_,rfl⟩) (fun _ _=>rfl) fun _ _=>sch_le _ _
abbrev trT (t : Trg) : T:=.agg [.c (iC t.kind),.c (iC t.at_),.c (iC t.cyc),.c (iC t.rep),.c (iC t.msg),.c (iC t.til)]
noncomputable abbrev tabSc4 : List (FuncId × Eng.Fn):=[(F.sched_Sched_Open,fn.sched_Sched_Open u0)]
theorem tabSc4_ok {d : Nat} : TabOk d tabSc4 tt:=.cons (ok.sched_Sched_Open u0) (TabOk.nil)
theorem sopen_run (s : Sch) (cap : Nat) : clRunX 5 tt outs0 tabSc4 2 F.sched_Sched_Open [] [pR 0] (schH s cap) (fun x h=>Trim 2 x h fun x h=>x = .tup [trT s.o,.one (.v (.bool s.is))] ∧ h = schH s cap):=by
 refine wB ?_
 refine Trim.det (Le.id rfl wH wH)
abbrev sopenC : Con (Sch × Nat):=DetCon (fun p=>[pR 0]) (fun p=>schH p.1 p.2) (fun _=>True) (fun p=>.tup [trT p.1.o,.one (.v (.bool p.1.is))]) fun p=>schH p.1 p.2
theorem sopen_ok : ConOk Tryz.prog F.sched_Sched_Open sopenC:=con_of_run (clRunX_ok (d:=5) ttOk outs0_ok tabSc4_ok 2) (fn_enters (ok.sched_Sched_Open (D:=5) u0 _ (clRunX_ok (d:=5) ttOk .nil TabOk.nil 1))) fun p _=>sopen_run p.1 p.2
abbrev sopenB:=ExCon (ε:=Nat) (fun _ : Sch=>[]) (fun p e=>schH p e) (fun _=>True) (fun p=>.tup [trT p.o,.one (.v (.bool p.is))]) fun p e=>schH p e
theorem sopenB_ok : ConOk Tryz.prog F.sched_Sched_Open sopenB:=box_ex sopen_ok (fun _=>rfl) [0,1] rfl (fun _ _=>⟨_,_,rfl⟩) (fun _ _=>rfl) fun _ _=>sch_le _ _
abbrev statH (t : Tb) : Heap:=[ownN 1 t.n,rowN t]
abbrev statQ (t : Tb) : Heap → Prop:=fun G=>G = statH t
theorem stat_le (t : Tb) : leH (sig (statH t) [0,1]) (statH t) [0,1] (statH t):=by
 exact wH
abbrev sbadC : Con (Tb × Int):=DetCon (fun p=>[pR 0,iv .i64 p.2]) (fun p=>statH p.1) (fun p=>p.1.Ok) (fun _=>uR) fun p=>statH (chg p.1 p.2 1)
theorem sbad_ok : ConOk Tryz.prog F.status_Table_Bad sbadC:=con_of_cx (ask_ok bad_ok) bad_ok.1 fun p hp=>by
 refine .det p [1,0] uR (statH (chg p.1 p.2 1)) hp rfl ?_ ?_ rfl rfl ?_
 ·exact wH
 ·exact wH
 refine Trim.det (Le.id rfl wH wH)
abbrev sgoodC : Con (Tb × Int):=DetCon (fun p=>[pR 0,iv .i64 p.2]) (fun p=>statH p.1) (fun p=>p.1.Ok) (fun _=>uR) fun p=>statH (chg p.1 p.2 (-1))
theorem sgood_ok : ConOk Tryz.prog F.status_Table_Good sgoodC:=con_of_cx (ask_ok good_ok) good_ok.1 fun p hp=>by
 refine .det p [1,0] uR (statH (chg p.1 p.2 (-1))) hp rfl ?_ ?_ rfl rfl ?_
 ·exact wH
 ·exact wH
 refine Trim.det (Le.id rfl wH wH)
abbrev slevC : Con (Tb × Bool × Bool):=DetCon (fun p=>[pR 0,bv p.2.1,bv p.2.2]) (fun p=>statH p.1) (fun p=>p.1.Ok) (fun p=>iv .i64 (levelN p.1 p.2.1 p.2.2)) fun p=>statH p.1
theorem slev_ok : ConOk Tryz.prog F.level_Of slevC:=con_of_cx (ask_ok of_ok) of_ok.1 fun p hp=>by
 refine .det p [1,0] (iv .i64 (levelN p.1 p.2.1 p.2.2)) (statH p.1) hp rfl ?_ ?_ rfl rfl ?_
 ·exact wH
 ·exact wH
 refine Trim.det (Le.id rfl wH wH)
abbrev snewC : Con Int:=DetCon (fun p=>[iv .i64 p]) (fun _=>[]) (fun _=>True) (fun p=>pR 0) fun p=>statH (newT p)
theorem snew_ok : ConOk Tryz.prog F.status_New snewC:=con_of_cx (ask_ok new_ok) new_ok.1 fun p hp=>by
 refine .det p [] (.t (.one (.ptr 1 0))) (tabH (newT p)) hp rfl ?_ ?_ rfl rfl ?_
 ·exact wH
 ·exact wH
 refine Trim.det (Le.nm [1,0] rfl wH wH)
abbrev sbadB:=BsCon (fun p : Tb × Int=>[iv .i64 p.2]) (fun p=>statH p.1) (fun p=>p.1.Ok) (fun _=>uR) fun p=>statH (chg p.1 p.2 1)
theorem sbadB_ok : ConOk Tryz.prog F.status_Table_Bad sbadB:=box_same sbad_ok (fun _=>rfl) [0,1] rfl (fun _=>⟨_,_,rfl⟩) (fun _=>rfl) fun _=>stat_le _
abbrev sgoodB:=BsCon (fun p : Tb × Int=>[iv .i64 p.2]) (fun p=>statH p.1) (fun p=>p.1.Ok) (fun _=>uR) fun p=>statH (chg p.1 p.2 (-1))
theorem sgoodB_ok : ConOk Tryz.prog F.status_Table_Good sgoodB:=box_same sgood_ok (fun _=>rfl) [0,1] rfl (fun _=>⟨_,_,rfl⟩) (fun _=>rfl) fun _=>stat_le _
abbrev slevB:=BsCon (fun p : Tb × Bool × Bool=>[bv p.2.1,bv p.2.2]) (fun p=>statH p.1) (fun p=>p.1.Ok) (fun p=>iv .i64 (levelN p.1 p.2.1 p.2.2)) fun p=>statH p.1
theorem slevB_ok : ConOk Tryz.prog F.level_Of slevB:=box_same slev_ok (fun _=>rfl) [0,1] rfl (fun _=>⟨_,_,rfl⟩) (fun _=>rfl) fun _=>stat_le _
abbrev snewB:=BxNew (γ:=Unit) (fun p : Int=>[iv .i64 p]) (fun _=>[]) (fun _=>True) (fun _ _=>True) (fun _ _=>pR 0) (fun p _=>statQ (newT p)) (fun _ _=>[]) fun _ _=>[]
theorem snewB_ok : ConOk Tryz.prog F.status_New snewB:=by
 refine box_new snew_ok fun p _=>⟨p,trivial,rfl,rfl,fun x h' ⟨e1,e2⟩=>⟨(),trivial, ?_, ?_,rfl⟩⟩
 ·subst e1; subst e2
  refine ⟨[0,1],[0],_,_,_,_,rfl,rfl,rfl,⟨stat_le _,nilH_self _ _⟩,⟨trivial,trivial⟩,rfl,rfl, ?_,rfl⟩
  intro i j hi hj
  rcases i with _ | i
  ·exact absurd rfl hi
  ·cases hj
 ·subst e2
  intro j ob0 hj hs
  rcases j with _ | _ | j <;> cases hj <;> exact hs.elim
abbrev outsSn : List (FuncId × Cx):=[(F.plan_Plan,AskC planC)]
theorem outsSn_ok : OutsOk Tryz.prog outsSn:=.cons (ask_ok plan_ok) .nil
noncomputable abbrev tabSn : List (FuncId × Eng.Fn):=[(F.sched_New,fn.sched_New u0)]
theorem tabSn_ok {d : Nat} : TabOk d tabSn tt:=.cons (ok.sched_New u0) (TabOk.nil)
theorem scnew_run (m : Mat) (c : Caps) (who : Int) (hm : m.Ok) (hc : capsOk m c) (hw : I64 who) (h0 : (chk m).2 = 0) (n : Nat) (hn : (rowL0 m who).length = n) (P : Nat → Trg) (hP : planF m who = P) :
    clRunX 5 tt outsSn tabSn 2 F.sched_New [] [matT m c 0 1 2, iv .i64 who] (matH m []) (fun x h => Trim 3 x h fun x h => ∃ q, n ≤ q ∧ x = pR 3 ∧ h = matH m [schO (plC 4 n q) 0 (-1) trg0 false, rowT P n q]) := by
  refine wB ?_
  refine plan_ask [0, 1, 2] n P hm hc hw h0 hn hP rfl ?_ ?_ (fun cap hcap => ?_)
  · exact wH
  · exact wH
  refine wB ?_
  refine Trim.fam cap hcap ?_
  refine Le.nm [0, 1, 2, 5, 4] rfl ?_ ?_
  · exact wH
  · exact wH
abbrev scnewC : Con (Mat × Caps × Int):=FamCon (β:=Nat) (fun p=>[matT p.1 p.2.1 0 1 2,iv .i64 p.2.2]) (fun p=>matH p.1 []) (fun p=>p.1.Ok ∧ capsOk p.1 p.2.1 ∧ I64 p.2.2 ∧ (chk p.1).2 = 0) (fun p q=>(rowL0 p.1 p.2.2).length ≤ q) (fun p q=>pR 3) (fun p q=>matH p.1 [schO (plC 4 (rowL0 p.1 p.2.2).length q) 0 (-1) trg0 false,rowT (planF p.1 p.2.2) (rowL0 p.1 p.2.2).length q])
theorem scnew_ok : ConOk Tryz.prog F.sched_New scnewC:=con_of_run (clRunX_ok (d:=5) ttOk outsSn_ok tabSn_ok 2) (fn_enters (ok.sched_New (D:=5) u0 _ (clRunX_ok (d:=5) ttOk .nil TabOk.nil 1))) fun p hp=>scnew_run p.1 p.2.1 p.2.2 hp.1 hp.2.1 hp.2.2.1 hp.2.2.2 _ rfl _ rfl
abbrev scnewB:=BxNew (γ:=Unit) (fun p : Mat × Caps × Int=>[matT p.1 p.2.1 0 1 2,iv .i64 p.2.2]) (fun p=>matH p.1 []) (fun p=>p.1.Ok ∧ capsOk p.1 p.2.1 ∧ I64 p.2.2 ∧ (chk p.1).2 = 0) (fun _ _=>True) (fun _ _=>pR 3) (fun p _=>schQ (.new (planF p.1 p.2.2) (rowL0 p.1 p.2.2).length)) (fun p _=>matH p.1 []) fun _ _=>[]
theorem scnewB_ok : ConOk Tryz.prog F.sched_New scnewB:=by
 refine box_new scnew_ok fun p hp=>⟨p,hp,rfl,rfl,fun x h' ⟨q,hq,e1,e2⟩=>⟨(),trivial, ?_, ?_,rfl⟩⟩
 ·subst e1; subst e2
  refine ⟨[3,4],[0,1,2,3],_,_,_,_,⟨q,rfl⟩,rfl,rfl,⟨?_,nilH_self _ _⟩, ?_,rfl,rfl, ?_,rfl⟩
  ·exact wH
  ·exact wH
  ·intro i j hi hj
   rcases i with _ | _ | _ | _ | i
   iterate 3
    cases hj; decide
   ·exact absurd rfl hi
   ·cases hj
 ·subst e2
  intro j ob0 hj hs
  rcases j with _ | _ | j <;> cases hj <;> exact hs.elim
abbrev snowB:=BxCon (γ:=Unit) (fun p : Sch × Int=>[iv .i64 p.2]) (fun p=>schQ p.1) (fun p=>p.1.Ok) (fun _ _=>True) (fun p _=>if p.2 < p.1.a then nilS else slT 1 (p.1.due p.2).length p.1.n false) (fun p _=>schQ (p.1.now p.2))
 fun p _=>if p.2 < p.1.a then [] else [rowT (at0L (p.1.due p.2)) p.1.n p.1.n]
theorem snowB_ok : ConOk Tryz.prog F.sched_Sched_Now snowB:=by
 refine box_fam now_ok (fun _=>rfl) fun p hp G ⟨cap,hG⟩=>?_
 obtain ⟨⟨T,n,cy,a,o,is⟩,b⟩:=p
 subst hG
 refine ⟨.plan T n cap cy a o is b,⟨hp.n,hp.cy⟩,rfl,rfl,fun x h' ⟨e1,e2⟩=>⟨(),trivial, ?_⟩⟩
 have e1 : x = if b < a then nilS else slT 2 (dueL T cy a b n).length n false:=e1
 have e2 : h' = if b < a then [schO (plC 1 n cap) cy a o is,rdT T n] else [schO (plC 1 n cap) cy b (opnT (at0L (dueL T cy a b n)) o (dueL T cy a b n).length) (opnB (at0L (dueL T cy a b n)) is (dueL T cy a b n).length),rdT T n,rowT (at0L (dueL T cy a b n)) n n]:=e2
 by_cases h : b < a
 ·rw [if_pos h] at e1 e2
  subst e1; subst e2
  simp only [Sch.now,Sch.due,if_pos h]
  refine ⟨[0,1],[0],_,_,_,_,⟨cap,rfl⟩,rfl,rfl,⟨?_,nilH_self _ _⟩, ?_,rfl,rfl, ?_,rfl⟩
  ·exact wH
  ·exact wH
  ·intro i j hi hj
   rcases i with _ | i
   ·exact absurd rfl hi
   ·cases hj
 ·rw [if_neg h] at e1 e2
  subst e1; subst e2
  simp only [Sch.now,Sch.due,if_neg h]
  refine ⟨[0,1],[0,2],_,_,_,_,⟨cap,rfl⟩,rfl,rfl,⟨?_,nilH_self _ _⟩, ?_,rfl,rfl, ?_,rfl⟩
  ·exact wH
  ·exact wH
  ·intro i j hi hj
   rcases i with _ | _ | i
   ·exact absurd rfl hi
   ·cases hj; decide
   ·cases hj
def findM (m : Mat) (f : Frm) : Int:=if f.ext || f.rtr then -1 else find m f.id
abbrev fndC : Con (Mat × Caps × Frm):=RoCon (fun p=>[matT p.1 p.2.1 0 1 2,frmR p.2.2]) (fun p=>matH p.1 []) (fun p=>p.1.Ok) fun p=>iv .i64 (findM p.1 p.2.2)
noncomputable abbrev tabFd : List (FuncId × Eng.Fn):=[(F.matrix_Find,fn.matrix_Find u0),(F.matrix_Find_1,fn.matrix_Find_1 u0),(F.slices_IndexFunc_Message,fn.slices_IndexFunc_Message u0)]
theorem tabFd_ok {d : Nat} : TabOk d tabFd tt:=.cons (ok.matrix_Find u0) (.cons (ok.matrix_Find_1 u0) (.cons (ok.slices_IndexFunc_Message u0) (TabOk.nil)))
theorem fnd_run (m : Mat) (c : Caps) (f : Frm) (hm : m.Ok) : clRunX 5 tt outs0 tabFd 4 F.matrix_Find [] [matT m c 0 1 2,frmR f] (matH m []) (fun x h=>Trim 3 x h fun x h=>x = iv .i64 (findM m f) ∧ h = matH m []):=by
 have hnG:=hm.nG
 obtain ⟨ext,id,rtr,data⟩:=f
 cases ext
 ·cases rtr
  ·rw [show findM m ⟨false,id,false,data⟩ = find m id from rfl]
   refine wB ?_
   refine .rd (fun i : Nat=>i ≤ m.nG ∧ ∀ j,j < i → ¬ (m.G j).id = (id : Int)) (fun i=>[(8,iv .i64 i)]) (fun i=>m.nG - i) 0 ⟨Nat.zero_le _,all_0⟩ ?_ (fun i ⟨hi,hp⟩=>?_)
   ·conv=>whnf
    refine Le.id rfl ?_ ?_<;>repeat'(first|exact wZ|refine And.intro ?_ ?_)
   conv=>whnf
   refine cD (fun h5=>?_) (fun h5=>?_)
   ·refine wB ?_
    try rw [zi i]
    refine cD (fun h6=>?_) (fun h6=>?_)
    ·refine wB ?_
     exact trimM rfl (congrArg (iv .i64) (first_some (by omega) (fun q hq=>decide_eq_false (hp q hq)) (decide_eq_true h6)).symm)
    ·refine wB ?_
     refine ⟨i + 1,⟨⟨by omega,all_up hp h6⟩,by omega⟩, ?_⟩
     conv=>whnf
     refine Le.id rfl ?_ ?_<;>repeat'(first|exact wZ|refine And.intro ?_ ?_)
   obtain rfl : i = m.nG:=by omega
   refine wB ?_
   exact trimM rfl (congrArg (iv .i64) (first_none fun j hj=>decide_eq_false (hp j hj)).symm)
  ·refine wB ?_
   exact trimM rfl rfl
 ·cases rtr
  ·refine wB ?_
   exact trimM rfl rfl
  ·refine wB ?_
   exact trimM rfl rfl
theorem fnd_ok : ConOk Tryz.prog F.matrix_Find fndC:=con_of_run (clRunX_ok (d:=5) ttOk outs0_ok tabFd_ok 4) (fn_enters (ok.matrix_Find (D:=5) u0 _ (clRunX_ok (d:=5) ttOk .nil TabOk.nil 1))) fun p hp=>fnd_run p.1 p.2.1 p.2.2 hp
def frOk (m : Mat) (msg : Int) (s : ByteArray) : Bool:=there m msg && decide (s.size ≤ 8)
abbrev mfrV (m : Mat) (msg : Int) (s : ByteArray) : R:=if frOk m msg s then .tup [.agg [.c (bC false),.c (uC (m.G msg.toNat).id),.c (bC false),.c (.v (.string s))],.one (.v (.bool true))] else .tup [.agg [.c (bC false),.c (uC 0),.c (bC false),.c (.v (.string .empty))],.one (.v (.bool false))]
abbrev mfrC : Con (Mat × Caps × Int × ByteArray):=RoCon (fun p=>[matT p.1 p.2.1 0 1 2,iv .i64 p.2.2.1,sv p.2.2.2]) (fun p=>matH p.1 []) (fun p=>p.1.Ok) fun p=>mfrV p.1 p.2.2.1 p.2.2.2
noncomputable abbrev tabMfr : List (FuncId × Eng.Fn):=[(F.matrix_Frame,fn.matrix_Frame u0)]
theorem tabMfr_ok {d : Nat} : TabOk d tabMfr tt:=.cons (ok.matrix_Frame u0) (TabOk.nil)
theorem mfr_run (m : Mat) (c : Caps) (msg : Int) (s : ByteArray) (hm : m.Ok) : clRunX 5 tt outs0 tabMfr 2 F.matrix_Frame [] [matT m c 0 1 2,iv .i64 msg,sv s] (matH m []) (fun x h=>Trim 3 x h fun x h=>x = mfrV m msg s ∧ h = matH m []):=by
 by_cases h1 : msg < 0
 ·have ht : frOk m msg s = false:=by unfold frOk there; rw [decide_eq_false (by omega)]; rfl
  rw [mfrV,ht]
  refine wB ?_
  exact trimM rfl rfl
 obtain ⟨k,rfl⟩ : ∃ k : Nat,msg = k:=⟨msg.toNat,by omega⟩
 by_cases h2 : k < m.nG
 ·by_cases h3 : s.size ≤ 8
  ·have ht : frOk m k s = true:=by unfold frOk there; rw [decide_eq_true (by omega),decide_eq_true h3]; rfl
   have z0 : 0 + ((k : Int)).toNat = k:=by omega
   have z1 : ((k : Int)).toNat = k:=by omega
   rw [mfrV,ht,z1]
   refine wB ?_
   rw [z0]
   refine wB ?_
   exact trimM rfl rfl
  ·have ht : frOk m k s = false:=by unfold frOk; rw [decide_eq_false h3,Bool.and_false]
   rw [mfrV,ht]
   refine wB ?_
   exact trimM rfl rfl
 ·have ht : frOk m k s = false:=by unfold frOk there; rw [decide_eq_false (by omega)]; rfl
  rw [mfrV,ht]
  refine wB ?_
  exact trimM rfl rfl
theorem mfr_ok : ConOk Tryz.prog F.matrix_Frame mfrC:=con_of_run (clRunX_ok (d:=5) ttOk outs0_ok tabMfr_ok 2) (fn_enters (ok.matrix_Frame (D:=5) u0 _ (clRunX_ok (d:=5) ttOk .nil TabOk.nil 1))) fun p hp=>mfr_run p.1 p.2.1 p.2.2.1 p.2.2.2 hp
end Go.Proofs.YtlckbdhpehkeoaaGreat.Co
