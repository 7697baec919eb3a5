/- Parts. -/
import Derived.Test.YtlckbdhpehkeoaaGreatJ05
import Derived.Test.YtlckbdhpehkeoaaGreatJ08
namespace Go.Proofs.YtlckbdhpehkeoaaGreat.Co
open Go Go.Eng Go.Proofs Go.Proofs.YtlckbdhpehkeoaaGreat.Tb Go.Pu
set_option maxRecDepth 100000
set_option maxHeartbeats 8000000
abbrev schO (pl : C) (cy a : Int) (o : Trg) (is : Bool) : HE:=.ob (.own [.c pl,.c (iC cy),.c (iC a),.c (iC o.kind),.c (iC o.at_),.c (iC o.cyc),.c (iC o.rep),.c (iC o.msg),.c (iC o.til),.c (.v (.bool is))])
abbrev plC (b n cap : Nat) : C:=.slc b 0 6 0 n cap false
abbrev outsNw : List (FuncId × Cx):=[(F.plan_Due,AskC dueC)]
theorem outsNw_ok : OutsOk Tryz.prog outsNw:=.cons (ask_ok due_ok) .nil
noncomputable abbrev tabNw : List (FuncId × Eng.Fn):=[(F.sched_Sched_Now,fn.sched_Sched_Now u0)]
theorem tabNw_ok {d : Nat} : TabOk d tabNw tt:=.cons (ok.sched_Sched_Now u0) (TabOk.nil)
theorem now_run (T : Nat → Trg) (n cap : Nat) (cy a b : Int) (o : Trg) (is : Bool) (hn : n ≤ 100) (hcy : I64 cy) : clRunX 6 tt outsNw tabNw 2 F.sched_Sched_Now [] [.t (.one (.ptr 0 0)),iv .i64 b] [schO (plC 1 n cap) cy a o is,rdT T n] (fun x h=>Trim 2 x h fun x h=>x = (if b < a then nilS else slT 2 (dueL T cy a b n).length n false) ∧ h = (if b < a then [schO (plC 1 n cap) cy a o is,rdT T n] else [schO (plC 1 n cap) cy b (opnT (at0L (dueL T cy a b n)) o (dueL T cy a b n).length) (opnB (at0L (dueL T cy a b n)) is (dueL T cy a b n).length),rdT T n,rowT (at0L (dueL T cy a b n)) n n])):=by
 refine wB ?_
 refine cD (fun h1=>?_) (fun h1=>?_)
 ·refine wB ?_
  refine Trim.det ?_
  rw [if_pos h1,if_pos h1]
  exact wF
 rw [if_neg h1,if_neg h1]
 have hl:=dueL_len T cy a b n
 refine wB ?_
 refine .det (T,n,cap,false,cy,a,b) [1] (slT 2 (dueL T cy a b n).length n false) [schO (plC 1 n cap) cy a o is,rdT T n,rowT (at0L (dueL T cy a b n)) n n] ⟨hn,hcy⟩ rfl ?_ ?_ rfl rfl ?_
 ·exact wH
 ·exact wH
 generalize at0L (dueL T cy a b n) = D
 generalize (dueL T cy a b n).length = k at *
 refine wB ?_
 refine .inv (fun i : Nat=>i ≤ k) (fun i=>[(34,iv .i64 i)]) (fun i=>[schO (plC 1 n cap) cy b (opnT D o i) (opnB D is i),rdT T n,rowT D n n]) (fun i=>k - i) 0 (Nat.zero_le _) ?_ (fun i hi=>?_)
 ·exact wF
 have eT:=opn_T D o i
 have eTN:=opn_TN D o i
 have eB:=opn_B D is i
 have eBN:=opn_BN D is i
 generalize hx : opnT D o i = x at *
 generalize hy : opnB D is i = y at *
 conv=>whnf
 refine cD (fun h5=>?_) (fun h5=>?_)
 ·have z0 : 0 + ((i : Int)).toNat = i:=by omega
  refine wB ?_
  rw [z0]
  by_cases hs : sndB (D i) = true
  ·have eT:=eT hs
   have eB:=eB hs
   have hk:=of_decide_eq_true hs
   rcases hk with hk | hk
   ·refine wB ?_
    refine ⟨i + 1,⟨by omega,by omega⟩, ?_⟩
    rw [eT,eB]
    exact wF
   ·refine wB ?_
    try rw [z0]
    refine wB ?_
    refine ⟨i + 1,⟨by omega,by omega⟩, ?_⟩
    rw [eT,eB]
    exact wF
  ·have eT:=eTN hs
   have eB:=eBN hs
   have hk : ¬ ((D i).kind = 1 ∨ (D i).kind = 2):=fun h=>hs (decide_eq_true h)
   refine wB ?_
   try rw [z0]
   refine wB ?_
   refine ⟨i + 1,⟨by omega,by omega⟩, ?_⟩
   rw [eT,eB]
   exact wF
 obtain rfl : i = k:=by omega
 refine wB ?_
 refine Trim.det ?_
 rw [hx,hy]
 exact wF
inductive NowP where
 | plan (T : Nat → Trg) (n cap : Nat) (cy a : Int) (o : Trg) (is : Bool) (b : Int)
 | non (cy a : Int) (o : Trg) (is : Bool) (b : Int)
def NowP.H : NowP → Heap
 | .plan T n cap cy a o is _=>[schO (plC 1 n cap) cy a o is,rdT T n]
 | .non cy a o is _=>[schO (.v (.slice none 0 0)) cy a o is]
def NowP.X : NowP → List R
 | .plan _ _ _ _ _ _ _ b=>[.t (.one (.ptr 0 0)),iv .i64 b]
 | .non _ _ _ _ b=>[.t (.one (.ptr 0 0)),iv .i64 b]
def NowP.ok : NowP → Prop
 | .plan _ n _ cy _ _ _ _=>n ≤ 100 ∧ I64 cy
 | .non cy _ _ _ _=>I64 cy
def NowP.F : NowP → R
 | .plan T n _ cy a _ _ b=>if b < a then nilS else slT 2 (dueL T cy a b n).length n false
 | .non _ a _ _ b=>if b < a then nilS else slT 1 0 0 false
def NowP.H' : NowP → Heap
 | .plan T n cap cy a o is b=>if b < a then [schO (plC 1 n cap) cy a o is,rdT T n] else [schO (plC 1 n cap) cy b (opnT (at0L (dueL T cy a b n)) o (dueL T cy a b n).length) (opnB (at0L (dueL T cy a b n)) is (dueL T cy a b n).length),rdT T n,rowT (at0L (dueL T cy a b n)) n n]
 | .non cy a o is b=>if b < a then [schO (.v (.slice none 0 0)) cy a o is] else [schO (.v (.slice none 0 0)) cy b o is,rowT (at0L []) 0 0]
abbrev nowC : Con NowP:=DetCon NowP.X NowP.H NowP.ok NowP.F NowP.H'
theorem now_runN (cy a b : Int) (o : Trg) (is : Bool) (hcy : I64 cy) : clRunX 6 tt outsNw tabNw 2 F.sched_Sched_Now [] [.t (.one (.ptr 0 0)),iv .i64 b] [schO (.v (.slice none 0 0)) cy a o is] (fun x h=>Trim 1 x h fun x h=>x = (if b < a then nilS else slT 1 0 0 false) ∧ h = (if b < a then [schO (.v (.slice none 0 0)) cy a o is] else [schO (.v (.slice none 0 0)) cy b o is,rowT (at0L []) 0 0])):=by
 refine wB ?_
 refine cD (fun h1=>?_) (fun h1=>?_)
 ·refine wB ?_
  refine Trim.det ?_
  rw [if_pos h1,if_pos h1]
  exact wF
 rw [if_neg h1,if_neg h1]
 refine wB ?_
 refine .det (fun _=>trg0,0,0,true,cy,a,b) [0] (slT 1 0 0 false) [schO (.v (.slice none 0 0)) cy a o is,rowT (at0L []) 0 0] ⟨Nat.zero_le _,hcy⟩ rfl ?_ ?_ rfl rfl ?_
 ·exact wH
 ·exact wH
 refine wB ?_
 refine .rd (fun _ : Unit=>True) (fun _=>[(34,iv .i64 0)]) (fun _=>0) () trivial ?_ (fun _ _=>?_)
 ·exact wF
 refine wB ?_
 refine Trim.det ?_
 exact wF
theorem now_runs (p : NowP) (hp : p.ok) : clRunX 6 tt outsNw tabNw 2 F.sched_Sched_Now [] p.X p.H (fun x h=>Trim p.H.length x h fun x h=>x = p.F ∧ h = p.H'):=by
 cases p with
 | plan T n cap cy a o is b=>exact now_run T n cap cy a b o is hp.1 hp.2
 | non cy a o is b=>exact now_runN cy a b o is hp
theorem now_ok : ConOk Tryz.prog F.sched_Sched_Now nowC:=con_of_run (clRunX_ok (d:=6) ttOk outsNw_ok tabNw_ok 2) (fn_enters (ok.sched_Sched_Now (D:=6) u0 _ (clRunX_ok (d:=6) ttOk .nil TabOk.nil 1))) fun p hp=>now_runs p hp
end Go.Proofs.YtlckbdhpehkeoaaGreat.Co
