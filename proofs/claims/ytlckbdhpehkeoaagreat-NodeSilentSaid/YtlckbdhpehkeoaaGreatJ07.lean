/- Parts. -/
import Derived.Test.YtlckbdhpehkeoaaGreatJ03
import Derived.Test.YtlckbdhpehkeoaaGreatJ05
import Derived.Test.YtlckbdhpehkeoaaGreatJ06
namespace Go.Proofs.YtlckbdhpehkeoaaGreat.Co
open Go Go.Eng Go.Proofs Go.Proofs.YtlckbdhpehkeoaaGreat.Tb Go.Pu
set_option maxRecDepth 100000
set_option maxHeartbeats 8000000
def pairR (p : Int × Int) : R:=.tup [.one (iC p.1),.one (iC p.2)]
structure SlI where
 N : Nat
 n : Nat
 cap : Nat
 nl : Bool
 f : Nat → Int
abbrev sliX (s : SlI) : R:=.t (.one (.slc 0 0 1 0 s.n s.cap s.nl))
abbrev sliH (s : SlI) : Heap:=[.ob (.ro 1 s.N fun i=>[iC (s.f i)])]
theorem trimI {s : SlI} {x F : R} {g : Heap} (hp : plR x = true) (e : x = F) : Trim 1 x (.ob (.ro 1 s.N fun i=>[iC (s.f i)]) :: g) (fun x h=>x = F ∧ h = sliH s) :=
 .ro (h':=sliH s) ⟨⟨[0],rfl,⟨⟨.inl rfl,Nat.le_refl _,fun _ _=>rfl⟩,trivial⟩,by show leR _ x x; unfold leR; cases x <;> first | trivial | exact (plR_ren hp).symm⟩⟩ ⟨e,rfl⟩
abbrev indexC : Con (SlI × Int):=RoCon (fun p=>[sliX p.1,iv .i64 p.2]) (fun p=>sliH p.1) (fun p=>p.1.n ≤ p.1.N ∧ p.1.N ≤ 9223372036854775807) fun p=>iv .i64 (first p.1.n fun i=>decide (p.2 = p.1.f i))
noncomputable abbrev tabIx : List (FuncId × Eng.Fn):=[(F.slices_Index_int,fn.slices_Index_int u0)]
theorem tabIx_ok {d : Nat} : TabOk d tabIx tt:=.cons (ok.slices_Index_int u0) (TabOk.nil)
theorem index_run (s : SlI) (v : Int) (hs : s.n ≤ s.N ∧ s.N ≤ 9223372036854775807) : clRunX 5 tt outs0 tabIx 2 F.slices_Index_int [] [sliX s,iv .i64 v] (sliH s) (fun x h=>Trim 1 x h fun x h=>x = iv .i64 (first s.n fun i=>decide (v = s.f i)) ∧ h = sliH s):=by
 conv=>whnf
 refine .rd (fun i : Nat=>i ≤ s.n ∧ ∀ j,j < i → ¬ v = s.f j) (fun i=>[(8,iv .i64 i)]) (fun i=>s.n - i) 0 ⟨Nat.zero_le _,all_0⟩ ?_ (fun i ⟨hi,hp⟩=>?_)
 ·conv=>whnf
  refine Le.id rfl ?_ ?_<;>repeat'(first|exact wZ|refine And.intro ?_ ?_)
 conv=>whnf
 refine cD (fun h5=>?_) (fun h5=>?_)
 ·refine wA ?_
  conv=>whnf
  try rw [zi i]
  refine cD (fun h6=>?_) (fun h6=>?_)
  ·conv=>whnf
   exact trimI rfl (congrArg (iv .i64) (first_some (by omega) (fun q hq=>decide_eq_false (hp q hq)) (decide_eq_true h6)).symm)
  ·refine wA ?_
   conv=>whnf
   refine ⟨i + 1,⟨⟨by omega,all_up hp h6⟩,by omega⟩, ?_⟩
   conv=>whnf
   refine Le.id rfl ?_ ?_<;>repeat'(first|exact wZ|refine And.intro ?_ ?_)
 obtain rfl : i = s.n:=by omega
 conv=>whnf
 exact trimI rfl (congrArg (iv .i64) (first_none fun j hj=>decide_eq_false (hp j hj)).symm)
theorem index_ok : ConOk Tryz.prog F.slices_Index_int indexC:=con_of_run (clRunX_ok (d:=5) ttOk outs0_ok tabIx_ok 2) (fn_enters (ok.slices_Index_int (D:=5) u0 _ (clRunX_ok (d:=5) ttOk .nil TabOk.nil 1))) fun p hp=>index_run p.1 p.2 hp
theorem index_use {N n cap : Nat} {nl : Bool} {f : Nat → Int} {v : Int} {a : Nat} {h : Heap} {K : R → Heap → Prop} (hs : n ≤ N ∧ N ≤ 9223372036854775807) (hH : leH (sig h [a]) h [a] (sliH ⟨N,n,cap,nl,f⟩)) (hk : K (iv .i64 (first n fun i=>decide (v = f i))) h) : AskC indexC [.t (.one (.slc a 0 1 0 n cap nl)),iv .i64 v] h K :=
 .use (⟨N,n,cap,nl,f⟩,v) [a] hs rfl hH ⟨.inl rfl,.inl rfl,trivial⟩ hk
abbrev containsC : Con (SlI × Int):=RoCon (fun p=>[sliX p.1,iv .i64 p.2]) (fun p=>sliH p.1) (fun p=>p.1.n ≤ p.1.N ∧ p.1.N ≤ 9223372036854775807) fun p=>bv (anyB p.1.n fun i=>decide (p.2 = p.1.f i))
theorem contains_use {N n cap : Nat} {nl : Bool} {f : Nat → Int} {v : Int} {a : Nat} {h : Heap} {K : R → Heap → Prop} (hs : n ≤ N ∧ N ≤ 9223372036854775807) (hH : leH (sig h [a]) h [a] (sliH ⟨N,n,cap,nl,f⟩)) (hk : K (bv (anyB n fun i=>decide (v = f i))) h) : AskC containsC [.t (.one (.slc a 0 1 0 n cap nl)),iv .i64 v] h K :=
 .use (⟨N,n,cap,nl,f⟩,v) [a] hs rfl hH ⟨.inl rfl,.inl rfl,trivial⟩ hk
abbrev outsIx : List (FuncId × Cx):=[(F.slices_Index_int,AskC indexC)]
theorem outsIx_ok : OutsOk Tryz.prog outsIx:=.cons (ask_ok index_ok) .nil
theorem first_any (n : Nat) (p : Nat → Bool) : decide (0 ≤ first n p) = anyB n p:=by
 rcases first_cases n p with ⟨h1,h2⟩ | ⟨j,h1,h2,h3,_⟩
 ·rw [h1,anyB_false.2 h2]; rfl
 ·rw [h2,anyB_iff.2 ⟨j,h1,h3⟩]; exact decide_eq_true (by omega)
noncomputable abbrev tabCn : List (FuncId × Eng.Fn):=[(F.slices_Contains_int,fn.slices_Contains_int u0)]
theorem tabCn_ok {d : Nat} : TabOk d tabCn tt:=.cons (ok.slices_Contains_int u0) (TabOk.nil)
theorem contains_run (s : SlI) (v : Int) (hs : s.n ≤ s.N ∧ s.N ≤ 9223372036854775807) : clRunX 4 tt outsIx tabCn 2 F.slices_Contains_int [] [sliX s,iv .i64 v] (sliH s) (fun x h=>Trim 1 x h fun x h=>x = bv (anyB s.n fun i=>decide (v = s.f i)) ∧ h = sliH s):=by
 conv=>whnf
 refine index_use (N:=s.N) (f:=s.f) hs ⟨⟨.inl rfl,Nat.le_refl _,fun _ _=>rfl⟩,trivial⟩ ?_
 conv=>whnf
 exact trimI rfl (congrArg bv (first_any _ _))
theorem contains_ok : ConOk Tryz.prog F.slices_Contains_int containsC:=con_of_run (clRunX_ok (d:=4) ttOk outsIx_ok tabCn_ok 2) (fn_enters (ok.slices_Contains_int (D:=4) u0 _ (clRunX_ok (d:=4) ttOk .nil TabOk.nil 1))) fun p hp=>contains_run p.1 p.2 hp
abbrev whoC : Con (Mat × Caps):=RoCon (fun p=>[matT p.1 p.2 0 1 2]) (fun p=>matH p.1 []) (fun p=>p.1.Ok) fun p=>pairR (chkO p.1)
theorem who_use {m : Mat} {c : Caps} {rest : Heap} {K : R → Heap → Prop} (hm : m.Ok) (hk : K (pairR (chkO m)) (matH m rest)) : AskC whoC [matT m c 0 1 2] (matH m rest) K :=
 .use (m,c) [0,1,2] hm rfl (mat_le m rest) ⟨mat_lx m c rest,trivial⟩ hk
noncomputable abbrev tabWh : List (FuncId × Eng.Fn):=[(F.check_who,fn.check_who u0),(F.check_who_1,fn.check_who_1 u0),(F.check_who_2,fn.check_who_2 u0),(F.slices_IndexFunc_int,fn.slices_IndexFunc_int u0),(F.slices_IndexFunc_Message,fn.slices_IndexFunc_Message u0)]
theorem tabWh_ok {d : Nat} : TabOk d tabWh tt:=.cons (ok.check_who u0) (.cons (ok.check_who_1 u0) (.cons (ok.check_who_2 u0) (.cons (ok.slices_IndexFunc_int u0) (.cons (ok.slices_IndexFunc_Message u0) (TabOk.nil)))))
theorem who_run (m : Mat) (c : Caps) (hm : m.Ok) : clRunX 5 tt outs0 tabWh 4 F.check_who [] [matT m c 0 1 2] (matH m []) (fun x h=>Trim 3 x h fun x h=>x = pairR (chkO m) ∧ h = matH m []):=by
 have hnM:=hm.nM
 have hnG:=hm.nG
 conv=>whnf
 refine .rd (fun i : Nat=>i ≤ m.nM ∧ ∀ j,j < i → ¬ m.nodes ≤ m.M j) (fun i=>[(8,iv .i64 i)]) (fun i=>m.nM - i) 0 ⟨Nat.zero_le _,all_0⟩ ?_ (fun i ⟨hi,hp⟩=>?_)
 ·conv=>whnf
  refine Le.id rfl ?_ ?_<;>repeat'(first|exact wZ|refine And.intro ?_ ?_)
 conv=>whnf
 refine cD (fun h5=>?_) (fun h5=>?_)
 ·refine wA ?_
  conv=>whnf
  try rw [zi i]
  refine cD (fun h6=>?_) (fun h6=>?_)
  ·refine wA ?_
   conv=>whnf
   have e : first m.nM (fun i=>decide (m.nodes ≤ m.M i)) = (i : Int):=first_some (by omega) (fun q hq=>decide_eq_false (hp q hq)) (decide_eq_true h6)
   exact trimM rfl (congrArg pairR (by rw [chkO,e,Pu.pick,if_pos (by omega)]) : pairR ((i : Int),141) = _)
  ·refine wA ?_
   conv=>whnf
   refine ⟨i + 1,⟨⟨by omega,all_up hp h6⟩,by omega⟩, ?_⟩
   conv=>whnf
   refine Le.id rfl ?_ ?_<;>repeat'(first|exact wZ|refine And.intro ?_ ?_)
 obtain rfl : i = m.nM:=by omega
 have e1 : first m.nM (fun i=>decide (m.nodes ≤ m.M i)) = -1:=first_none fun j hj=>decide_eq_false (hp j hj)
 refine wA ?_
 conv=>whnf
 refine .rd (fun i : Nat=>i ≤ m.nG ∧ ∀ j,j < i → ¬ m.nodes ≤ (m.G j).ow) (fun i=>[(8,iv .i64 i)]) (fun i=>m.nG - i) 0 ⟨Nat.zero_le _,all_0⟩ ?_ (fun i ⟨hi,hq⟩=>?_)
 ·conv=>whnf
  refine Le.id rfl ?_ ?_<;>repeat'(first|exact wZ|refine And.intro ?_ ?_)
 conv=>whnf
 refine cD (fun h5=>?_) (fun h5=>?_)
 ·refine wA ?_
  conv=>whnf
  try rw [zi i]
  refine cD (fun h6=>?_) (fun h6=>?_)
  ·refine wA ?_
   conv=>whnf
   have e : first m.nG (fun i=>decide (m.nodes ≤ (m.G i).ow)) = (i : Int):=first_some (by omega) (fun q hq'=>decide_eq_false (hq q hq')) (decide_eq_true h6)
   exact trimM rfl (congrArg pairR (by rw [chkO,e1,e,Pu.pick,if_neg (by omega),Pu.pick,if_pos (by omega)]) : pairR ((i : Int),141) = _)
  ·refine wA ?_
   conv=>whnf
   refine ⟨i + 1,⟨⟨by omega,all_up hq h6⟩,by omega⟩, ?_⟩
   conv=>whnf
   refine Le.id rfl ?_ ?_<;>repeat'(first|exact wZ|refine And.intro ?_ ?_)
 obtain rfl : i = m.nG:=by omega
 have e2 : first m.nG (fun i=>decide (m.nodes ≤ (m.G i).ow)) = -1:=first_none fun j hj=>decide_eq_false (hq j hj)
 refine wA ?_
 conv=>whnf
 exact trimM rfl (congrArg pairR (by rw [chkO,e1,e2,Pu.pick,if_neg (by omega),Pu.pick,if_neg (by omega)]) : pairR (0,0) = _)
theorem who_ok : ConOk Tryz.prog F.check_who whoC:=con_of_run (clRunX_ok (d:=5) ttOk outs0_ok tabWh_ok 4) (fn_enters (ok.check_who (D:=5) u0 _ (clRunX_ok (d:=5) ttOk .nil TabOk.nil 1))) fun p hp=>who_run p.1 p.2 hp
abbrev twiceC : Con (Mat × Caps):=RoCon (fun p=>[matT p.1 p.2 0 1 2]) (fun p=>matH p.1 []) (fun p=>p.1.Ok ∧ capsOk p.1 p.2) fun p=>pairR (chkT p.1)
theorem twice_use {m : Mat} {c : Caps} {rest : Heap} {K : R → Heap → Prop} (hm : m.Ok) (hc : capsOk m c) (hk : K (pairR (chkT m)) (matH m rest)) : AskC twiceC [matT m c 0 1 2] (matH m rest) K :=
 .use (m,c) [0,1,2] ⟨hm,hc⟩ rfl (mat_le m rest) ⟨mat_lx m c rest,trivial⟩ hk
abbrev outsCn : List (FuncId × Cx):=[(F.slices_Contains_int,AskC containsC)]
theorem outsCn_ok : OutsOk Tryz.prog outsCn:=.cons (ask_ok contains_ok) .nil
noncomputable abbrev tabTw : List (FuncId × Eng.Fn):=[(F.check_twice,fn.check_twice u0),(F.check_twice_1,fn.check_twice_1 u0),(F.slices_ContainsFunc_Message,fn.slices_ContainsFunc_Message u0),(F.slices_IndexFunc_Message,fn.slices_IndexFunc_Message u0)]
theorem tabTw_ok {d : Nat} : TabOk d tabTw tt:=.cons (ok.check_twice u0) (.cons (ok.check_twice_1 u0) (.cons (ok.slices_ContainsFunc_Message u0) (.cons (ok.slices_IndexFunc_Message u0) (TabOk.nil))))
theorem twice_run (m : Mat) (c : Caps) (hm : m.Ok) (hc : capsOk m c) : clRunX 6 tt outsCn tabTw 5 F.check_twice [] [matT m c 0 1 2] (matH m []) (fun x h=>Trim 3 x h fun x h=>x = pairR (chkT m) ∧ h = matH m []):=by
 have hnM:=hm.nM
 have hnG:=hm.nG
 have hG:=hm.G
 obtain ⟨r0,r1⟩:=hm.ref
 obtain ⟨c1,c2,c3⟩:=hc
 conv=>whnf
 refine .rd (fun i : Nat=>i ≤ m.nM ∧ ∀ j,j < i → badM m j = false) (fun i=>[(11,iv .i64 i)]) (fun i=>m.nM - i) 0 ⟨Nat.zero_le _,all_0⟩ ?_ (fun i ⟨hi,hp⟩=>?_)
 ·conv=>whnf
  refine Le.id rfl ?_ ?_<;>repeat'(first|exact wZ|refine And.intro ?_ ?_)
 conv=>whnf
 refine cD (fun h5=>?_) (fun h5=>?_)
 ·refine wA ?_
  conv=>whnf
  try rw [zi i]
  refine contains_use (N:=m.nM) (n:=i) (cap:=c.c1) (nl:=c.z1) (f:=m.M) (v:=m.M i) (a:=0) ⟨hi,hnM⟩ ⟨⟨.inl rfl,Nat.le_refl _,fun _ _=>rfl⟩,trivial⟩ ?_
  cases hb : badM m i with
  | true =>
   have hb':=hb
   unfold badM at hb'
   rw [hb']
   refine wA ?_
   conv=>whnf
   have e : first m.nM (badM m) = (i : Int):=first_some (by omega) hp hb
   exact trimM rfl (congrArg pairR (by rw [chkT,e,pick_pos (by omega)]) : pairR ((i : Int),142) = _)
  | false =>
   have hb':=hb
   unfold badM at hb'
   rw [hb']
   refine wA ?_
   conv=>whnf
   refine ⟨i + 1,⟨⟨by omega,all_up hp hb⟩,by omega⟩, ?_⟩
   conv=>whnf
   refine Le.id rfl ?_ ?_<;>repeat'(first|exact wZ|refine And.intro ?_ ?_)
 obtain rfl : i = m.nM:=by omega
 have e1 : first m.nM (badM m) = -1:=first_none hp
 conv=>whnf
 refine .rd (fun i : Nat=>i ≤ m.nG ∧ ∀ j,j < i → badG m j = false) (fun i=>[(27,iv .i64 i)]) (fun i=>m.nG - i) 0 ⟨Nat.zero_le _,all_0⟩ ?_ (fun i ⟨hi,hq⟩=>?_)
 ·conv=>whnf
  refine Le.id rfl ?_ ?_<;>repeat'(first|exact wZ|refine And.intro ?_ ?_)
 conv=>whnf
 refine cD (fun h5=>?_) (fun h5=>?_)
 ·have hGi:=hG i (by omega)
  unfold U32 at hGi
  have yes : badG m i = true → pairR ((i : Int),142) = pairR (chkT m):=fun hb=>by
   have e : first m.nG (badG m) = (i : Int):=first_some (by omega) hq hb
   rw [chkT,e1,e,pick_neg (by omega),pick_pos (by omega)]
  refine wA ?_
  conv=>whnf
  try rw [zi i]
  refine cD (fun h6=>?_) (fun h6=>?_)
  refine wA ?_
  conv=>whnf
  refine cD (fun h7=>?_) (fun h7=>?_)
  ·conv=>whnf
   exact trimM rfl (yes (by unfold badG; rw [decide_eq_true ⟨h6,h7⟩]; rfl))
  all_goals
   have hr : ¬ (m.ref ≤ (m.G i).id ∧ (m.G i).id - m.ref < 8):=by omega
   refine wA ?_
   conv=>whnf
   refine .rd (fun k : Nat=>k ≤ i ∧ ∀ j,j < k → ¬ (m.G j).id = (m.G i).id) (fun k=>[(8,iv .i64 k)]) (fun k=>i - k) 0 ⟨Nat.zero_le _,all_0⟩ ?_ (fun k ⟨hk,hr2⟩=>?_)
   ·conv=>whnf
    refine Le.id rfl ?_ ?_<;>repeat'(first|exact wZ|refine And.intro ?_ ?_)
   conv=>whnf
   refine cD (fun h8=>?_) (fun h8=>?_)
   ·refine wA ?_
    conv=>whnf
    try rw [zi k]
    refine cD (fun h9=>?_) (fun h9=>?_)
    ·refine wA ?_
     conv=>whnf
     exact trimM rfl (yes (by unfold badG; rw [anyB_iff.2 ⟨k,by omega,decide_eq_true h9⟩,Bool.or_true]))
    ·refine wA ?_
     conv=>whnf
     refine ⟨k + 1,⟨⟨by omega,all_up hr2 h9⟩,by omega⟩, ?_⟩
     conv=>whnf
     refine Le.id rfl ?_ ?_<;>repeat'(first|exact wZ|refine And.intro ?_ ?_)
   obtain rfl : k = i:=by omega
   refine wA ?_
   conv=>whnf
   refine ⟨k + 1,⟨⟨by omega,all_up hq (by unfold badG; rw [decide_eq_false hr,anyB_false.2 fun j hj=>decide_eq_false (hr2 j hj)]; rfl)⟩,by omega⟩, ?_⟩
   conv=>whnf
   refine Le.id rfl ?_ ?_<;>repeat'(first|exact wZ|refine And.intro ?_ ?_)
 obtain rfl : i = m.nG:=by omega
 have e2 : first m.nG (badG m) = -1:=first_none hq
 refine wA ?_
 conv=>whnf
 exact trimM rfl (congrArg pairR (by rw [chkT,e1,e2,pick_neg (by omega),pick_neg (by omega)]) : pairR (0,0) = _)
theorem twice_ok : ConOk Tryz.prog F.check_twice twiceC:=con_of_run (clRunX_ok (d:=6) ttOk outsCn_ok tabTw_ok 5) (fn_enters (ok.check_twice (D:=6) u0 _ (clRunX_ok (d:=6) ttOk .nil TabOk.nil 1))) fun p hp=>twice_run p.1 p.2 hp.1 hp.2
abbrev windowsC : Con (Mat × Caps):=RoCon (fun p=>[matT p.1 p.2 0 1 2]) (fun p=>matH p.1 []) (fun p=>p.1.Ok ∧ isM p.1 = true) fun p=>pairR (chkW p.1)
theorem windows_use {m : Mat} {c : Caps} {rest : Heap} {K : R → Heap → Prop} (hm : m.Ok) (hi : isM m = true) (hk : K (pairR (chkW m)) (matH m rest)) : AskC windowsC [matT m c 0 1 2] (matH m rest) K :=
 .use (m,c) [0,1,2] ⟨hm,hi⟩ rfl (mat_le m rest) ⟨mat_lx m c rest,trivial⟩ hk
abbrev outs5 : List (FuncId × Cx):=(F.check_Step,AskC stepC) :: (F.check_Meet,AskC meetC) :: outs4
theorem outs5_ok : OutsOk Tryz.prog outs5:=.cons (ask_ok step_ok) (.cons (ask_ok meet_ok) outs4_ok)
theorem err145 {m : Mat} {i : Nat} (h1 : (m.W i).kind = 1) (h2 : (m.nG : Int) ≤ (m.W i).msg ∨ (m.G (m.W i).msg.toNat).ev = true) : winErr m i = 145:=if_pos ⟨h1,h2⟩
theorem err144 {m : Mat} {i : Nat} (h1 : ¬ ((m.W i).kind = 1 ∧ ((m.nG : Int) ≤ (m.W i).msg ∨ (m.G (m.W i).msg.toNat).ev = true))) (h2 : (m.W i).st < Pu.step m ∨ ((m.W i).kind ≠ 3 ∧ (m.W i).en - (m.W i).st < Pu.step m)) : winErr m i = 144:=by rw [winErr,if_neg h1,if_pos h2]
theorem err143 {m : Mat} {i : Nat} (h1 : ¬ ((m.W i).kind = 1 ∧ ((m.nG : Int) ≤ (m.W i).msg ∨ (m.G (m.W i).msg.toNat).ev = true))) (h2 : ¬ ((m.W i).st < Pu.step m ∨ ((m.W i).kind ≠ 3 ∧ (m.W i).en - (m.W i).st < Pu.step m))) (h3 : anyB i (fun k=>meet m i k) = true) : winErr m i = 143:=by rw [winErr,if_neg h1,if_neg h2,if_pos h3]
theorem err0 {m : Mat} {i : Nat} (h1 : ¬ ((m.W i).kind = 1 ∧ ((m.nG : Int) ≤ (m.W i).msg ∨ (m.G (m.W i).msg.toNat).ev = true))) (h2 : ¬ ((m.W i).st < Pu.step m ∨ ((m.W i).kind ≠ 3 ∧ (m.W i).en - (m.W i).st < Pu.step m))) (h3 : anyB i (fun k=>meet m i k) = false) : winErr m i = 0:=by rw [winErr,if_neg h1,if_neg h2,h3]; rfl
theorem chkW_at {m : Mat} {i : Nat} {e : Int} (hi : i < m.nW) (hp : ∀ j,j < i → winErr m j = 0) (he : winErr m i = e) (h0 : e ≠ 0) : chkW m = ((i : Int),e):=by
 have e1 : first m.nW (fun i=>decide (winErr m i ≠ 0)) = (i : Int):=first_some hi (fun q hq=>decide_eq_false fun h=>h (hp q hq)) (decide_eq_true (by rw [he]; exact h0))
 rw [chkW,e1,if_pos (by omega),Int.toNat_natCast,he]
theorem chkW_0 {m : Mat} (hp : ∀ j,j < m.nW → winErr m j = 0) : chkW m = (0,0):=by
 have e1 : first m.nW (fun i=>decide (winErr m i ≠ 0)) = -1:=first_none fun q hq=>decide_eq_false fun h=>h (hp q hq)
 rw [chkW,e1,if_neg (by omega)]
noncomputable abbrev tabWi : List (FuncId × Eng.Fn):=[(F.check_windows,fn.check_windows u0)]
theorem tabWi_ok {d : Nat} : TabOk d tabWi tt:=.cons (ok.check_windows u0) (TabOk.nil)
theorem windows_run (m : Mat) (c : Caps) (hm : m.Ok) (hI : isM m = true) : clRunX 7 tt outs5 tabWi 2 F.check_windows [] [matT m c 0 1 2] (matH m []) (fun x h=>Trim 3 x h fun x h=>x = pairR (chkW m) ∧ h = matH m []):=by
 have hnW:=hm.nW
 have hW:=(isM_iff.1 hI).W
 have hL:=(isM_iff.1 hI).head
 unfold headP at hL
 have hsb:=step_bd (m:=m)
 conv=>whnf
 refine step_use (m:=m) (c:=c) hm ?_
 conv=>whnf
 refine .rd (fun i : Nat=>i ≤ m.nW ∧ ∀ j,j < i → winErr m j = 0) (fun i=>[(14,iv .i64 i)]) (fun i=>m.nW - i) 0 ⟨Nat.zero_le _,all_0⟩ ?_ (fun i ⟨hi,hp⟩=>?_)
 ·conv=>whnf
  refine Le.id rfl ?_ ?_<;>repeat'(first|exact wZ|refine And.intro ?_ ?_)
 conv=>whnf
 refine cD (fun h5=>?_) (fun h5=>?_)
 ·have hWi:=hW i (by omega)
  unfold winP at hWi
  have fin : ∀ e : Int,winErr m i = e → e ≠ 0 → pairR ((i : Int),e) = pairR (chkW m):=fun e he h0=>by rw [chkW_at (by omega) hp he h0]
  refine wA ?_
  conv=>whnf
  try rw [zi i]
  refine cD (fun h6=>?_) (fun h6=>?_)
  conv=>whnf
  refine cD (fun h7=>?_) (fun h7=>?_)
  ·conv=>whnf
   exact trimM rfl (fin 145 (err145 h6 (.inl h7)) (by decide))
  refine wA ?_
  conv=>whnf
  try rw [za]
  rcases Bool.eq_false_or_eq_true (m.G (m.W i).msg.toNat).ev with hev | hev <;> rw [hev]
  ·conv=>whnf
   exact trimM rfl (fin 145 (err145 h6 (.inr hev)) (by decide))
  have n1 : ¬ ((m.W i).kind = 1 ∧ ((m.nG : Int) ≤ (m.W i).msg ∨ (m.G (m.W i).msg.toNat).ev = true)):=by
   rintro ⟨_,q | q⟩
   ·omega
   ·rw [hev] at q; cases q
  rotate_left
  have n1 : ¬ ((m.W i).kind = 1 ∧ ((m.nG : Int) ≤ (m.W i).msg ∨ (m.G (m.W i).msg.toNat).ev = true)):=fun q=>h6 q.1
  all_goals
   conv=>whnf
   refine cD (fun h8=>?_) (fun h8=>?_)
   ·conv=>whnf
    exact trimM rfl (fin 144 (err144 n1 (.inl h8)) (by decide))
   by_cases h9 : (m.W i).kind = 3
   ·try (exfalso; omega)
    all_goals
     have n2 : ¬ ((m.W i).st < Pu.step m ∨ ((m.W i).kind ≠ 3 ∧ (m.W i).en - (m.W i).st < Pu.step m)):=by omega
     refine wA ?_
     conv=>whnf
     refine .rd (fun k : Nat=>k ≤ i ∧ ∀ j : Nat,j < k → meet m i j = false) (fun k=>[(63,iv .i64 k)]) (fun k=>i - k) 0 ⟨Nat.zero_le _,all_0⟩ ?_ (fun k ⟨hk,hq⟩=>?_)
     ·conv=>whnf
      refine Le.id rfl ?_ ?_<;>repeat'(first|exact wZ|refine And.intro ?_ ?_)
     conv=>whnf
     refine cD (fun h11=>?_) (fun h11=>?_)
     ·conv=>whnf
      refine meet_use (m:=m) (c:=c) hm ?_
      rcases Bool.eq_false_or_eq_true (meet m (i : Int) (k : Int)) with hb | hb <;> rw [hb]
      ·conv=>whnf
       exact trimM rfl (fin 143 (err143 n1 n2 (anyB_iff.2 ⟨k,by omega,hb⟩)) (by decide))
      ·refine wA ?_
       conv=>whnf
       refine ⟨k + 1,⟨⟨by omega,all_up hq hb⟩,by omega⟩, ?_⟩
       conv=>whnf
       refine Le.id rfl ?_ ?_<;>repeat'(first|exact wZ|refine And.intro ?_ ?_)
     obtain rfl : k = i:=by omega
     refine wA ?_
     conv=>whnf
     refine ⟨k + 1,⟨⟨by omega,all_up hp (err0 n1 n2 (anyB_false.2 hq))⟩,by omega⟩, ?_⟩
     conv=>whnf
     refine Le.id rfl ?_ ?_<;>repeat'(first|exact wZ|refine And.intro ?_ ?_)
   ·refine wA ?_
    conv=>whnf
    refine cD (fun h10=>?_) (fun h10=>?_)
    ·conv=>whnf
     exact trimM rfl (fin 144 (err144 n1 (.inr ⟨h9,h10⟩)) (by decide))
    have n2 : ¬ ((m.W i).st < Pu.step m ∨ ((m.W i).kind ≠ 3 ∧ (m.W i).en - (m.W i).st < Pu.step m)):=by omega
    refine wA ?_
    conv=>whnf
    refine .rd (fun k : Nat=>k ≤ i ∧ ∀ j : Nat,j < k → meet m i j = false) (fun k=>[(63,iv .i64 k)]) (fun k=>i - k) 0 ⟨Nat.zero_le _,all_0⟩ ?_ (fun k ⟨hk,hq⟩=>?_)
    ·conv=>whnf
     refine Le.id rfl ?_ ?_<;>repeat'(first|exact wZ|refine And.intro ?_ ?_)
    conv=>whnf
    refine cD (fun h11=>?_) (fun h11=>?_)
    ·conv=>whnf
     refine meet_use (m:=m) (c:=c) hm ?_
     rcases Bool.eq_false_or_eq_true (meet m (i : Int) (k : Int)) with hb | hb <;> rw [hb]
     ·conv=>whnf
      exact trimM rfl (fin 143 (err143 n1 n2 (anyB_iff.2 ⟨k,by omega,hb⟩)) (by decide))
     ·refine wA ?_
      conv=>whnf
      refine ⟨k + 1,⟨⟨by omega,all_up hq hb⟩,by omega⟩, ?_⟩
      conv=>whnf
      refine Le.id rfl ?_ ?_<;>repeat'(first|exact wZ|refine And.intro ?_ ?_)
    obtain rfl : k = i:=by omega
    refine wA ?_
    conv=>whnf
    refine ⟨k + 1,⟨⟨by omega,all_up hp (err0 n1 n2 (anyB_false.2 hq))⟩,by omega⟩, ?_⟩
    conv=>whnf
    refine Le.id rfl ?_ ?_<;>repeat'(first|exact wZ|refine And.intro ?_ ?_)
 obtain rfl : i = m.nW:=by omega
 refine wA ?_
 conv=>whnf
 exact trimM rfl (congrArg pairR (chkW_0 hp).symm : pairR (0,0) = _)
theorem windows_ok : ConOk Tryz.prog F.check_windows windowsC:=con_of_run (clRunX_ok (d:=7) ttOk outs5_ok tabWi_ok 2) (fn_enters (ok.check_windows (D:=7) u0 _ (clRunX_ok (d:=7) ttOk .nil TabOk.nil 1))) fun p hp=>windows_run p.1 p.2 hp.1 hp.2
abbrev checkC : Con (Mat × Caps):=RoCon (fun p=>[matT p.1 p.2 0 1 2]) (fun p=>matH p.1 []) (fun p=>p.1.Ok ∧ capsOk p.1 p.2) fun p=>pairR (chk p.1)
theorem check_use {m : Mat} {c : Caps} {rest : Heap} {K : R → Heap → Prop} (hm : m.Ok) (hc : capsOk m c) (hk : K (pairR (chk m)) (matH m rest)) : AskC checkC [matT m c 0 1 2] (matH m rest) K :=
 .use (m,c) [0,1,2] ⟨hm,hc⟩ rfl (mat_le m rest) ⟨mat_lx m c rest,trivial⟩ hk
abbrev outs6 : List (FuncId × Cx):=(F.check_who,AskC whoC) :: (F.check_twice,AskC twiceC) :: (F.check_windows,AskC windowsC) :: outs5
theorem outs6_ok : OutsOk Tryz.prog outs6:=.cons (ask_ok who_ok) (.cons (ask_ok twice_ok) (.cons (ask_ok windows_ok) outs5_ok))
noncomputable abbrev tabCk : List (FuncId × Eng.Fn):=[(F.check_Check,fn.check_Check u9)]
theorem tabCk_ok {d : Nat} : TabOk d tabCk tt:=.cons (ok.check_Check u9) (TabOk.nil)
theorem check_run (m : Mat) (c : Caps) (hm : m.Ok) (hc : capsOk m c) : clRunX 6 tt outs6 tabCk 2 F.check_Check [] [matT m c 0 1 2] (matH m []) (fun x h=>Trim 3 x h fun x h=>x = pairR (chk m) ∧ h = matH m []):=by
 conv=>whnf
 refine is_use (m:=m) (c:=c) hm ?_
 rcases Bool.eq_false_or_eq_true (isM m) with hI | hI <;> rw [hI]
 rotate_left
 ·conv=>whnf
  exact trimM rfl (congrArg pairR (by rw [chk,if_pos hI]) : pairR (0,120) = _)
 have e0 : chk m = if m.length < Pu.step m then (0,140) else if (chkO m).2 ≠ 0 then chkO m else if (chkT m).2 ≠ 0 then chkT m else if (chkW m).2 ≠ 0 then chkW m else (0,0):=by
  rw [chk,if_neg (by rw [hI]; simp)]
 conv=>whnf
 refine step_use (m:=m) (c:=c) hm ?_
 refine wA ?_
 conv=>whnf
 refine cD (fun h1=>?_) (fun h1=>?_)
 ·conv=>whnf
  exact trimM rfl (congrArg pairR (by rw [e0,if_pos h1]) : pairR (0,140) = _)
 conv=>whnf
 refine who_use (m:=m) (c:=c) hm ?_
 conv=>whnf
 refine cN (fun h2=>?_) (fun h2=>?_)
 ·conv=>whnf
  exact trimM rfl (congrArg pairR (by rw [e0,if_neg h1,if_pos h2]) : pairR ((chkO m).1,(chkO m).2) = _)
 conv=>whnf
 refine twice_use (m:=m) (c:=c) hm hc ?_
 conv=>whnf
 refine cN (fun h3=>?_) (fun h3=>?_)
 ·conv=>whnf
  exact trimM rfl (congrArg pairR (by rw [e0,if_neg h1,if_neg (by simpa using h2),if_pos h3]) : pairR ((chkT m).1,(chkT m).2) = _)
 conv=>whnf
 refine windows_use (m:=m) (c:=c) hm hI ?_
 conv=>whnf
 refine cN (fun h4=>?_) (fun h4=>?_)
 ·conv=>whnf
  exact trimM rfl (congrArg pairR (by rw [e0,if_neg h1,if_neg (by simpa using h2),if_neg (by simpa using h3),if_pos h4]) : pairR ((chkW m).1,(chkW m).2) = _)
 ·conv=>whnf
  exact trimM rfl (congrArg pairR (by rw [e0,if_neg h1,if_neg (by simpa using h2),if_neg (by simpa using h3),if_neg (by simpa using h4)]) : pairR (0,0) = _)
theorem check_ok : ConOk Tryz.prog F.check_Check checkC:=con_of_run (clRunX_ok (d:=6) ttOk outs6_ok tabCk_ok 2) (fn_enters (ok.check_Check (D:=6) u0 _ (clRunX_ok (d:=6) ttOk .nil TabOk.nil 1))) fun p hp=>check_run p.1 p.2 hp.1 hp.2
def rank (m : Mat) (v : Int) : Int:=first m.nM fun j=>decide (m.M j = v)
def find (m : Mat) (id : Int) : Int:=first m.nG fun j=>decide ((m.G j).id = id)
abbrev rankC : Con (Mat × Caps × Int):=RoCon (fun p=>[matT p.1 p.2.1 0 1 2,iv .i64 p.2.2]) (fun p=>matH p.1 []) (fun p=>p.1.Ok) fun p=>iv .i64 (rank p.1 p.2.2)
theorem rank_use {m : Mat} {c : Caps} {v : Int} {rest : Heap} {K : R → Heap → Prop} (hm : m.Ok) (hk : K (iv .i64 (rank m v)) (matH m rest)) : AskC rankC [matT m c 0 1 2,iv .i64 v] (matH m rest) K :=
 .use (m,c,v) [0,1,2] hm rfl (mat_le m rest) ⟨mat_lx m c rest,.inl rfl,trivial⟩ hk
def part (F : Nat → Int) (n q : Nat) : Int:=if q < n then F q else 0
abbrev boxM (m : Mat) (c : Caps) : HE:=.ob (.own [.c (iC m.level),.c (iC m.nodes),.c (iC m.cycles),.c (iC m.length),.c (iC m.enable),.c (iC m.unit),.c (iC m.init),.c (uC m.ref),
 .c (.slc 0 0 1 0 m.nM c.c1 c.z1),.c (.slc 1 0 3 0 m.nG c.c2 c.z2),.c (.slc 2 0 6 0 m.nW c.c3 c.z3)])
abbrev watchC : Con (Mat × Caps):=RoCon (fun p=>[matT p.1 p.2 0 1 2]) (fun p=>matH p.1 []) (fun p=>p.1.Ok) fun p=>iv .i64 (watch1 p.1)
theorem watch_use {m : Mat} {c : Caps} {rest : Heap} {K : R → Heap → Prop} (hm : m.Ok) (hk : K (iv .i64 (watch1 m)) (matH m rest)) : AskC watchC [matT m c 0 1 2] (matH m rest) K :=
 .use (m,c) [0,1,2] hm rfl (mat_le m rest) ⟨mat_lx m c rest,trivial⟩ hk
abbrev outsPw : List (FuncId × Cx):=[(F.matrix_Is,AskC isC),(F.check_Step,AskC stepC)]
theorem outsPw_ok : OutsOk Tryz.prog outsPw:=.cons (ask_ok is_ok) (.cons (ask_ok step_ok) .nil)
noncomputable abbrev tabRW : List (FuncId × Eng.Fn):=[(F.plan_Watch,fn.plan_Watch u0)]
theorem tabRW_ok {d : Nat} : TabOk d tabRW tt:=.cons (ok.plan_Watch u0) (TabOk.nil)
theorem watch_run (m : Mat) (c : Caps) (hm : m.Ok) : clRunX 4 tt outsPw tabRW 2 F.plan_Watch [] [matT m c 0 1 2] (matH m []) (fun x h=>Trim 3 x h fun x h=>x = iv .i64 (watch1 m) ∧ h = matH m []):=by
 refine wB ?_
 refine is_use (m:=m) (c:=c) hm ?_
 cases h : isM m
 ·refine wB ?_
  exact trimM rfl (congrArg (iv .i64) (by unfold watch1; rw [h]; rfl))
 ·have hi:=isM_iff.1 h
  have hw:=watch_bd hi
  have hl:=hi.head
  have hn:=hi.size
  unfold headP at hl
  unfold sizeP at hn
  refine wB ?_
  refine step_use (m:=m) (c:=c) hm ?_
  refine wB ?_
  exact trimM rfl (congrArg (iv .i64) (by unfold watch1; rw [h]; rfl))
theorem watch_ok : ConOk Tryz.prog F.plan_Watch watchC:=con_of_run (clRunX_ok (d:=4) ttOk outsPw_ok tabRW_ok 2) (fn_enters (ok.plan_Watch (D:=4) u0 _ (clRunX_ok (d:=4) ttOk .nil TabOk.nil 1))) fun p hp=>watch_run p.1 p.2 hp
def maxN (f : Nat → Int) : Nat → Int
 | 0=>f 0
 | n + 1=>max (maxN f n) (f (n + 1))
def minN (f : Nat → Int) : Nat → Int
 | 0=>f 0
 | n + 1=>min (minN f n) (f (n + 1))
abbrev maxC : Con SlI:=RoCon (fun s=>[sliX s]) (fun s=>sliH s) (fun s=>1 ≤ s.n ∧ s.n ≤ s.N ∧ s.N ≤ 9223372036854775807) fun s=>iv .i64 (maxN s.f (s.n - 1))
abbrev minC : Con SlI:=RoCon (fun s=>[sliX s]) (fun s=>sliH s) (fun s=>1 ≤ s.n ∧ s.n ≤ s.N ∧ s.N ≤ 9223372036854775807) fun s=>iv .i64 (minN s.f (s.n - 1))
noncomputable abbrev tabMx : List (FuncId × Eng.Fn):=[(F.slices_Max_int,fn.slices_Max_int u0)]
theorem tabMx_ok {d : Nat} : TabOk d tabMx tt:=.cons (ok.slices_Max_int u0) (TabOk.nil)
theorem max_run (s : SlI) (hs : 1 ≤ s.n ∧ s.n ≤ s.N ∧ s.N ≤ 9223372036854775807) : clRunX 5 tt outs0 tabMx 2 F.slices_Max_int [] [sliX s] (sliH s) (fun x h=>Trim 1 x h fun x h=>x = iv .i64 (maxN s.f (s.n - 1)) ∧ h = sliH s):=by
 refine wA ?_
 conv=>whnf
 refine .rd (fun i : Nat=>1 ≤ i ∧ i ≤ s.n) (fun i=>[(3,iv .i64 (maxN s.f (i - 1))),(4,iv .i64 i)]) (fun i=>s.n - i) 1 ⟨Nat.le_refl _,hs.1⟩ ?_ (fun i ⟨hi,hi2⟩=>?_)
 ·conv=>whnf
  refine Le.id rfl ?_ ?_<;>repeat'(first|exact wZ|refine And.intro ?_ ?_)
 conv=>whnf
 refine cD (fun h5=>?_) (fun h5=>?_)
 ·obtain ⟨k,rfl⟩ : ∃ k,i = k + 1:=⟨i - 1,by omega⟩
  refine wA ?_
  conv=>whnf
  try rw [zi (k + 1)]
  refine ⟨k + 1 + 1,⟨⟨by omega,by omega⟩,by omega⟩, ?_⟩
  conv=>whnf
  refine Le.id rfl ?_ ?_<;>repeat'(first|exact wZ|refine And.intro ?_ ?_)
 obtain rfl : i = s.n:=by omega
 conv=>whnf
 exact trimI rfl rfl
theorem max_ok : ConOk Tryz.prog F.slices_Max_int maxC:=con_of_run (clRunX_ok (d:=5) ttOk outs0_ok tabMx_ok 2) (fn_enters (ok.slices_Max_int (D:=5) u0 _ (clRunX_ok (d:=5) ttOk .nil TabOk.nil 1))) fun p hp=>max_run p hp
noncomputable abbrev tabMn : List (FuncId × Eng.Fn):=[(F.slices_Min_int,fn.slices_Min_int u0)]
theorem tabMn_ok {d : Nat} : TabOk d tabMn tt:=.cons (ok.slices_Min_int u0) (TabOk.nil)
theorem min_run (s : SlI) (hs : 1 ≤ s.n ∧ s.n ≤ s.N ∧ s.N ≤ 9223372036854775807) : clRunX 5 tt outs0 tabMn 2 F.slices_Min_int [] [sliX s] (sliH s) (fun x h=>Trim 1 x h fun x h=>x = iv .i64 (minN s.f (s.n - 1)) ∧ h = sliH s):=by
 refine wA ?_
 conv=>whnf
 refine .rd (fun i : Nat=>1 ≤ i ∧ i ≤ s.n) (fun i=>[(3,iv .i64 (minN s.f (i - 1))),(4,iv .i64 i)]) (fun i=>s.n - i) 1 ⟨Nat.le_refl _,hs.1⟩ ?_ (fun i ⟨hi,hi2⟩=>?_)
 ·conv=>whnf
  refine Le.id rfl ?_ ?_<;>repeat'(first|exact wZ|refine And.intro ?_ ?_)
 conv=>whnf
 refine cD (fun h5=>?_) (fun h5=>?_)
 ·obtain ⟨k,rfl⟩ : ∃ k,i = k + 1:=⟨i - 1,by omega⟩
  refine wA ?_
  conv=>whnf
  try rw [zi (k + 1)]
  refine ⟨k + 1 + 1,⟨⟨by omega,by omega⟩,by omega⟩, ?_⟩
  conv=>whnf
  refine Le.id rfl ?_ ?_<;>repeat'(first|exact wZ|refine And.intro ?_ ?_)
 obtain rfl : i = s.n:=by omega
 conv=>whnf
 exact trimI rfl rfl
theorem min_ok : ConOk Tryz.prog F.slices_Min_int minC:=con_of_run (clRunX_ok (d:=5) ttOk outs0_ok tabMn_ok 2) (fn_enters (ok.slices_Min_int (D:=5) u0 _ (clRunX_ok (d:=5) ttOk .nil TabOk.nil 1))) fun p hp=>min_run p hp
theorem max_use {N n cap : Nat} {nl : Bool} {f : Nat → Int} {a : Nat} {h : Heap} {K : R → Heap → Prop} (hs : 1 ≤ n ∧ n ≤ N ∧ N ≤ 9223372036854775807) (hH : leH (sig h [a]) h [a] (sliH ⟨N,n,cap,nl,f⟩)) (hk : K (iv .i64 (maxN f (n - 1))) h) : AskC maxC [.t (.one (.slc a 0 1 0 n cap nl))] h K :=
 .use ⟨N,n,cap,nl,f⟩ [a] hs rfl hH ⟨.inl rfl,trivial⟩ hk
theorem min_use {N n cap : Nat} {nl : Bool} {f : Nat → Int} {a : Nat} {h : Heap} {K : R → Heap → Prop} (hs : 1 ≤ n ∧ n ≤ N ∧ N ≤ 9223372036854775807) (hH : leH (sig h [a]) h [a] (sliH ⟨N,n,cap,nl,f⟩)) (hk : K (iv .i64 (minN f (n - 1))) h) : AskC minC [.t (.one (.slc a 0 1 0 n cap nl))] h K :=
 .use ⟨N,n,cap,nl,f⟩ [a] hs rfl hH ⟨.inl rfl,trivial⟩ hk
abbrev outsMx : List (FuncId × Cx):=[(F.slices_Max_int,AskC maxC),(F.slices_Min_int,AskC minC)]
theorem outsMx_ok : OutsOk Tryz.prog outsMx:=.cons (ask_ok max_ok) (.cons (ask_ok min_ok) .nil)
structure Tb where
 n : Nat
 f : Nat → Int
def Tb.Ok (t : Tb) : Prop:=t.n ≤ 12 ∧ ∀ q,q < t.n → 0 ≤ t.f q ∧ t.f q ≤ 7
def rowN (t : Tb) : HE:=.ob (.row 1 t.n (fun q=>[iC (t.f q)]) t.n)
def ownN (a n : Nat) : HE:=.ob (.own [.c (.slc a 0 1 0 n n false)])
abbrev tabH (t : Tb) : Heap:=[rowN t,ownN 0 t.n]
def chg (t : Tb) (msg by_ : Int) : Tb:=⟨t.n,fun q=>if (q : Int) = msg then min (max (t.f q + by_) 0) 7 else t.f q⟩
theorem chg_ok {t : Tb} (h : t.Ok) (msg by_ : Int) : (chg t msg by_).Ok:=⟨h.1,fun q hq=>by
 have:=h.2 q hq
 simp only [chg]
 split <;> omega⟩
abbrev unitR : R:=.tup []
abbrev changeC : Con (Tb × Int × Int):=DetCon (fun p=>[.t (.one (.ptr 1 0)),iv .i64 p.2.1,iv .i64 p.2.2]) (fun p=>tabH p.1) (fun p=>p.1.Ok ∧ -10 ≤ p.2.2 ∧ p.2.2 ≤ 10) (fun _=>unitR) fun p=>tabH (chg p.1 p.2.1 p.2.2)
noncomputable abbrev tabSCh : List (FuncId × Eng.Fn):=[(F.status_Table_change,fn.status_Table_change u0)]
theorem tabSCh_ok {d : Nat} : TabOk d tabSCh tt:=.cons (ok.status_Table_change u0) (TabOk.nil)
theorem change_run (t : Tb) (msg b : Int) (ht : t.Ok) (hb : -10 ≤ b ∧ b ≤ 10) : clRunX 6 tt outs0 tabSCh 2 F.status_Table_change [] [.t (.one (.ptr 1 0)),iv .i64 msg,iv .i64 b] (tabH t) (fun x h=>Trim 2 x h fun x h=>x = unitR ∧ h = tabH (chg t msg b)):=by
 obtain ⟨hn,hf⟩:=ht
 have no : ¬ (0 ≤ msg ∧ msg < t.n) → Le (d:=0) 2 unitR (tabH t) unitR (tabH (chg t msg b)):=fun h1=>by
  refine Le.id rfl ?_ ?_
  ·refine ⟨⟨rfl,rfl,rfl,fun q hq=>?_⟩,⟨rfl,trivial⟩,trivial⟩
   show [iC (t.f q)] = [iC (if (q : Int) = msg then _ else _)]
   rw [if_neg (by have hq : q < t.n:=hq; omega)]
  ·rfl
 conv=>whnf
 refine cD (fun h1=>?_) (fun h1=>?_)
 rotate_left
 ·conv=>whnf
  exact Trim.det (no (by omega))
 conv=>whnf
 refine cD (fun h2=>?_) (fun h2=>?_)
 rotate_left
 ·conv=>whnf
  exact Trim.det (no (by omega))
 obtain ⟨k,rfl⟩ : ∃ k : Nat,msg = k:=⟨msg.toNat,by omega⟩
 have h3:=hf k (by omega)
 refine wA ?_
 conv=>whnf
 try rw [zi k]
 refine wA ?_
 conv=>whnf
 refine Trim.det ?_
 refine Le.id rfl ?_ ?_
 ·refine ⟨⟨rfl,rfl,rfl,fun q hq=>?_⟩,⟨rfl,trivial⟩,trivial⟩
  show (if q = 0 + (k : Int).toNat then _ else _) = [iC (if (q : Int) = (k : Int) then _ else _)]
  rw [zi k]
  by_cases e : q = k
  ·subst e; rw [if_pos rfl,if_pos rfl]
  ·rw [if_neg e,if_neg (by omega)]
 ·rfl
theorem change_ok : ConOk Tryz.prog F.status_Table_change changeC:=con_of_run (clRunX_ok (d:=6) ttOk outs0_ok tabSCh_ok 2) (fn_enters (ok.status_Table_change (D:=6) u0 _ (clRunX_ok (d:=6) ttOk .nil TabOk.nil 1))) fun p hp=>change_run p.1 p.2.1 p.2.2 hp.1 hp.2
theorem mm (x : Int) : max 0 (min x 7) = min (max x 0) 7:=by omega
def spreadN (t : Tb) : Int:=if t.n = 0 then 0 else maxN t.f (t.n - 1) - minN t.f (t.n - 1)
def topN (t : Tb) : Int:=if t.n = 0 then 0 else maxN t.f (t.n - 1)
theorem maxN_bd {f : Nat → Int} : ∀ {n : Nat},(∀ q,q ≤ n → 0 ≤ f q ∧ f q ≤ 7) → 0 ≤ maxN f n ∧ maxN f n ≤ 7
 | 0,h=>h 0 (Nat.le_refl _)
 | n + 1,h=>by
  have h1:=maxN_bd (n:=n) fun q hq=>h q (by omega)
  have h2:=h (n + 1) (Nat.le_refl _)
  simp only [maxN]; omega
theorem minN_bd {f : Nat → Int} : ∀ {n : Nat},(∀ q,q ≤ n → 0 ≤ f q ∧ f q ≤ 7) → 0 ≤ minN f n ∧ minN f n ≤ 7
 | 0,h=>h 0 (Nat.le_refl _)
 | n + 1,h=>by
  have h1:=minN_bd (n:=n) fun q hq=>h q (by omega)
  have h2:=h (n + 1) (Nat.le_refl _)
  simp only [minN]; omega
abbrev spreadC : Con Tb:=DetCon (fun _=>[.t (.one (.ptr 1 0))]) (fun p=>tabH p) (fun p=>p.Ok) (fun p=>iv .i64 (spreadN p)) fun p=>tabH p
noncomputable abbrev tabSSp : List (FuncId × Eng.Fn):=[(F.status_Table_Spread,fn.status_Table_Spread u0)]
theorem tabSSp_ok {d : Nat} : TabOk d tabSSp tt:=.cons (ok.status_Table_Spread u0) (TabOk.nil)
theorem spread_run (t : Tb) (ht : t.Ok) : clRunX 5 tt outsMx tabSSp 2 F.status_Table_Spread [] [.t (.one (.ptr 1 0))] (tabH t) (fun x h=>Trim 2 x h fun x h=>x = iv .i64 (spreadN t) ∧ h = tabH t):=by
 obtain ⟨hn,hf⟩:=ht
 conv=>whnf
 refine cD (fun h1=>?_) (fun h1=>?_)
 ·conv=>whnf
  rw [show spreadN t = 0 from if_pos (by omega)]
  refine Trim.det ?_
  exact wF
 have h0 : t.n ≠ 0:=by omega
 have b1:=maxN_bd (f:=t.f) (n:=t.n - 1) fun q hq=>hf q (by omega)
 have b2:=minN_bd (f:=t.f) (n:=t.n - 1) fun q hq=>hf q (by omega)
 conv=>whnf
 refine max_use (N:=t.n) (n:=t.n) (f:=t.f) ⟨by omega,Nat.le_refl _,by omega⟩ ?_ ?_
 ·exact wH
 refine wB ?_
 refine min_use (N:=t.n) (n:=t.n) (f:=t.f) ⟨by omega,Nat.le_refl _,by omega⟩ ?_ ?_
 ·exact wH
 refine wA ?_
 conv=>whnf
 rw [show spreadN t = maxN t.f (t.n - 1) - minN t.f (t.n - 1) from if_neg h0]
 refine Trim.det ?_
 exact wF
theorem spread_ok : ConOk Tryz.prog F.status_Table_Spread spreadC:=con_of_run (clRunX_ok (d:=5) ttOk outsMx_ok tabSSp_ok 2) (fn_enters (ok.status_Table_Spread (D:=5) u0 _ (clRunX_ok (d:=5) ttOk .nil TabOk.nil 1))) fun p hp=>spread_run p hp
def levelN (t : Tb) (silent wrong : Bool) : Int:=if (silent || wrong) = true then 3 else if topN t = 7 then 2 else if 2 < spreadN t then 1 else 0
theorem maxN_ge {f : Nat → Int} : ∀ {n q : Nat}, q ≤ n → f q ≤ maxN f n
  | 0, q, h => by obtain rfl : q = 0 := by omega
                  exact Int.le_refl _
  | n + 1, q, h => by
    simp only [maxN]
    by_cases e : q = n + 1
    · subst e; omega
    · have := maxN_ge (f := f) (n := n) (q := q) (by omega); omega
theorem maxN_at {f : Nat → Int} : ∀ {n : Nat}, ∃ q,q ≤ n ∧ f q = maxN f n
 | 0=>⟨0,Nat.le_refl _,rfl⟩
 | n + 1=>by
  obtain ⟨q,h1,h2⟩:=maxN_at (f:=f) (n:=n)
  simp only [maxN]
  by_cases e : maxN f n ≤ f (n + 1)
  ·exact ⟨n + 1,Nat.le_refl _,by omega⟩
  ·exact ⟨q,by omega,by omega⟩
theorem any7 {t : Tb} (ht : t.Ok) : anyB t.n (fun i=>decide ((7 : Int) = t.f i)) = decide (topN t = 7):=by
 obtain ⟨hn,hf⟩:=ht
 unfold topN
 by_cases h0 : t.n = 0
 ·rw [if_pos h0,h0]; rfl
 rw [if_neg h0]
 by_cases h : maxN t.f (t.n - 1) = 7
 ·rw [decide_eq_true h,anyB_iff]
  obtain ⟨q,h1,h2⟩:=maxN_at (f:=t.f) (n:=t.n - 1)
  exact ⟨q,by omega,decide_eq_true (by omega)⟩
 ·rw [decide_eq_false h,anyB_false]
  intro i hi
  have:=maxN_ge (f:=t.f) (n:=t.n - 1) (q:=i) (by omega)
  have:=hf i hi
  have b1:=maxN_bd (f:=t.f) (n:=t.n - 1) fun q hq=>hf q (by omega)
  exact decide_eq_false (by omega)
abbrev levelC : Con (Tb × Bool × Bool):=DetCon (fun p=>[.t (.one (.ptr 1 0)),bv p.2.1,bv p.2.2]) (fun p=>tabH p.1) (fun p=>p.1.Ok) (fun p=>iv .i64 (levelN p.1 p.2.1 p.2.2)) fun p=>tabH p.1
end Go.Proofs.YtlckbdhpehkeoaaGreat.Co
