/- Parts. -/
import Derived.Test.YtlckbdhpehkeoaaGreatJ03
import Derived.Test.YtlckbdhpehkeoaaGreatJ05
import Derived.Test.YtlckbdhpehkeoaaGreatJ07
namespace Go.Proofs.YtlckbdhpehkeoaaGreat.Co
open Go Go.Eng Go.Proofs Go.Proofs.YtlckbdhpehkeoaaGreat.Tb Go.Pu
set_option maxRecDepth 100000
set_option maxHeartbeats 8000000
abbrev allC : Con Tb:=DetCon (fun p=>[.t (.one (.ptr 1 0))]) (fun p=>tabH p) (fun p=>p.Ok) (fun p=>.t (.one (.slc 2 0 1 0 p.n p.n false))) fun p=>tabH p ++ [rowN p]
noncomputable abbrev tabSAl : List (FuncId × Eng.Fn):=[(F.status_Table_All,fn.status_Table_All u0)]
theorem tabSAl_ok {d : Nat} : TabOk d tabSAl tt:=.cons (ok.status_Table_All u0) (TabOk.nil)
theorem row_copy {f : Nat → Int} {n : Nat} : ∀ q,q < n → (if 0 ≤ q ∧ q < 0 + min n n then (fun i=>(fun q=>[iC (f q)]) (0 + i)) (q - 0) else [iC 0]) = [iC (f q)]:=fun q hq=>by
 rw [if_pos ⟨Nat.zero_le _,by omega⟩]
 show [iC (f (0 + (q - 0)))] = _
 rw [Nat.sub_zero,Nat.zero_add]
theorem all_run (t : Tb) (ht : t.Ok) : clRunX 5 tt outs0 tabSAl 2 F.status_Table_All [] [.t (.one (.ptr 1 0))] (tabH t) (fun x h=>Trim 2 x h fun x h=>x = .t (.one (.slc 2 0 1 0 t.n t.n false)) ∧ h = tabH t ++ [rowN t]):=by
 have hn:=ht.1
 conv=>whnf
 refine cDT ?_ ?_
 ·refine ⟨by omega,by omega, ?_,by omega⟩
  dsimp only
  omega
 try rw [tn]
 refine wB ?_
 refine Trim.det ?_
 refine Le.id rfl ?_ ?_
 ·exact ⟨⟨rfl,rfl,rfl,fun q hq=>rfl⟩,⟨rfl,trivial⟩,⟨rfl,rfl,rfl,fun q hq=>row_copy q hq⟩,trivial⟩
 ·exact rfl
theorem all_ok : ConOk Tryz.prog F.status_Table_All allC:=con_of_run (clRunX_ok (d:=5) ttOk outs0_ok tabSAl_ok 2) (fn_enters (ok.status_Table_All (D:=5) u0 _ (clRunX_ok (d:=5) ttOk .nil TabOk.nil 1))) fun p hp=>all_run p hp
abbrev outsOf : List (FuncId × Cx):=[(F.status_Table_Spread,AskC spreadC),(F.slices_Contains_int,AskC containsC),(F.status_Table_All,AskC allC)]
theorem outsOf_ok : OutsOk Tryz.prog outsOf:=.cons (ask_ok spread_ok) (.cons (ask_ok contains_ok) (.cons (ask_ok all_ok) .nil))
noncomputable abbrev tabSOf : List (FuncId × Eng.Fn):=[(F.level_Of,fn.level_Of u0)]
theorem tabSOf_ok {d : Nat} : TabOk d tabSOf tt:=.cons (ok.level_Of u0) (TabOk.nil)
theorem of_run (t : Tb) (a b : Bool) (ht : t.Ok) : clRunX 5 tt outsOf tabSOf 2 F.level_Of [] [.t (.one (.ptr 1 0)),bv a,bv b] (tabH t) (fun x h=>Trim 2 x h fun x h=>x = iv .i64 (levelN t a b) ∧ h = tabH t):=by
 have hn:=ht.1
 cases a
 rotate_left
 ·refine wB ?_
  refine Trim.det ?_
  exact wF
 cases b
 rotate_left
 ·refine wB ?_
  refine Trim.det ?_
  exact wF
 have e : levelN t false false = if topN t = 7 then 2 else if 2 < spreadN t then 1 else 0:=rfl
 rw [e]
 refine wB ?_
 refine .det t [0,1] (.t (.one (.slc 2 0 1 0 t.n t.n false))) (tabH t ++ [rowN t]) ht rfl ?_ ?_ rfl rfl ?_
 ·exact wH
 ·exact wH
 refine wB ?_
 refine contains_use (N:=t.n) (n:=t.n) (f:=t.f) ⟨Nat.le_refl _,by omega⟩ ?_ ?_
 ·exact wH
 rw [any7 ht]
 refine wB ?_
 refine cD (fun h1=>?_) (fun h1=>?_)
 ·refine wB ?_
  rw [if_pos h1]
  refine Trim.det ?_
  exact wF
 rw [if_neg h1]
 refine wB ?_
 refine .det t [0,1] (iv .i64 (spreadN t)) (tabH t ++ [rowN t]) ht rfl ?_ ?_ rfl rfl ?_
 ·exact wH
 ·exact wH
 refine wB ?_
 refine cD (fun h2=>?_) (fun h2=>?_)
 ·refine wB ?_
  rw [if_pos h2]
  refine Trim.det ?_
  exact wF
 ·refine wB ?_
  rw [if_neg h2]
  refine Trim.det ?_
  exact wF
theorem of_ok : ConOk Tryz.prog F.level_Of levelC:=con_of_run (clRunX_ok (d:=5) ttOk outsOf_ok tabSOf_ok 2) (fn_enters (ok.level_Of (D:=5) u0 _ (clRunX_ok (d:=5) ttOk .nil TabOk.nil 1))) fun p hp=>of_run p.1 p.2.1 p.2.2 hp
def newT (n : Int) : Tb:=⟨(min (max n 0) 12).toNat,fun _=>0⟩
abbrev newC : Con Int:=DetCon (fun p=>[iv .i64 p]) (fun _=>[]) (fun _=>True) (fun p=>.t (.one (.ptr 1 0))) fun p=>tabH (newT p)
noncomputable abbrev tabSNw : List (FuncId × Eng.Fn):=[(F.status_New,fn.status_New u0)]
theorem tabSNw_ok {d : Nat} : TabOk d tabSNw tt:=.cons (ok.status_New u0) (TabOk.nil)
theorem new_run (n : Int) : clRunX 4 tt outs0 tabSNw 2 F.status_New [] [iv .i64 n] [] (fun x h=>Trim 0 x h fun x h=>x = .t (.one (.ptr 1 0)) ∧ h = tabH (newT n)):=by
 refine wB ?_
 refine cDT ?_ ?_
 ·refine ⟨by omega,by omega, ?_,by omega⟩
  dsimp only
  omega
 refine wB ?_
 refine Trim.det ?_
 exact wF
theorem new_ok : ConOk Tryz.prog F.status_New newC:=con_of_run (clRunX_ok (d:=4) ttOk outs0_ok tabSNw_ok 2) (fn_enters (ok.status_New (D:=4) u0 _ (clRunX_ok (d:=4) ttOk .nil TabOk.nil 1))) fun p hp=>new_run p
abbrev outsCh : List (FuncId × Cx):=[(F.status_Table_change,AskC changeC)]
theorem outsCh_ok : OutsOk Tryz.prog outsCh:=.cons (ask_ok change_ok) .nil
abbrev badC : Con (Tb × Int):=DetCon (fun p=>[.t (.one (.ptr 1 0)),iv .i64 p.2]) (fun p=>tabH p.1) (fun p=>p.1.Ok) (fun _=>unitR) fun p=>tabH (chg p.1 p.2 1)
abbrev goodC : Con (Tb × Int):=DetCon (fun p=>[.t (.one (.ptr 1 0)),iv .i64 p.2]) (fun p=>tabH p.1) (fun p=>p.1.Ok) (fun _=>unitR) fun p=>tabH (chg p.1 p.2 (-1))
noncomputable abbrev tabSBd : List (FuncId × Eng.Fn):=[(F.status_Table_Bad,fn.status_Table_Bad u0)]
theorem tabSBd_ok {d : Nat} : TabOk d tabSBd tt:=.cons (ok.status_Table_Bad u0) (TabOk.nil)
noncomputable abbrev tabSGd : List (FuncId × Eng.Fn):=[(F.status_Table_Good,fn.status_Table_Good u0)]
theorem tabSGd_ok {d : Nat} : TabOk d tabSGd tt:=.cons (ok.status_Table_Good u0) (TabOk.nil)
theorem bad_run (t : Tb) (msg : Int) (ht : t.Ok) : clRunX 4 tt outsCh tabSBd 2 F.status_Table_Bad [] [.t (.one (.ptr 1 0)),iv .i64 msg] (tabH t) (fun x h=>Trim 2 x h fun x h=>x = unitR ∧ h = tabH (chg t msg 1)):=by
 refine wB ?_
 refine .det (t,msg,1) [0,1] unitR (tabH (chg t msg 1)) ⟨ht,by dsimp only; omega,by dsimp only; omega⟩ rfl ?_ ?_ rfl rfl ?_
 ·exact wH
 ·exact wH
 refine wB ?_
 refine Trim.det ?_
 exact wF
theorem good_run (t : Tb) (msg : Int) (ht : t.Ok) : clRunX 4 tt outsCh tabSGd 2 F.status_Table_Good [] [.t (.one (.ptr 1 0)),iv .i64 msg] (tabH t) (fun x h=>Trim 2 x h fun x h=>x = unitR ∧ h = tabH (chg t msg (-1))):=by
 refine wB ?_
 refine .det (t,msg, -1) [0,1] unitR (tabH (chg t msg (-1))) ⟨ht,by dsimp only; omega,by dsimp only; omega⟩ rfl ?_ ?_ rfl rfl ?_
 ·exact wH
 ·exact wH
 refine wB ?_
 refine Trim.det ?_
 exact wF
theorem bad_ok : ConOk Tryz.prog F.status_Table_Bad badC:=con_of_run (clRunX_ok (d:=4) ttOk outsCh_ok tabSBd_ok 2) (fn_enters (ok.status_Table_Bad (D:=4) u0 _ (clRunX_ok (d:=4) ttOk .nil TabOk.nil 1))) fun p hp=>bad_run p.1 p.2 hp
theorem good_ok : ConOk Tryz.prog F.status_Table_Good goodC:=con_of_run (clRunX_ok (d:=4) ttOk outsCh_ok tabSGd_ok 2) (fn_enters (ok.status_Table_Good (D:=4) u0 _ (clRunX_ok (d:=4) ttOk .nil TabOk.nil 1))) fun p hp=>good_run p.1 p.2 hp
abbrev numB (f : Int → Bool) : Con Int:=RoCon (fun p=>[iv .i64 p]) (fun _=>[]) (fun _=>True) fun p=>bv (f p)
theorem numB_use {f : Int → Bool} {n : Int} {h : Heap} {K : R → Heap → Prop} (hk : K (bv (f n)) h) : AskC (numB f) [iv .i64 n] h K :=
 .use n [] trivial rfl trivial ⟨.inl rfl,trivial⟩ hk
noncomputable abbrev tabSMy : List (FuncId × Eng.Fn):=[(F.level_May,fn.level_May u0),(F.level_of,fn.level_of u0),(F.level_levels,fn.level_levels u0)]
theorem tabSMy_ok {d : Nat} : TabOk d tabSMy tt:=.cons (ok.level_May u0) (.cons (ok.level_of u0) (.cons (ok.level_levels u0) (TabOk.nil)))
noncomputable abbrev tabSBt : List (FuncId × Eng.Fn):=[(F.level_Beats,fn.level_Beats u0),(F.level_of,fn.level_of u0),(F.level_levels,fn.level_levels u0)]
theorem tabSBt_ok {d : Nat} : TabOk d tabSBt tt:=.cons (ok.level_Beats u0) (.cons (ok.level_of u0) (.cons (ok.level_levels u0) (TabOk.nil)))
theorem may_run (n : Int) : clRunX 5 tt outs0 tabSMy 4 F.level_May [] [iv .i64 n] [] (fun x h=>Trim 0 x h fun x h=>x = bv (decide (0 ≤ n ∧ n < 2)) ∧ h = []):=by
 rcases (show n < 0 ∨ n = 0 ∨ n = 1 ∨ n = 2 ∨ n = 3 ∨ 3 < n by omega) with h | rfl | rfl | rfl | rfl | h
 ·refine wB ?_
  exact trim0 rfl (congrArg bv (decide_eq_false (by omega)).symm)
 ·refine wB ?_
  exact trim0 rfl rfl
 ·refine wB ?_
  exact trim0 rfl rfl
 ·refine wB ?_
  exact trim0 rfl rfl
 ·refine wB ?_
  exact trim0 rfl rfl
 ·refine wB ?_
  exact trim0 rfl (congrArg bv (decide_eq_false (by omega)).symm)
theorem beats_run (n : Int) : clRunX 5 tt outs0 tabSBt 4 F.level_Beats [] [iv .i64 n] [] (fun x h=>Trim 0 x h fun x h=>x = bv (decide (0 ≤ n ∧ n < 3)) ∧ h = []):=by
 rcases (show n < 0 ∨ n = 0 ∨ n = 1 ∨ n = 2 ∨ n = 3 ∨ 3 < n by omega) with h | rfl | rfl | rfl | rfl | h
 ·refine wB ?_
  exact trim0 rfl (congrArg bv (decide_eq_false (by omega)).symm)
 ·refine wB ?_
  exact trim0 rfl rfl
 ·refine wB ?_
  exact trim0 rfl rfl
 ·refine wB ?_
  exact trim0 rfl rfl
 ·refine wB ?_
  exact trim0 rfl rfl
 ·refine wB ?_
  exact trim0 rfl (congrArg bv (decide_eq_false (by omega)).symm)
theorem may_ok : ConOk Tryz.prog F.level_May (numB fun n=>decide (0 ≤ n ∧ n < 2)):=con_of_run (clRunX_ok (d:=5) ttOk outs0_ok tabSMy_ok 4) (fn_enters (ok.level_May (D:=5) u0 _ (clRunX_ok (d:=5) ttOk .nil TabOk.nil 1))) fun p hp=>may_run p
theorem beats_ok : ConOk Tryz.prog F.level_Beats (numB fun n=>decide (0 ≤ n ∧ n < 3)):=con_of_run (clRunX_ok (d:=5) ttOk outs0_ok tabSBt_ok 4) (fn_enters (ok.level_Beats (D:=5) u0 _ (clRunX_ok (d:=5) ttOk .nil TabOk.nil 1))) fun p hp=>beats_run p
def trgL (t : Trg) : List C:=[iC t.kind,iC t.at_,iC t.cyc,iC t.rep,iC t.msg,iC t.til]
abbrev rowT (T : Nat → Trg) (n tot : Nat) : HE:=.ob (.row 6 n (fun i=>trgL (T i)) tot)
abbrev slT (b n cap : Nat) (nl : Bool) : R:=.t (.one (.slc b 0 6 0 n cap nl))
theorem setK_c {l l' cs : List C} {i : Nat} {K : List C → Prop} (e : l = l') (h : setK l' i cs K) : setK l i cs K:=by subst e; exact h
abbrev outsNo : List (FuncId × Cx):=[]
theorem outsNo_ok : OutsOk Tryz.prog outsNo:=.nil
noncomputable abbrev tabSs : List (FuncId × Eng.Fn):=[(F.slices_SortStableFunc_Trigger,fn.slices_SortStableFunc_Trigger u0),(F.slices_stableCmpFunc_Trigger,fn.slices_stableCmpFunc_Trigger u0),(F.slices_insertionSortCmpFunc_Trigger,fn.slices_insertionSortCmpFunc_Trigger u0),(F.plan_Plan_2,fn.plan_Plan_2 u0),(F.cmp_Compare_int,fn.cmp_Compare_int u0),(F.cmp_isNaN_int,fn.cmp_isNaN_int u0)]
theorem tabSs_ok {d : Nat} : TabOk d tabSs tt:=.cons (ok.slices_SortStableFunc_Trigger u0) (.cons (ok.slices_stableCmpFunc_Trigger u0) (.cons (ok.slices_insertionSortCmpFunc_Trigger u0) (.cons (ok.plan_Plan_2 u0) (.cons (ok.cmp_Compare_int u0) (.cons (ok.cmp_isNaN_int u0) (TabOk.nil))))))
theorem sort_1 (T : Nat → Trg) : sortF T 1 = T:=by
 have h:=(posF_prop T 0).1
 show shF T 0 (posF T 0) = T
 rw [show posF T 0 = 0 by omega]; exact shF_same T 0
theorem sort_run1 (T : Nat → Trg) (n cap tot : Nat) (nl : Bool) (hn : n ≤ 19) (hc : n ≤ cap) (ht : cap ≤ tot) : clRunX 7 tt outsNo tabSs 6 F.slices_SortStableFunc_Trigger [] [slT 0 n cap nl,.t (.one (.fn (.func F.plan_Plan_2) []))] [rowT (sortF T 1) n tot] (fun x h=>Trim 1 x h fun x h=>x = unitR ∧ h = [rowT (sortF T n) n tot]):=by
 refine wB ?_
 refine .rd (fun _ : Unit=>True) (fun _=>[(7,iv .i64 0),(8,iv .i64 20)]) (fun _=>0) () trivial ?_ (fun _ _=>?_)
 ·exact wF
 refine wB ?_
 refine .inv (fun i : Nat=>1 ≤ i ∧ (i ≤ n ∨ i = 1)) (fun i=>[(8,iv .i64 i)]) (fun i=>[rowT (sortF T i) n tot]) (fun i=>n + 1 - i) 1 ⟨Nat.le_refl _,.inr rfl⟩ ?_ (fun i ⟨hi1,hi⟩=>?_)
 ·exact wF
 have hs:=sort_sorted T i
 obtain ⟨B,hB⟩ : ∃ B,sortF T i = B:=⟨_,rfl⟩
 have hB1 : sortF T (i + 1) = insF B i:=by rw [← hB]; rfl
 rw [hB] at hs ⊢
 refine wB ?_
 refine cD (fun h5=>?_) (fun h5=>?_)
 rotate_left
 ·have eB : B = sortF T n:=by
   rcases hi with h | h
   ·rw [← hB,show i = n by omega]
   ·subst h
    rcases (show n = 0 ∨ n = 1 by omega) with e | e
    ·rw [← hB,e,sort_1]; rfl
    ·rw [← hB,e]
  subst eB
  refine wB ?_
  refine .rd (fun _ : Unit=>True) (fun _=>[(6,iv .i64 20)]) (fun _=>0) () trivial ?_ (fun _ _=>?_)
  ·exact wF
  refine wB ?_
  refine Trim.det ?_
  refine Le.id rfl ?_ ?_
  ·exact wH
  ·exact wH
 refine wB ?_
 refine .inv (fun j : Nat=>j ≤ i ∧ ∀ q,j ≤ q → q < i → (B i).at_ < (B q).at_) (fun j=>[(9,iv .i64 j)]) (fun j=>[rowT (shF B i j) n tot]) (fun j=>j) i ⟨Nat.le_refl _,fun q h1 h2=>by omega⟩ ?_ (fun j ⟨hj,hx⟩=>?_)
 ·rw [shF_same]
  exact wF
 have ej : shF B i j j = B i:=by unfold shF; rw [if_neg (Nat.lt_irrefl j),if_pos rfl]
 have ej1 : 0 < j → shF B i j (j - 1) = B (j - 1):=fun h=>by unfold shF; rw [if_pos (by omega)]
 refine wB ?_
 refine cD (fun h6=>?_) (fun h6=>?_)
 rotate_left
 ·obtain rfl : j = 0:=by omega
  have ee : shF B i 0 = insF B i:=ins_end hs (Nat.zero_le _) hx (.inl rfl)
  rw [ee,← hB1]
  refine wB ?_
  refine ⟨i + 1,⟨⟨by omega,.inl (by omega)⟩,by omega⟩, ?_⟩
  exact wF
 have ez : ((j : Int) - 1).toNat = j - 1:=by omega
 have ej1:=ej1 (by omega)
 refine wB ?_
 rw [show 0 + ((j : Int)).toNat = j by omega,show 0 + ((j : Int) - 1).toNat = j - 1 by omega,ej,ej1]
 refine cD (fun h7=>?_) (fun h7=>?_)
 ·refine wB ?_
  refine setK_c (l':=trgL (B (j - 1))) ?_ ?_
  ·show (if 0 + ((j : Int) - 1).toNat = 0 + ((j : Int)).toNat then _ else trgL (shF B i j (0 + ((j : Int) - 1).toNat))) = _
   rw [if_neg (by omega),show 0 + ((j : Int) - 1).toNat = j - 1 by omega,ej1]
  refine wB ?_
  refine ⟨j - 1,⟨⟨by omega,fun q h1 h2=>?_⟩,by omega⟩, ?_⟩
  ·by_cases e : q = j - 1
   ·rw [e]; exact h7
   ·exact hx q (by omega) h2
  rw [show ((j : Int) - 1) = ((j - 1 : Nat) : Int) by omega]
  conv=>whnf
  refine Le.id rfl ?_ ?_
  ·refine ⟨⟨rfl,rfl,rfl,fun q hq=>?_⟩,trivial⟩
   show (if q = 0 + (((j - 1 : Nat) : Int)).toNat then trgL (shF B i j (0 + ((j : Int)).toNat)) else if q = 0 + ((j : Int)).toNat then trgL (shF B i j (0 + (((j - 1 : Nat) : Int)).toNat)) else trgL (shF B i j q)) = trgL (shF B i (j - 1) q)
   rw [shF_down B (by omega) hj q,Int.toNat_natCast,Int.toNat_natCast,Nat.zero_add,Nat.zero_add,ej,ej1]
   by_cases e1 : q = j - 1
   ·rw [if_pos e1,if_pos e1]
   ·rw [if_neg e1,if_neg e1]
    by_cases e2 : q = j
    ·rw [if_pos e2,if_pos e2]
    ·rw [if_neg e2,if_neg e2]
  ·exact wH
 have ee : shF B i j = insF B i:=ins_end hs hj hx (.inr (by omega))
 rw [ee,← hB1]
 refine wB ?_
 refine cD (fun h8=>?_) (fun h8=>?_)
 ·refine wB ?_
  refine ⟨i + 1,⟨⟨by omega,.inl (by omega)⟩,by omega⟩, ?_⟩
  exact wF
 ·refine wB ?_
  refine ⟨i + 1,⟨⟨by omega,.inl (by omega)⟩,by omega⟩, ?_⟩
  exact wF
abbrev sortC : Con ((Nat → Trg) × Nat × Nat × Nat × Bool):=DetCon (fun p=>[slT 0 p.2.1 p.2.2.1 p.2.2.2.2,.t (.one (.fn (.func F.plan_Plan_2) []))]) (fun p=>[rowT p.1 p.2.1 p.2.2.2.1]) (fun p=>p.2.1 ≤ 19 ∧ p.2.1 ≤ p.2.2.1 ∧ p.2.2.1 ≤ p.2.2.2.1) (fun _=>unitR) (fun p=>[rowT (sortF p.1 p.2.1) p.2.1 p.2.2.2.1])
theorem sort_run (T : Nat → Trg) (n cap tot : Nat) (nl : Bool) (hn : n ≤ 19) (hc : n ≤ cap) (ht : cap ≤ tot) : clRunX 7 tt outsNo tabSs 6 F.slices_SortStableFunc_Trigger [] [slT 0 n cap nl,.t (.one (.fn (.func F.plan_Plan_2) []))] [rowT T n tot] (fun x h=>Trim 1 x h fun x h=>x = unitR ∧ h = [rowT (sortF T n) n tot]):=by
 have h:=sort_run1 T n cap tot nl hn hc ht
 rw [sort_1] at h
 exact h
theorem sort_ok : ConOk Tryz.prog F.slices_SortStableFunc_Trigger sortC:=con_of_run (clRunX_ok (d:=7) ttOk outsNo_ok tabSs_ok 6) (fn_enters (ok.slices_SortStableFunc_Trigger (D:=7) u0 _ (clRunX_ok (d:=7) ttOk .nil TabOk.nil 1))) fun p hp=>sort_run p.1 p.2.1 p.2.2.1 p.2.2.2.1 p.2.2.2.2 hp.1 hp.2.1 hp.2.2
noncomputable abbrev tabV1 : List (FuncId × Eng.Fn):=[(F.matrix_Rank,fn.matrix_Rank u0),(F.slices_Index_int,fn.slices_Index_int u0)]
theorem tabV1_ok {d : Nat} : TabOk d tabV1 tt:=.cons (ok.matrix_Rank u0) (.cons (ok.slices_Index_int u0) (TabOk.nil))
theorem rankM_run (m : Mat) (c : Caps) (v : Int) (hm : m.Ok) : clRunX 5 tt outsNo tabV1 3 F.matrix_Rank [] [matT m c 0 1 2,iv .i64 v] (matH m []) (fun x h=>Trim 3 x h fun x h=>x = iv .i64 (rank m v) ∧ h = matH m []):=by
 have hnM:=hm.nM
 refine wB ?_
 refine .rd (fun i : Nat=>i ≤ m.nM ∧ ∀ j,j < i → ¬ m.M j = v) (fun i=>[(8,iv .i64 i)]) (fun i=>m.nM - i) 0 ⟨Nat.zero_le _,all_0⟩ ?_ (fun i ⟨hi,hp⟩=>?_)
 ·exact wF
 conv=>whnf
 refine cD (fun h5=>?_) (fun h5=>?_)
 rotate_left
 ·obtain rfl : i = m.nM:=by omega
  refine wB ?_
  exact trimM rfl (congrArg (iv .i64) (first_none fun j hj=>decide_eq_false (hp j hj)).symm)
 refine wB ?_
 try rw [zi i]
 refine wB ?_
 refine cD (fun h6=>?_) (fun h6=>?_)
 ·refine wB ?_
  exact trimM rfl (congrArg (iv .i64) (first_some (by omega) (fun j hj=>decide_eq_false (hp j hj)) (decide_eq_true h6.symm)).symm)
 refine wB ?_
 refine ⟨i + 1,⟨⟨by omega,all_up hp (fun h=>h6 h.symm)⟩,by omega⟩, ?_⟩
 exact wF
theorem rankM_ok : ConOk Tryz.prog F.matrix_Rank rankC:=con_of_run (clRunX_ok (d:=5) ttOk outsNo_ok tabV1_ok 3) (fn_enters (ok.matrix_Rank (D:=5) u0 _ (clRunX_ok (d:=5) ttOk .nil TabOk.nil 1))) fun p hp=>rankM_run p.1 p.2.1 p.2.2 hp
abbrev beatC : Con (Mat × Caps × Int):=RoCon (fun p=>[matT p.1 p.2.1 0 1 2,iv .i64 p.2.2]) (fun p=>matH p.1 []) (fun p=>p.1.Ok) fun p=>iv .i64 (beat1 p.1 p.2.2)
theorem beat_use {m : Mat} {c : Caps} {v : Int} {rest : Heap} {K : R → Heap → Prop} (hm : m.Ok) (hk : K (iv .i64 (beat1 m v)) (matH m rest)) : AskC beatC [matT m c 0 1 2,iv .i64 v] (matH m rest) K :=
 .use (m,c,v) [0,1,2] hm rfl (mat_le m rest) ⟨mat_lx m c rest,.inl rfl,trivial⟩ hk
theorem beat_bd {m : Mat} (h : m.Is) {v : Int} (hv : 0 ≤ v ∧ v ≤ 99) : 0 ≤ (v + 1) * Pu.step m ∧ (v + 1) * Pu.step m ≤ 100 * 5000:=times_bd (by omega) (by omega) (step_bd (m:=m)).1 (by have:=(step_bd (m:=m)).2; omega) (by omega)
noncomputable abbrev tabV2 : List (FuncId × Eng.Fn):=[(F.plan_Beat,fn.plan_Beat u0)]
theorem tabV2_ok {d : Nat} : TabOk d tabV2 tt:=.cons (ok.plan_Beat u0) (TabOk.nil)
theorem beat_run (m : Mat) (c : Caps) (v : Int) (hm : m.Ok) : clRunX 5 tt outsPw tabV2 2 F.plan_Beat [] [matT m c 0 1 2,iv .i64 v] (matH m []) (fun x h=>Trim 3 x h fun x h=>x = iv .i64 (beat1 m v) ∧ h = matH m []):=by
 refine wB ?_
 refine is_use (m:=m) (c:=c) hm ?_
 cases h : isM m
 ·refine wB ?_
  exact trimM rfl (congrArg (iv .i64) (by unfold beat1; rw [h]; rfl))
 have hi:=isM_iff.1 h
 have hl:=hi.head
 unfold headP at hl
 have hs:=step_bd (m:=m)
 have e0 : beat1 m v = if v < 0 ∨ 99 < v then m.length else m.length + (v + 1) * Pu.step m:=by unfold beat1; rw [if_pos h]
 refine wB ?_
 refine cD (fun h5=>?_) (fun h5=>?_)
 ·refine wB ?_
  exact trimM rfl (congrArg (iv .i64) (by rw [e0,if_pos (.inl h5)]))
 refine wB ?_
 refine cD (fun h6=>?_) (fun h6=>?_)
 ·refine wB ?_
  exact trimM rfl (congrArg (iv .i64) (by rw [e0,if_pos (.inr h6)]))
 have hb:=beat_bd hi (v:=v) (by omega)
 refine wB ?_
 refine step_use (m:=m) (c:=c) hm ?_
 refine wB ?_
 exact trimM rfl (congrArg (iv .i64) (by rw [e0,if_neg (by omega)]))
theorem beat_ok : ConOk Tryz.prog F.plan_Beat beatC:=con_of_run (clRunX_ok (d:=5) ttOk outsPw_ok tabV2_ok 2) (fn_enters (ok.plan_Beat (D:=5) u0 _ (clRunX_ok (d:=5) ttOk .nil TabOk.nil 1))) fun p hp=>beat_run p.1 p.2.1 p.2.2 hp
def trgT (t : Trg) : R:=.t (.agg [.c (iC t.kind),.c (iC t.at_),.c (iC t.cyc),.c (iC t.rep),.c (iC t.msg),.c (iC t.til)])
abbrev trgC : Con (Mat × Caps × Int × Win):=RoCon (fun p=>[matT p.1 p.2.1 0 1 2,iv .i64 p.2.2.1,winT p.2.2.2]) (fun p=>matH p.1 []) (fun p=>p.1.Ok ∧ p.1.Is ∧ winP p.1 p.2.2.2 ∧ (p.2.2.2.kind = 1 → p.2.2.2.msg < p.1.nG) ∧ p.2.2.2.kind ≠ 3) fun p=>trgT (trgW p.1 p.2.2.1 p.2.2.2)
theorem trg_use {m : Mat} {c : Caps} {v : Int} {w : Win} {rest : Heap} {K : R → Heap → Prop} (hm : m.Ok) (hi : m.Is) (hw : winP m w) (hg : w.kind = 1 → w.msg < m.nG) (h3 : w.kind ≠ 3) (hk : K (trgT (trgW m v w)) (matH m rest)) : AskC trgC [matT m c 0 1 2,iv .i64 v,winT w] (matH m rest) K :=
 .use (m,c,v,w) [0,1,2] ⟨hm,hi,hw,hg,h3⟩ rfl (mat_le m rest) ⟨mat_lx m c rest,.inl rfl,⟨.inl rfl,.inl rfl,.inl rfl,.inl rfl,.inl rfl,.inl rfl,trivial⟩,trivial⟩ hk
noncomputable abbrev tabV4 : List (FuncId × Eng.Fn):=[(F.plan_window,fn.plan_window u0)]
theorem tabV4_ok {d : Nat} : TabOk d tabV4 tt:=.cons (ok.plan_window u0) (TabOk.nil)
theorem trg_run (m : Mat) (c : Caps) (v : Int) (w : Win) (hm : m.Ok) (hi : m.Is) (hw : winP m w) (hg : w.kind = 1 → w.msg < m.nG) (h3 : w.kind ≠ 3) : clRunX 6 tt outsPw tabV4 2 F.plan_window [] [matT m c 0 1 2,iv .i64 v,winT w] (matH m []) (fun x h=>Trim 3 x h fun x h=>x = trgT (trgW m v w) ∧ h = matH m []):=by
 have hl:=hi.head
 unfold headP at hl
 have hs:=step_bd (m:=m)
 have hw':=hw
 unfold winP at hw'
 have hnG:=hm.nG
 refine wB ?_
 refine ⟨?_, ?_⟩
 all_goals
  refine wB ?_
  refine step_use (m:=m) (c:=c) hm ?_
  refine wB ?_
  refine cD (fun h5=>?_) (fun h5=>?_)
  ·refine wB ?_
   exact trimM rfl (congrArg trgT (show (⟨2,w.st,w.cyc,w.rep,w.msg,w.en - Pu.step m⟩ : Trg) = trgW m v w by unfold trgW; rw [if_pos h5]))
  have hg:=hg (by omega)
  have e0 : trgW m v w = if (m.G w.msg.toNat).ow = v then ⟨1,w.st,w.cyc,w.rep,w.msg,w.st + m.enable⟩ else ⟨3,w.en - 1,w.cyc,w.rep,w.msg,0⟩:=by unfold trgW; rw [if_neg h5]
  refine wB ?_
  rw [za]
  refine wB ?_
  refine cD (fun h6=>?_) (fun h6=>?_)
  ·refine wB ?_
   exact trimM rfl (congrArg trgT (show (⟨1,w.st,w.cyc,w.rep,w.msg,w.st + m.enable⟩ : Trg) = trgW m v w by rw [e0,if_pos h6]))
  ·refine wB ?_
   exact trimM rfl (congrArg trgT (show (⟨3,w.en - 1,w.cyc,w.rep,w.msg,0⟩ : Trg) = trgW m v w by rw [e0,if_neg h6]))
theorem trg_ok : ConOk Tryz.prog F.plan_window trgC:=con_of_run (clRunX_ok (d:=6) ttOk outsPw_ok tabV4_ok 2) (fn_enters (ok.plan_window (D:=6) u0 _ (clRunX_ok (d:=6) ttOk .nil TabOk.nil 1))) fun p hp=>trg_run p.1 p.2.1 p.2.2.1 p.2.2.2 hp.1 hp.2.1 hp.2.2.1 hp.2.2.2.1 hp.2.2.2.2
abbrev outsPp : List (FuncId × Cx):=[(F.check_Check,AskC checkC),(F.plan_window,AskC trgC),(F.matrix_Rank,AskC rankC),(F.plan_Beat,AskC beatC),(F.plan_Watch,AskC watchC),(F.slices_SortStableFunc_Trigger,AskC sortC)]
theorem outsPp_ok : OutsOk Tryz.prog outsPp:=.cons (ask_ok check_ok) (.cons (ask_ok trg_ok) (.cons (ask_ok rankM_ok) (.cons (ask_ok beat_ok) (.cons (ask_ok watch_ok) (.cons (ask_ok sort_ok) .nil)))))
noncomputable abbrev tabPp : List (FuncId × Eng.Fn):=[(F.plan_Plan,fn.plan_Plan u0),(F.plan_Plan_1,fn.plan_Plan_1 u0)]
theorem tabPp_ok {d : Nat} : TabOk d tabPp tt:=.cons (ok.plan_Plan u0) (.cons (ok.plan_Plan_1 u0) (TabOk.nil))
abbrev outC (k b cap : Nat) : HE:=match k with
 | 0=>.ob (.own [.c (.v (.slice none 0 0))])
 | k + 1=>.ob (.own [.c (.slc b 0 6 0 (k + 1) cap false)])
abbrev rowsC (T : Nat → Trg) (k cap : Nat) : Heap:=match k with
 | 0=>[]
 | k + 1=>[rowT T (k + 1) cap]
theorem appF {f : Nat → List C} {L : List Trg} {t : Trg} {n q : Nat} (hn : L.length = n) (hf : ∀ i,i < n → f i = trgL (at0L L i)) (hq : q < n + 1) : (if q < n then f (0 + q) else nthD [] [trgL t] (0 + (q - n))) = trgL (at0L (L ++ [t]) q):=by
 rw [at0L_end _ _ _ (by omega),hn]
 by_cases c : q < n
 ·rw [if_pos c,if_pos c,Nat.zero_add,hf q c]
 ·rw [if_neg c,if_neg c,show 0 + (q - n) = 0 by omega]; rfl
theorem app0 {L : List Trg} {t : Trg} {q : Nat} (hn : L = []) (hq : q < 0 + 1) : nthD [] [trgL t] (0 + q) = trgL (at0L (L ++ [t]) q):=by
 subst hn
 obtain rfl : q = 0:=by omega
 rfl
theorem plan_run (m : Mat) (c : Caps) (who : Int) (hm : m.Ok) (hc : capsOk m c) (hw : I64 who) : clRunX 6 tt outsPp tabPp 3 F.plan_Plan [] [matT m c 0 1 2,iv .i64 who] (matH m []) (fun x h=>Trim 3 x h fun x h=>∃ cap,(rowL0 m who).length ≤ cap ∧ x = (if (chk m).2 = 0 then slT 3 (rowL0 m who).length cap false else nilS) ∧ h = (if (chk m).2 = 0 then matH m [rowT (planF m who) (rowL0 m who).length cap] else matH m [])):=by
 refine wB ?_
 refine check_use (m:=m) (c:=c) hm hc ?_
 refine wB ?_
 refine cN (fun h1=>?_) (fun h1=>?_)
 ·refine wB ?_
  refine Trim.fam (rowL0 m who).length (Nat.le_refl _) ?_
  rw [if_neg h1,if_neg h1]
  refine Le.id rfl ?_ ?_
  ·exact wH
  ·exact wH
 have hP:=pass_of h1
 have hi0:=hP.is
 have hnW : m.nW ≤ 16:=hi0.size.2.2.2
 refine wB ?_
 refine .inv (fun p : Nat × Nat=>p.1 ≤ m.nW ∧ (wTrgs m who p.1).length ≤ p.2) (fun p=>[(22,iv .i64 p.1)]) (fun p=>matH m (boxM m c :: outC (wTrgs m who p.1).length 5 p.2 :: rowsC (at0L (wTrgs m who p.1)) (wTrgs m who p.1).length p.2)) (fun p=>m.nW - p.1) (0,0) ⟨Nat.zero_le _,Nat.le_refl _⟩ ?_ (fun p ⟨hi,hl⟩=>?_)
 ·exact wF
 generalize p.1 = i at *
 generalize p.2 = cap at *
 conv=>whnf
 refine cD (fun h5=>?_) (fun h5=>?_)
 ·have hw:=hP.w (i:=i) (by omega)
  have ew : wTrgs m who (i + 1) = if (m.W i).kind = 3 then wTrgs m who i else wTrgs m who i ++ [trgW m who (m.W i)]:=rfl
  have hlen:=wTrgs_len m who i
  obtain ⟨k,hk⟩ : ∃ k,(wTrgs m who i).length = k:=⟨_,rfl⟩
  rw [hk] at hl hlen ⊢
  rcases k with _ | k
  ·refine wB ?_
   try rw [zi i]
   refine wB ?_
   refine cD (fun h6=>?_) (fun h6=>?_)
   ·rw [if_pos h6] at ew
    refine wB ?_
    refine ⟨(i + 1,cap),⟨⟨by show i + 1 ≤ m.nW; omega,by rw [ew,hk]; omega⟩,by show m.nW - (i + 1) < m.nW - i; omega⟩, ?_⟩
    rw [ew,hk]
    exact wF
   rw [if_neg h6] at ew
   refine wB ?_
   refine trg_use (m:=m) (c:=c) (w:=m.W i) hm hi0 hw.1 (fun h=>(hw.2.1 h).1) h6 ?_
   refine wB ?_
   intro cap' hc'
   have e2 : (wTrgs m who (i + 1)).length = 0 + 1:=by rw [ew,List.length_append,hk]; rfl
   have eT : ∀ q,q < 0 + 1 → at0L (wTrgs m who (i + 1)) q = if q < 0 then at0L (wTrgs m who i) q else trgW m who (m.W i):=fun q hq=>by rw [ew,at0L_end _ _ _ (by omega),hk]
   refine wB ?_
   refine ⟨(i + 1,cap'),⟨⟨by show i + 1 ≤ m.nW; omega,by rw [e2]; omega⟩,by show m.nW - (i + 1) < m.nW - i; omega⟩, ?_⟩
   rw [e2]
   conv=>whnf
   refine Le.nm [0,1,2,3,4,7] rfl ?_ ?_
   ·refine ⟨⟨.inl rfl,Nat.le_refl _,fun _ _=>rfl⟩,⟨.inl rfl,Nat.le_refl _,fun _ _=>rfl⟩,⟨.inl rfl,Nat.le_refl _,fun _ _=>rfl⟩, ?_, ?_,⟨rfl,rfl,rfl,fun q hq=>?_⟩,trivial⟩
    ·exact wH
    ·exact wH
    ·have eT:=eT q hq
     rw [if_neg (Nat.not_lt_zero q)] at eT
     have hq : q < 1:=hq
     obtain rfl : q = 0:=by omega
     show trgL (trgW m who (m.W i)) = trgL (at0L (wTrgs m who (i + 1)) 0)
     rw [eT]
   ·exact wH
  ·refine wB ?_
   try rw [zi i]
   refine wB ?_
   refine cD (fun h6=>?_) (fun h6=>?_)
   ·rw [if_pos h6] at ew
    refine wB ?_
    refine ⟨(i + 1,cap),⟨⟨by show i + 1 ≤ m.nW; omega,by rw [ew,hk]; omega⟩,by show m.nW - (i + 1) < m.nW - i; omega⟩, ?_⟩
    rw [ew,hk]
    exact wF
   rw [if_neg h6] at ew
   refine wB ?_
   refine trg_use (m:=m) (c:=c) (w:=m.W i) hm hi0 hw.1 (fun h=>(hw.2.1 h).1) h6 ?_
   refine wB ?_
   refine cT (decide_eq_true (by show (k + 1 + 1) * 48 ≤ 1099511627776; omega)) ?_
   refine wB ?_
   intro cap' hc'
   have e2 : (wTrgs m who (i + 1)).length = (k + 1) + 1:=by rw [ew,List.length_append,hk]; rfl
   have eT : ∀ q,q < (k + 1) + 1 → at0L (wTrgs m who (i + 1)) q = if q < (k + 1) then at0L (wTrgs m who i) q else trgW m who (m.W i):=fun q hq=>by rw [ew,at0L_end _ _ _ (by omega),hk]
   refine wB ?_
   refine ⟨(i + 1,cap'),⟨⟨by show i + 1 ≤ m.nW; omega,by rw [e2]; omega⟩,by show m.nW - (i + 1) < m.nW - i; omega⟩, ?_⟩
   rw [e2]
   conv=>whnf
   refine Le.nm [0,1,2,3,4,8] rfl ?_ ?_
   ·refine ⟨⟨.inl rfl,Nat.le_refl _,fun _ _=>rfl⟩,⟨.inl rfl,Nat.le_refl _,fun _ _=>rfl⟩,⟨.inl rfl,Nat.le_refl _,fun _ _=>rfl⟩, ?_, ?_,⟨rfl,rfl,rfl,fun q hq=>?_⟩,trivial⟩
    ·exact wH
    ·exact wH
    ·have eT:=eT q hq
     show (if q < k + 1 then trgL (at0L (wTrgs m who i) (0 + q)) else nthD [] [trgL (trgW m who (m.W i))] (0 + (q - (k + 1)))) = trgL (at0L (wTrgs m who (i + 1)) q)
     rw [eT]
     by_cases c : q < k + 1
     ·rw [if_pos c,if_pos c,Nat.zero_add]
     ·rw [if_neg c,if_neg c,show 0 + (q - (k + 1)) = 0 by omega]; rfl
   ·exact wH
 obtain rfl : i = m.nW:=by omega
 have hlen:=wTrgs_len m who m.nW
 obtain ⟨k,hk⟩ : ∃ k,(wTrgs m who m.nW).length = k:=⟨_,rfl⟩
 have hr:=rowL0_len m who
 have hrk : (rank m who = -1) ∨ (0 ≤ rank m who ∧ rank m who ≤ 3):=by
  have:=hi0.size.2.1
  unfold Co.rank
  rcases first_cases m.nM (fun j=>decide (m.M j = who)) with ⟨h1,_⟩ | ⟨j,h1,h2,_⟩
  ·exact .inl h1
  ·exact .inr (by omega)
 rw [hk] at hl hlen ⊢
 rcases k with _ | k
 ·refine wB ?_
  refine rank_use (m:=m) (c:=c) hm ?_
  rcases hrk with hrk | hrk
  ·have eR : rowL0 m who = wTrgs m who m.nW ++ [⟨5,watch1 m,0,1,0,0⟩]:=by unfold rowL0; rw [if_neg (show ¬ 0 ≤ rankM m who from fun h=>by have h : 0 ≤ rank m who:=h; omega)]
   have eL : (rowL0 m who).length = 0 + 1:=by rw [eR]; simp only [List.length_append,hk]; rfl
   refine wB ?_
   refine watch_use (m:=m) (c:=c) hm ?_
   refine wB ?_
   intro c1 hc1
   refine wB ?_
   refine .det (at0L (rowL0 m who),0 + 1,c1,c1,false) [6] unitR _ ⟨by show 0 + 1 ≤ 19; omega,by show 0 + 1 ≤ c1; omega,Nat.le_refl _⟩ rfl ?_ ?_ rfl rfl ?_
   ·refine ⟨⟨rfl,rfl,rfl,fun q hq=>?_⟩,trivial⟩
    rw [eR]
    exact app0 (t:=⟨5,watch1 m,0,1,0,0⟩) (List.eq_nil_of_length_eq_zero hk) hq
   ·exact wH
   refine wB ?_
   refine Trim.fam c1 (by rw [eL]; omega) ?_
   rw [if_pos h1,if_pos h1,eL]
   refine Le.nm [0,1,2,6] rfl ?_ ?_
   ·refine ⟨⟨.inl rfl,Nat.le_refl _,fun _ _=>rfl⟩,⟨.inl rfl,Nat.le_refl _,fun _ _=>rfl⟩,⟨.inl rfl,Nat.le_refl _,fun _ _=>rfl⟩,⟨rfl,rfl,rfl,fun q hq=>?_⟩,trivial⟩
    unfold planF
    rw [eL]
    rfl
   ·exact wH
  ·have eR : rowL0 m who = wTrgs m who m.nW ++ [⟨4,m.length,0,1,0,0⟩] ++ [⟨4,beat1 m (rank m who),0,1,1,0⟩] ++ [⟨5,watch1 m,0,1,0,0⟩]:=by unfold rowL0; rw [if_pos (show 0 ≤ rankM m who from hrk.1)]; rfl
   have eL : (rowL0 m who).length = 0 + 1 + 1 + 1:=by rw [eR]; simp only [List.length_append,hk]; rfl
   refine wB ?_
   intro c1 hc1
   refine wB ?_
   refine beat_use (m:=m) (c:=c) hm ?_
   refine wB ?_
   intro c2 hc2
   refine wB ?_
   refine watch_use (m:=m) (c:=c) hm ?_
   refine wB ?_
   intro c3 hc3
   refine wB ?_
   refine .det (at0L (rowL0 m who),0 + 1 + 1 + 1,c3,c3,false) [10] unitR _ ⟨by show 0 + 1 + 1 + 1 ≤ 19; omega,by show 0 + 1 + 1 + 1 ≤ c3; omega,Nat.le_refl _⟩ rfl ?_ ?_ rfl rfl ?_
   ·refine ⟨⟨rfl,rfl,rfl,fun q hq=>?_⟩,trivial⟩
    rw [eR]
    exact appF (t:=⟨5,watch1 m,0,1,0,0⟩) (n:=0 + 1 + 1) (L:=wTrgs m who m.nW ++ [⟨4,m.length,0,1,0,0⟩] ++ [⟨4,beat1 m (rank m who),0,1,1,0⟩]) (by simp only [List.length_append,hk]; rfl) (fun i hi=>appF (t:=⟨4,beat1 m (rank m who),0,1,1,0⟩) (n:=0 + 1) (L:=wTrgs m who m.nW ++ [⟨4,m.length,0,1,0,0⟩]) (by simp only [List.length_append,hk]; rfl) (fun i hi=>app0 (t:=⟨4,m.length,0,1,0,0⟩) (List.eq_nil_of_length_eq_zero hk) hi) hi) hq
   ·exact wH
   refine wB ?_
   refine Trim.fam c3 (by rw [eL]; omega) ?_
   rw [if_pos h1,if_pos h1,eL]
   refine Le.nm [0,1,2,10] rfl ?_ ?_
   ·refine ⟨⟨.inl rfl,Nat.le_refl _,fun _ _=>rfl⟩,⟨.inl rfl,Nat.le_refl _,fun _ _=>rfl⟩,⟨.inl rfl,Nat.le_refl _,fun _ _=>rfl⟩,⟨rfl,rfl,rfl,fun q hq=>?_⟩,trivial⟩
    unfold planF
    rw [eL]
    rfl
   ·exact wH
 ·refine wB ?_
  refine rank_use (m:=m) (c:=c) hm ?_
  rcases hrk with hrk | hrk
  ·have eR : rowL0 m who = wTrgs m who m.nW ++ [⟨5,watch1 m,0,1,0,0⟩]:=by unfold rowL0; rw [if_neg (show ¬ 0 ≤ rankM m who from fun h=>by have h : 0 ≤ rank m who:=h; omega)]
   have eL : (rowL0 m who).length = k + 1 + 1:=by rw [eR]; simp only [List.length_append,hk]; rfl
   refine wB ?_
   refine watch_use (m:=m) (c:=c) hm ?_
   refine wB ?_
   refine cT (decide_eq_true (by show (k + 1 + 1) * 48 ≤ 1099511627776; omega)) ?_
   refine wB ?_
   intro c1 hc1
   refine wB ?_
   refine .det (at0L (rowL0 m who),k + 1 + 1,c1,c1,false) [7] unitR _ ⟨by show k + 1 + 1 ≤ 19; omega,by show k + 1 + 1 ≤ c1; omega,Nat.le_refl _⟩ rfl ?_ ?_ rfl rfl ?_
   ·refine ⟨⟨rfl,rfl,rfl,fun q hq=>?_⟩,trivial⟩
    rw [eR]
    exact appF (t:=⟨5,watch1 m,0,1,0,0⟩) (n:=k + 1) hk (fun _ _=>rfl) hq
   ·exact wH
   refine wB ?_
   refine Trim.fam c1 (by rw [eL]; omega) ?_
   rw [if_pos h1,if_pos h1,eL]
   refine Le.nm [0,1,2,7] rfl ?_ ?_
   ·refine ⟨⟨.inl rfl,Nat.le_refl _,fun _ _=>rfl⟩,⟨.inl rfl,Nat.le_refl _,fun _ _=>rfl⟩,⟨.inl rfl,Nat.le_refl _,fun _ _=>rfl⟩,⟨rfl,rfl,rfl,fun q hq=>?_⟩,trivial⟩
    unfold planF
    rw [eL]
    rfl
   ·exact wH
  ·have eR : rowL0 m who = wTrgs m who m.nW ++ [⟨4,m.length,0,1,0,0⟩] ++ [⟨4,beat1 m (rank m who),0,1,1,0⟩] ++ [⟨5,watch1 m,0,1,0,0⟩]:=by unfold rowL0; rw [if_pos (show 0 ≤ rankM m who from hrk.1)]; rfl
   have eL : (rowL0 m who).length = k + 1 + 1 + 1 + 1:=by rw [eR]; simp only [List.length_append,hk]; rfl
   refine wB ?_
   refine cT (decide_eq_true (by show (k + 1 + 1) * 48 ≤ 1099511627776; omega)) ?_
   refine wB ?_
   intro c1 hc1
   refine wB ?_
   refine beat_use (m:=m) (c:=c) hm ?_
   refine wB ?_
   refine cT (decide_eq_true (by show (k + 1 + 1 + 1) * 48 ≤ 1099511627776; omega)) ?_
   refine wB ?_
   intro c2 hc2
   refine wB ?_
   refine watch_use (m:=m) (c:=c) hm ?_
   refine wB ?_
   refine cT (decide_eq_true (by show (k + 1 + 1 + 1 + 1) * 48 ≤ 1099511627776; omega)) ?_
   refine wB ?_
   intro c3 hc3
   refine wB ?_
   refine .det (at0L (rowL0 m who),k + 1 + 1 + 1 + 1,c3,c3,false) [11] unitR _ ⟨by show k + 1 + 1 + 1 + 1 ≤ 19; omega,by show k + 1 + 1 + 1 + 1 ≤ c3; omega,Nat.le_refl _⟩ rfl ?_ ?_ rfl rfl ?_
   ·refine ⟨⟨rfl,rfl,rfl,fun q hq=>?_⟩,trivial⟩
    rw [eR]
    exact appF (t:=⟨5,watch1 m,0,1,0,0⟩) (n:=k + 1 + 1 + 1) (L:=wTrgs m who m.nW ++ [⟨4,m.length,0,1,0,0⟩] ++ [⟨4,beat1 m (rank m who),0,1,1,0⟩]) (by simp only [List.length_append,hk]; rfl) (fun i hi=>appF (t:=⟨4,beat1 m (rank m who),0,1,1,0⟩) (n:=k + 1 + 1) (L:=wTrgs m who m.nW ++ [⟨4,m.length,0,1,0,0⟩]) (by simp only [List.length_append,hk]; rfl) (fun i hi=>appF (t:=⟨4,m.length,0,1,0,0⟩) (n:=k + 1) hk (fun _ _=>rfl) hi) hi) hq
   ·exact wH
   refine wB ?_
   refine Trim.fam c3 (by rw [eL]; omega) ?_
   rw [if_pos h1,if_pos h1,eL]
   refine Le.nm [0,1,2,11] rfl ?_ ?_
   ·refine ⟨⟨.inl rfl,Nat.le_refl _,fun _ _=>rfl⟩,⟨.inl rfl,Nat.le_refl _,fun _ _=>rfl⟩,⟨.inl rfl,Nat.le_refl _,fun _ _=>rfl⟩,⟨rfl,rfl,rfl,fun q hq=>?_⟩,trivial⟩
    unfold planF
    rw [eL]
    rfl
   ·exact wH
abbrev planC : Con (Mat × Caps × Int):=FamCon (β:=Nat) (fun p=>[matT p.1 p.2.1 0 1 2,iv .i64 p.2.2]) (fun p=>matH p.1 []) (fun p=>p.1.Ok ∧ capsOk p.1 p.2.1 ∧ I64 p.2.2) (fun p q=>(rowL0 p.1 p.2.2).length ≤ q) (fun p q=>if (chk p.1).2 = 0 then slT 3 (rowL0 p.1 p.2.2).length q false else nilS) (fun p q=>if (chk p.1).2 = 0 then matH p.1 [rowT (planF p.1 p.2.2) (rowL0 p.1 p.2.2).length q] else matH p.1 [])
theorem plan_ok : ConOk Tryz.prog F.plan_Plan planC:=con_of_run (clRunX_ok (d:=6) ttOk outsPp_ok tabPp_ok 3) (fn_enters (ok.plan_Plan (D:=6) u0 _ (clRunX_ok (d:=6) ttOk .nil TabOk.nil 1))) fun p hp=>plan_run p.1 p.2.1 p.2.2 hp.1 hp.2.1 hp.2.2
theorem plan_ask {m : Mat} {c : Caps} {who : Int} (l : List Nat) {xs : List R} {h : Heap} {K : R → Heap → Prop} (n : Nat) (P : Nat → Trg) (hm : m.Ok) (hc : capsOk m c) (hw : I64 who) (h0 : (chk m).2 = 0) (hn : (rowL0 m who).length = n) (hP : planF m who = P)
    (hs : ((matH m []).all obB && sepB l (matH m [])) = true) (hH : leH (sig h l) h l (matH m [])) (hX : leXs 3 (sig h l) xs [matT m c 0 1 2, iv .i64 who])
    (hk : ∀ cap, n ≤ cap → K (renR (back h (matH m []) l) (slT 3 n cap false)) (mrg (back h (matH m []) l) h l (matH m []) (matH m [rowT P n cap]))) : AskC planC xs h K := by
  refine ⟨(m, c, who), l, ⟨hm, hc, hw⟩, hs, hH, hX, fun x h'' hq => ?_⟩
  obtain ⟨q, hq, e1, e2⟩ := hq
  have e1 : x = if (chk m).2 = 0 then slT 3 (rowL0 m who).length q false else nilS := e1
  have e2 : h'' = if (chk m).2 = 0 then matH m [rowT (planF m who) (rowL0 m who).length q] else matH m [] := e2
  have hq : (rowL0 m who).length ≤ q := hq
  rw [if_pos h0, hn] at e1
  rw [if_pos h0, hn, hP] at e2
  subst e1; subst e2
  exact hk q (by omega)
abbrev rdT (T : Nat → Trg) (n : Nat) : HE:=.ob (.ro 6 n (fun i=>trgL (T i)))
abbrev outsDu : List (FuncId × Cx):=[(F.matrix_Comes,AskC comesC)]
theorem outsDu_ok : OutsOk Tryz.prog outsDu:=.cons (ask_ok comes_ok) .nil
noncomputable abbrev tabDu : List (FuncId × Eng.Fn):=[(F.plan_Due,fn.plan_Due u0)]
theorem tabDu_ok {d : Nat} : TabOk d tabDu tt:=.cons (ok.plan_Due u0) (TabOk.nil)
theorem due_run (T : Nat → Trg) (n cap : Nat) (nl : Bool) (cy a b : Int) (hn : n ≤ 100) (hcy : I64 cy) : clRunX 6 tt outsDu tabDu 2 F.plan_Due [] [slT 0 n cap nl,iv .i64 cy,iv .i64 a,iv .i64 b] [rdT T n] (fun x h=>Trim 1 x h fun x h=>x = slT 1 (dueL T cy a b n).length n false ∧ h = [rdT T n,rowT (at0L (dueL T cy a b n)) n n]):=by
 refine wB ?_
 refine cDT ?_ ?_
 ·refine ⟨by omega,by omega, ?_,by omega⟩
  dsimp only
  omega
 try rw [tn]
 refine wB ?_
 refine .inv (fun i : Nat=>i ≤ n) (fun i=>[(10,iv .i64 (dueL T cy a b i).length),(18,iv .i64 i)]) (fun i=>[rdT T n,rowT (at0L (dueL T cy a b i)) n n]) (fun i=>n - i) 0 (Nat.zero_le _) ?_ (fun i hi=>?_)
 ·exact wF
 have hk:=dueL_len T cy a b i
 have ew : dueL T cy a b (i + 1) = if dueB (T i) cy a b then dueL T cy a b i ++ [T i] else dueL T cy a b i:=rfl
 conv=>whnf
 refine cD (fun h5=>?_) (fun h5=>?_)
 ·refine wB ?_
  try rw [zi i]
  refine wB ?_
  refine cD (fun h6=>?_) (fun h6=>?_)
  rotate_left
  ·rw [if_neg (by unfold dueB; rw [decide_eq_false (by omega)]; simp)] at ew
   refine wB ?_
   refine ⟨i + 1,⟨by omega,by omega⟩, ?_⟩
   rw [ew]
   exact wF
  refine wB ?_
  refine cD (fun h7=>?_) (fun h7=>?_)
  rotate_left
  ·rw [if_neg (by unfold dueB; rw [decide_eq_false (by omega)]; simp)] at ew
   refine wB ?_
   refine ⟨i + 1,⟨by omega,by omega⟩, ?_⟩
   rw [ew]
   exact wF
  refine wB ?_
  refine comes_use hcy ?_
  rcases Bool.eq_false_or_eq_true (comes (T i).cyc (T i).rep cy) with hcm | hcm <;> rw [hcm]
  rotate_left
  ·rw [if_neg (by unfold dueB; rw [hcm]; simp)] at ew
   refine wB ?_
   refine ⟨i + 1,⟨by omega,by omega⟩, ?_⟩
   rw [ew]
   exact wF
  rw [if_pos (by unfold dueB; rw [hcm,decide_eq_true ⟨h6,h7⟩]; rfl)] at ew
  have el : (dueL T cy a b (i + 1)).length = (dueL T cy a b i).length + 1:=by rw [ew,List.length_append]; rfl
  obtain ⟨k,hkk⟩ : ∃ k,(dueL T cy a b i).length = k:=⟨_,rfl⟩
  have em : (((dueL T cy a b i).length : Nat) : Int) + ((min 1 (n - (((dueL T cy a b i).length : Nat) : Int).toNat) : Nat) : Int) = (((dueL T cy a b (i + 1)).length : Nat) : Int):=by rw [el]; omega
  refine wB ?_
  rw [em]
  refine ⟨i + 1,⟨by omega,by omega⟩, ?_⟩
  conv=>whnf
  refine Le.id rfl ?_ ?_
  ·refine ⟨⟨.inl rfl,Nat.le_refl _,fun _ _=>rfl⟩,⟨rfl,rfl,rfl,fun q hq=>?_⟩,trivial⟩
   rw [ew]
   show (if 0 + (((dueL T cy a b i).length : Nat) : Int).toNat ≤ q ∧ q < 0 + (((dueL T cy a b i).length : Nat) : Int).toNat + min 1 (n - (((dueL T cy a b i).length : Nat) : Int).toNat) then nthD [] [trgL (T i)] (0 + (q - (0 + (((dueL T cy a b i).length : Nat) : Int).toNat))) else trgL (at0L (dueL T cy a b i) q)) = trgL (at0L (dueL T cy a b i ++ [T i]) q)
   rw [at0L_app,hkk]
   by_cases c : q = k
   ·rw [if_pos c,if_pos (by omega),show 0 + (q - (0 + ((k : Nat) : Int).toNat)) = 0 by omega]; rfl
   ·rw [if_neg c,if_neg (by omega)]
  ·exact wH
 obtain rfl : i = n:=by omega
 refine wB ?_
 refine Trim.det ?_
 refine Le.id rfl ?_ ?_
 ·exact wH
 ·exact wH
abbrev dueC : Con ((Nat → Trg) × Nat × Nat × Bool × Int × Int × Int):=DetCon (fun p=>[slT 0 p.2.1 p.2.2.1 p.2.2.2.1,iv .i64 p.2.2.2.2.1,iv .i64 p.2.2.2.2.2.1,iv .i64 p.2.2.2.2.2.2]) (fun p=>[rdT p.1 p.2.1]) (fun p=>p.2.1 ≤ 100 ∧ I64 p.2.2.2.2.1) (fun p=>slT 1 (dueL p.1 p.2.2.2.2.1 p.2.2.2.2.2.1 p.2.2.2.2.2.2 p.2.1).length p.2.1 false) (fun p=>[rdT p.1 p.2.1,rowT (at0L (dueL p.1 p.2.2.2.2.1 p.2.2.2.2.2.1 p.2.2.2.2.2.2 p.2.1)) p.2.1 p.2.1])
theorem due_ok : ConOk Tryz.prog F.plan_Due dueC:=con_of_run (clRunX_ok (d:=6) ttOk outsDu_ok tabDu_ok 2) (fn_enters (ok.plan_Due (D:=6) u0 _ (clRunX_ok (d:=6) ttOk .nil TabOk.nil 1))) fun p hp=>due_run p.1 p.2.1 p.2.2.1 p.2.2.2.1 p.2.2.2.2.1 p.2.2.2.2.2.1 p.2.2.2.2.2.2 hp.1 hp.2
def sameB (A : Nat → Trg) (n : Nat) (B : Nat → Trg) (k : Nat) : Bool:=decide (n = k ∧ ∀ q,q < n → A q = B q)
abbrev sameC : Con ((Nat → Trg) × Nat × Nat × Bool × (Nat → Trg) × Nat × Nat × Bool):=RoCon (fun p=>[slT 0 p.2.1 p.2.2.1 p.2.2.2.1,slT 1 p.2.2.2.2.2.1 p.2.2.2.2.2.2.1 p.2.2.2.2.2.2.2]) (fun p=>[rdT p.1 p.2.1,rdT p.2.2.2.2.1 p.2.2.2.2.2.1]) (fun p=>p.2.1 ≤ 9223372036854775807) fun p=>bv (sameB p.1 p.2.1 p.2.2.2.2.1 p.2.2.2.2.2.1)
end Go.Proofs.YtlckbdhpehkeoaaGreat.Co
