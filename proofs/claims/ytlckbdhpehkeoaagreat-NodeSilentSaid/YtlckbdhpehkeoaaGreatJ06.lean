/- Parts. -/
import Derived.Test.YtlckbdhpehkeoaaGreatJ03
import Derived.Test.YtlckbdhpehkeoaaGreatJ04
import Derived.Test.YtlckbdhpehkeoaaGreatJ05
namespace Go.Proofs.YtlckbdhpehkeoaaGreat.Co
open Go Go.Eng Go.Proofs Go.Proofs.YtlckbdhpehkeoaaGreat.Tb Go.Pu
set_option maxRecDepth 100000
set_option maxHeartbeats 8000000
abbrev iC (n : Int) : C:=.v (.int .i64 n)
abbrev uC (n : Int) : C:=.v (.int .u32 n)
abbrev bC (b : Bool) : C:=.v (.bool b)
abbrev u0 : Nat → Nat:=fun _=>0
abbrev u9 : Nat → Nat:=fun _=>1000
theorem trim0 {x F : R} {g : Heap} (hp : plR x = true) (e : x = F) : Trim 0 x g (fun x h=>x = F ∧ h = []) :=
 .ro (h':=[]) ⟨⟨[],rfl,trivial,by show leR _ x x; unfold leR; cases x <;> first | trivial | exact (plR_ren hp).symm⟩⟩ ⟨e,rfl⟩
abbrev within : Con (Int × Int × Int):=RoCon (fun p=>[iv .i64 p.1,iv .i64 p.2.1,iv .i64 p.2.2]) (fun _=>[]) (fun _=>True) fun p=>bv (decide (p.2.1 ≤ p.1 ∧ p.1 ≤ p.2.2))
theorem within_use {n lo hi : Int} {h : Heap} {K : R → Heap → Prop} (hk : K (bv (decide (lo ≤ n ∧ n ≤ hi))) h) : AskC within [iv .i64 n,iv .i64 lo,iv .i64 hi] h K :=
 .use (n,lo,hi) [] trivial rfl trivial ⟨.inl rfl,.inl rfl,.inl rfl,trivial⟩ hk
theorem within_run (n lo hi : Int) : clRunX 4 tt [] [(F.matrix_within,fn.matrix_within u0)] 2 F.matrix_within [] [iv .i64 n,iv .i64 lo,iv .i64 hi] [] (fun x h=>Trim 0 x h fun x h=>x = bv (decide (lo ≤ n ∧ n ≤ hi)) ∧ h = []):=by
 conv=>whnf
 refine cD (fun h1=>?_) (fun h1=>?_)
 ·conv=>whnf
  exact trim0 rfl (congrArg bv (decide_eq_decide.2 (by omega)))
 ·conv=>whnf
  exact trim0 rfl (congrArg bv (decide_eq_false (by omega)).symm)
theorem within_ok : ConOk Tryz.prog F.matrix_within within :=
 con_of_run (clRunX_ok (d:=4) ttOk .nil (TabOk.cons (ok.matrix_within u0) .nil) 2) (fn_enters (ok.matrix_within (D:=4) u0 _ (clRunX_ok (d:=4) ttOk .nil TabOk.nil 2))) fun p _=>within_run p.1 p.2.1 p.2.2
abbrev comesC : Con (Int × Int × Int):=RoCon (fun p=>[iv .i64 p.1,iv .i64 p.2.1,iv .i64 p.2.2]) (fun _=>[]) (fun p=>I64 p.2.2) fun p=>bv (comes p.1 p.2.1 p.2.2)
theorem comes_use {c r n : Int} {h : Heap} {K : R → Heap → Prop} (hn : I64 n) (hk : K (bv (comes c r n)) h) : AskC comesC [iv .i64 c,iv .i64 r,iv .i64 n] h K :=
 .use (c,r,n) [] hn rfl trivial ⟨.inl rfl,.inl rfl,.inl rfl,trivial⟩ hk
theorem comes_run (c r n : Int) (hn : I64 n) : clRunX 5 tt [] [(F.matrix_Comes,fn.matrix_Comes u0)] 2 F.matrix_Comes [] [iv .i64 c,iv .i64 r,iv .i64 n] [] (fun x h=>Trim 0 x h fun x h=>x = bv (comes c r n) ∧ h = []):=by
 unfold I64 at hn
 conv=>whnf
 refine cD (fun h1=>?_) (fun h1=>?_)
 ·conv=>whnf
  refine cD (fun h2=>?_) (fun h2=>?_)
  ·conv=>whnf
   refine cD (fun h3=>?_) (fun h3=>?_)
   ·refine wA ?_
    conv=>whnf
    exact trim0 rfl (congrArg bv (decide_eq_decide.2 ⟨fun h=>⟨h1,h2,h3,h⟩,fun h=>h.2.2.2⟩))
   ·conv=>whnf
    exact trim0 rfl (congrArg bv (decide_eq_false fun h=>h3 h.2.2.1).symm)
  ·conv=>whnf
   exact trim0 rfl (congrArg bv (decide_eq_false fun h=>h2 h.2.1).symm)
 ·conv=>whnf
  exact trim0 rfl (congrArg bv (decide_eq_false fun h=>h1 h.1).symm)
theorem comes_ok : ConOk Tryz.prog F.matrix_Comes comesC :=
 con_of_run (clRunX_ok (d:=5) ttOk .nil (TabOk.cons (ok.matrix_Comes u0) .nil) 2) (fn_enters (ok.matrix_Comes (D:=5) u0 _ (clRunX_ok (d:=5) ttOk .nil TabOk.nil 2))) fun p hp=>comes_run p.1 p.2.1 p.2.2 hp
abbrev powerC : Con Int:=RoCon (fun p=>[iv .i64 p]) (fun _=>[]) (fun _=>True) fun p=>bv (decide (power p))
theorem power_use {n : Int} {h : Heap} {K : R → Heap → Prop} (hk : K (bv (decide (power n))) h) : AskC powerC [iv .i64 n] h K :=
 .use n [] trivial rfl trivial ⟨.inl rfl,trivial⟩ hk
theorem power_run (n : Int) : clRunX 5 tt [] [(F.matrix_power,fn.matrix_power u0),(F.slices_Contains_int,fn.slices_Contains_int u0),(F.slices_Index_int,fn.slices_Index_int u9)] 4 F.matrix_power [] [iv .i64 n] [] (fun x h=>Trim 0 x h fun x h=>x = bv (decide (power n)) ∧ h = []):=by
 conv=>whnf
 refine cD (fun h1=>?_) (fun h1=>?_)
 ·conv=>whnf
  exact trim0 rfl (congrArg bv (decide_eq_decide.2 (by unfold power; omega)))
 conv=>whnf
 refine cD (fun h2=>?_) (fun h2=>?_)
 ·conv=>whnf
  exact trim0 rfl (congrArg bv (decide_eq_decide.2 (by unfold power; omega)))
 conv=>whnf
 refine cD (fun h3=>?_) (fun h3=>?_)
 ·conv=>whnf
  exact trim0 rfl (congrArg bv (decide_eq_decide.2 (by unfold power; omega)))
 conv=>whnf
 refine cD (fun h4=>?_) (fun h4=>?_)
 ·conv=>whnf
  exact trim0 rfl (congrArg bv (decide_eq_decide.2 (by unfold power; omega)))
 conv=>whnf
 exact trim0 rfl (congrArg bv (decide_eq_decide.2 (by unfold power; omega)))
theorem power_ok : ConOk Tryz.prog F.matrix_power powerC :=
 con_of_run (clRunX_ok (d:=5) ttOk .nil (TabOk.cons (ok.matrix_power u0) (.cons (ok.slices_Contains_int u0) (.cons (ok.slices_Index_int u9) .nil))) 4) (fn_enters (ok.matrix_power (D:=5) u0 _ (clRunX_ok (d:=5) ttOk .nil TabOk.nil 2))) fun p _=>power_run p
abbrev nilS : R:=.t (.one (.v (.slice none 0 0)))
structure Caps where
 c1 : Nat
 c2 : Nat
 c3 : Nat
 z1 : Bool
 z2 : Bool
 z3 : Bool
def msgL (x : Msg) : List C:=[uC x.id,iC x.ow,bC x.ev]
def winL (x : Win) : List C:=[iC x.kind,iC x.st,iC x.en,iC x.cyc,iC x.rep,iC x.msg]
def winT (x : Win) : R:=.t (.agg [.c (iC x.kind),.c (iC x.st),.c (iC x.en),.c (iC x.cyc),.c (iC x.rep),.c (iC x.msg)])
def matT (m : Mat) (c : Caps) (a1 a2 a3 : Nat) : R:=.t (.agg [.c (iC m.level),.c (iC m.nodes),.c (iC m.cycles),.c (iC m.length),.c (iC m.enable),.c (iC m.unit),.c (iC m.init),.c (uC m.ref),
 .c (.slc a1 0 1 0 m.nM c.c1 c.z1),.c (.slc a2 0 3 0 m.nG c.c2 c.z2),.c (.slc a3 0 6 0 m.nW c.c3 c.z3)])
def matH (m : Mat) (rest : Heap) : Heap:=.ob (.ro 1 m.nM fun i=>[iC (m.M i)]) :: .ob (.ro 3 m.nG fun i=>msgL (m.G i)) :: .ob (.ro 6 m.nW fun i=>winL (m.W i)) :: rest
theorem trimM {m : Mat} {x F : R} {g : Heap} (hp : plR x = true) (e : x = F) : Trim 3 x (matH m g) (fun x h=>x = F ∧ h = matH m []) :=
 .ro (h':=matH m []) ⟨⟨[0,1,2],rfl,⟨⟨.inl rfl,Nat.le_refl _,fun _ _=>rfl⟩,⟨.inl rfl,Nat.le_refl _,fun _ _=>rfl⟩,⟨.inl rfl,Nat.le_refl _,fun _ _=>rfl⟩,trivial⟩,by show leR _ x x; unfold leR; cases x <;> first | trivial | exact (plR_ren hp).symm⟩⟩ ⟨e,rfl⟩
theorem mat_le (m : Mat) (rest : Heap) : leH (sig (matH m rest) [0,1,2]) (matH m rest) [0,1,2] (matH m []):=⟨⟨.inl rfl,Nat.le_refl _,fun _ _=>rfl⟩,⟨.inl rfl,Nat.le_refl _,fun _ _=>rfl⟩,⟨.inl rfl,Nat.le_refl _,fun _ _=>rfl⟩,trivial⟩
theorem mat_lx (m : Mat) (c : Caps) (rest : Heap) : leX 3 (sig (matH m rest) [0,1,2]) (matT m c 0 1 2) (matT m c 0 1 2) :=
 ⟨.inl rfl,.inl rfl,.inl rfl,.inl rfl,.inl rfl,.inl rfl,.inl rfl,.inl rfl,.inl rfl,.inl rfl,.inl rfl,trivial⟩
abbrev headC : Con (Mat × Caps):=RoCon (fun p=>[matT p.1 p.2 0 1 2]) (fun p=>matH p.1 []) (fun _=>True) fun p=>bv (decide (headP p.1))
theorem head_use {m : Mat} {c : Caps} {rest : Heap} {K : R → Heap → Prop} (hk : K (bv (decide (headP m))) (matH m rest)) : AskC headC [matT m c 0 1 2] (matH m rest) K :=
 .use (m,c) [0,1,2] trivial rfl (mat_le m rest) ⟨mat_lx m c rest,trivial⟩ hk
abbrev outs1 : List (FuncId × Cx):=[(F.matrix_within,AskC within),(F.matrix_Comes,AskC comesC),(F.matrix_power,AskC powerC)]
theorem outs1_ok : OutsOk Tryz.prog outs1:=.cons (ask_ok within_ok) (.cons (ask_ok comes_ok) (.cons (ask_ok power_ok) .nil))
theorem head_run (m : Mat) (c : Caps) : clRunX 6 tt outs1 [(F.matrix_head,fn.matrix_head u0)] 2 F.matrix_head [] [matT m c 0 1 2] (matH m []) (fun x h=>Trim 3 x h fun x h=>x = bv (decide (headP m)) ∧ h = matH m []):=by
 iterate 7
  conv=>whnf
  first | refine within_use ?_ | refine power_use ?_
  conv=>whnf
  refine cD (fun h1=>?_) (fun h1=>?_)
  rotate_left
  ·conv=>whnf
   exact trimM rfl (congrArg bv (decide_eq_false (by unfold headP; first | omega | (unfold power at *; omega))).symm)
 conv=>whnf
 refine cD (fun h1=>?_) (fun h1=>?_)
 rotate_left
 ·conv=>whnf
  exact trimM rfl (congrArg bv (decide_eq_false (by unfold headP; omega)).symm)
 refine wA ?_
 conv=>whnf
 exact trimM rfl (congrArg bv (decide_eq_decide.2 (by unfold headP; simp only [power] at *; omega)))
theorem head_ok : ConOk Tryz.prog F.matrix_head headC :=
 con_of_run (clRunX_ok (d:=6) ttOk outs1_ok (TabOk.cons (ok.matrix_head u0) .nil) 2) (fn_enters (ok.matrix_head (D:=6) u0 _ (clRunX_ok (d:=6) ttOk .nil TabOk.nil 2))) fun p _=>head_run p.1 p.2
theorem win_lx (x : Win) (n : Nat) (g : Nat → Nat) : leX n g (winT x) (winT x):=⟨.inl rfl,.inl rfl,.inl rfl,.inl rfl,.inl rfl,.inl rfl,trivial⟩
abbrev windowC : Con (Mat × Caps × Win):=RoCon (fun p=>[matT p.1 p.2.1 0 1 2,winT p.2.2]) (fun p=>matH p.1 []) (fun _=>True) fun p=>bv (decide (winP p.1 p.2.2))
theorem window_use {m : Mat} {c : Caps} {w : Win} {rest : Heap} {K : R → Heap → Prop} (hk : K (bv (decide (winP m w))) (matH m rest)) : AskC windowC [matT m c 0 1 2,winT w] (matH m rest) K :=
 .use (m,c,w) [0,1,2] trivial rfl (mat_le m rest) ⟨mat_lx m c rest,win_lx w _ _,trivial⟩ hk
theorem window_run (m : Mat) (c : Caps) (w : Win) : clRunX 7 tt outs1 [(F.matrix_window,fn.matrix_window u0)] 2 F.matrix_window [] [matT m c 0 1 2,winT w] (matH m []) (fun x h=>Trim 3 x h fun x h=>x = bv (decide (winP m w)) ∧ h = matH m []):=by
 iterate 3
  conv=>whnf
  refine within_use ?_
  conv=>whnf
  refine cN (fun h1=>?_) (fun h1=>?_)
  ·conv=>whnf
   exact trimM rfl (congrArg bv (decide_eq_false (by unfold winP; omega)).symm)
 conv=>whnf
 refine cD (fun h1=>?_) (fun h4=>?_)
 ·conv=>whnf
  exact trimM rfl (congrArg bv (decide_eq_false (by unfold winP; omega)).symm)
 conv=>whnf
 refine power_use ?_
 conv=>whnf
 refine cN (fun h1=>?_) (fun h5=>?_)
 ·conv=>whnf
  exact trimM rfl (congrArg bv (decide_eq_false (by unfold winP; exact fun h=>h1 h.2.2.2.2.2.2.2.1)).symm)
 conv=>whnf
 refine cD (fun h1=>?_) (fun h6=>?_)
 ·conv=>whnf
  exact trimM rfl (congrArg bv (decide_eq_false (by unfold winP; omega)).symm)
 have h7 : 1 ≤ w.rep ∧ w.rep ≤ 8:=by unfold power at h5; omega
 refine wA ?_
 conv=>whnf
 refine within_use ?_
 conv=>whnf
 refine cN (fun h1=>?_) (fun h8=>?_)
 ·conv=>whnf
  exact trimM rfl (congrArg bv (decide_eq_false (by unfold winP; omega)).symm)
 conv=>whnf
 refine within_use ?_
 conv=>whnf
 refine cD (fun h9=>?_) (fun h1=>?_)
 rotate_left
 ·conv=>whnf
  exact trimM rfl (congrArg bv (decide_eq_false (by unfold winP; omega)).symm)
 conv=>whnf
 refine cD (fun h10=>?_) (fun h10=>?_)
 ·conv=>whnf
  exact trimM rfl (congrArg bv (decide_eq_true (by unfold winP; exact ⟨by omega,by omega,by omega,by omega,by omega,by omega,by omega,h5,by omega,by omega,by omega,by omega,by omega,by omega⟩)).symm)
 ·conv=>whnf
  exact trimM rfl (congrArg bv (decide_eq_decide.2 (by unfold winP; exact ⟨fun h=>⟨by omega,by omega,by omega,by omega,by omega,by omega,by omega,h5,by omega,by omega,by omega,by omega,by omega,by omega⟩,fun h=>by omega⟩)))
theorem window_ok : ConOk Tryz.prog F.matrix_window windowC :=
 con_of_run (clRunX_ok (d:=7) ttOk outs1_ok (TabOk.cons (ok.matrix_window u0) .nil) 2) (fn_enters (ok.matrix_window (D:=6) u0 _ (clRunX_ok (d:=6) ttOk .nil TabOk.nil 2))) fun p _=>window_run p.1 p.2.1 p.2.2
abbrev outs2 : List (FuncId × Cx):=(F.matrix_head,AskC headC) :: (F.matrix_window,AskC windowC) :: outs1
theorem outs2_ok : OutsOk Tryz.prog outs2:=.cons (ask_ok head_ok) (.cons (ask_ok window_ok) outs1_ok)
abbrev isC : Con (Mat × Caps):=RoCon (fun p=>[matT p.1 p.2 0 1 2]) (fun p=>matH p.1 []) (fun p=>p.1.Ok) fun p=>bv (isM p.1)
theorem is_use {m : Mat} {c : Caps} {rest : Heap} {K : R → Heap → Prop} (hm : m.Ok) (hk : K (bv (isM m)) (matH m rest)) : AskC isC [matT m c 0 1 2] (matH m rest) K :=
 .use (m,c) [0,1,2] hm rfl (mat_le m rest) ⟨mat_lx m c rest,trivial⟩ hk
noncomputable abbrev tabIs : List (FuncId × Eng.Fn):=[(F.matrix_Is,fn.matrix_Is u0),(F.matrix_Is_1,fn.matrix_Is_1 u0),(F.matrix_Is_2,fn.matrix_Is_2 u0),(F.matrix_Is_3,fn.matrix_Is_3 u0),(F.slices_ContainsFunc_int,fn.slices_ContainsFunc_int u0),(F.slices_ContainsFunc_Message,fn.slices_ContainsFunc_Message u0),(F.slices_ContainsFunc_Window,fn.slices_ContainsFunc_Window u0),(F.slices_IndexFunc_int,fn.slices_IndexFunc_int u0),(F.slices_IndexFunc_Message,fn.slices_IndexFunc_Message u0),(F.slices_IndexFunc_Window,fn.slices_IndexFunc_Window u0)]
theorem is_run (m : Mat) (c : Caps) (hm : m.Ok) : clRunX 6 tt outs2 tabIs 6 F.matrix_Is [] [matT m c 0 1 2] (matH m []) (fun x h=>Trim 3 x h fun x h=>x = bv (isM m) ∧ h = matH m []):=by
 have hnM:=hm.nM
 have hnG:=hm.nG
 have hnW:=hm.nW
 conv=>whnf
 refine head_use ?_
 conv=>whnf
 refine cN (fun h1=>?_) (fun h1=>?_)
 ·conv=>whnf
  exact trimM rfl (congrArg bv (by rw [isM,decide_eq_false h1]; rfl))
 conv=>whnf
 refine within_use ?_
 conv=>whnf
 refine cN (fun h2=>?_) (fun h2=>?_)
 ·conv=>whnf
  exact trimM rfl (congrArg bv (by rw [isM,decide_eq_false (p:=sizeP m) (by unfold sizeP; omega),Bool.false_and,Bool.and_false]))
 conv=>whnf
 refine cD (fun h3=>?_) (fun h3=>?_)
 ·conv=>whnf
  exact trimM rfl (congrArg bv (by rw [isM,decide_eq_false (p:=sizeP m) (by unfold sizeP; omega),Bool.false_and,Bool.and_false]))
 conv=>whnf
 refine cD (fun h4=>?_) (fun h4=>?_)
 ·conv=>whnf
  exact trimM rfl (congrArg bv (by rw [isM,decide_eq_false (p:=sizeP m) (by unfold sizeP; omega),Bool.false_and,Bool.and_false]))
 conv=>whnf
 refine .rd (fun i : Nat=>i ≤ m.nM ∧ ∀ j,j < i → whoP (m.M j)) (fun i=>[(8,iv .i64 i)]) (fun i=>m.nM - i) 0 ⟨Nat.zero_le _,fun j hj=>absurd hj (Nat.not_lt_zero j)⟩ ?_ (fun i ⟨hi,hp⟩=>?_)
 ·conv=>whnf
  refine Le.id rfl ?_ ?_<;>repeat'(first|exact wZ|refine And.intro ?_ ?_)
 ·conv=>whnf
  refine cD (fun h5=>?_) (fun h5=>?_)
  ·refine wA ?_
   conv=>whnf
   refine within_use ?_
   conv=>whnf
   refine cN (fun h6=>?_) (fun h6=>?_)
   ·refine wA ?_
    conv=>whnf
    rw [Nat.zero_add,Int.toNat_natCast] at h6
    refine trimM rfl (congrArg bv ?_)
    rw [isM,allB_false.2 ⟨i,by omega,decide_eq_false h6⟩,Bool.false_and,Bool.and_false,Bool.and_false]
   ·refine wA ?_
    conv=>whnf
    rw [Nat.zero_add,Int.toNat_natCast] at h6
    refine ⟨i + 1,⟨⟨by omega,fun j hj=>?_⟩,by omega⟩, ?_⟩
    ·by_cases e : j = i
     ·subst e; exact h6
     ·exact hp j (by omega)
    conv=>whnf
    refine Le.id rfl ?_ ?_<;>repeat'(first|exact wZ|refine And.intro ?_ ?_)
  ·refine wA ?_
   conv=>whnf
   obtain rfl : i = m.nM:=by omega
   refine .rd (fun i : Nat=>i ≤ m.nG ∧ ∀ j,j < i → msgP (m.G j)) (fun i=>[(8,iv .i64 i)]) (fun i=>m.nG - i) 0 ⟨Nat.zero_le _,fun j hj=>absurd hj (Nat.not_lt_zero j)⟩ ?_ (fun i ⟨hi,hq⟩=>?_)
   ·conv=>whnf
    refine Le.id rfl ?_ ?_<;>repeat'(first|exact wZ|refine And.intro ?_ ?_)
   ·have bad : ∀ (e : ¬ msgP (m.G i)),i < m.nG → false = isM m:=fun e hlt=>by
     rw [isM,allB_false.2 ⟨i,hlt,decide_eq_false e⟩,Bool.false_and,Bool.and_false,Bool.and_false,Bool.and_false]
    conv=>whnf
    refine cD (fun h5=>?_) (fun h5=>?_)
    ·refine wA ?_
     conv=>whnf
     refine cD (fun h6=>?_) (fun h6=>?_)
     ·refine wA ?_
      conv=>whnf
      rw [Nat.zero_add,Int.toNat_natCast] at h6
      exact trimM rfl (congrArg bv (bad (by unfold msgP; omega) (by omega)))
     ·conv=>whnf
      refine within_use ?_
      conv=>whnf
      refine cN (fun h7=>?_) (fun h7=>?_)
      ·refine wA ?_
       conv=>whnf
       rw [Nat.zero_add,Int.toNat_natCast] at h7
       exact trimM rfl (congrArg bv (bad (by unfold msgP; omega) (by omega)))
      ·refine wA ?_
       conv=>whnf
       rw [Nat.zero_add,Int.toNat_natCast] at h6 h7
       refine ⟨i + 1,⟨⟨by omega,fun j hj=>?_⟩,by omega⟩, ?_⟩
       ·by_cases e : j = i
        ·subst e; unfold msgP; omega
        ·exact hq j (by omega)
       conv=>whnf
       refine Le.id rfl ?_ ?_<;>repeat'(first|exact wZ|refine And.intro ?_ ?_)
    ·refine wA ?_
     conv=>whnf
     obtain rfl : i = m.nG:=by omega
     refine .rd (fun i : Nat=>i ≤ m.nW ∧ ∀ j,j < i → winP m (m.W j)) (fun i=>[(8,iv .i64 i)]) (fun i=>m.nW - i) 0 ⟨Nat.zero_le _,fun j hj=>absurd hj (Nat.not_lt_zero j)⟩ ?_ (fun i ⟨hi,hr⟩=>?_)
     ·conv=>whnf
      refine Le.id rfl ?_ ?_<;>repeat'(first|exact wZ|refine And.intro ?_ ?_)
     ·conv=>whnf
      refine cD (fun h5=>?_) (fun h5=>?_)
      ·refine wA ?_
       conv=>whnf
       refine window_use (m:=m) (c:=c) (w:=m.W (0 + (i : Int).toNat)) ?_
       conv=>whnf
       rw [Nat.zero_add,Int.toNat_natCast]
       refine cN (fun h7=>?_) (fun h7=>?_)
       ·refine wA ?_
        conv=>whnf
        refine trimM rfl (congrArg bv ?_)
        rw [isM,(allB_false (p:=fun i=>decide (winP m (m.W i)))).2 ⟨i,by omega,decide_eq_false h7⟩,Bool.and_false,Bool.and_false,Bool.and_false,Bool.and_false,decide_eq_true (by omega)]
        rfl
       ·refine wA ?_
        conv=>whnf
        refine ⟨i + 1,⟨⟨by omega,fun j hj=>?_⟩,by omega⟩, ?_⟩
        ·by_cases e : j = i
         ·subst e; exact h7
         ·exact hr j (by omega)
        conv=>whnf
        refine Le.id rfl ?_ ?_<;>repeat'(first|exact wZ|refine And.intro ?_ ?_)
      ·refine wA ?_
       conv=>whnf
       obtain rfl : i = m.nW:=by omega
       exact trimM rfl (congrArg bv (isM_iff.2 ⟨h1,by unfold sizeP; omega,hp,hq,hr⟩).symm)
theorem is_ok : ConOk Tryz.prog F.matrix_Is isC :=
 con_of_run (clRunX_ok (d:=6) ttOk outs2_ok (TabOk.cons (ok.matrix_Is u0) (.cons (ok.matrix_Is_1 u0) (.cons (ok.matrix_Is_2 u0) (.cons (ok.matrix_Is_3 u0) (.cons (ok.slices_ContainsFunc_int u0) (.cons (ok.slices_ContainsFunc_Message u0) (.cons (ok.slices_ContainsFunc_Window u0) (.cons (ok.slices_IndexFunc_int u0) (.cons (ok.slices_IndexFunc_Message u0) (.cons (ok.slices_IndexFunc_Window u0) .nil)))))))))) 6) (fn_enters (ok.matrix_Is (D:=6) u0 _ (clRunX_ok (d:=6) ttOk .nil TabOk.nil 2))) fun p hp=>is_run p.1 p.2 hp
def capsOk (m : Mat) (c : Caps) : Prop:=m.nM ≤ c.c1 ∧ m.nG ≤ c.c2 ∧ m.nW ≤ c.c3
abbrev outs0 : List (FuncId × Cx):=[]
theorem outs0_ok : OutsOk Tryz.prog outs0:=.nil
theorem units_q (unit bits : Int) : 0 ≤ (min (max bits 0) 1000 * 4).tdiv (max unit 1) ∧ (min (max bits 0) 1000 * 4).tdiv (max unit 1) ≤ 4000:=by
 rw [Int.tdiv_eq_ediv_of_nonneg (by omega)]
 have h1 : 0 ≤ (min (max bits 0) 1000 * 4) / (max unit 1):=Int.ediv_nonneg (by omega) (by omega)
 have h2 : (min (max bits 0) 1000 * 4) / (max unit 1) ≤ min (max bits 0) 1000 * 4:=Int.ediv_le_self _ (by omega)
 omega
abbrev unitsC : Con (Mat × Caps × Int):=RoCon (fun p=>[matT p.1 p.2.1 0 1 2,iv .i64 p.2.2]) (fun p=>matH p.1 []) (fun _=>True) fun p=>iv .i64 (units p.1.unit p.2.2)
theorem units_use {m : Mat} {c : Caps} {b : Int} {rest : Heap} {K : R → Heap → Prop} (hk : K (iv .i64 (units m.unit b)) (matH m rest)) : AskC unitsC [matT m c 0 1 2,iv .i64 b] (matH m rest) K :=
 .use (m,c,b) [0,1,2] trivial rfl (mat_le m rest) ⟨mat_lx m c rest,.inl rfl,trivial⟩ hk
noncomputable abbrev tabUn : List (FuncId × Eng.Fn):=[(F.check_Units,fn.check_Units u0)]
theorem tabUn_ok {d : Nat} : TabOk d tabUn tt:=.cons (ok.check_Units u0) (TabOk.nil)
theorem units_run (m : Mat) (c : Caps) (b : Int) : clRunX 5 tt outs0 tabUn 2 F.check_Units [] [matT m c 0 1 2,iv .i64 b] (matH m []) (fun x h=>Trim 3 x h fun x h=>x = iv .i64 (units m.unit b) ∧ h = matH m []):=by
 have hq:=units_q m.unit b
 refine wA ?_
 conv=>whnf
 refine cN (fun h1=>?_) (fun h1=>?_)
 ·refine wA ?_
  conv=>whnf
  exact trimM rfl (congrArg (iv .i64) (by unfold units; rw [if_neg h1]))
 ·refine wA ?_
  conv=>whnf
  exact trimM rfl (congrArg (iv .i64) (by unfold units; rw [if_pos h1,Int.add_zero]))
theorem units_ok : ConOk Tryz.prog F.check_Units unitsC:=con_of_run (clRunX_ok (d:=5) ttOk outs0_ok tabUn_ok 2) (fn_enters (ok.check_Units (D:=5) u0 _ (clRunX_ok (d:=5) ttOk .nil TabOk.nil 1))) fun p _=>units_run p.1 p.2.1 p.2.2
noncomputable abbrev tabUr : List (FuncId × Eng.Fn):=[(F.ref12_Units,fn.ref12_Units u0)]
theorem tabUr_ok {d : Nat} : TabOk d tabUr tt:=.cons (ok.ref12_Units u0) (TabOk.nil)
theorem unitsR_run (m : Mat) (c : Caps) (b : Int) : clRunX 5 tt outs0 tabUr 2 F.ref12_Units [] [matT m c 0 1 2,iv .i64 b] (matH m []) (fun x h=>Trim 3 x h fun x h=>x = iv .i64 (units m.unit b) ∧ h = matH m []):=by
 have e1 : 4 * max 0 (min b 1000) = min (max b 0) 1000 * 4:=by omega
 have e2 : max 1 m.unit = max m.unit 1:=by omega
 have hq:=units_q m.unit b
 rw [← e1,← e2] at hq
 have e3 : (4 * max 0 (min b 1000)).tdiv (max 1 m.unit) = (min (max b 0) 1000 * 4).tdiv (max m.unit 1):=by rw [e1,e2]
 have e4 : (4 * max 0 (min b 1000)).tmod (max 1 m.unit) = (min (max b 0) 1000 * 4).tmod (max m.unit 1):=by rw [e1,e2]
 refine wA ?_
 conv=>whnf
 refine cN (fun h1=>?_) (fun h1=>?_)
 ·refine wA ?_
  conv=>whnf
  exact trimM rfl (congrArg (iv .i64) (by unfold units; rw [e4] at h1; rw [if_neg h1,e3]))
 ·refine wA ?_
  conv=>whnf
  exact trimM rfl (congrArg (iv .i64) (by unfold units; rw [e4] at h1; rw [if_pos h1,Int.add_zero,e3]))
theorem unitsR_ok : ConOk Tryz.prog F.ref12_Units unitsC:=con_of_run (clRunX_ok (d:=5) ttOk outs0_ok tabUr_ok 2) (fn_enters (ok.ref12_Units (D:=5) u0 _ (clRunX_ok (d:=5) ttOk .nil TabOk.nil 1))) fun p _=>unitsR_run p.1 p.2.1 p.2.2
abbrev outs3 : List (FuncId × Cx):=(F.matrix_Is,AskC isC) :: (F.check_Units,AskC unitsC) :: outs1
theorem outs3_ok : OutsOk Tryz.prog outs3:=.cons (ask_ok is_ok) (.cons (ask_ok units_ok) outs1_ok)
abbrev stepC : Con (Mat × Caps):=RoCon (fun p=>[matT p.1 p.2 0 1 2]) (fun p=>matH p.1 []) (fun p=>p.1.Ok) fun p=>iv .i64 (Pu.step p.1)
theorem step_use {m : Mat} {c : Caps} {rest : Heap} {K : R → Heap → Prop} (hm : m.Ok) (hk : K (iv .i64 (Pu.step m)) (matH m rest)) : AskC stepC [matT m c 0 1 2] (matH m rest) K :=
 .use (m,c) [0,1,2] hm rfl (mat_le m rest) ⟨mat_lx m c rest,trivial⟩ hk
noncomputable abbrev tabSt : List (FuncId × Eng.Fn):=[(F.check_Step,fn.check_Step u0)]
theorem tabSt_ok {d : Nat} : TabOk d tabSt tt:=.cons (ok.check_Step u0) (TabOk.nil)
theorem step_run (m : Mat) (c : Caps) (hm : m.Ok) : clRunX 4 tt outs3 tabSt 2 F.check_Step [] [matT m c 0 1 2] (matH m []) (fun x h=>Trim 3 x h fun x h=>x = iv .i64 (Pu.step m) ∧ h = matH m []):=by
 conv=>whnf
 refine is_use (m:=m) (c:=c) hm ?_
 conv=>whnf
 cases hi : isM m with
 | false =>
  conv=>whnf
  exact trimM rfl (congrArg (iv .i64) (by unfold Pu.step; rw [hi]; rfl))
 | true =>
  have hI:=isM_iff.1 hi
  obtain ⟨_,_,_,_,_,_,_,g1,g2,g3,g4,_⟩:=hI.head
  have hu:=units_bd g3 g4
  conv=>whnf
  refine units_use (m:=m) (c:=c) ?_
  refine wA ?_
  conv=>whnf
  exact trimM rfl (congrArg (iv .i64) (step_of hI).symm)
theorem step_ok : ConOk Tryz.prog F.check_Step stepC:=con_of_run (clRunX_ok (d:=4) ttOk outs3_ok tabSt_ok 2) (fn_enters (ok.check_Step (D:=4) u0 _ (clRunX_ok (d:=4) ttOk .nil TabOk.nil 1))) fun p hp=>step_run p.1 p.2 hp
theorem isM_nh {m : Mat} (h : ¬ headP m) : false = isM m:=by rw [isM,decide_eq_false h]; rfl
theorem isM_ns {m : Mat} (h : ¬ sizeP m) : false = isM m:=by rw [isM,decide_eq_false h,Bool.false_and,Bool.and_false]
theorem isM_nM {m : Mat} {i : Nat} (hi : i < m.nM) (h : ¬ whoP (m.M i)) : false = isM m:=(Bool.eq_false_iff.2 fun e=>h ((isM_iff.1 e).M i hi)).symm
theorem isM_nG {m : Mat} {i : Nat} (hi : i < m.nG) (h : ¬ msgP (m.G i)) : false = isM m:=(Bool.eq_false_iff.2 fun e=>h ((isM_iff.1 e).G i hi)).symm
theorem isM_nW {m : Mat} {i : Nat} (hi : i < m.nW) (h : ¬ winP m (m.W i)) : false = isM m:=(Bool.eq_false_iff.2 fun e=>h ((isM_iff.1 e).W i hi)).symm
theorem all_up {n : Nat} {P : Nat → Prop} (hp : ∀ j,j < n → P j) (h : P n) : ∀ j,j < n + 1 → P j:=fun j hj=>by
 by_cases e : j = n
 ·subst e; exact h
 ·exact hp j (by omega)
theorem zi (i : Nat) : 0 + (i : Int).toNat = i:=by rw [Nat.zero_add]; rfl
theorem all_0 {P : Nat → Prop} : ∀ j,j < 0 → P j:=fun j hj=>absurd hj (Nat.not_lt_zero j)
noncomputable abbrev tabWr : List (FuncId × Eng.Fn):=[(F.ref12_within,fn.ref12_within u0)]
theorem tabWr_ok {d : Nat} : TabOk d tabWr tt:=.cons (ok.ref12_within u0) (TabOk.nil)
theorem withinR_run (n lo hi : Int) : clRunX 4 tt outs0 tabWr 2 F.ref12_within [] [iv .i64 n,iv .i64 lo,iv .i64 hi] ([]) (fun x h=>Trim 0 x h fun x h=>x = bv (decide (lo ≤ n ∧ n ≤ hi)) ∧ h = []):=by
 conv=>whnf
 refine cD (fun h1=>?_) (fun h1=>?_)
 ·conv=>whnf
  exact trim0 rfl (congrArg bv (decide_eq_decide.2 (by omega)))
 ·conv=>whnf
  exact trim0 rfl (congrArg bv (decide_eq_false (by omega)).symm)
theorem withinR_ok : ConOk Tryz.prog F.ref12_within within:=con_of_run (clRunX_ok (d:=4) ttOk outs0_ok tabWr_ok 2) (fn_enters (ok.ref12_within (D:=4) u0 _ (clRunX_ok (d:=4) ttOk .nil TabOk.nil 1))) fun p _=>withinR_run p.1 p.2.1 p.2.2
noncomputable abbrev tabCr : List (FuncId × Eng.Fn):=[(F.ref12_Comes,fn.ref12_Comes u0)]
theorem tabCr_ok {d : Nat} : TabOk d tabCr tt:=.cons (ok.ref12_Comes u0) (TabOk.nil)
theorem comesR_run (c r n : Int) (hn : I64 n) : clRunX 5 tt outs0 tabCr 2 F.ref12_Comes [] [iv .i64 c,iv .i64 r,iv .i64 n] ([]) (fun x h=>Trim 0 x h fun x h=>x = bv (comes c r n) ∧ h = []):=by
 unfold I64 at hn
 conv=>whnf
 refine cD (fun h1=>?_) (fun h1=>?_)
 ·conv=>whnf
  refine cD (fun h2=>?_) (fun h2=>?_)
  ·conv=>whnf
   refine cD (fun h3=>?_) (fun h3=>?_)
   ·refine wA ?_
    conv=>whnf
    exact trim0 rfl (congrArg bv (decide_eq_decide.2 ⟨fun h=>⟨h1,h2,h3,h⟩,fun h=>h.2.2.2⟩))
   ·conv=>whnf
    exact trim0 rfl (congrArg bv (decide_eq_false fun h=>h3 h.2.2.1).symm)
  ·conv=>whnf
   exact trim0 rfl (congrArg bv (decide_eq_false fun h=>h2 h.2.1).symm)
 ·conv=>whnf
  exact trim0 rfl (congrArg bv (decide_eq_false fun h=>h1 h.1).symm)
theorem comesR_ok : ConOk Tryz.prog F.ref12_Comes comesC:=con_of_run (clRunX_ok (d:=5) ttOk outs0_ok tabCr_ok 2) (fn_enters (ok.ref12_Comes (D:=5) u0 _ (clRunX_ok (d:=5) ttOk .nil TabOk.nil 1))) fun p hp=>comesR_run p.1 p.2.1 p.2.2 hp
abbrev powerR : Con (Int × Int):=RoCon (fun p=>[iv .i64 p.1,iv .i64 p.2]) (fun _=>[]) (fun _=>True) fun p=>bv (decide (power p.1 ∧ p.1 ≤ p.2))
theorem powerR_use {n k : Int} {h : Heap} {K : R → Heap → Prop} (hk : K (bv (decide (power n ∧ n ≤ k))) h) : AskC powerR [iv .i64 n,iv .i64 k] h K :=
 .use (n,k) [] trivial rfl trivial ⟨.inl rfl,.inl rfl,trivial⟩ hk
noncomputable abbrev tabPr : List (FuncId × Eng.Fn):=[(F.ref12_power,fn.ref12_power u0)]
theorem tabPr_ok {d : Nat} : TabOk d tabPr tt:=.cons (ok.ref12_power u0) (TabOk.nil)
theorem powerR_run (n k : Int) : clRunX 5 tt outs0 tabPr 2 F.ref12_power [] [iv .i64 n,iv .i64 k] ([]) (fun x h=>Trim 0 x h fun x h=>x = bv (decide (power n ∧ n ≤ k)) ∧ h = []):=by
 conv=>whnf
 refine cD (fun h1=>?_) (fun h1=>?_)
 ·conv=>whnf
  exact trim0 rfl (congrArg bv (decide_eq_decide.2 (by unfold power; omega)))
 conv=>whnf
 refine cD (fun h2=>?_) (fun h2=>?_)
 ·conv=>whnf
  exact trim0 rfl (congrArg bv (decide_eq_decide.2 (by unfold power; omega)))
 conv=>whnf
 refine cD (fun h3=>?_) (fun h3=>?_)
 ·conv=>whnf
  exact trim0 rfl (congrArg bv (decide_eq_decide.2 (by unfold power; omega)))
 conv=>whnf
 refine cD (fun h4=>?_) (fun h4=>?_)
 ·conv=>whnf
  exact trim0 rfl (congrArg bv (decide_eq_decide.2 (by unfold power; omega)))
 conv=>whnf
 exact trim0 rfl (congrArg bv (decide_eq_false (by unfold power; omega)).symm)
theorem powerR_ok : ConOk Tryz.prog F.ref12_power powerR:=con_of_run (clRunX_ok (d:=5) ttOk outs0_ok tabPr_ok 2) (fn_enters (ok.ref12_power (D:=5) u0 _ (clRunX_ok (d:=5) ttOk .nil TabOk.nil 1))) fun p _=>powerR_run p.1 p.2
abbrev outsR1 : List (FuncId × Cx):=[(F.ref12_within,AskC within),(F.ref12_Comes,AskC comesC),(F.ref12_power,AskC powerR),(F.ref12_Units,AskC unitsC)]
theorem outsR1_ok : OutsOk Tryz.prog outsR1:=.cons (ask_ok withinR_ok) (.cons (ask_ok comesR_ok) (.cons (ask_ok powerR_ok) (.cons (ask_ok unitsR_ok) .nil)))
noncomputable abbrev tabIr : List (FuncId × Eng.Fn):=[(F.ref12_Is,fn.ref12_Is u0)]
theorem tabIr_ok {d : Nat} : TabOk d tabIr tt:=.cons (ok.ref12_Is u0) (TabOk.nil)
theorem isR_run (m : Mat) (c : Caps) (hm : m.Ok) : clRunX 8 tt outsR1 tabIr 2 F.ref12_Is [] [matT m c 0 1 2] (matH m []) (fun x h=>Trim 3 x h fun x h=>x = bv (isM m) ∧ h = matH m []):=by
 have hnM:=hm.nM
 have hnG:=hm.nG
 have hnW:=hm.nW
 iterate 2
  conv=>whnf
  refine within_use ?_
  conv=>whnf
  refine cN (fun h1=>?_) (fun h1=>?_)
  ·conv=>whnf
   exact trimM rfl (congrArg bv (isM_nh (by unfold headP; omega)))
 conv=>whnf
 refine powerR_use ?_
 conv=>whnf
 refine cN (fun h1=>?_) (fun hp=>?_)
 ·conv=>whnf
  exact trimM rfl (congrArg bv (isM_nh (by unfold headP power at *; omega)))
 iterate 3
  conv=>whnf
  refine within_use ?_
  conv=>whnf
  refine cN (fun h1=>?_) (fun h1=>?_)
  ·conv=>whnf
   exact trimM rfl (congrArg bv (isM_nh (by unfold headP; omega)))
 conv=>whnf
 refine within_use ?_
 conv=>whnf
 refine cN (fun h1=>?_) (fun h1=>?_)
 ·conv=>whnf
  exact trimM rfl (congrArg bv (isM_nh (by unfold headP; omega)))
 conv=>whnf
 refine cD (fun h1=>?_) (fun h1=>?_)
 ·conv=>whnf
  exact trimM rfl (congrArg bv (isM_nh (by unfold headP; omega)))
 refine wA ?_
 conv=>whnf
 refine cN (fun h1=>?_) (fun h1=>?_)
 ·conv=>whnf
  exact trimM rfl (congrArg bv (isM_nh (by unfold headP; omega)))
 have hh : headP m:=by
  unfold headP
  exact ⟨by omega,by omega,by omega,by omega,hp.1,by omega,by omega,by omega,by omega,by omega,by omega,by omega,by omega,by omega,by omega⟩
 clear hp
 conv=>whnf
 refine within_use ?_
 conv=>whnf
 refine cN (fun h1=>?_) (fun h2=>?_)
 ·conv=>whnf
  exact trimM rfl (congrArg bv (isM_ns (by unfold sizeP; omega)))
 conv=>whnf
 refine cD (fun h1=>?_) (fun h3=>?_)
 ·conv=>whnf
  exact trimM rfl (congrArg bv (isM_ns (by unfold sizeP; omega)))
 conv=>whnf
 refine cD (fun h1=>?_) (fun h4=>?_)
 ·conv=>whnf
  exact trimM rfl (congrArg bv (isM_ns (by unfold sizeP; omega)))
 conv=>whnf
 refine .rd (fun i : Nat=>i ≤ m.nM ∧ ∀ j,j < i → whoP (m.M j)) (fun i=>[(3,iv .i64 i)]) (fun i=>m.nM - i) 0 ⟨Nat.zero_le _,all_0⟩ ?_ (fun i ⟨hi,hp⟩=>?_)
 ·conv=>whnf
  refine Le.id rfl ?_ ?_<;>repeat'(first|exact wZ|refine And.intro ?_ ?_)
 conv=>whnf
 refine cD (fun h5=>?_) (fun h5=>?_)
 ·refine wA ?_
  conv=>whnf
  refine within_use ?_
  try rw [zi i]
  conv=>whnf
  refine cN (fun h6=>?_) (fun h6=>?_)
  ·conv=>whnf
   exact trimM rfl (congrArg bv (isM_nM (by omega) h6))
  ·refine wA ?_
   conv=>whnf
   refine ⟨i + 1,⟨⟨by omega,all_up hp h6⟩,by omega⟩, ?_⟩
   conv=>whnf
   refine Le.id rfl ?_ ?_<;>repeat'(first|exact wZ|refine And.intro ?_ ?_)
 obtain rfl : i = m.nM:=by omega
 conv=>whnf
 refine .rd (fun i : Nat=>i ≤ m.nG ∧ ∀ j,j < i → msgP (m.G j)) (fun i=>[(4,iv .i64 i)]) (fun i=>m.nG - i) 0 ⟨Nat.zero_le _,all_0⟩ ?_ (fun i ⟨hi,hq⟩=>?_)
 ·conv=>whnf
  refine Le.id rfl ?_ ?_<;>repeat'(first|exact wZ|refine And.intro ?_ ?_)
 conv=>whnf
 refine cD (fun h5=>?_) (fun h5=>?_)
 ·refine wA ?_
  conv=>whnf
  try rw [zi i]
  refine cD (fun h6=>?_) (fun h6=>?_)
  ·conv=>whnf
   exact trimM rfl (congrArg bv (isM_nG (i:=i) (by omega) (by unfold msgP; omega)))
  ·refine wA ?_
   conv=>whnf
   refine within_use ?_
   try rw [zi i]
   conv=>whnf
   refine cN (fun h7=>?_) (fun h7=>?_)
   ·conv=>whnf
    exact trimM rfl (congrArg bv (isM_nG (i:=i) (by omega) (by unfold msgP; omega)))
   ·refine wA ?_
    conv=>whnf
    refine ⟨i + 1,⟨⟨by omega,all_up hq (by unfold msgP; omega)⟩,by omega⟩, ?_⟩
    conv=>whnf
    refine Le.id rfl ?_ ?_<;>repeat'(first|exact wZ|refine And.intro ?_ ?_)
 obtain rfl : i = m.nG:=by omega
 conv=>whnf
 refine .rd (fun i : Nat=>i ≤ m.nW ∧ ∀ j,j < i → winP m (m.W j)) (fun i=>[(5,iv .i64 i)]) (fun i=>m.nW - i) 0 ⟨Nat.zero_le _,all_0⟩ ?_ (fun i ⟨hi,hr⟩=>?_)
 ·conv=>whnf
  refine Le.id rfl ?_ ?_<;>repeat'(first|exact wZ|refine And.intro ?_ ?_)
 conv=>whnf
 refine cD (fun h5=>?_) (fun h5=>?_)
 ·refine wA ?_
  iterate 3
   conv=>whnf
   try rw [zi i]
   refine within_use ?_
   conv=>whnf
   refine cN (fun h6=>?_) (fun h6=>?_)
   ·conv=>whnf
    exact trimM rfl (congrArg bv (isM_nW (i:=i) (by omega) (by unfold winP; omega)))
  conv=>whnf
  try rw [zi i]
  refine cD (fun h6=>?_) (fun h6=>?_)
  ·conv=>whnf
   exact trimM rfl (congrArg bv (isM_nW (i:=i) (by omega) (by unfold winP; omega)))
  conv=>whnf
  try rw [zi i]
  refine powerR_use ?_
  conv=>whnf
  refine cN (fun h6=>?_) (fun hpw=>?_)
  ·conv=>whnf
   exact trimM rfl (congrArg bv (isM_nW (i:=i) (by omega) (by unfold winP; exact fun h=>h6 ⟨h.2.2.2.2.2.2.2.1,h.2.2.2.2.2.2.2.2.1⟩)))
  have h7 : 1 ≤ (m.W i).rep ∧ (m.W i).rep ≤ 8:=by have:=hpw.1; unfold power at this; omega
  have h8:=hpw.1
  have h9:=hpw.2
  clear hpw
  conv=>whnf
  try rw [zi i]
  refine bI (by omega) ?_
  conv=>whnf
  refine within_use ?_
  conv=>whnf
  refine cN (fun h6=>?_) (fun h6=>?_)
  ·conv=>whnf
   exact trimM rfl (congrArg bv (isM_nW (i:=i) (by omega) (by unfold winP; omega)))
  conv=>whnf
  try rw [zi i]
  refine within_use ?_
  conv=>whnf
  refine cN (fun h6=>?_) (fun h6=>?_)
  ·conv=>whnf
   exact trimM rfl (congrArg bv (isM_nW (i:=i) (by omega) (by unfold winP; omega)))
  conv=>whnf
  try rw [zi i]
  refine cN (fun h10=>?_) (fun h10=>?_)
  ·conv=>whnf
   refine cN (fun h11=>?_) (fun h11=>?_)
   ·conv=>whnf
    exact trimM rfl (congrArg bv (isM_nW (i:=i) (by omega) (by unfold winP; omega)))
   ·refine wA ?_
    conv=>whnf
    refine ⟨i + 1,⟨⟨by omega,all_up hr (by unfold winP; exact ⟨by omega,by omega,by omega,by omega,by omega,by omega,by omega,h8,by omega,by omega,by omega,by omega,by omega,by omega⟩)⟩,by omega⟩, ?_⟩
    conv=>whnf
    refine Le.id rfl ?_ ?_<;>repeat'(first|exact wZ|refine And.intro ?_ ?_)
  ·refine wA ?_
   conv=>whnf
   refine ⟨i + 1,⟨⟨by omega,all_up hr (by unfold winP; exact ⟨by omega,by omega,by omega,by omega,by omega,by omega,by omega,h8,by omega,by omega,by omega,by omega,by omega,by omega⟩)⟩,by omega⟩, ?_⟩
   conv=>whnf
   refine Le.id rfl ?_ ?_<;>repeat'(first|exact wZ|refine And.intro ?_ ?_)
 obtain rfl : i = m.nW:=by omega
 conv=>whnf
 exact trimM rfl (congrArg bv (isM_iff.2 ⟨hh,by unfold sizeP; omega,hp,hq,hr⟩).symm)
theorem isR_ok : ConOk Tryz.prog F.ref12_Is isC:=con_of_run (clRunX_ok (d:=8) ttOk outsR1_ok tabIr_ok 2) (fn_enters (ok.ref12_Is (D:=8) u0 _ (clRunX_ok (d:=8) ttOk .nil TabOk.nil 1))) fun p hp=>isR_run p.1 p.2 hp
theorem za (a : Int) : 0 + a.toNat = a.toNat:=Nat.zero_add _
def winTT (x : Win) : T:=.agg [.c (iC x.kind),.c (iC x.st),.c (iC x.en),.c (iC x.cyc),.c (iC x.rep),.c (iC x.msg)]
def win0 : Win:=⟨0,0,0,0,0,0⟩
def thereF (m : Mat) (a : Int) : R:=if 0 ≤ a ∧ a < m.nW then .tup [winTT (m.W a.toNat),.one (bC true)] else .tup [winTT win0,.one (bC false)]
theorem thereF_pl (m : Mat) (a : Int) : plR (thereF m a) = true:=by unfold thereF; split <;> rfl
abbrev thereC : Con (Mat × Caps × Int):=RoCon (fun p=>[matT p.1 p.2.1 0 1 2,iv .i64 p.2.2]) (fun p=>matH p.1 []) (fun p=>p.1.Ok) fun p=>thereF p.1 p.2.2
theorem there_use {m : Mat} {c : Caps} {a : Int} {rest : Heap} {K : R → Heap → Prop} (hm : m.Ok) (hk : K (thereF m a) (matH m rest)) : AskC thereC [matT m c 0 1 2,iv .i64 a] (matH m rest) K :=
 .use (m,c,a) [0,1,2] hm (by show (true && (true && plR (thereF m a))) = true; rw [thereF_pl]; rfl) (mat_le m rest) ⟨mat_lx m c rest,.inl rfl,trivial⟩ hk
theorem there_yes {m : Mat} {c : Caps} {a : Int} {rest : Heap} {K : R → Heap → Prop} (hm : m.Ok) (ha : 0 ≤ a ∧ a < m.nW) (hk : K (.tup [winTT (m.W a.toNat),.one (bC true)]) (matH m rest)) : AskC thereC [matT m c 0 1 2,iv .i64 a] (matH m rest) K :=
 there_use hm (by unfold thereF; rw [if_pos ha]; exact hk)
theorem there_no {m : Mat} {c : Caps} {a : Int} {rest : Heap} {K : R → Heap → Prop} (hm : m.Ok) (ha : ¬ (0 ≤ a ∧ a < m.nW)) (hk : K (.tup [winTT win0,.one (bC false)]) (matH m rest)) : AskC thereC [matT m c 0 1 2,iv .i64 a] (matH m rest) K :=
 there_use hm (by unfold thereF; rw [if_neg ha]; exact hk)
noncomputable abbrev tabTh : List (FuncId × Eng.Fn):=[(F.check_there,fn.check_there u0)]
theorem tabTh_ok {d : Nat} : TabOk d tabTh tt:=.cons (ok.check_there u0) (TabOk.nil)
theorem there_run (m : Mat) (c : Caps) (a : Int) (hm : m.Ok) : clRunX 5 tt outs0 tabTh 2 F.check_there [] [matT m c 0 1 2,iv .i64 a] (matH m []) (fun x h=>Trim 3 x h fun x h=>x = thereF m a ∧ h = matH m []):=by
 conv=>whnf
 refine cD (fun h1=>?_) (fun h1=>?_)
 ·conv=>whnf
  exact trimM rfl (by unfold thereF; rw [if_neg (by omega)]; rfl)
 conv=>whnf
 refine cD (fun h2=>?_) (fun h2=>?_)
 ·conv=>whnf
  exact trimM rfl (by unfold thereF; rw [if_neg (by omega)]; rfl)
 refine wA ?_
 conv=>whnf
 try rw [za a]
 exact trimM rfl (by unfold thereF; rw [if_pos (by omega)]; rfl)
theorem there_ok : ConOk Tryz.prog F.check_there thereC:=con_of_run (clRunX_ok (d:=5) ttOk outs0_ok tabTh_ok 2) (fn_enters (ok.check_there (D:=5) u0 _ (clRunX_ok (d:=5) ttOk .nil TabOk.nil 1))) fun p hp=>there_run p.1 p.2.1 p.2.2 hp
abbrev outs4 : List (FuncId × Cx):=(F.check_there,AskC thereC) :: outs3
theorem outs4_ok : OutsOk Tryz.prog outs4:=.cons (ask_ok there_ok) outs3_ok
theorem meet_no {m : Mat} {a b : Int} (h : ¬ (0 ≤ a ∧ a < m.nW ∧ 0 ≤ b ∧ b < m.nW)) : false = meet m a b:=by rw [meet,decide_eq_false h]; rfl
theorem meet_in {m : Mat} {a b : Int} (h : 0 ≤ a ∧ a < m.nW ∧ 0 ≤ b ∧ b < m.nW) : meet m a b = meetW m.cycles (m.W a.toNat) (m.W b.toNat):=by rw [meet,decide_eq_true h]; rfl
theorem meetW_no {c : Int} {x y : Win} (h : ¬ (x.st < y.en ∧ y.st < x.en)) : meetW c x y = false:=by rw [meetW,decide_eq_false h]; rfl
theorem meetW_yes {c : Int} {x y : Win} (h : x.st < y.en ∧ y.st < x.en) {i : Nat} (hi : i < (min (max c 0) 8).toNat) (h1 : comes x.cyc x.rep i = true) (h2 : comes y.cyc y.rep i = true) : meetW c x y = true:=by
 rw [meetW,decide_eq_true h,Bool.true_and,anyB_iff]
 exact ⟨i,hi,by rw [h1,h2]; rfl⟩
theorem meetW_none {c : Int} {x y : Win} (h : ∀ i,i < (min (max c 0) 8).toNat → (comes x.cyc x.rep i && comes y.cyc y.rep i) = false) : meetW c x y = false:=by
 rw [meetW,anyB_false.2 h,Bool.and_false]
abbrev meetC : Con (Mat × Caps × Int × Int):=RoCon (fun p=>[matT p.1 p.2.1 0 1 2,iv .i64 p.2.2.1,iv .i64 p.2.2.2]) (fun p=>matH p.1 []) (fun p=>p.1.Ok) fun p=>bv (meet p.1 p.2.2.1 p.2.2.2)
theorem meet_use {m : Mat} {c : Caps} {a b : Int} {rest : Heap} {K : R → Heap → Prop} (hm : m.Ok) (hk : K (bv (meet m a b)) (matH m rest)) : AskC meetC [matT m c 0 1 2,iv .i64 a,iv .i64 b] (matH m rest) K :=
 .use (m,c,a,b) [0,1,2] hm rfl (mat_le m rest) ⟨mat_lx m c rest,.inl rfl,.inl rfl,trivial⟩ hk
noncomputable abbrev tabMe : List (FuncId × Eng.Fn):=[(F.check_Meet,fn.check_Meet u0)]
theorem tabMe_ok {d : Nat} : TabOk d tabMe tt:=.cons (ok.check_Meet u0) (TabOk.nil)
theorem meet_run (m : Mat) (c : Caps) (a b : Int) (hm : m.Ok) : clRunX 7 tt outs4 tabMe 2 F.check_Meet [] [matT m c 0 1 2,iv .i64 a,iv .i64 b] (matH m []) (fun x h=>Trim 3 x h fun x h=>x = bv (meet m a b) ∧ h = matH m []):=by
 by_cases ha : 0 ≤ a ∧ a < m.nW
 rotate_left
 ·conv=>whnf
  refine there_no (m:=m) (c:=c) hm ha ?_
  by_cases hb : 0 ≤ b ∧ b < m.nW
  ·conv=>whnf
   refine there_yes (m:=m) (c:=c) hm hb ?_
   conv=>whnf
   exact trimM rfl (congrArg bv (meet_no (by omega)))
  ·conv=>whnf
   refine there_no (m:=m) (c:=c) hm hb ?_
   conv=>whnf
   exact trimM rfl (congrArg bv (meet_no (by omega)))
 by_cases hb : 0 ≤ b ∧ b < m.nW
 rotate_left
 ·conv=>whnf
  refine there_yes (m:=m) (c:=c) hm ha ?_
  conv=>whnf
  refine there_no (m:=m) (c:=c) hm hb ?_
  conv=>whnf
  exact trimM rfl (congrArg bv (meet_no (by omega)))
 have hin:=meet_in (m:=m) (a:=a) (b:=b) ⟨ha.1,ha.2,hb.1,hb.2⟩
 conv=>whnf
 refine there_yes (m:=m) (c:=c) hm ha ?_
 conv=>whnf
 refine there_yes (m:=m) (c:=c) hm hb ?_
 conv=>whnf
 refine cD (fun h1=>?_) (fun h1=>?_)
 ·conv=>whnf
  exact trimM rfl (congrArg bv (by rw [hin,meetW_no (by omega)]))
 conv=>whnf
 refine cD (fun h2=>?_) (fun h2=>?_)
 ·conv=>whnf
  exact trimM rfl (congrArg bv (by rw [hin,meetW_no (by omega)]))
 conv=>whnf
 refine .rd (fun i : Nat=>i ≤ (min (max m.cycles 0) 8).toNat ∧ ∀ j : Nat,j < i → (comes (m.W a.toNat).cyc (m.W a.toNat).rep j && comes (m.W b.toNat).cyc (m.W b.toNat).rep j) = false) (fun i=>[(48,iv .i64 i)]) (fun i=>(min (max m.cycles 0) 8).toNat - i) 0 ⟨Nat.zero_le _,all_0⟩ ?_ (fun i ⟨hi,hp⟩=>?_)
 ·conv=>whnf
  refine Le.id rfl ?_ ?_<;>repeat'(first|exact wZ|refine And.intro ?_ ?_)
 conv=>whnf
 refine cD (fun h5=>?_) (fun h5=>?_)
 ·conv=>whnf
  refine comes_use (by unfold I64; omega) ?_
  conv=>whnf
  cases hc1 : comes (m.W a.toNat).cyc (m.W a.toNat).rep i with
  | false =>
   refine wA ?_
   conv=>whnf
   refine ⟨i + 1,⟨⟨by omega,all_up hp (by rw [hc1]; rfl)⟩,by omega⟩, ?_⟩
   conv=>whnf
   refine Le.id rfl ?_ ?_<;>repeat'(first|exact wZ|refine And.intro ?_ ?_)
  | true =>
   conv=>whnf
   refine comes_use (by unfold I64; omega) ?_
   conv=>whnf
   cases hc2 : comes (m.W b.toNat).cyc (m.W b.toNat).rep i with
   | false =>
    refine wA ?_
    conv=>whnf
    refine ⟨i + 1,⟨⟨by omega,all_up hp (by rw [hc2,Bool.and_false])⟩,by omega⟩, ?_⟩
    conv=>whnf
    refine Le.id rfl ?_ ?_<;>repeat'(first|exact wZ|refine And.intro ?_ ?_)
   | true =>
    conv=>whnf
    exact trimM rfl (congrArg bv (by rw [hin,meetW_yes ⟨by omega,by omega⟩ (i:=i) (by omega) hc1 hc2]))
 obtain rfl : i = (min (max m.cycles 0) 8).toNat:=by omega
 conv=>whnf
 exact trimM rfl (congrArg bv (by rw [hin,meetW_none hp]))
theorem meet_ok : ConOk Tryz.prog F.check_Meet meetC:=con_of_run (clRunX_ok (d:=7) ttOk outs4_ok tabMe_ok 2) (fn_enters (ok.check_Meet (D:=7) u0 _ (clRunX_ok (d:=7) ttOk .nil TabOk.nil 1))) fun p hp=>meet_run p.1 p.2.1 p.2.2.1 p.2.2.2 hp
abbrev bitC : Con Bool:=RoCon (fun p=>[bv p]) (fun _=>[]) (fun _=>True) fun p=>sv (bs [p])
theorem bit_use {b : Bool} {h : Heap} {K : R → Heap → Prop} (hk : K (sv (bs [b])) h) : AskC bitC [bv b] h K :=
 .use b [] trivial rfl trivial ⟨.inl rfl,trivial⟩ hk
abbrev outs0b : List (FuncId × Cx):=[]
theorem outs0b_ok : OutsOk Tryz.prog outs0b:=.nil
abbrev ofC : Con (Nat × Nat):=RoCon (fun p=>[iv .u64 p.1,iv .i64 p.2]) (fun _=>[]) (fun p=>p.1 < 18446744073709551616 ∧ p.2 ≤ 64) fun p=>sv (bs (ofN p.1 p.2))
theorem of_use {n w : Nat} {h : Heap} {K : R → Heap → Prop} (hn : n < 18446744073709551616) (hw : w ≤ 64) (hk : K (sv (bs (ofN n w))) h) : AskC ofC [iv .u64 n,iv .i64 w] h K :=
 .use (n,w) [] ⟨hn,hw⟩ rfl trivial ⟨.inl rfl,.inl rfl,trivial⟩ hk
abbrev byC : Con ByteArray:=RoCon (fun p=>[sv p]) (fun _=>[]) (fun p=>p.size ≤ 1000) fun p=>sv (bs (byB p))
theorem by_use {s : ByteArray} {h : Heap} {K : R → Heap → Prop} (hs : s.size ≤ 1000) (hk : K (sv (bs (byB s))) h) : AskC byC [sv s] h K :=
 .use s [] hs rfl trivial ⟨.inl rfl,trivial⟩ hk
abbrev crcC : Con ByteArray:=RoCon (fun p=>[sv p]) (fun _=>[]) (fun p=>p.size ≤ 9223372036854775807) fun p=>iv .u16 (crc (rd p) : Nat)
theorem crc_use {s : ByteArray} {h : Heap} {K : R → Heap → Prop} (hs : s.size ≤ 9223372036854775807) (hk : K (iv .u16 (crc (rd s) : Nat)) h) : AskC crcC [sv s] h K :=
 .use s [] hs rfl trivial ⟨.inl rfl,trivial⟩ hk
end Go.Proofs.YtlckbdhpehkeoaaGreat.Co
