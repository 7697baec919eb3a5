/- Parts. -/
import Derived.Test.YtlckbdhpehkeoaaGreatJ05
import Derived.Test.YtlckbdhpehkeoaaGreatJ07
import Derived.Test.YtlckbdhpehkeoaaGreatJ08
import Derived.Test.YtlckbdhpehkeoaaGreatJ20
import Derived.Test.YtlckbdhpehkeoaaGreatJ21
import Derived.Test.YtlckbdhpehkeoaaGreatJ22
namespace Go.Proofs.YtlckbdhpehkeoaaGreat.Co
open Go Go.Eng Go.Proofs Go.Proofs.YtlckbdhpehkeoaaGreat.Tb Go.Pu
set_option maxRecDepth 100000
set_option maxHeartbeats 8000000
abbrev rwMM (m : Mat) (c : Nat) : HE:=.ob (.row 1 m.nM (fun i=>[iC (m.M i)]) c)
abbrev rwGG (m : Mat) (c : Nat) : HE:=.ob (.row 3 m.nG (fun i=>msgL (m.G i)) c)
abbrev rwWW (m : Mat) (c : Nat) : HE:=.ob (.row 6 m.nW (fun i=>winL (m.W i)) c)
abbrev matC (m : Mat) (c : Caps) : T:=.agg [.c (iC m.level),.c (iC m.nodes),.c (iC m.cycles),.c (iC m.length),.c (iC m.enable),.c (iC m.unit),.c (iC m.init),.c (uC m.ref),.c (.slc 0 0 1 0 m.nM c.c1 false),.c (.slc 1 0 3 0 m.nG c.c2 false),.c (.slc 2 0 6 0 m.nW c.c3 false)]
theorem par_use {l : List UInt8} {m : Mat} {K : R → Heap → Prop} (hok : pOk l = true) (hm : pm l = m) (h0 : m.nM ≠ 0) (h1 : m.nG ≠ 0) (h2 : m.nW ≠ 0)
    (hk : ∀ c1 c2 c3, m.nM ≤ c1 → m.nG ≤ c2 → m.nW ≤ c3 → K (.tup [matC m ⟨c1, c2, c3, false, false, false⟩, .one (.v (.int .i64 0))]) [rwMM m c1, rwGG m c2, rwWW m c3]) : AskC parC [sv (tx l)] [] K := by
  have eX : ∀ q : Nat × Nat × Nat, parX l (pN l) (pG l) (pW l) q = .tup [matC m ⟨q.1, q.2.1, q.2.2, false, false, false⟩, .one (.v (.int .i64 0))] := fun q => by
    subst hm
    unfold parX
    rw [if_pos hok]
    have a0 : pN l ≠ 0 := h0
    have a1 : pG l ≠ 0 := h1
    have a2 : pW l ≠ 0 := h2
    show R.tup [mT _ _ _ _ _ _ _ _ (slM 0 1 (pN l) q.1) (slM 1 3 (pG l) q.2.1) (slM (1 + one0 (pG l)) 6 (pW l) q.2.2), _] = R.tup [matC (pm l) _, _]
    have b0 : ∀ b w n c, n ≠ 0 → slM b w n c = .slc b 0 w 0 n c false := fun b w n c h => by cases n with | zero => exact absurd rfl h | succ n => rfl
    have b1 : one0 (pG l) = 1 := by cases hg : pG l with | zero => exact absurd hg a1 | succ n => rfl
    rw [b0 _ _ _ _ a0, b0 _ _ _ _ a1, b0 _ _ _ _ a2, b1]
    rfl
  have eH : ∀ q : Nat × Nat × Nat, parHp l (pN l) (pG l) (pW l) q = [rwMM m q.1, rwGG m q.2.1, rwWW m q.2.2] := fun q => by
    subst hm
    unfold parHp
    rw [if_pos hok]
    have a0 : pN l ≠ 0 := h0
    have a1 : pG l ≠ 0 := h1
    have a2 : pW l ≠ 0 := h2
    have b0 : ∀ w n f c, n ≠ 0 → rwM w n f c = [.ob (.row w n f c)] := fun w n f c h => by cases n with | zero => exact absurd rfl h | succ n => rfl
    show rwM _ (pN l) _ _ ++ (rwM _ (pG l) _ _ ++ rwM _ (pW l) _ _) = _
    rw [b0 _ _ _ _ a0, b0 _ _ _ _ a1, b0 _ _ _ _ a2]
    show [HE.ob (.row 1 (pN l) _ _), HE.ob (.row 3 (pG l) _ _), HE.ob (.row 6 (pW l) _ _)] = [HE.ob (.row 1 (pN l) _ _), HE.ob (.row 3 (pG l) _ _), HE.ob (.row 6 (pW l) _ _)]
    have c1 : (fun q => msgL (pmG l (14 + pN l + 4 * q))) = fun i => msgL ((pm l).G i) := by
      funext i
      show msgL (pmG l (14 + pN l + 4 * i)) = msgL (pmG l (p1 l + 1 + 4 * i))
      rw [show p1 l + 1 + 4 * i = 14 + pN l + 4 * i by unfold p1; omega]
    have c2 : (fun q => winL (pmW l (15 + pN l + 4 * pG l + 8 * q))) = fun i => winL ((pm l).W i) := by
      funext i
      show winL (pmW l (15 + pN l + 4 * pG l + 8 * i)) = winL (pmW l (p2 l + 1 + 8 * i))
      rw [show p2 l + 1 + 8 * i = 15 + pN l + 4 * pG l + 8 * i by unfold p2 p1; omega]
    rw [c1, c2]
    rfl
  refine .fam l [] (fun q => .tup [matC m ⟨q.1, q.2.1, q.2.2, false, false, false⟩, .one (.v (.int .i64 0))]) (fun q => [rwMM m q.1, rwGG m q.2.1, rwWW m q.2.2]) trivial rfl trivial ⟨.inl rfl, trivial⟩ (fun q => ?_) (fun q => ?_) (fun q hq => ?_)
  · show renR _ (parX l (pN l) (pG l) (pW l) q) = _
    rw [eX]; rfl
  · show mrg _ [] [] [] (parHp l (pN l) (pG l) (pW l) q) = _
    rw [eH]; rfl
  · subst hm
    exact hk q.1 q.2.1 q.2.2 hq.1 hq.2.1 hq.2.2
section
variable {α : Type}
theorem AskC.mk1 {X : α → List R} {E : α → HE} {pre : α → Prop} {h : Heap} {K : R → Heap → Prop} (p : α) (hp : pre p) (hX : ((X p).all plR && (X p).all isT) = true) (hr : ∀ g, renHE g (E p) = E p) (hk : K (pR h.length) (h ++ [E p])) :
    AskC (DetCon X (fun _ => []) pre (fun _ => pR 0) fun p => [E p]) (X p) h K := by
  refine .det p [] (pR h.length) (h ++ [E p]) hp rfl trivial (plRs_leX hX) rfl ?_ hk
  show mrgGo _ [] [] [E p] 0 h ++ [renHE _ (E p)] = _
  rw [mrgGo_rest h 0 (fun j hj => by cases hj), hr]
theorem AskC.nb0 {X : α → List R} {pre : α → Prop} {Q' : α → Heap → Prop} {h : Heap} {K : R → Heap → Prop} (p : α) (hp : pre p) (hX : ((X p).all plR && (X p).all isT) = true) (hk : ∀ fg, K (pR h.length) (h ++ [bx (Q' p) fg])) :
    AskC (BxNew (γ := Unit) X (fun _ => []) pre (fun _ _ => True) (fun _ _ => pR 0) (fun p _ => Q' p) (fun _ _ => []) fun _ _ => []) (X p) h K := by
  refine .fam p [] (fun _ => pR h.length) (fun q => h ++ [bx (Q' p) q.2]) hp rfl trivial (plRs_leX hX) (fun q => rfl) (fun q => ?_) (fun q _ => hk q.2)
  show mrgGo _ [] [] _ 0 h ++ [bx (Q' p) q.2] = _
  rw [mrgGo_rest h 0 (fun j hj => by cases hj)]
theorem AskC.nb3 {X : α → List R} {M : α → Mat} {pre : α → Prop} {Q' : α → Heap → Prop} {xs : List R} {h : Heap} {K : R → Heap → Prop} (p : α) (hp : pre p) (hH : leH (sig h [0, 1, 2]) h [0, 1, 2] (matH (M p) [])) (hX : leXs 3 (sig h [0, 1, 2]) xs (X p)) (hk : ∀ fg, K (pR h.length) (h ++ [bx (Q' p) fg])) :
    AskC (BxNew (γ := Unit) X (fun p => matH (M p) []) pre (fun _ _ => True) (fun _ _ => pR 3) (fun p _ => Q' p) (fun p _ => matH (M p) []) fun _ _ => []) xs h K := by
  have hro : (matH (M p) []).all roB = true := rfl
  refine .fam p [0, 1, 2] (fun _ => pR h.length) (fun q => h ++ [bx (Q' p) q.2]) hp rfl hH hX (fun q => rfl) (fun q => ?_) (fun q _ => hk q.2)
  exact mrg_ro hro [bx (Q' p) q.2]
end
def Nd.new (m : Mat) (who : Int) (c : Caps) : Nd:=⟨m,c,Co.rank m who,Clk.new m.unit,mac0,mrk0,glb0,.new who,newT m.nG,Mst.new (Co.rank m who),.new (planF m who) (rowL0 m who).length,0,false,fun _=>false,[],[]⟩
abbrev ndO0 (n : Nd) (c1 c2 c3 : C) : HE:=.ob (.own [.c (iC n.m.level),.c (iC n.m.nodes),.c (iC n.m.cycles),.c (iC n.m.length),.c (iC n.m.enable),.c (iC n.m.unit),.c (iC n.m.init),.c (uC n.m.ref),
 .c c1,.c c2,.c c3,.c (bC true),.c (iC n.rank),
 .c (.ptr 4 0),.c (.ptr 5 0),.c (.ptr 6 0),.c (.ptr 7 0),.c (.ptr 8 0),.c (.ptr 9 0),.c (.ptr 10 0),.c (.ptr 11 0),.c (iC n.wait),.c (bC n.silent),.arr 12 (fun i=>bC (n.came i)),.c (.v (.slice none 0 0)),.c (.v (.slice none 0 0))])
abbrev ndH0 (n : Nd) (x : NdX) : Heap:=ndO0 n (.slc 1 0 1 0 n.m.nM n.c.c1 n.c.z1) (.slc 2 0 3 0 n.m.nG n.c.c2 n.c.z2) (.slc 3 0 6 0 n.m.nW n.c.c3 n.c.z3) :: rwMM n.m n.c.c1 :: rwGG n.m n.c.c2 :: rwWW n.m n.c.c3 :: clkE n.clk :: macE n.mac :: mrkE n.mrk :: glbE n.glb :: bx (objQ n.m n.c.z2 n.c.z3 n.obj) x.fo :: bx (statQ n.tab) x.fs :: mstE n.mst :: [bx (schQ n.sch) x.fc]
abbrev ndH1 (n : Nd) (x : NdX) : Heap:=ndO0 n (.slc 1 0 1 0 n.m.nM n.c.c1 n.c.z1) (.slc 2 0 3 0 n.m.nG n.c.c2 n.c.z2) (.slc 3 0 6 0 n.m.nW n.c.c3 n.c.z3) :: roM n.m :: roG n.m :: roW n.m :: clkE n.clk :: macE n.mac :: mrkE n.mrk :: glbE n.glb :: bx (objQ n.m n.c.z2 n.c.z3 n.obj) x.fo :: bx (statQ n.tab) x.fs :: mstE n.mst :: [bx (schQ n.sch) x.fc]
structure NewOk (l : List UInt8) (who : Int) (m : Mat) : Prop where
 p : pOk l = true
 e : pm l = m
 n0 : m.nM ≠ 0
 n1 : m.nG ≠ 0
 n2 : m.nW ≠ 0
 w : 0 ≤ who ∧ who < m.nodes
 chk : (chk m).2 = 0
 ok : m.Ok
 is : m.Is
abbrev outsNn : List (FuncId × Cx):=[(F.config_Parse,AskC parC),(F.check_Check,AskC checkC),(F.matrix_Rank,AskC rankC),(F.clock_New,AskC ckNewC),(F.mac_New,AskC macNewC),(F.mark_New,AskC mkNewC),(F.global_New,AskC glNewC),(F.object_New,AskC onewB),(F.status_New,AskC snewB),(F.master_New,AskC msNewC),(F.sched_New,AskC scnewB)]
theorem outsNn_ok : OutsOk Tryz.prog outsNn:=.cons (ask_ok par_ok) (.cons (ask_ok check_ok) (.cons (ask_ok rankM_ok) (.cons (ask_ok ckNew_ok) (.cons (ask_ok macNew_ok) (.cons (ask_ok mkNew_ok) (.cons (ask_ok glNew_ok) (.cons (ask_ok onewB_ok) (.cons (ask_ok snewB_ok) (.cons (ask_ok msNew_ok) (.cons (ask_ok scnewB_ok) .nil))))))))))
noncomputable abbrev tabNn : List (FuncId × Eng.Fn):=[(F.node_New,fn.node_New u0)]
theorem tabNn_ok {d : Nat} : TabOk d tabNn tt:=.cons (ok.node_New u0) (TabOk.nil)
theorem nnew_run (l : List UInt8) (who : Int) (m : Mat) (hn : NewOk l who m) : clRunX 7 tt outsNn tabNn 2 F.node_New [] [sv (tx l),iv .i64 who] [] (fun x h=>Trim 0 x h fun x h=>∃ q : NdX × Caps,capsOk m q.2 ∧ x = pR 0 ∧ h = ndH0 (Nd.new m who q.2) q.1):=by
 obtain ⟨hp,hm,h0,h1,h2,⟨hw0,hw1⟩,hchk,hmo,his⟩:=hn
 have hcp : (m.nM ≤ 1000 ∧ m.nG ≤ 1000 ∧ m.nW ≤ 1000) ∧ (false = true → m.nG = 0) ∧ (false = true → m.nW = 0):=by
  have hsz:=his.size
  unfold sizeP at hsz
  exact ⟨⟨by omega,by omega,by omega⟩,(fun c=>by cases c),(fun c=>by cases c)⟩
 refine wB ?_
 refine par_use hp hm h0 h1 h2 (fun c1 c2 c3 g1 g2 g3=>?_)
 have hc : capsOk m ⟨c1,c2,c3,false,false,false⟩:=⟨g1,g2,g3⟩
 have hw : I64 who:=by have:=hmo.nodes; unfold I64 at *; omega
 refine wB ?_
 refine .use (m,(⟨c1,c2,c3,false,false,false⟩ : Caps)) [0,1,2] ⟨hmo,hc⟩ rfl ?_ ⟨⟨.inl rfl,.inl rfl,.inl rfl,.inl rfl,.inl rfl,.inl rfl,.inl rfl,.inl rfl,.inl rfl,.inl rfl,.inl rfl,trivial⟩,trivial⟩ ?_
 ·exact wH
 repeat(refine wA ?_;(conv=>whnf);first|rw [hchk])
 refine wB ?_
 refine .use (m,(⟨c1,c2,c3,false,false,false⟩ : Caps),who) [0,1,2] hmo rfl ?_ ⟨⟨.inl rfl,.inl rfl,.inl rfl,.inl rfl,.inl rfl,.inl rfl,.inl rfl,.inl rfl,.inl rfl,.inl rfl,.inl rfl,trivial⟩,.inl rfl,trivial⟩ ?_
 ·exact wH
 refine wB ?_
 all_goals (try with_reducible refine And.intro ?_ ?_)
 all_goals
  refine wB ?_
  refine AskC.mk1 m.unit trivial rfl (fun _=>rfl) ?_
  refine wB ?_
 all_goals (try with_reducible refine And.intro ?_ ?_)
 all_goals
  refine wB ?_
  refine AskC.mk1 () trivial rfl (fun _=>rfl) ?_
  refine wB ?_
 all_goals (try with_reducible refine And.intro ?_ ?_)
 all_goals
  refine wB ?_
  refine AskC.mk1 () trivial rfl (fun _=>rfl) ?_
  refine wB ?_
 all_goals (try with_reducible refine And.intro ?_ ?_)
 all_goals
  refine wB ?_
  refine AskC.mk1 () trivial rfl (fun _=>rfl) ?_
  refine wB ?_
 all_goals (try with_reducible refine And.intro ?_ ?_)
 all_goals
  refine wB ?_
  refine AskC.nb3 (M:=fun p : CpP × Int=>p.1.1) ((m,c1,c2,c3,false,false),who) hcp (by repeat'(first|exact wZ|refine And.intro ?_ ?_)) ⟨⟨.inl rfl,.inl rfl,.inl rfl,.inl rfl,.inl rfl,.inl rfl,.inl rfl,.inl rfl,.inl rfl,.inl rfl,.inl rfl,trivial⟩,.inl rfl,trivial⟩ (fun fo=>?_)
  refine wB ?_
 all_goals (try with_reducible refine And.intro ?_ ?_)
 all_goals
  refine wB ?_
  refine AskC.nb0 (m.nG : Int) trivial rfl (fun fs=>?_)
  refine wB ?_
 all_goals (try with_reducible refine And.intro ?_ ?_)
 all_goals
  refine wB ?_
  refine AskC.mk1 (Co.rank m who) trivial rfl (fun _=>rfl) ?_
  refine wB ?_
 all_goals (try with_reducible refine And.intro ?_ ?_)
 all_goals
  refine wB ?_
  refine AskC.nb3 (M:=fun p : Mat × Caps × Int=>p.1) (m,(⟨c1,c2,c3,false,false,false⟩ : Caps),who) ⟨hmo,hc,hw,hchk⟩ (by repeat'(first|exact wZ|refine And.intro ?_ ?_)) ⟨⟨.inl rfl,.inl rfl,.inl rfl,.inl rfl,.inl rfl,.inl rfl,.inl rfl,.inl rfl,.inl rfl,.inl rfl,.inl rfl,trivial⟩,.inl rfl,trivial⟩ (fun fc=>?_)
  refine wB ?_
 all_goals (try with_reducible refine And.intro ?_ ?_)
 all_goals
  refine wB ?_
  refine ⟨⟨pR 0,ndH0 (Nd.new m who ⟨c1,c2,c3,false,false,false⟩) ⟨fo,fs,fc,0,0,true,true⟩, ?_,(⟨fo,fs,fc,0,0,true,true⟩,⟨c1,c2,c3,false,false,false⟩),hc,rfl,rfl⟩⟩
 ·refine Le.nm [13,0,1,2,4,5,6,7,8,9,10,11] rfl ?_ ?_
  ·exact wH
  ·exact wH
 ·refine Le.nm [13,0,1,2,4,5,6,7,8,9,10,12] rfl ?_ ?_
  ·exact wH
  ·exact wH
 ·refine Le.nm [13,0,1,2,4,5,6,7,8,9,11,12] rfl ?_ ?_
  ·exact wH
  ·exact wH
 ·refine Le.nm [13,0,1,2,4,5,6,7,8,10,11,12] rfl ?_ ?_
  ·exact wH
  ·exact wH
 ·refine Le.nm [13,0,1,2,4,5,6,7,9,10,11,12] rfl ?_ ?_
  ·exact wH
  ·exact wH
 ·refine Le.nm [13,0,1,2,4,5,6,8,9,10,11,12] rfl ?_ ?_
  ·exact wH
  ·exact wH
 ·refine Le.nm [13,0,1,2,4,5,7,8,9,10,11,12] rfl ?_ ?_
  ·exact wH
  ·exact wH
 ·refine Le.nm [13,0,1,2,4,6,7,8,9,10,11,12] rfl ?_ ?_
  ·exact wH
  ·exact wH
 ·refine Le.nm [13,0,1,2,5,6,7,8,9,10,11,12] rfl ?_ ?_
  ·exact wH
  ·exact wH
abbrev nnewC : Con (List UInt8 × Int × Mat):=FamCon (β:=NdX × Caps) (fun p=>[sv (tx p.1),iv .i64 p.2.1]) (fun _=>[]) (fun p=>NewOk p.1 p.2.1 p.2.2) (fun p q=>capsOk p.2.2 q.2) (fun _ _=>pR 0) fun p q=>ndH0 (Nd.new p.2.2 p.2.1 q.2) q.1
theorem nnew_ok : ConOk Tryz.prog F.node_New nnewC:=con_of_run (clRunX_ok (d:=7) ttOk outsNn_ok tabNn_ok 2) (fn_enters (ok.node_New (D:=7) u0 _ (clRunX_ok (d:=7) ttOk .nil TabOk.nil 1))) fun p hp=>nnew_run p.1 p.2.1 p.2.2 hp
abbrev ndQ (n : Nd) : Heap → Prop:=fun G=>∃ x,XOk n x ∧ G = ndH n x []
section
variable {α : Type} {P : Program} {f : FuncId}
abbrev NbCon (X : α → List R) (nd : α → Nd) (pre : α → Prop) (F : α → R) (nd' : α → Nd) : Con (α × FG):=BxCon X (fun p=>ndQ (nd p)) pre (fun _ (_ : Unit)=>True) (fun p _=>F p) (fun p _=>ndQ (nd' p)) fun _ _=>[]
theorem only0 {l : List Nat} : ∀ (i j : Nat),i ≠ ([] : Heap).length → ([0] : List Nat)[i]? = some j → j ∉ l:=fun i j hi hj=>by
 cases i with
 | zero=>exact absurd rfl hi
 | succ i=>simp at hj
theorem nd_box {X : α → List R} {nd : α → Nd} {pre : α → Prop} {F : α → R} {nd' : α → Nd} (hC : ConOk P f (NdCon X nd pre F nd')) (hX : ∀ p,((X p).all plR && plR (F p)) = true) : ConOk P f (NbCon X nd pre F nd'):=by
 refine box_fam hC (fun p=>by have:=hX p; simp only [Bool.and_eq_true] at this; exact this.1) fun p hp G ⟨x,hx,hG⟩=>?_
 subst hG
 refine ⟨(p,x),⟨hp,hx⟩,rfl,rfl,fun y h' ⟨q,hq,e1,e2⟩=>⟨(),trivial, ?_⟩⟩
 subst e1; subst e2
 have hx:=hX p
 simp only [Bool.and_eq_true] at hx
 exact ⟨ndL,[0],ndH (nd' p) q [],ndH (nd' p) q [],_,_,⟨q,hq,rfl⟩,rfl,rfl,⟨nd_le _ _ _,nilH_self _ _⟩,⟨trivial,trivial⟩,rfl,rfl,only0,plR_leR hx.2⟩
theorem AskC.nb {X : α → List R} {nd : α → Nd} {pre : α → Prop} {F : α → R} {nd' : α → Nd} {h : Heap} {K : R → Heap → Prop} (p : α) (fg : FG) (n : Nat) (hp : pre p) (hn : h[n]? = some (bx (ndQ (nd p)) fg)) (hX : ((X p).all plR && (X p).all isT && plR (F p)) = true)
    (hk : ∀ fg', K (F p) (h.set n (bx (ndQ (nd' p)) fg'))) : AskC (NbCon X nd pre F nd') (.t (.one (.ptr n 0)) :: X p) h K := AskC.bx0 (Q := fun p => ndQ (nd p)) (Q' := fun p => ndQ (nd' p)) p fg n hp hn hX hk
end
abbrev ntickB:=NbCon (fun p : Nd × Int=>[iv .i64 p.2]) (fun p=>p.1) (fun p=>p.1.Ok ∧ (0 ≤ p.1.wait ∧ p.1.wait ≤ 1000000000000000000)) (fun _=>uR) fun p=>p.1.tick p.2
theorem ntickB_ok : ConOk Tryz.prog F.node_Node_Tick ntickB:=nd_box ntick_ok fun _=>rfl
abbrev ndriveB:=NbCon (fun _ : Nd=>[]) (fun n=>n) (fun n=>DrvOk n.mac) (fun n=>iv .u8 (cI n.mac.drive)) fun n=>n
theorem ndriveB_ok : ConOk Tryz.prog F.node_Node_Drive ndriveB:=nd_box ndrive_ok fun _=>rfl
abbrev nsendB:=NbCon (fun p : Nd × Int × ByteArray=>[iv .i64 p.2.1,sv p.2.2]) (fun p=>p.1) (fun _=>True) (fun p=>iv .i64 (p.1.obj.sendE p.1.m p.2.1 p.2.2)) fun p=>p.1.send p.2.1 p.2.2
theorem nsendB_ok : ConOk Tryz.prog F.node_Node_Send nsendB:=nd_box nsend_ok fun _=>rfl
abbrev nstatB:=NbCon (fun _ : Nd=>[]) (fun n=>n) (fun n=>n.tab.Ok) (fun n=>stR n) fun n=>n
theorem nstatB_ok : ConOk Tryz.prog F.node_Node_Status nstatB:=nd_box nstat_ok fun _=>rfl
abbrev nsampB:=NbCon (fun p : Nd × Int=>[iv .u8 p.2]) (fun p=>p.1) (fun p=>SmpIn p.1 p.2) (fun _=>uR) fun p=>p.1.sample (!decide (p.2 = 48))
theorem nsampB_ok : ConOk Tryz.prog F.node_Node_Sample nsampB:=by
 refine box_fam (α:=Nd × Int) (γ:=Unit) (X:=fun p=>[iv .u8 p.2]) (Q:=fun p=>ndQ p.1) (pre:=fun p=>SmpIn p.1 p.2) (ok:=fun _ _=>True) (F:=fun _ _=>uR) (Q':=fun p _=>ndQ (p.1.sample (!decide (p.2 = 48)))) (B:=fun _ _=>[]) nsamp_ok (fun p=>rfl) fun p hp G ⟨x,hx,hG⟩=>?_
 subst hG
 refine ⟨(p,x),⟨hp,hx⟩,rfl,rfl,fun y h' ⟨⟨q,w⟩,hq,e1,e2⟩=>⟨(),trivial, ?_⟩⟩
 dsimp only at hq e2
 subst e1
 generalize p.1.sample (!decide (p.2 = 48)) = n' at *
 rcases w with _ | _ | w
 ·subst e2
  exact ⟨ndL,[0],ndH n' q [],ndH n' q [],_,_,⟨q,hq,rfl⟩,rfl,rfl,⟨nd_le _ _ _,nilH_self _ _⟩,⟨trivial,trivial⟩,rfl,rfl,only0,rfl⟩
 ·subst e2
  refine ⟨[0,1,2,3,4,5,6,7,8,9,10,11,14,13],[0],ndH n' q [],ndH n' q [],_,_,⟨q,hq,rfl⟩,rfl,rfl,⟨?_,nilH_self _ _⟩,⟨trivial,trivial⟩,rfl,rfl,only0,rfl⟩
  exact wH
 ·subst e2
  refine ⟨[0,1,2,3,4,5,6,7,8,9,10,11,12,14],[0],ndH n' q [],ndH n' q [],_,_,⟨q,hq,rfl⟩,rfl,rfl,⟨?_,nilH_self _ _⟩,⟨trivial,trivial⟩,rfl,rfl,only0,rfl⟩
  exact wH
abbrev nnewB:=BxNew (γ:=Caps) (fun p : List UInt8 × Int × Mat=>[sv (tx p.1),iv .i64 p.2.1]) (fun _=>[]) (fun p=>NewOk p.1 p.2.1 p.2.2) (fun p c=>capsOk p.2.2 c) (fun _ _=>pR 0) (fun p c=>ndQ (Nd.new p.2.2 p.2.1 c)) (fun _ _=>[]) fun _ _=>[]
theorem nnewB_ok : ConOk Tryz.prog F.node_New nnewB:=by
 refine box_new nnew_ok fun p hp=>⟨p,hp,rfl,rfl,fun x h' ⟨⟨q,c⟩,hq,e1,e2⟩=>⟨c,hq, ?_, ?_,rfl⟩⟩
 ·subst e1
  dsimp only at e2
  have hz : (Nd.new p.2.2 p.2.1 c).del = [] ∧ (Nd.new p.2.2 p.2.1 c).conf = []:=⟨rfl,rfl⟩
  subst e2
  let x0 : NdX:=⟨q.fo,q.fs,q.fc,0,0,true,true⟩
  refine ⟨[0,1,2,3,4,5,6,7,8,9,10,11,0,0],[0],ndH1 (Nd.new p.2.2 p.2.1 c) q ++ [.ob (.ro 2 0 (dvF [])),.ob (.ro 1 0 (intF []))],ndH (Nd.new p.2.2 p.2.1 c) x0 [],_,_,⟨x0,⟨Nat.le_refl _,Nat.le_refl _⟩,rfl⟩,rfl,rfl,⟨?_, ?_⟩,⟨trivial,trivial⟩,rfl,rfl,only0,rfl⟩
  ·exact wH
  ·refine ⟨?_,nilE_self _ _,nilE_self _ _,nilE_self _ _,nilE_self _ _,nilE_self _ _,nilE_self _ _,nilE_self _ _,nilE_self _ _,nilE_self _ _,nilE_self _ _,nilE_self _ _,trivial,trivial,trivial⟩
   repeat' (first | exact trivial | exact .inl rfl | exact .inr ⟨rfl,rfl⟩ | exact ⟨rfl,fun _ _=>rfl⟩ | refine And.intro ?_ ?_)
 ·subst e2
  intro j ob0 hj hs
  rcases j with _ | _ | _ | _ | _ | _ | _ | _ | _ | _ | _ | _ | j
  all_goals cases hj
  all_goals first | exact hs.elim | exact ⟨_,_,_,rfl⟩
end Go.Proofs.YtlckbdhpehkeoaaGreat.Co
namespace Go.Proofs.YtlckbdhpehkeoaaGreat.Co
open Go Go.Eng Go.Proofs Go.Pu
set_option maxRecDepth 100000
def qclk (i : Nat) : Clk:=⟨64,16384,(i % 16) * 1024,(i / 16) % 65536⟩
theorem qclk_tick (i : Nat) : (qclk i).tick 4 = qclk (i + 1):=by
 have t4 : tkN 4 = 1024:=rfl
 unfold Clk.tick
 rw [t4]
 show (⟨64,16384,((i % 16) * 1024 + 1024) % 16384,((i / 16) % 65536 + ((i % 16) * 1024 + 1024) / 16384) % 65536⟩ : Clk) = ⟨64,16384,((i + 1) % 16) * 1024,((i + 1) / 16) % 65536⟩
 have e1 : ((i % 16) * 1024 + 1024) % 16384 = ((i + 1) % 16) * 1024:=by omega
 have e2 : ((i / 16) % 65536 + ((i % 16) * 1024 + 1024) / 16384) % 65536 = ((i + 1) / 16) % 65536:=by omega
 rw [e1,e2]
theorem qclk_since {i : Nat} (h : i < 100000) : since (qclk i).time (qclk (i + 1)).time = (i + 1) / 16 - i / 16:=by
 show ((i + 1) / 16 % 65536 + 65536 - i / 16 % 65536) % 65536 = _
 omega
def qmac (i : Nat) : Mac:={ mac0 with state:=if i < 3 then 6 else 0,left:=3 - i }
theorem qmac_sample (i : Nat) : (qmac i).sample true = (qmac (i + 1),[]):=by
 rcases i with _ | _ | _ | i
 ·rfl
 ·rfl
 ·rfl
 ·have e : qmac (i + 1 + 1 + 1) = { mac0 with state:=0,left:=0 }:=by
   unfold qmac; rw [if_neg (by omega),show 3 - (i + 1 + 1 + 1) = 0 by omega]
  have e2 : qmac (i + 1 + 1 + 1 + 1) = { mac0 with state:=0,left:=0 }:=by
   unfold qmac; rw [if_neg (by omega),show 3 - (i + 1 + 1 + 1 + 1) = 0 by omega]
  rw [e,e2]; rfl
theorem qmac_drive (i : Nat) : (qmac i).drive = true:=by
 rcases i with _ | _ | _ | i
 ·rfl
 ·rfl
 ·rfl
 ·have e : qmac (i + 1 + 1 + 1) = { mac0 with state:=0,left:=0 }:=by
   unfold qmac; rw [if_neg (by omega),show 3 - (i + 1 + 1 + 1) = 0 by omega]
  rw [e]; rfl
theorem qmac_ns (i : Nat) : (qmac i).state ≠ 1:=by
 unfold qmac
 show (if i < 3 then 6 else 0) ≠ 1
 split <;> decide
theorem qmac_drv (i : Nat) : DrvOk (qmac i):=⟨(fun h=>by cases h),(by show (0 : Nat) ≤ 1000; decide)⟩
def Nd.q (n : Nd) (i : Nat) : Nd:={ n with clk:=qclk i,mac:=qmac i,wait:=(i / 16 : Nat) }
def Nd.mute (n : Nd) (i : Nat) : Prop:=((i / 16 : Nat) : Int) < n.m.init + (n.rank + 1) * Pu.step n.m ∨ n.mst.stands = false
theorem q_tick {n : Nd} {i : Nat} (h0 : n.mrk.bn = 0) (hi : i < 100000) (hm : n.mute (i + 1)) : (n.q i).tick 4 = { n.q (i + 1) with mac:=qmac i }:=by
 have hs:=qclk_since hi
 rw [tick_eq]
 have e1 : ((n.q i).ticked 4).clk = qclk (i + 1):=qclk_tick i
 have e2 : ((n.q i).ticked 4).mid (n.q i).clk.time = ((n.q i).ticked 4).waits (since (qclk i).time (qclk (i + 1)).time : Nat) (qclk (i + 1)).time:=by
  unfold Nd.mid
  rw [if_neg (show ¬ 0 < ((n.q i).ticked 4).mrk.bn by show ¬ 0 < n.mrk.bn; omega),e1]; rfl
 have e3 : ((n.q i).ticked 4).waits (since (qclk i).time (qclk (i + 1)).time : Nat) (qclk (i + 1)).time = { n.q (i + 1) with mac:=qmac i }:=by
  unfold Nd.waits
  rw [hs]
  have ew : ((n.q i).ticked 4).wait + (((i + 1) / 16 - i / 16 : Nat) : Int) = ((i + 1) / 16 : Nat):=by
   show ((i / 16 : Nat) : Int) + _ = _
   omega
  rw [ew,if_pos (show _ ∨ _ ∨ _ from by rcases hm with hm | hm; exact .inl hm; exact .inr (.inl hm))]
  show ({ n with clk:=(qclk i).tick 4,mac:=qmac i,wait:=((i + 1) / 16 : Nat) } : Nd) = _
  rw [qclk_tick]; rfl
 rw [e2,e3]
 unfold Nd.ends
 rw [if_neg (show ¬ (0 < ({ n.q (i + 1) with mac:=qmac i } : Nd).mrk.bn ∧ _) from fun c=>by have : 0 < n.mrk.bn:=c.1; omega)]
theorem q_sample (n : Nd) (i : Nat) : ({ n.q (i + 1) with mac:=qmac i } : Nd).sample true = n.q (i + 1):=by
 rw [sample_eq]
 show eventsL ((qmac i).sample true).2 (({ n.q (i + 1) with mac:=qmac i } : Nd).maced ((qmac i).sample true).1) = _
 rw [qmac_sample]; rfl
theorem evs_nil : EvsOk []:=⟨by decide,(fun e h=>by cases h),fun i h=>absurd h (Nat.not_lt_zero _)⟩
theorem ndnew_ok {l : List UInt8} {who : Int} {m : Mat} (h : NewOk l who m) (c : Caps) (ht : ∀ i,i < (rowL0 m who).length → 0 ≤ (planF m who i).msg ∧ (planF m who i).msg < 12) (hr : -1 ≤ Co.rank m who ∧ Co.rank m who ≤ 3) : (Nd.new m who c).Ok:=by
 have hsz:=h.is.size
 unfold sizeP at hsz
 have hl:=rowL0_len m who
 refine ⟨h.ok,h.is,hr,Clk.new_ok _,mrk0_ok,glb0_ok,⟨?_,Nat.zero_le _, ?_⟩,⟨?_,fun q _=>?_⟩,Nat.zero_le _,⟨?_, ?_⟩,ht⟩
 ·show I64 (max (Co.rank m who) (-1)); unfold I64; omega
 ·show I64 (-1); unfold I64; omega
 ·show (min (max (m.nG : Int) 0) 12).toNat ≤ 12; omega
 ·show 0 ≤ (0 : Int) ∧ (0 : Int) ≤ 7; decide
 ·show (rowL0 m who).length ≤ 100; omega
 ·show I64 0; unfold I64; omega
end Go.Proofs.YtlckbdhpehkeoaaGreat.Co
namespace Go.Proofs.YtlckbdhpehkeoaaGreat.Co
open Go Go.Eng Go.Proofs Go.Proofs.YtlckbdhpehkeoaaGreat.Tb Go.Pu
set_option maxRecDepth 100000
set_option maxHeartbeats 8000000
abbrev niC : C:=.v (.slice none 0 0)
abbrev npC : C:=.v (.pointer none)
abbrev ndZ : HE:=.ob (.own [.c (iC 0),.c (iC 0),.c (iC 0),.c (iC 0),.c (iC 0),.c (iC 0),.c (iC 0),.c (uC 0),.c niC,.c niC,.c niC,.c (bC false),.c (iC 0),.c npC,.c npC,.c npC,.c npC,.c npC,.c npC,.c npC,.c npC,.c (iC 0),.c (bC false),.arr 12 (fun _=>bC false),.c niC,.c niC])
theorem nnewZ_run (l : List UInt8) (who : Int) (h : pOk l = false) : clRunX 7 tt outsNn tabNn 2 F.node_New [] [sv (tx l),iv .i64 who] [] (fun x h=>Trim 0 x h fun x h=>x = pR 0 ∧ h = [ndZ]):=by
 refine wB ?_
 refine .fam l [] (fun q=>pNo) (fun q=>[]) trivial rfl trivial ⟨.inl rfl,trivial⟩ (fun q=>?_) (fun q=>?_) (fun q hq=>?_)
 ·show renR _ (parX l (pN l) (pG l) (pW l) q) = _
  rw [show parX l (pN l) (pG l) (pW l) q = pNo from if_neg (by rw [h]; decide)]; rfl
 ·show mrg _ [] [] [] (parHp l (pN l) (pG l) (pW l) q) = _
  rw [show parHp l (pN l) (pG l) (pW l) q = [] from if_neg (by rw [h]; decide)]; rfl
 refine wB ?_
 refine Trim.det (Le.nm [1] rfl wH wH)
abbrev nnewZ : Con (List UInt8 × Int):=DetCon (fun p=>[sv (tx p.1),iv .i64 p.2]) (fun _=>[]) (fun p=>pOk p.1 = false) (fun _=>pR 0) fun _=>[ndZ]
theorem nnewZ_ok : ConOk Tryz.prog F.node_New nnewZ:=con_of_run (clRunX_ok (d:=7) ttOk outsNn_ok tabNn_ok 2) (fn_enters (ok.node_New (D:=7) u0 _ (clRunX_ok (d:=7) ttOk .nil TabOk.nil 1))) fun p hp=>nnewZ_run p.1 p.2 hp
noncomputable abbrev tabZs : List (FuncId × Eng.Fn):=[(F.node_Node_Status,fn.node_Node_Status u0),(F.level_Of,fn.level_Of u0)]
theorem tabZs_ok {d : Nat} : TabOk d tabZs tt:=.cons (ok.node_Node_Status u0) (.cons (ok.level_Of u0) (TabOk.nil))
abbrev stZ : R:=.t (.agg [.c (iC 0),.c (iC 3),.c (bC false),.c (iC 0),.c (iC 0),.c (iC 0),.c (bC false)])
theorem nstatZ_run (u : Unit) : clRunX 6 tt outs0 tabZs 3 F.node_Node_Status [] [pR 0] [ndZ] (fun x h=>Trim 1 x h fun x h=>x = stZ ∧ h = [ndZ]):=by
 refine wB ?_
 refine Trim.det (Le.id rfl wH wH)
abbrev nstatZ : Con Unit:=DetCon (fun _=>[pR 0]) (fun _=>[ndZ]) (fun _=>True) (fun _=>stZ) fun _=>[ndZ]
theorem nstatZ_ok : ConOk Tryz.prog F.node_Node_Status nstatZ:=con_of_run (clRunX_ok (d:=6) ttOk outs0_ok tabZs_ok 3) (fn_enters (ok.node_Node_Status (D:=6) u0 _ (clRunX_ok (d:=6) ttOk .nil TabOk.nil 1))) fun p _=>nstatZ_run p
theorem nsendZ_run (msg : Int) (s : ByteArray) : clRunX 5 tt outsNd2 tabNd2 2 F.node_Node_Send [] [pR 0,iv .i64 msg,sv s] [ndZ] (fun x h=>Trim 1 x h fun x h=>x = iv .i64 130 ∧ h = [ndZ]):=by
 refine wB ?_
 refine Trim.det (Le.id rfl wH wH)
abbrev nsendZ : Con (Int × ByteArray):=DetCon (fun p=>[pR 0,iv .i64 p.1,sv p.2]) (fun _=>[ndZ]) (fun _=>True) (fun _=>iv .i64 130) fun _=>[ndZ]
theorem nsendZ_ok : ConOk Tryz.prog F.node_Node_Send nsendZ:=con_of_run (clRunX_ok (d:=5) ttOk outsNd2_ok tabNd2_ok 2) (fn_enters (ok.node_Node_Send (D:=5) u0 _ (clRunX_ok (d:=5) ttOk .nil TabOk.nil 1))) fun p _=>nsendZ_run p.1 p.2
theorem ndriveZ_run (u : Unit) : clRunX 5 tt outsNd1 tabNd1 2 F.node_Node_Drive [] [pR 0] [ndZ] (fun x h=>Trim 1 x h fun x h=>x = iv .u8 49 ∧ h = [ndZ]):=by
 refine wB ?_
 refine Trim.det (Le.id rfl wH wH)
abbrev ndriveZ : Con Unit:=DetCon (fun _=>[pR 0]) (fun _=>[ndZ]) (fun _=>True) (fun _=>iv .u8 49) fun _=>[ndZ]
theorem ndriveZ_ok : ConOk Tryz.prog F.node_Node_Drive ndriveZ:=con_of_run (clRunX_ok (d:=5) ttOk outsNd1_ok tabNd1_ok 2) (fn_enters (ok.node_Node_Drive (D:=5) u0 _ (clRunX_ok (d:=5) ttOk .nil TabOk.nil 1))) fun p _=>ndriveZ_run p
noncomputable abbrev tabZm : List (FuncId × Eng.Fn):=[(F.node_Node_Mac,fn.node_Node_Mac u0)]
theorem tabZm_ok {d : Nat} : TabOk d tabZm tt:=.cons (ok.node_Node_Mac u0) (TabOk.nil)
abbrev nilP : R:=.t (.one (.v (.pointer none)))
theorem nmacZ_run (u : Unit) : clRunX 5 tt outs0 tabZm 2 F.node_Node_Mac [] [pR 0] [ndZ] (fun x h=>Trim 1 x h fun x h=>x = nilP ∧ h = [ndZ]):=by
 refine wB ?_
 refine Trim.det (Le.id rfl wH wH)
abbrev nmacZ : Con Unit:=DetCon (fun _=>[pR 0]) (fun _=>[ndZ]) (fun _=>True) (fun _=>nilP) fun _=>[ndZ]
theorem nmacZ_ok : ConOk Tryz.prog F.node_Node_Mac nmacZ:=con_of_run (clRunX_ok (d:=5) ttOk outs0_ok tabZm_ok 2) (fn_enters (ok.node_Node_Mac (D:=5) u0 _ (clRunX_ok (d:=5) ttOk .nil TabOk.nil 1))) fun p _=>nmacZ_run p
noncomputable abbrev tabnconf : List (FuncId × Eng.Fn):=[(F.node_Node_Confirmed,fn.node_Node_Confirmed u0)]
theorem tabnconf_ok {d : Nat} : TabOk d tabnconf tt:=.cons (ok.node_Node_Confirmed u0) (TabOk.nil)
abbrev nconfR (n : Nat) (b cap : Nat) (z : Bool) : R:=.t (.one (.slc b 0 1 0 n cap z))
theorem nconf_run (n : Nd) (x : NdX) (hr : RowsOk n) (hx : XOk n x) : clRunX 5 tt outs0 tabnconf 2 F.node_Node_Confirmed [] [pR 0] (ndH n x []) (fun x h=>Trim 14 x h fun x h=>∃ q : NdX × Nat,XOk n q.1 ∧ x = nconfR n.conf.length 14 q.2 (decide (n.conf.length = 0)) ∧ h = ndH n q.1 [confE n.conf q.2]):=by
 have h2:=hr.2
 refine wB ?_
 refine cT (decide_eq_true (by show n.conf.length * 8 ≤ 1099511627776; omega)) ?_
 intro cap hcap
 refine wB ?_
 refine ⟨⟨nconfR n.conf.length 14 cap (decide (n.conf.length = 0)),ndH n x [confE n.conf cap], ?_,(x,cap),hx,rfl,rfl⟩⟩
 refine Le.nm [0,1,2,3,4,5,6,7,8,9,10,11,12,13,14] rfl ?_ ?_
 ·refine ⟨?_, ?_, ?_, ?_, ?_, ?_, ?_, ?_, ?_, ?_, ?_, ?_, ?_, ?_,⟨rfl,rfl,rfl,fun q hq=>?_⟩,trivial⟩
  rotate_right
  ·show intF n.conf (0 + q) = intF n.conf q
   rw [Nat.zero_add]
  all_goals (repeat'(first|exact wZ|refine And.intro ?_ ?_))
 ·exact wH
abbrev nconfC : Con (Nd × NdX):=FamCon (β:=NdX × Nat) (fun _=>[pR 0]) (fun p=>ndH p.1 p.2 []) (fun p=>RowsOk p.1 ∧ XOk p.1 p.2) (fun p q=>XOk p.1 q.1) (fun p q=>nconfR p.1.conf.length 14 q.2 (decide (p.1.conf.length = 0))) fun p q=>ndH p.1 q.1 [confE p.1.conf q.2]
theorem nconf_ok : ConOk Tryz.prog F.node_Node_Confirmed nconfC:=con_of_run (clRunX_ok (d:=5) ttOk outs0_ok tabnconf_ok 2) (fn_enters (ok.node_Node_Confirmed (D:=5) u0 _ (clRunX_ok (d:=5) ttOk .nil TabOk.nil 1))) fun p hp=>nconf_run p.1 p.2 hp.1 hp.2
abbrev nconfB:=BxCon (α:=Nd) (γ:=Nat) (fun _=>[]) (fun n=>ndQ n) (fun n=>RowsOk n) (fun _ _=>True) (fun n q=>nconfR n.conf.length 1 q (decide (n.conf.length = 0))) (fun n _=>ndQ n) fun n q=>[confE n.conf q]
theorem nconfB_ok : ConOk Tryz.prog F.node_Node_Confirmed nconfB:=by
 refine box_fam (α:=Nd) (γ:=Nat) (X:=fun _=>[]) (Q:=fun n=>ndQ n) (pre:=fun n=>RowsOk n) (ok:=fun _ _=>True) (F:=fun n q=>nconfR n.conf.length 1 q (decide (n.conf.length = 0))) (Q':=fun n _=>ndQ n) (B:=fun n q=>[confE n.conf q]) nconf_ok (fun _=>rfl) fun n hn G ⟨x,hx,hG⟩=>?_
 subst hG
 refine ⟨(n,x),⟨hn,hx⟩,rfl,rfl,fun y h' ⟨⟨q,cap⟩,hq,e1,e2⟩=>⟨cap,trivial, ?_⟩⟩
 subst e1; subst e2
 refine ⟨ndL,[0,14],ndH n q [],ndH n q [],_,_,⟨q,hq,rfl⟩,rfl,rfl,⟨nd_le _ _ _,nilH_self _ _⟩, ?_,rfl,rfl, ?_,rfl⟩
 ·exact ⟨trivial,⟨rfl,rfl,rfl,fun _ _=>rfl⟩,trivial⟩
 ·intro i j hi hj
  rcases i with _ | _ | i
  ·exact absurd rfl hi
  ·cases hj; decide
  ·cases hj
end Go.Proofs.YtlckbdhpehkeoaaGreat.Co
namespace Go.Proofs.YtlckbdhpehkeoaaGreat.La
open Go Go.Eng Go.Proofs Go.Proofs.YtlckbdhpehkeoaaGreat.Tb Go.Proofs.YtlckbdhpehkeoaaGreat.Co Go.Pu
set_option maxRecDepth 100000
set_option maxHeartbeats 8000000
def m24 : Mat:=⟨2,3,2,120,2,64,20,16,2,fun i=>[(0 : Int),1].getD i 0,2,fun i=>[(⟨99,2,false⟩ : Msg),⟨50,1,true⟩].getD i ⟨0,0,false⟩,2,fun i=>[(⟨1,20,40,0,1,0⟩ : Win),⟨2,50,80,0,1,0⟩].getD i ⟨0,0,0,0,0,0⟩⟩
noncomputable abbrev tabLe24 : List (FuncId × Eng.Fn):=[(F.law24_least,fn.law24_least u0)]
theorem tabLe24_ok {d : Nat} : TabOk d tabLe24 tt:=.cons (ok.law24_least u0) (TabOk.nil)
theorem least24_run (u : Unit) : clRunX 5 tt outs0 tabLe24 2 F.law24_least [] [] [] (fun x h=>Trim 0 x h fun x h=>x = .t (matC m24 ⟨2,2,2,false,false,false⟩) ∧ h = [rwMM m24 2,rwGG m24 2,rwWW m24 2]):=by
 refine wB ?_
 refine Trim.det ?_
 refine Le.nm [1,2,3] rfl ?_ ?_
 ·refine ⟨⟨rfl,rfl,rfl,fun q hq=>?_⟩,⟨rfl,rfl,rfl,fun q hq=>?_⟩,⟨rfl,rfl,rfl,fun q hq=>?_⟩,trivial⟩
  all_goals (rcases q with _ | _ | q; rfl; rfl; exact absurd hq (by show ¬ q + 2 < 2; omega))
 ·exact wH
abbrev least24C : Con Unit:=DetCon (fun _=>[]) (fun _=>[]) (fun _=>True) (fun _=>.t (matC m24 ⟨2,2,2,false,false,false⟩)) fun _=>[rwMM m24 2,rwGG m24 2,rwWW m24 2]
theorem least24_ok : ConOk Tryz.prog F.law24_least least24C:=con_of_run (clRunX_ok (d:=5) ttOk outs0_ok tabLe24_ok 2) (fn_enters (ok.law24_least (D:=5) u0 _ (clRunX_ok (d:=5) ttOk .nil TabOk.nil 1))) fun p _=>least24_run p
def l24 : List UInt8:=(upW m24 2).map fun v=>UInt8.ofNat v.toNat
def k24 : Mat:=pm l24
theorem i24 : isM m24 = true:=by decide +kernel
theorem p24 : prM m24 = tx l24:=by
 unfold prM
 rw [i24]; rfl
theorem pok24 : pOk l24 = true:=by decide +kernel
theorem k24_0 : k24.nM = 2 ∧ k24.nG = 2 ∧ k24.nW = 2:=by decide +kernel
theorem k24_1 : k24.level = 2 ∧ k24.nodes = 3 ∧ k24.cycles = 2 ∧ k24.length = 120 ∧ k24.enable = 2 ∧ k24.unit = 64 ∧ k24.init = 20 ∧ k24.ref = 16:=by decide +kernel
theorem k24_chk : (chk k24).2 = 0:=by decide +kernel
theorem k24_is : k24.Is:=isM_iff.1 (by decide +kernel)
end Go.Proofs.YtlckbdhpehkeoaaGreat.La
namespace Go.Proofs.YtlckbdhpehkeoaaGreat.La
open Go Go.Eng Go.Proofs Go.Proofs.YtlckbdhpehkeoaaGreat.Co Go.Pu
set_option maxRecDepth 100000
theorem k24_ok : k24.Ok := by
  obtain ⟨a1, a2, a3, a4, a5, a6, a7, a8⟩ := k24_1
  obtain ⟨b1, b2, b3⟩ := k24_0
  have hG : ∀ i, i < 2 → U32 (k24.G i).id ∧ I64 (k24.G i).ow := by
    intro i hi
    have h := k24_is.G i (by omega)
    have hu : 0 ≤ (k24.G i).id := by rcases i with _ | _ | i; · decide +kernel
                                     · decide +kernel
                                     · omega
    unfold msgP at h
    unfold U32 I64
    omega
  have hW := k24_is.W
  have hM := k24_is.M
  refine ⟨?_, ?_, ?_, ?_, ?_, ?_, ?_, ?_, by omega, by omega, by omega, fun i hi => ?_, fun i hi => hG i (by omega), fun i hi => ?_⟩
  · rw [a1]; unfold I64; omega
  · rw [a2]; unfold I64; omega
  · rw [a3]; unfold I64; omega
  · rw [a4]; unfold I64; omega
  · rw [a5]; unfold I64; omega
  · rw [a6]; unfold I64; omega
  · rw [a7]; unfold I64; omega
  · rw [a8]; unfold U32; omega
  · have h := hM i hi
    unfold whoP at h
    unfold I64; omega
  · have h := hW i hi
    unfold winP power at h
    have e := a4
    have e3 := a3
    unfold I64
    have hc : (1 : Int) ≤ (k24.W i).rep ∧ (k24.W i).rep ≤ 64 := by omega
    omega
theorem step24 : Pu.step k24 = 12:=by decide +kernel
theorem rk0 : Co.rank k24 0 = 0:=by decide +kernel
theorem rk1 : Co.rank k24 1 = 1:=by decide +kernel
theorem rk2 : Co.rank k24 2 = -1:=by decide +kernel
theorem new24 {who : Int} (h : 0 ≤ who ∧ who < 3) : NewOk l24 who k24:=by
 obtain ⟨b1,b2,b3⟩:=k24_0
 obtain ⟨a1,a2,a3,a4,a5,a6,a7,a8⟩:=k24_1
 exact ⟨pok24,rfl,by omega,by omega,by omega,by rw [a2]; exact h,k24_chk,k24_ok,k24_is⟩
theorem trg24 {who : Int} (h : 0 ≤ who ∧ who < 3) : ∀ i,i < (rowL0 k24 who).length → 0 ≤ (planF k24 who i).msg ∧ (planF k24 who i).msg < 12:=by
 have h0 : (List.range (rowL0 k24 0).length).all (fun i=>decide (0 ≤ (planF k24 0 i).msg ∧ (planF k24 0 i).msg < 12)) = true:=by decide +kernel
 have h1 : (List.range (rowL0 k24 1).length).all (fun i=>decide (0 ≤ (planF k24 1 i).msg ∧ (planF k24 1 i).msg < 12)) = true:=by decide +kernel
 have h2 : (List.range (rowL0 k24 2).length).all (fun i=>decide (0 ≤ (planF k24 2 i).msg ∧ (planF k24 2 i).msg < 12)) = true:=by decide +kernel
 rw [List.all_eq_true] at h0 h1 h2
 intro i hi
 have hc : who = 0 ∨ who = 1 ∨ who = 2:=by omega
 rcases hc with rfl | rfl | rfl
 ·exact of_decide_eq_true (h0 i (List.mem_range.2 hi))
 ·exact of_decide_eq_true (h1 i (List.mem_range.2 hi))
 ·exact of_decide_eq_true (h2 i (List.mem_range.2 hi))
def n24 (who : Int) (c : Caps) : Nd:=Nd.new k24 who c
theorem n24_ok {who : Int} (h : 0 ≤ who ∧ who < 3) (c : Caps) : (n24 who c).Ok:=by
 refine ndnew_ok (new24 h) c (trg24 h) ?_
 have hc : who = 0 ∨ who = 1 ∨ who = 2:=by omega
 rcases hc with rfl | rfl | rfl
 ·rw [rk0]; omega
 ·rw [rk1]; omega
 ·rw [rk2]; omega
theorem n24_q (who : Int) (c : Caps) : (n24 who c).q 0 = n24 who c:=by
 have e : Clk.new k24.unit = qclk 0:=by rw [k24_1.2.2.2.2.2.1]; rfl
 show (⟨_,_,_,qclk 0,qmac 0,_,_,_,_,_,_,_,_,_,_,_⟩ : Nd) = ⟨_,_,_,Clk.new k24.unit,mac0,_,_,_,_,_,_,_,_,_,_,_⟩
 rw [e]; rfl
end Go.Proofs.YtlckbdhpehkeoaaGreat.La
namespace Go.Proofs.YtlckbdhpehkeoaaGreat.La
open Go Go.Eng Go.Proofs Go.Proofs.YtlckbdhpehkeoaaGreat.Tb Go.Proofs.YtlckbdhpehkeoaaGreat.Co Go.Pu
set_option maxRecDepth 100000
set_option maxHeartbeats 8000000
theorem Nd.Ok.tick {n : Nd} (h : n.Ok) (k : Int) : (n.tick k).Ok:=by
 rw [tick_eq]
 have hA : (n.ticked k).Ok:=⟨h.mo,h.is,h.rank,Clk.tick_ok h.clk k,h.mrk,h.glb,h.mst,h.tab,h.obj,h.sch,h.trg⟩
 have hM : ((n.ticked k).mid n.clk.time).Ok:=by
  unfold Nd.mid
  split
  ·exact Nd.Ok.doesL _ _ (hA.now _)
  ·exact hA.waits _ _
 unfold Nd.ends
 split
 ·exact hM.closes
 ·exact hM
def f24 (c : Caps) : Nd:=((n24 0 c).q 511).tick 4
theorem f24_mac (c : Caps) : (f24 c).mac = (qmac 511).ask (bldF k24 0 0 32 true):=by kernel_rfl
theorem f24_drive (c : Caps) : (f24 c).mac.drive = false:=by rw [f24_mac]; decide +kernel
theorem f24_s (c : Caps) : ((f24 c).mac.sample true) = ((f24 c).mac,[]):=by
 rw [f24_mac]
 have h : ((qmac 511).ask (bldF k24 0 0 32 true)).state = 0:=by decide +kernel
 unfold Mac.sample
 rw [if_pos h,if_pos rfl]
theorem f24_rest (c : Caps) : (f24 c).mst.state = 0 ∧ (f24 c).m = k24 ∧ (f24 c).obj = .new 0 ∧ (f24 c).wait = 0:=⟨by kernel_rfl,by kernel_rfl,by kernel_rfl,by kernel_rfl⟩
theorem m24_ok : m24.Ok:=by
 refine ⟨?_, ?_, ?_, ?_, ?_, ?_, ?_, ?_,by decide,by decide,by decide,fun i hi=>?_,fun i hi=>?_,fun i hi=>?_⟩
 iterate 7
  ·show I64 _; unfold I64 m24; decide
 ·show U32 _; unfold U32 m24; decide
 ·have hi : i < 2:=hi
  rcases i with _ | _ | i
  ·unfold I64; decide
  ·unfold I64; decide
  ·omega
 ·have hi : i < 2:=hi
  rcases i with _ | _ | i
  ·unfold I64 U32; decide
  ·unfold I64 U32; decide
  ·omega
 ·have hi : i < 2:=hi
  rcases i with _ | _ | i
  ·unfold I64; decide
  ·unfold I64; decide
  ·omega
end Go.Proofs.YtlckbdhpehkeoaaGreat.La
namespace Go.Proofs.YtlckbdhpehkeoaaGreat.Co
open Go Go.Eng Go.Proofs Go.Pu
set_option maxRecDepth 100000
section
variable {n : Nd}
theorem Nd.Ok.tick (h : n.Ok) (k : Int) : (n.tick k).Ok:=by
 rw [tick_eq]
 have hA : (n.ticked k).Ok:=⟨h.mo,h.is,h.rank,Clk.tick_ok h.clk k,h.mrk,h.glb,h.mst,h.tab,h.obj,h.sch,h.trg⟩
 have hM : ((n.ticked k).mid n.clk.time).Ok:=by
  unfold Nd.mid
  split
  ·exact Nd.Ok.doesL _ _ (hA.now _)
  ·exact hA.waits _ _
 unfold Nd.ends
 split
 ·exact hM.closes
 ·exact hM
structure Nd.In (n : Nd) (k : Nat) : Prop where
 rows : RowsOk n
 mac : n.mac.Inv
 wait : 0 ≤ n.wait ∧ n.wait ≤ 65536 * (k : Int)
variable {k : Nat}
theorem Nd.In.asks (h : n.In k) (t : Nat) : (n.asks t).In k:=by
 unfold Nd.asks
 split
 ·exact ⟨h.rows,h.mac.ask _,h.wait⟩
 ·exact h
theorem Nd.In.sends (h : n.In k) (msg : Int) (s : ByteArray) : (n.sends msg s).In k:=by
 unfold Nd.sends
 split
 ·exact ⟨h.rows,h.mac.ask _,h.wait⟩
 ·exact h
theorem Nd.In.close (h : n.In k) : n.close.In k:=⟨h.rows,h.mac,h.wait⟩
theorem Nd.In.bad (h : n.In k) (msg : Int) : (n.bad msg).In k:=⟨h.rows,h.mac,h.wait⟩
theorem Nd.In.looks (h : n.In k) (msg : Int) : (n.looks msg).In k:=by
 unfold Nd.looks
 split
 ·exact ⟨h.rows,h.mac,h.wait⟩
 ·exact h
theorem Nd.In.loses (h : n.In k) : n.loses.In k:=⟨h.rows,h.mac.cancel,⟨Int.le_refl 0,by show (0 : Int) ≤ 65536 * (k : Int); omega⟩⟩
theorem Nd.In.closes (h : n.In k) : n.closes.In k:=⟨h.rows,h.mac.cancel,h.wait⟩
theorem Nd.In.does (h : n.In k) (w : Trg) (t : Nat) : (n.does w t).In k:=by
 unfold Nd.does
 repeat' split
 all_goals first | exact h | exact h.asks _ | exact h.sends _ _ | exact h.close | exact h.bad _ | exact h.looks _ | exact h.loses | exact (h.sends _ _).bad _ | exact (h.sends _ _).close
theorem Nd.In.doesL (t : Nat) : ∀ (l : List Trg) {n : Nd},n.In k → (Co.doesL t l n).In k
 | [],n,h=>h
 | x :: l,n,h=>Nd.In.doesL t l (h.does x t)
theorem Nd.In.more (h : n.In k) {j : Nat} (hj : k ≤ j) : n.In j:=⟨h.rows,h.mac,⟨h.wait.1,by have:=h.wait.2; omega⟩⟩
theorem Nd.In.waits (h : n.In k) {u : Int} (hu : 0 ≤ u ∧ u ≤ 65536) (t : Nat) : (n.waits u t).In (k + 1):=by
 have hw:=h.wait
 have h' : ({ n with wait:=n.wait + u } : Nd).In (k + 1):=⟨h.rows,h.mac,⟨(by show 0 ≤ n.wait + u; omega),(by show n.wait + u ≤ 65536 * ((k + 1 : Nat) : Int); omega)⟩⟩
 unfold Nd.waits
 split
 ·exact h'
 ·have h2:=h'.asks t
  exact ⟨h2.rows,h2.mac,⟨Int.le_refl 0,by show (0 : Int) ≤ 65536 * ((k + 1 : Nat) : Int); omega⟩⟩
theorem Nd.In.tick (h : n.In k) (j : Int) : (n.tick j).In (k + 1):=by
 rw [tick_eq]
 have hA : (n.ticked j).In k:=⟨h.rows,h.mac,h.wait⟩
 have hM : ((n.ticked j).mid n.clk.time).In (k + 1):=by
  unfold Nd.mid
  split
  ·exact (Nd.In.doesL (n:=(n.ticked j).nowed _) _ _ ⟨h.rows,h.mac,h.wait⟩).more (Nat.le_succ _)
  ·have:=since_lt n.clk.time (n.ticked j).clk.time
   exact hA.waits (by omega) _
 unfold Nd.ends
 split
 ·exact hM.closes
 ·exact hM
theorem Nd.In.event (h : n.In k) (e : Ev) : (n.event e).In k:=by
 refine ⟨h.rows.event e, ?_, ?_⟩
 ·unfold Nd.event
  split
  ·exact h.mac
  ·split
   ·exact h.mac.cancel
   ·split
    ·split
     ·unfold Nd.message
      repeat' split
      all_goals exact h.mac
     ·exact h.mac
    ·exact h.mac
 ·have hw:=h.wait
  unfold Nd.event
  split
  ·exact hw
  ·split
   ·exact ⟨Int.le_refl 0,by show (0 : Int) ≤ 65536 * (k : Int); omega⟩
   ·split
    ·split
     ·unfold Nd.message
      repeat' split
      all_goals exact hw
     ·exact hw
    ·exact hw
theorem Nd.In.eventsL : ∀ (l : List Ev) {n : Nd},n.In k → (Co.eventsL l n).In k
 | [],n,h=>h
 | x :: l,n,h=>Nd.In.eventsL l (h.event x)
def Nd.Inv (n : Nd) (k : Nat) : Prop:=n.Ok ∧ n.In k
theorem Nd.Inv.tick (h : n.Inv k) (j : Int) : (n.tick j).Inv (k + 1):=⟨h.1.tick j,h.2.tick j⟩
theorem Nd.Inv.sample (h : n.Inv k) (lv : Bool) : (n.sample lv).Inv k:=by
 have hs:=h.2.mac.sample lv
 rw [sample_eq]
 have hA : (n.maced (n.mac.sample lv).1).Ok:=⟨h.1.mo,h.1.is,h.1.rank,h.1.clk,h.1.mrk,h.1.glb,h.1.mst,h.1.tab,h.1.obj,h.1.sch,h.1.trg⟩
 have hB : (n.maced (n.mac.sample lv).1).In k:=⟨h.2.rows,hs.1,h.2.wait⟩
 exact ⟨(Nd.Ok.eventsL _ hA hB.rows fun e he=>hs.2.f e he).1,Nd.In.eventsL _ hB⟩
theorem Nd.Inv.smp (h : n.Inv k) {v : Int} (hv : 0 ≤ v ∧ v ≤ 255) : SmpIn n v:=by
 have hs:=h.2.mac.sample (!decide (v = 48))
 have hm:=h.2.mac
 refine ⟨h.1,h.2.rows,⟨hm.left,fun h1 ho=>?_,fun h1 ho=>?_,hm.ok⟩,hv,⟨by have:=hs.2.len; omega,fun e he=>hs.2.f e he,fun i hi hk=>hs.2.last i hi hk⟩⟩
 ·obtain ⟨_,hw,hb,hp,hf,_⟩:=hm.on ho
  have hl : n.mac.bits.length ≤ 246:=by rw [hb]; exact encB_le (hm.ok hw)
  exact ⟨hp,by omega,hm.r1 h1,push_ok (hm.r1 h1),by omega,hm.cts⟩
 ·have:=hm.fin h1 ho
  exact ⟨hm.r1 h1,push_ok (hm.r1 h1),by omega,hm.cts⟩
theorem Nd.Inv.drv (h : n.Inv k) : DrvOk n.mac:=⟨fun ho=>(h.2.mac.on ho).2.2.2.1,by have:=h.2.mac.rn; omega⟩
theorem Nd.Inv.tk (h : n.Inv k) (hk : k ≤ 1000000000) : n.Ok ∧ (0 ≤ n.wait ∧ n.wait ≤ 1000000000000000000):=⟨h.1,h.2.wait.1,by have:=h.2.wait.2; omega⟩
theorem send_q (m : Mat) (o : Plc) (msg : Int) (s : ByteArray) (h : o.Ok) : (o.send m msg s).Ok:=by
 obtain ⟨who,st,got,q⟩:=o
 have h : q.length ≤ 4:=h
 unfold Plc.send
 split
 ·exact h
 ·rename_i g
  split
  ·rename_i ge
   show (q ++ [(msg,s)]).length ≤ 4
   rw [List.length_append]
   show q.length + 1 ≤ 4
   refine Classical.byContradiction fun c=>g ?_
   unfold Plc.sendE
   split
   ·decide
   ·split
    ·decide
    ·rw [if_pos ⟨ge,by show 4 ≤ q.length; omega⟩]; decide
  ·exact h
theorem Nd.Inv.send (h : n.Inv k) (msg : Int) (s : ByteArray) : (n.send msg s).Inv k :=
 ⟨⟨h.1.mo,h.1.is,h.1.rank,h.1.clk,h.1.mrk,h.1.glb,h.1.mst,h.1.tab,send_q _ _ _ _ h.1.obj,h.1.sch,h.1.trg⟩,⟨h.2.rows,h.2.mac,h.2.wait⟩⟩
theorem Nd.Inv.more (h : n.Inv k) {j : Nat} (hj : k ≤ j) : n.Inv j:=⟨h.1,h.2.more hj⟩
theorem new_inv {m : Mat} {who : Int} {c : Caps} (h : (Nd.new m who c).Ok) : (Nd.new m who c).Inv 0:=⟨h,⟨⟨Nat.zero_le _,Nat.zero_le _⟩,mac0_inv,⟨Int.le_refl 0,Int.le_refl 0⟩⟩⟩
end
end Go.Proofs.YtlckbdhpehkeoaaGreat.Co
