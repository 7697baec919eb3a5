/- Parts. -/
import Derived.Test.YtlckbdhpehkeoaaGreatJ21
namespace Go.Proofs.YtlckbdhpehkeoaaGreat.Co
open Go Go.Eng Go.Proofs Go.Proofs.YtlckbdhpehkeoaaGreat.Tb Go.Pu
set_option maxRecDepth 100000
set_option maxHeartbeats 8000000
abbrev outsPar : List (FuncId × Cx):=[(F.config_reader_one,AskC rdOneC),(F.config_reader_two,AskC rdTwoC),(F.config_Print,AskC priC)]
theorem outsPar_ok : OutsOk Tryz.prog outsPar:=.cons (ask_ok cOne_ok) (.cons (ask_ok cTwo_ok) (.cons (ask_ok pri_ok) .nil))
abbrev nilC : C:=.v (.slice none 0 0)
abbrev m00 : T:=.agg [.c (iC 0),.c (iC 0),.c (iC 0),.c (iC 0),.c (iC 0),.c (iC 0),.c (iC 0),.c (uC 0),.c nilC,.c nilC,.c nilC]
abbrev pNo : R:=.tup [m00,.one (.v (.int .i64 130))]
noncomputable abbrev tabPar : List (FuncId × Eng.Fn):=[(F.config_Parse,fn.config_Parse u0),(F.config_reader_lists,fn.config_reader_lists u0)]
theorem tabPar_ok {d : Nat} : TabOk d tabPar tt:=.cons (ok.config_Parse u0) (.cons (ok.config_reader_lists u0) (TabOk.nil))
theorem one_at {l : List UInt8} {k n : Nat} {h : Heap} {K : R → Heap → Prop} (k' : Nat) (hk' : k' = k + 1) (ho : Heap) (hl : l.length ≤ 1000) (hh : leH (sig h [n]) h [n] [rdE l k]) (hm : mrg (back h [rdE l k] [n]) h [n] [rdE l k] [rdE l k'] = ho) (hk : K (iv .i64 (gI l k)) ho) : AskC rdOneC [pR n] h K:=by
 subst hk'
 exact .det (l,k) [n] (iv .i64 (gI l k)) ho hl rfl hh ⟨.inl rfl,trivial⟩ rfl hm hk
theorem two_at {l : List UInt8} {k n : Nat} {h : Heap} {K : R → Heap → Prop} (k' : Nat) (hk' : k' = k + 2) (ho : Heap) (hl : l.length ≤ 1000) (hh : leH (sig h [n]) h [n] [rdE l k]) (hm : mrg (back h [rdE l k] [n]) h [n] [rdE l k] [rdE l k'] = ho) (hk : K (iv .i64 (wI l k)) ho) : AskC rdTwoC [pR n] h K:=by
 subst hk'
 exact .det (l,k) [n] (iv .i64 (wI l k)) ho hl rfl hh ⟨.inl rfl,trivial⟩ rfl hm hk
abbrev mS (a b c d e f g r : Int) (c1 c2 c3 : C) : HE:=.ob (.own [.c (iC a),.c (iC b),.c (iC c),.c (iC d),.c (iC e),.c (iC f),.c (iC g),.c (uC r),.c c1,.c c2,.c c3])
abbrev rM (l : List UInt8) (n c : Nat) : HE:=HE.ob (Ob.row 1 n (fun q=>[iC (gI l (13 + q))]) c)
abbrev rG (l : List UInt8) (N n c : Nat) : HE:=HE.ob (Ob.row 3 n (fun q=>msgL (pmG l (14 + N + 4 * q))) c)
abbrev rW (l : List UInt8) (N G n c : Nat) : HE:=HE.ob (Ob.row 6 n (fun q=>winL (pmW l (15 + N + 4 * G + 8 * q))) c)
abbrev mQ (l : List UInt8) (c1 c2 c3 : C) : HE:=mS (gI l 1) (gI l 2) (gI l 3) (wI l 4) (gI l 6) (gI l 7) (wI l 8) (wI l 10) c1 c2 c3
abbrev mZ : HE:=mS 0 0 0 0 0 0 0 0 nilC nilC nilC
theorem row_up {f : Nat → List C} {c : List C} {i q : Nat} (h : q < i + 1) (hc : c = f i) : (if q < i then f (0 + q) else nthD [] [c] (0 + (q - i))) = f q:=by
 by_cases h1 : q < i
 ·rw [if_pos h1,Nat.zero_add]
 ·rw [if_neg h1,show 0 + (q - i) = 0 by omega,show q = i by omega,hc]; rfl
theorem row_0 {f : Nat → List C} {c : List C} {q : Nat} (h : q < 1) (hc : c = f 0) : nthD [] [c] (0 + q) = f q:=by
 obtain rfl : q = 0:=by omega
 rw [hc]; rfl
abbrev mT (a b c d e f g r : Int) (c1 c2 c3 : C) : T:=.agg [.c (iC a),.c (iC b),.c (iC c),.c (iC d),.c (iC e),.c (iC f),.c (iC g),.c (uC r),.c c1,.c c2,.c c3]
abbrev slM (b w n cap : Nat) : C:=match n with | 0=>nilC | k + 1=>.slc b 0 w 0 (k + 1) cap false
abbrev rwM (w n : Nat) (f : Nat → List C) (cap : Nat) : Heap:=match n with | 0=>[] | k + 1=>[.ob (.row w (k + 1) f cap)]
abbrev one0 (n : Nat) : Nat:=match n with | 0=>0 | _ + 1=>1
abbrev parY (l : List UInt8) (N G W : Nat) (q : Nat × Nat × Nat) : R:=.tup [mT (gI l 1) (gI l 2) (gI l 3) (wI l 4) (gI l 6) (gI l 7) (wI l 8) (wI l 10) (slM 0 1 N q.1) (slM 1 3 G q.2.1) (slM (1 + one0 G) 6 W q.2.2),.one (.v (.int .i64 0))]
abbrev parZ (l : List UInt8) (N G W : Nat) (q : Nat × Nat × Nat) : Heap:=rwM 1 N (fun q=>[iC (gI l (13 + q))]) q.1 ++ (rwM 3 G (fun q=>msgL (pmG l (14 + N + 4 * q))) q.2.1 ++ rwM 6 W (fun q=>winL (pmW l (15 + N + 4 * G + 8 * q))) q.2.2)
def parX (l : List UInt8) (N G W : Nat) (q : Nat × Nat × Nat) : R:=if pOk l = true then parY l N G W q else pNo
def parHp (l : List UInt8) (N G W : Nat) (q : Nat × Nat × Nat) : Heap:=if pOk l = true then parZ l N G W q else []
theorem par_no {l : List UInt8} {N G W : Nat} (hb : pOk l = false) {h : Heap} : Trim 0 pNo h fun x h=>∃ q : Nat × Nat × Nat,(N ≤ q.1 ∧ G ≤ q.2.1 ∧ W ≤ q.2.2) ∧ x = parX l N G W q ∧ h = parHp l N G W q:=by
 refine Trim.fam (N,G,W) ⟨Nat.le_refl _,Nat.le_refl _,Nat.le_refl _⟩ ?_
 rw [show parX l N G W (N,G,W) = pNo from if_neg (by rw [hb]; decide),show parHp l N G W (N,G,W) = [] from if_neg (by rw [hb]; decide)]
 refine Le.nm [] rfl ?_ ?_
 ·exact trivial
 ·exact rfl
theorem par_head (l : List UInt8) (N G W : Nat) (hl : l.length ≤ 400) (hN : gI l 12 = (N : Int)) (hG : gI l (13 + N) = (G : Int)) (hW : gI l (14 + N + 4 * G) = (W : Int)) : clRunX 7 tt outsPar tabPar 3 F.config_Parse [] [sv (tx l)] [] (fun x h=>Trim 0 x h fun x h=>∃ q : Nat × Nat × Nat,(N ≤ q.1 ∧ G ≤ q.2.1 ∧ W ≤ q.2.2) ∧ x = parX l N G W q ∧ h = parHp l N G W q):=by
 have hs : (tx (l.drop 0)).size = l.length:=rfl
 have hl' : l.length ≤ 1000:=by omega
 have hr:=wI_bd l 10
 have hN':=gI_bd l 12
 have hG':=gI_bd l (13 + N)
 have hW':=gI_bd l (14 + N + 4 * G)
 rw [hN] at hN'
 rw [hG] at hG'
 rw [hW] at hW'
 have hp3:=p3_of hN hG hW
 have hpm:=pm_of hN hG hW
 rw [show tx l = tx (l.drop 0) from rfl]
 refine wB ?_
 refine one_at (n:=1) (k:=0) 1 rfl [mZ,rdE l 1] hl' ?_ rfl ?_
 ·exact wH
 refine wB ?_
 refine one_at (n:=1) (k:=1) 2 rfl [mZ,rdE l 2,mS 0 0 0 0 0 0 0 0 nilC nilC nilC] hl' ?_ rfl ?_
 ·exact wH
 refine wB ?_
 refine one_at (n:=1) (k:=2) 3 rfl [mZ,rdE l 3,mS (gI l 1) 0 0 0 0 0 0 0 nilC nilC nilC] hl' ?_ rfl ?_
 ·exact wH
 refine wB ?_
 refine one_at (n:=1) (k:=3) 4 rfl [mZ,rdE l 4,mS (gI l 1) (gI l 2) 0 0 0 0 0 0 nilC nilC nilC] hl' ?_ rfl ?_
 ·exact wH
 refine wB ?_
 refine two_at (n:=1) (k:=4) 6 rfl [mZ,rdE l 6,mS (gI l 1) (gI l 2) (gI l 3) 0 0 0 0 0 nilC nilC nilC] hl' ?_ rfl ?_
 ·exact wH
 refine wB ?_
 refine one_at (n:=1) (k:=6) 7 rfl [mZ,rdE l 7,mS (gI l 1) (gI l 2) (gI l 3) (wI l 4) 0 0 0 0 nilC nilC nilC] hl' ?_ rfl ?_
 ·exact wH
 refine wB ?_
 refine one_at (n:=1) (k:=7) 8 rfl [mZ,rdE l 8,mS (gI l 1) (gI l 2) (gI l 3) (wI l 4) (gI l 6) 0 0 0 nilC nilC nilC] hl' ?_ rfl ?_
 ·exact wH
 refine wB ?_
 refine two_at (n:=1) (k:=8) 10 rfl [mZ,rdE l 10,mS (gI l 1) (gI l 2) (gI l 3) (wI l 4) (gI l 6) (gI l 7) 0 0 nilC nilC nilC] hl' ?_ rfl ?_
 ·exact wH
 refine wB ?_
 refine two_at (n:=1) (k:=10) 12 rfl [mZ,rdE l 12,mS (gI l 1) (gI l 2) (gI l 3) (wI l 4) (gI l 6) (gI l 7) (wI l 8) 0 nilC nilC nilC] hl' ?_ rfl ?_
 ·exact wH
 refine wB ?_
 refine .inv (fun p : Nat × Heap=>(p.1 = 0 ∧ p.2 = [mZ,rdE l (12),mQ l nilC nilC nilC]) ∨ (p.1 = 1 ∧ N = 0 ∧ p.2 = [mZ,rdE l (13 + N),mQ l nilC nilC nilC]) ∨ (p.1 = 1 ∧ 1 ≤ N ∧ ∃ q0,N ≤ q0 ∧ p.2 = [mZ,rdE l (13 + N),mQ l (C.slc 3 0 1 0 N q0 false) nilC nilC,rM l N q0]) ∨ (p.1 = 2 ∧ N = 0 ∧ G = 0 ∧ p.2 = [mZ,rdE l (14 + N + 4 * G),mQ l nilC nilC nilC]) ∨ (p.1 = 2 ∧ N = 0 ∧ 1 ≤ G ∧ ∃ q1,G ≤ q1 ∧ p.2 = [mZ,rdE l (14 + N + 4 * G),mQ l nilC (C.slc 3 0 3 0 G q1 false) nilC,rG l N G q1]) ∨ (p.1 = 2 ∧ 1 ≤ N ∧ G = 0 ∧ ∃ q0,N ≤ q0 ∧ p.2 = [mZ,rdE l (14 + N + 4 * G),mQ l (C.slc 3 0 1 0 N q0 false) nilC nilC,rM l N q0]) ∨ (p.1 = 2 ∧ 1 ≤ N ∧ 1 ≤ G ∧ ∃ q0,N ≤ q0 ∧ ∃ q1,G ≤ q1 ∧ p.2 = [mZ,rdE l (14 + N + 4 * G),mQ l (C.slc 3 0 1 0 N q0 false) (C.slc 4 0 3 0 G q1 false) nilC,rM l N q0,rG l N G q1]) ∨ (p.1 = 3 ∧ N = 0 ∧ G = 0 ∧ W = 0 ∧ p.2 = [mZ,rdE l (15 + N + 4 * G + 8 * W),mQ l nilC nilC nilC]) ∨ (p.1 = 3 ∧ N = 0 ∧ G = 0 ∧ 1 ≤ W ∧ ∃ q2,W ≤ q2 ∧ p.2 = [mZ,rdE l (15 + N + 4 * G + 8 * W),mQ l nilC nilC (C.slc 3 0 6 0 W q2 false),rW l N G W q2]) ∨ (p.1 = 3 ∧ N = 0 ∧ 1 ≤ G ∧ W = 0 ∧ ∃ q1,G ≤ q1 ∧ p.2 = [mZ,rdE l (15 + N + 4 * G + 8 * W),mQ l nilC (C.slc 3 0 3 0 G q1 false) nilC,rG l N G q1]) ∨ (p.1 = 3 ∧ N = 0 ∧ 1 ≤ G ∧ 1 ≤ W ∧ ∃ q1,G ≤ q1 ∧ ∃ q2,W ≤ q2 ∧ p.2 = [mZ,rdE l (15 + N + 4 * G + 8 * W),mQ l nilC (C.slc 3 0 3 0 G q1 false) (C.slc 4 0 6 0 W q2 false),rG l N G q1,rW l N G W q2]) ∨ (p.1 = 3 ∧ 1 ≤ N ∧ G = 0 ∧ W = 0 ∧ ∃ q0,N ≤ q0 ∧ p.2 = [mZ,rdE l (15 + N + 4 * G + 8 * W),mQ l (C.slc 3 0 1 0 N q0 false) nilC nilC,rM l N q0]) ∨ (p.1 = 3 ∧ 1 ≤ N ∧ G = 0 ∧ 1 ≤ W ∧ ∃ q0,N ≤ q0 ∧ ∃ q2,W ≤ q2 ∧ p.2 = [mZ,rdE l (15 + N + 4 * G + 8 * W),mQ l (C.slc 3 0 1 0 N q0 false) nilC (C.slc 4 0 6 0 W q2 false),rM l N q0,rW l N G W q2]) ∨ (p.1 = 3 ∧ 1 ≤ N ∧ 1 ≤ G ∧ W = 0 ∧ ∃ q0,N ≤ q0 ∧ ∃ q1,G ≤ q1 ∧ p.2 = [mZ,rdE l (15 + N + 4 * G + 8 * W),mQ l (C.slc 3 0 1 0 N q0 false) (C.slc 4 0 3 0 G q1 false) nilC,rM l N q0,rG l N G q1]) ∨ (p.1 = 3 ∧ 1 ≤ N ∧ 1 ≤ G ∧ 1 ≤ W ∧ ∃ q0,N ≤ q0 ∧ ∃ q1,G ≤ q1 ∧ ∃ q2,W ≤ q2 ∧ p.2 = [mZ,rdE l (15 + N + 4 * G + 8 * W),mQ l (C.slc 3 0 1 0 N q0 false) (C.slc 4 0 3 0 G q1 false) (C.slc 5 0 6 0 W q2 false),rM l N q0,rG l N G q1,rW l N G W q2])) (fun p=>[(8,iv .i64 p.1)]) (fun p=>p.2) (fun p=>3 - p.1) (0,[mZ,rdE l (12),mQ l nilC nilC nilC]) (.inl ⟨rfl,rfl⟩) ?_ (fun p hP=>?_)
 ·conv=>whnf
  refine Le.id rfl ?_ ?_
  all_goals (repeat'(first|exact wZ|refine And.intro ?_ ?_))
 generalize p.1 = kk at *
 generalize p.2 = hp at *
 rcases hP with ⟨rfl,rfl⟩ | ⟨rfl,z0,rfl⟩ | ⟨rfl,z0,q0,hq0,rfl⟩ | ⟨rfl,z0,z1,rfl⟩ | ⟨rfl,z0,z1,q1,hq1,rfl⟩ | ⟨rfl,z0,z1,q0,hq0,rfl⟩ | ⟨rfl,z0,z1,q0,hq0,q1,hq1,rfl⟩ | ⟨rfl,z0,z1,z2,rfl⟩ | ⟨rfl,z0,z1,z2,q2,hq2,rfl⟩ | ⟨rfl,z0,z1,z2,q1,hq1,rfl⟩ | ⟨rfl,z0,z1,z2,q1,hq1,q2,hq2,rfl⟩ | ⟨rfl,z0,z1,z2,q0,hq0,rfl⟩ | ⟨rfl,z0,z1,z2,q0,hq0,q2,hq2,rfl⟩ | ⟨rfl,z0,z1,z2,q0,hq0,q1,hq1,rfl⟩ | ⟨rfl,z0,z1,z2,q0,hq0,q1,hq1,q2,hq2,rfl⟩
 ·
  refine wB ?_
  refine one_at (n:=1) (k:=12) (13 + 0) (by omega) [mZ,rdE l (13 + 0),mQ l nilC nilC nilC] hl' ?_ rfl ?_
  ·exact wH
  rw [hN]
  refine wB ?_
  refine .inv (fun p : Nat × Heap=>(p.1 = 0 ∧ p.2 = [mZ,rdE l (13 + 0),mQ l nilC nilC nilC]) ∨ (1 ≤ p.1 ∧ p.1 ≤ N ∧ ∃ q,p.1 ≤ q ∧ p.2 = [mZ,rdE l (13 + p.1),mQ l (C.slc 3 0 1 0 (p.1) q false) nilC nilC,rM l (p.1) q])) (fun p=>[(5,iv .i64 (N - p.1 : Nat))]) (fun p=>p.2) (fun p=>N - p.1) (0,[mZ,rdE l (13 + 0),mQ l nilC nilC nilC]) (.inl ⟨rfl,rfl⟩) ?_ (fun p hP=>?_)
  ·conv=>whnf
   refine Le.id rfl ?_ ?_
   all_goals (repeat'(first|exact wZ|refine And.intro ?_ ?_))
  generalize p.1 = i at *
  generalize p.2 = hp at *
  rcases hP with ⟨rfl,rfl⟩ | ⟨hi1,hi2,q,hq,rfl⟩
  ·conv=>whnf
   refine cD (fun h=>?_) (fun h=>?_)
   ·refine wB ?_
    refine cD (fun hbad=>?_) (fun hbad=>?_)
    ·refine wB ?_
     exact par_no (pOk_no (k:=13 + 0) (by omega) (by omega))
    have b0:=gI_bd l (13 + 0)
    refine wB ?_
    refine one_at (n:=1) (k:=13 + 0) (13 + (0 + 1)) (by omega) [mZ,rdE l (13 + (0 + 1)),mQ l nilC nilC nilC] hl' ?_ rfl ?_
    ·exact wH
    refine wB ?_
    intro cap hc
    refine wB ?_
    rw [show ((N - 0 : Nat) : Int) - 1 = ((N - (0 + 1) : Nat) : Int) by omega]
    refine ⟨(0 + 1,[mZ,rdE l (13 + (0 + 1)),mQ l (C.slc 3 0 1 0 (0 + 1) cap false) nilC nilC,rM l (0 + 1) cap]),⟨.inr ⟨by show 1 ≤ 0 + 1; omega,by show 0 + 1 ≤ N; omega,cap,hc,rfl⟩,by show N - (0 + 1) < N - 0; omega⟩, ?_⟩
    conv=>whnf
    refine Le.nm [0,1,2,4] rfl ?_ ?_
    all_goals (repeat'(first|exact wZ|refine And.intro ?_ ?_))
    all_goals (intro x hx; first | exact row_up (f:=fun q=>[iC (gI l (13 + q))]) hx rfl | exact row_0 (f:=fun q=>[iC (gI l (13 + q))]) hx rfl)
   obtain rfl : N = 0:=by omega
   refine wB ?_
   refine ⟨(1,[mZ,rdE l (13 + 0),mQ l nilC nilC nilC]),⟨.inr (.inl (⟨rfl,rfl,rfl⟩)),by show 3 - 1 < 3 - 0; omega⟩, ?_⟩
   conv=>whnf
   refine Le.id rfl ?_ ?_
   all_goals (repeat'(first|exact wZ|refine And.intro ?_ ?_))
  ·conv=>whnf
   refine cD (fun h=>?_) (fun h=>?_)
   ·refine wB ?_
    refine cD (fun hbad=>?_) (fun hbad=>?_)
    ·refine wB ?_
     exact par_no (pOk_no (k:=13 + i) (by omega) (by omega))
    have b0:=gI_bd l (13 + i)
    refine wB ?_
    refine one_at (n:=1) (k:=13 + i) (13 + (i + 1)) (by omega) [mZ,rdE l (13 + (i + 1)),mQ l (C.slc 3 0 1 0 (i) q false) nilC nilC,rM l (i) q] hl' ?_ rfl ?_
    ·exact wH
    refine wB ?_
    refine cT (decide_eq_true (by show (i + 1) * 8 ≤ 1099511627776; omega)) ?_
    refine wB ?_
    intro cap hc
    refine wB ?_
    rw [show ((N - i : Nat) : Int) - 1 = ((N - (i + 1) : Nat) : Int) by omega]
    refine ⟨(i + 1,[mZ,rdE l (13 + (i + 1)),mQ l (C.slc 3 0 1 0 (i + 1) cap false) nilC nilC,rM l (i + 1) cap]),⟨.inr ⟨by show 1 ≤ i + 1; omega,by show i + 1 ≤ N; omega,cap,hc,rfl⟩,by show N - (i + 1) < N - i; omega⟩, ?_⟩
    conv=>whnf
    refine Le.nm [0,1,2,5] rfl ?_ ?_
    all_goals (repeat'(first|exact wZ|refine And.intro ?_ ?_))
    all_goals (intro x hx; first | exact row_up (f:=fun q=>[iC (gI l (13 + q))]) hx rfl | exact row_0 (f:=fun q=>[iC (gI l (13 + q))]) hx rfl)
   obtain rfl : N = i:=by omega
   refine wB ?_
   refine ⟨(1,[mZ,rdE l (13 + N),mQ l (C.slc 3 0 1 0 N q false) nilC nilC,rM l N q]),⟨.inr (.inr (.inl (⟨rfl,hi1,q,hq,rfl⟩))),by show 3 - 1 < 3 - 0; omega⟩, ?_⟩
   conv=>whnf
   refine Le.id rfl ?_ ?_
   all_goals (repeat'(first|exact wZ|refine And.intro ?_ ?_))
 ·
  refine wB ?_
  refine one_at (n:=1) (k:=13 + N) (14 + N + 4 * 0) (by omega) [mZ,rdE l (14 + N + 4 * 0),mQ l nilC nilC nilC] hl' ?_ rfl ?_
  ·exact wH
  rw [hG]
  refine wB ?_
  refine .inv (fun p : Nat × Heap=>(p.1 = 0 ∧ p.2 = [mZ,rdE l (14 + N + 4 * 0),mQ l nilC nilC nilC]) ∨ (1 ≤ p.1 ∧ p.1 ≤ G ∧ ∃ q,p.1 ≤ q ∧ p.2 = [mZ,rdE l (14 + N + 4 * p.1),mQ l nilC (C.slc 3 0 3 0 (p.1) q false) nilC,rG l N (p.1) q])) (fun p=>[(5,iv .i64 (G - p.1 : Nat))]) (fun p=>p.2) (fun p=>G - p.1) (0,[mZ,rdE l (14 + N + 4 * 0),mQ l nilC nilC nilC]) (.inl ⟨rfl,rfl⟩) ?_ (fun p hP=>?_)
  ·conv=>whnf
   refine Le.id rfl ?_ ?_
   all_goals (repeat'(first|exact wZ|refine And.intro ?_ ?_))
  generalize p.1 = i at *
  generalize p.2 = hp at *
  rcases hP with ⟨rfl,rfl⟩ | ⟨hi1,hi2,q,hq,rfl⟩
  ·conv=>whnf
   refine cD (fun h=>?_) (fun h=>?_)
   ·refine wB ?_
    refine cD (fun hbad=>?_) (fun hbad=>?_)
    ·refine wB ?_
     exact par_no (pOk_no (k:=14 + N + 4 * 0) (by omega) (by omega))
    have b0:=wI_bd l (14 + N + 4 * 0)
    have b1:=gI_bd l (14 + N + 4 * 0 + 2)
    have b2:=gI_bd l (14 + N + 4 * 0 + 3)
    refine wB ?_
    refine two_at (n:=1) (k:=14 + N + 4 * 0) (14 + N + 4 * 0 + 2) (by omega) [mZ,rdE l (14 + N + 4 * 0 + 2),mQ l nilC nilC nilC,.ob (.own [.c (uC 0),.c (iC 0),.c (.v (.bool false))])] hl' ?_ rfl ?_
    ·exact wH
    refine wB ?_
    refine one_at (n:=1) (k:=14 + N + 4 * 0 + 2) (14 + N + 4 * 0 + 3) (by omega) [mZ,rdE l (14 + N + 4 * 0 + 3),mQ l nilC nilC nilC,.ob (.own [.c (uC (wI l (14 + N + 4 * 0))),.c (iC 0),.c (.v (.bool false))])] hl' ?_ rfl ?_
    ·exact wH
    refine wB ?_
    refine one_at (n:=1) (k:=14 + N + 4 * 0 + 3) (14 + N + 4 * (0 + 1)) (by omega) [mZ,rdE l (14 + N + 4 * (0 + 1)),mQ l nilC nilC nilC,.ob (.own [.c (uC (wI l (14 + N + 4 * 0))),.c (iC (gI l (14 + N + 4 * 0 + 2))),.c (.v (.bool false))])] hl' ?_ rfl ?_
    ·exact wH
    refine wB ?_
    intro cap hc
    refine wB ?_
    rw [show ((G - 0 : Nat) : Int) - 1 = ((G - (0 + 1) : Nat) : Int) by omega]
    refine ⟨(0 + 1,[mZ,rdE l (14 + N + 4 * (0 + 1)),mQ l nilC (C.slc 3 0 3 0 (0 + 1) cap false) nilC,rG l N (0 + 1) cap]),⟨.inr ⟨by show 1 ≤ 0 + 1; omega,by show 0 + 1 ≤ G; omega,cap,hc,rfl⟩,by show G - (0 + 1) < G - 0; omega⟩, ?_⟩
    conv=>whnf
    refine Le.nm [0,1,2,5] rfl ?_ ?_
    all_goals (repeat'(first|exact wZ|refine And.intro ?_ ?_))
    all_goals (intro x hx; first | exact row_up (f:=fun q=>msgL (pmG l (14 + N + 4 * q))) hx rfl | exact row_0 (f:=fun q=>msgL (pmG l (14 + N + 4 * q))) hx rfl)
   obtain rfl : G = 0:=by omega
   refine wB ?_
   refine ⟨(2,[mZ,rdE l (14 + N + 4 * 0),mQ l nilC nilC nilC]),⟨.inr (.inr (.inr (.inl (⟨rfl,z0,rfl,rfl⟩)))),by show 3 - 2 < 3 - 1; omega⟩, ?_⟩
   conv=>whnf
   refine Le.id rfl ?_ ?_
   all_goals (repeat'(first|exact wZ|refine And.intro ?_ ?_))
  ·conv=>whnf
   refine cD (fun h=>?_) (fun h=>?_)
   ·refine wB ?_
    refine cD (fun hbad=>?_) (fun hbad=>?_)
    ·refine wB ?_
     exact par_no (pOk_no (k:=14 + N + 4 * i) (by omega) (by omega))
    have b0:=wI_bd l (14 + N + 4 * i)
    have b1:=gI_bd l (14 + N + 4 * i + 2)
    have b2:=gI_bd l (14 + N + 4 * i + 3)
    refine wB ?_
    refine two_at (n:=1) (k:=14 + N + 4 * i) (14 + N + 4 * i + 2) (by omega) [mZ,rdE l (14 + N + 4 * i + 2),mQ l nilC (C.slc 3 0 3 0 (i) q false) nilC,rG l N (i) q,.ob (.own [.c (uC 0),.c (iC 0),.c (.v (.bool false))])] hl' ?_ rfl ?_
    ·exact wH
    refine wB ?_
    refine one_at (n:=1) (k:=14 + N + 4 * i + 2) (14 + N + 4 * i + 3) (by omega) [mZ,rdE l (14 + N + 4 * i + 3),mQ l nilC (C.slc 3 0 3 0 (i) q false) nilC,rG l N (i) q,.ob (.own [.c (uC (wI l (14 + N + 4 * i))),.c (iC 0),.c (.v (.bool false))])] hl' ?_ rfl ?_
    ·exact wH
    refine wB ?_
    refine one_at (n:=1) (k:=14 + N + 4 * i + 3) (14 + N + 4 * (i + 1)) (by omega) [mZ,rdE l (14 + N + 4 * (i + 1)),mQ l nilC (C.slc 3 0 3 0 (i) q false) nilC,rG l N (i) q,.ob (.own [.c (uC (wI l (14 + N + 4 * i))),.c (iC (gI l (14 + N + 4 * i + 2))),.c (.v (.bool false))])] hl' ?_ rfl ?_
    ·exact wH
    refine wB ?_
    refine cT (decide_eq_true (by show (i + 1) * 24 ≤ 1099511627776; omega)) ?_
    refine wB ?_
    intro cap hc
    refine wB ?_
    rw [show ((G - i : Nat) : Int) - 1 = ((G - (i + 1) : Nat) : Int) by omega]
    refine ⟨(i + 1,[mZ,rdE l (14 + N + 4 * (i + 1)),mQ l nilC (C.slc 3 0 3 0 (i + 1) cap false) nilC,rG l N (i + 1) cap]),⟨.inr ⟨by show 1 ≤ i + 1; omega,by show i + 1 ≤ G; omega,cap,hc,rfl⟩,by show G - (i + 1) < G - i; omega⟩, ?_⟩
    conv=>whnf
    refine Le.nm [0,1,2,6] rfl ?_ ?_
    all_goals (repeat'(first|exact wZ|refine And.intro ?_ ?_))
    all_goals (intro x hx; first | exact row_up (f:=fun q=>msgL (pmG l (14 + N + 4 * q))) hx rfl | exact row_0 (f:=fun q=>msgL (pmG l (14 + N + 4 * q))) hx rfl)
   obtain rfl : G = i:=by omega
   refine wB ?_
   refine ⟨(2,[mZ,rdE l (14 + N + 4 * G),mQ l nilC (C.slc 3 0 3 0 G q false) nilC,rG l N G q]),⟨.inr (.inr (.inr (.inr (.inl (⟨rfl,z0,hi1,q,hq,rfl⟩))))),by show 3 - 2 < 3 - 1; omega⟩, ?_⟩
   conv=>whnf
   refine Le.id rfl ?_ ?_
   all_goals (repeat'(first|exact wZ|refine And.intro ?_ ?_))
 ·
  refine wB ?_
  refine one_at (n:=1) (k:=13 + N) (14 + N + 4 * 0) (by omega) [mZ,rdE l (14 + N + 4 * 0),mQ l (C.slc 3 0 1 0 N q0 false) nilC nilC,rM l N q0] hl' ?_ rfl ?_
  ·exact wH
  rw [hG]
  refine wB ?_
  refine .inv (fun p : Nat × Heap=>(p.1 = 0 ∧ p.2 = [mZ,rdE l (14 + N + 4 * 0),mQ l (C.slc 3 0 1 0 N q0 false) nilC nilC,rM l N q0]) ∨ (1 ≤ p.1 ∧ p.1 ≤ G ∧ ∃ q,p.1 ≤ q ∧ p.2 = [mZ,rdE l (14 + N + 4 * p.1),mQ l (C.slc 3 0 1 0 N q0 false) (C.slc 4 0 3 0 (p.1) q false) nilC,rM l N q0,rG l N (p.1) q])) (fun p=>[(5,iv .i64 (G - p.1 : Nat))]) (fun p=>p.2) (fun p=>G - p.1) (0,[mZ,rdE l (14 + N + 4 * 0),mQ l (C.slc 3 0 1 0 N q0 false) nilC nilC,rM l N q0]) (.inl ⟨rfl,rfl⟩) ?_ (fun p hP=>?_)
  ·conv=>whnf
   refine Le.id rfl ?_ ?_
   all_goals (repeat'(first|exact wZ|refine And.intro ?_ ?_))
  generalize p.1 = i at *
  generalize p.2 = hp at *
  rcases hP with ⟨rfl,rfl⟩ | ⟨hi1,hi2,q,hq,rfl⟩
  ·conv=>whnf
   refine cD (fun h=>?_) (fun h=>?_)
   ·refine wB ?_
    refine cD (fun hbad=>?_) (fun hbad=>?_)
    ·refine wB ?_
     exact par_no (pOk_no (k:=14 + N + 4 * 0) (by omega) (by omega))
    have b0:=wI_bd l (14 + N + 4 * 0)
    have b1:=gI_bd l (14 + N + 4 * 0 + 2)
    have b2:=gI_bd l (14 + N + 4 * 0 + 3)
    refine wB ?_
    refine two_at (n:=1) (k:=14 + N + 4 * 0) (14 + N + 4 * 0 + 2) (by omega) [mZ,rdE l (14 + N + 4 * 0 + 2),mQ l (C.slc 3 0 1 0 N q0 false) nilC nilC,rM l N q0,.ob (.own [.c (uC 0),.c (iC 0),.c (.v (.bool false))])] hl' ?_ rfl ?_
    ·exact wH
    refine wB ?_
    refine one_at (n:=1) (k:=14 + N + 4 * 0 + 2) (14 + N + 4 * 0 + 3) (by omega) [mZ,rdE l (14 + N + 4 * 0 + 3),mQ l (C.slc 3 0 1 0 N q0 false) nilC nilC,rM l N q0,.ob (.own [.c (uC (wI l (14 + N + 4 * 0))),.c (iC 0),.c (.v (.bool false))])] hl' ?_ rfl ?_
    ·exact wH
    refine wB ?_
    refine one_at (n:=1) (k:=14 + N + 4 * 0 + 3) (14 + N + 4 * (0 + 1)) (by omega) [mZ,rdE l (14 + N + 4 * (0 + 1)),mQ l (C.slc 3 0 1 0 N q0 false) nilC nilC,rM l N q0,.ob (.own [.c (uC (wI l (14 + N + 4 * 0))),.c (iC (gI l (14 + N + 4 * 0 + 2))),.c (.v (.bool false))])] hl' ?_ rfl ?_
    ·exact wH
    refine wB ?_
    intro cap hc
    refine wB ?_
    rw [show ((G - 0 : Nat) : Int) - 1 = ((G - (0 + 1) : Nat) : Int) by omega]
    refine ⟨(0 + 1,[mZ,rdE l (14 + N + 4 * (0 + 1)),mQ l (C.slc 3 0 1 0 N q0 false) (C.slc 4 0 3 0 (0 + 1) cap false) nilC,rM l N q0,rG l N (0 + 1) cap]),⟨.inr ⟨by show 1 ≤ 0 + 1; omega,by show 0 + 1 ≤ G; omega,cap,hc,rfl⟩,by show G - (0 + 1) < G - 0; omega⟩, ?_⟩
    conv=>whnf
    refine Le.nm [0,1,2,3,6] rfl ?_ ?_
    all_goals (repeat'(first|exact wZ|refine And.intro ?_ ?_))
    all_goals (intro x hx; first | exact row_up (f:=fun q=>msgL (pmG l (14 + N + 4 * q))) hx rfl | exact row_0 (f:=fun q=>msgL (pmG l (14 + N + 4 * q))) hx rfl)
   obtain rfl : G = 0:=by omega
   refine wB ?_
   refine ⟨(2,[mZ,rdE l (14 + N + 4 * 0),mQ l (C.slc 3 0 1 0 N q0 false) nilC nilC,rM l N q0]),⟨.inr (.inr (.inr (.inr (.inr (.inl (⟨rfl,z0,rfl,q0,hq0,rfl⟩)))))),by show 3 - 2 < 3 - 1; omega⟩, ?_⟩
   conv=>whnf
   refine Le.id rfl ?_ ?_
   all_goals (repeat'(first|exact wZ|refine And.intro ?_ ?_))
  ·conv=>whnf
   refine cD (fun h=>?_) (fun h=>?_)
   ·refine wB ?_
    refine cD (fun hbad=>?_) (fun hbad=>?_)
    ·refine wB ?_
     exact par_no (pOk_no (k:=14 + N + 4 * i) (by omega) (by omega))
    have b0:=wI_bd l (14 + N + 4 * i)
    have b1:=gI_bd l (14 + N + 4 * i + 2)
    have b2:=gI_bd l (14 + N + 4 * i + 3)
    refine wB ?_
    refine two_at (n:=1) (k:=14 + N + 4 * i) (14 + N + 4 * i + 2) (by omega) [mZ,rdE l (14 + N + 4 * i + 2),mQ l (C.slc 3 0 1 0 N q0 false) (C.slc 4 0 3 0 (i) q false) nilC,rM l N q0,rG l N (i) q,.ob (.own [.c (uC 0),.c (iC 0),.c (.v (.bool false))])] hl' ?_ rfl ?_
    ·exact wH
    refine wB ?_
    refine one_at (n:=1) (k:=14 + N + 4 * i + 2) (14 + N + 4 * i + 3) (by omega) [mZ,rdE l (14 + N + 4 * i + 3),mQ l (C.slc 3 0 1 0 N q0 false) (C.slc 4 0 3 0 (i) q false) nilC,rM l N q0,rG l N (i) q,.ob (.own [.c (uC (wI l (14 + N + 4 * i))),.c (iC 0),.c (.v (.bool false))])] hl' ?_ rfl ?_
    ·exact wH
    refine wB ?_
    refine one_at (n:=1) (k:=14 + N + 4 * i + 3) (14 + N + 4 * (i + 1)) (by omega) [mZ,rdE l (14 + N + 4 * (i + 1)),mQ l (C.slc 3 0 1 0 N q0 false) (C.slc 4 0 3 0 (i) q false) nilC,rM l N q0,rG l N (i) q,.ob (.own [.c (uC (wI l (14 + N + 4 * i))),.c (iC (gI l (14 + N + 4 * i + 2))),.c (.v (.bool false))])] hl' ?_ rfl ?_
    ·exact wH
    refine wB ?_
    refine cT (decide_eq_true (by show (i + 1) * 24 ≤ 1099511627776; omega)) ?_
    refine wB ?_
    intro cap hc
    refine wB ?_
    rw [show ((G - i : Nat) : Int) - 1 = ((G - (i + 1) : Nat) : Int) by omega]
    refine ⟨(i + 1,[mZ,rdE l (14 + N + 4 * (i + 1)),mQ l (C.slc 3 0 1 0 N q0 false) (C.slc 4 0 3 0 (i + 1) cap false) nilC,rM l N q0,rG l N (i + 1) cap]),⟨.inr ⟨by show 1 ≤ i + 1; omega,by show i + 1 ≤ G; omega,cap,hc,rfl⟩,by show G - (i + 1) < G - i; omega⟩, ?_⟩
    conv=>whnf
    refine Le.nm [0,1,2,3,7] rfl ?_ ?_
    all_goals (repeat'(first|exact wZ|refine And.intro ?_ ?_))
    all_goals (intro x hx; first | exact row_up (f:=fun q=>msgL (pmG l (14 + N + 4 * q))) hx rfl | exact row_0 (f:=fun q=>msgL (pmG l (14 + N + 4 * q))) hx rfl)
   obtain rfl : G = i:=by omega
   refine wB ?_
   refine ⟨(2,[mZ,rdE l (14 + N + 4 * G),mQ l (C.slc 3 0 1 0 N q0 false) (C.slc 4 0 3 0 G q false) nilC,rM l N q0,rG l N G q]),⟨.inr (.inr (.inr (.inr (.inr (.inr (.inl (⟨rfl,z0,hi1,q0,hq0,q,hq,rfl⟩))))))),by show 3 - 2 < 3 - 1; omega⟩, ?_⟩
   conv=>whnf
   refine Le.id rfl ?_ ?_
   all_goals (repeat'(first|exact wZ|refine And.intro ?_ ?_))
 ·
  refine wB ?_
  refine one_at (n:=1) (k:=14 + N + 4 * G) (15 + N + 4 * G + 8 * 0) (by omega) [mZ,rdE l (15 + N + 4 * G + 8 * 0),mQ l nilC nilC nilC] hl' ?_ rfl ?_
  ·exact wH
  rw [hW]
  refine wB ?_
  refine .inv (fun p : Nat × Heap=>(p.1 = 0 ∧ p.2 = [mZ,rdE l (15 + N + 4 * G + 8 * 0),mQ l nilC nilC nilC]) ∨ (1 ≤ p.1 ∧ p.1 ≤ W ∧ ∃ q,p.1 ≤ q ∧ p.2 = [mZ,rdE l (15 + N + 4 * G + 8 * p.1),mQ l nilC nilC (C.slc 3 0 6 0 (p.1) q false),rW l N G (p.1) q])) (fun p=>[(5,iv .i64 (W - p.1 : Nat))]) (fun p=>p.2) (fun p=>W - p.1) (0,[mZ,rdE l (15 + N + 4 * G + 8 * 0),mQ l nilC nilC nilC]) (.inl ⟨rfl,rfl⟩) ?_ (fun p hP=>?_)
  ·conv=>whnf
   refine Le.id rfl ?_ ?_
   all_goals (repeat'(first|exact wZ|refine And.intro ?_ ?_))
  generalize p.1 = i at *
  generalize p.2 = hp at *
  rcases hP with ⟨rfl,rfl⟩ | ⟨hi1,hi2,q,hq,rfl⟩
  ·conv=>whnf
   refine cD (fun h=>?_) (fun h=>?_)
   ·refine wB ?_
    refine cD (fun hbad=>?_) (fun hbad=>?_)
    ·refine wB ?_
     exact par_no (pOk_no (k:=15 + N + 4 * G + 8 * 0) (by omega) (by omega))
    have b0:=gI_bd l (15 + N + 4 * G + 8 * 0)
    have b1:=wI_bd l (15 + N + 4 * G + 8 * 0 + 1)
    have b2:=wI_bd l (15 + N + 4 * G + 8 * 0 + 3)
    have b3:=gI_bd l (15 + N + 4 * G + 8 * 0 + 5)
    have b4:=gI_bd l (15 + N + 4 * G + 8 * 0 + 6)
    have b5:=gI_bd l (15 + N + 4 * G + 8 * 0 + 7)
    refine wB ?_
    refine one_at (n:=1) (k:=15 + N + 4 * G + 8 * 0) (15 + N + 4 * G + 8 * 0 + 1) (by omega) [mZ,rdE l (15 + N + 4 * G + 8 * 0 + 1),mQ l nilC nilC nilC,.ob (.own [.c (iC 0),.c (iC 0),.c (iC 0),.c (iC 0),.c (iC 0),.c (iC 0)])] hl' ?_ rfl ?_
    ·exact wH
    refine wB ?_
    refine two_at (n:=1) (k:=15 + N + 4 * G + 8 * 0 + 1) (15 + N + 4 * G + 8 * 0 + 3) (by omega) [mZ,rdE l (15 + N + 4 * G + 8 * 0 + 3),mQ l nilC nilC nilC,.ob (.own [.c (iC (gI l (15 + N + 4 * G + 8 * 0))),.c (iC 0),.c (iC 0),.c (iC 0),.c (iC 0),.c (iC 0)])] hl' ?_ rfl ?_
    ·exact wH
    refine wB ?_
    refine two_at (n:=1) (k:=15 + N + 4 * G + 8 * 0 + 3) (15 + N + 4 * G + 8 * 0 + 5) (by omega) [mZ,rdE l (15 + N + 4 * G + 8 * 0 + 5),mQ l nilC nilC nilC,.ob (.own [.c (iC (gI l (15 + N + 4 * G + 8 * 0))),.c (iC (wI l (15 + N + 4 * G + 8 * 0 + 1))),.c (iC 0),.c (iC 0),.c (iC 0),.c (iC 0)])] hl' ?_ rfl ?_
    ·exact wH
    refine wB ?_
    refine one_at (n:=1) (k:=15 + N + 4 * G + 8 * 0 + 5) (15 + N + 4 * G + 8 * 0 + 6) (by omega) [mZ,rdE l (15 + N + 4 * G + 8 * 0 + 6),mQ l nilC nilC nilC,.ob (.own [.c (iC (gI l (15 + N + 4 * G + 8 * 0))),.c (iC (wI l (15 + N + 4 * G + 8 * 0 + 1))),.c (iC (wI l (15 + N + 4 * G + 8 * 0 + 3))),.c (iC 0),.c (iC 0),.c (iC 0)])] hl' ?_ rfl ?_
    ·exact wH
    refine wB ?_
    refine one_at (n:=1) (k:=15 + N + 4 * G + 8 * 0 + 6) (15 + N + 4 * G + 8 * 0 + 7) (by omega) [mZ,rdE l (15 + N + 4 * G + 8 * 0 + 7),mQ l nilC nilC nilC,.ob (.own [.c (iC (gI l (15 + N + 4 * G + 8 * 0))),.c (iC (wI l (15 + N + 4 * G + 8 * 0 + 1))),.c (iC (wI l (15 + N + 4 * G + 8 * 0 + 3))),.c (iC (gI l (15 + N + 4 * G + 8 * 0 + 5))),.c (iC 0),.c (iC 0)])] hl' ?_ rfl ?_
    ·exact wH
    refine wB ?_
    refine one_at (n:=1) (k:=15 + N + 4 * G + 8 * 0 + 7) (15 + N + 4 * G + 8 * (0 + 1)) (by omega) [mZ,rdE l (15 + N + 4 * G + 8 * (0 + 1)),mQ l nilC nilC nilC,.ob (.own [.c (iC (gI l (15 + N + 4 * G + 8 * 0))),.c (iC (wI l (15 + N + 4 * G + 8 * 0 + 1))),.c (iC (wI l (15 + N + 4 * G + 8 * 0 + 3))),.c (iC (gI l (15 + N + 4 * G + 8 * 0 + 5))),.c (iC (gI l (15 + N + 4 * G + 8 * 0 + 6))),.c (iC 0)])] hl' ?_ rfl ?_
    ·exact wH
    refine wB ?_
    intro cap hc
    refine wB ?_
    rw [show ((W - 0 : Nat) : Int) - 1 = ((W - (0 + 1) : Nat) : Int) by omega]
    refine ⟨(0 + 1,[mZ,rdE l (15 + N + 4 * G + 8 * (0 + 1)),mQ l nilC nilC (C.slc 3 0 6 0 (0 + 1) cap false),rW l N G (0 + 1) cap]),⟨.inr ⟨by show 1 ≤ 0 + 1; omega,by show 0 + 1 ≤ W; omega,cap,hc,rfl⟩,by show W - (0 + 1) < W - 0; omega⟩, ?_⟩
    conv=>whnf
    refine Le.nm [0,1,2,5] rfl ?_ ?_
    all_goals (repeat'(first|exact wZ|refine And.intro ?_ ?_))
    all_goals (intro x hx; first | exact row_up (f:=fun q=>winL (pmW l (15 + N + 4 * G + 8 * q))) hx rfl | exact row_0 (f:=fun q=>winL (pmW l (15 + N + 4 * G + 8 * q))) hx rfl)
   obtain rfl : W = 0:=by omega
   refine wB ?_
   refine ⟨(3,[mZ,rdE l (15 + N + 4 * G + 8 * 0),mQ l nilC nilC nilC]),⟨.inr (.inr (.inr (.inr (.inr (.inr (.inr (.inl (⟨rfl,z0,z1,rfl,rfl⟩)))))))),by show 3 - 3 < 3 - 2; omega⟩, ?_⟩
   conv=>whnf
   refine Le.id rfl ?_ ?_
   all_goals (repeat'(first|exact wZ|refine And.intro ?_ ?_))
  ·conv=>whnf
   refine cD (fun h=>?_) (fun h=>?_)
   ·refine wB ?_
    refine cD (fun hbad=>?_) (fun hbad=>?_)
    ·refine wB ?_
     exact par_no (pOk_no (k:=15 + N + 4 * G + 8 * i) (by omega) (by omega))
    have b0:=gI_bd l (15 + N + 4 * G + 8 * i)
    have b1:=wI_bd l (15 + N + 4 * G + 8 * i + 1)
    have b2:=wI_bd l (15 + N + 4 * G + 8 * i + 3)
    have b3:=gI_bd l (15 + N + 4 * G + 8 * i + 5)
    have b4:=gI_bd l (15 + N + 4 * G + 8 * i + 6)
    have b5:=gI_bd l (15 + N + 4 * G + 8 * i + 7)
    refine wB ?_
    refine one_at (n:=1) (k:=15 + N + 4 * G + 8 * i) (15 + N + 4 * G + 8 * i + 1) (by omega) [mZ,rdE l (15 + N + 4 * G + 8 * i + 1),mQ l nilC nilC (C.slc 3 0 6 0 (i) q false),rW l N G (i) q,.ob (.own [.c (iC 0),.c (iC 0),.c (iC 0),.c (iC 0),.c (iC 0),.c (iC 0)])] hl' ?_ rfl ?_
    ·exact wH
    refine wB ?_
    refine two_at (n:=1) (k:=15 + N + 4 * G + 8 * i + 1) (15 + N + 4 * G + 8 * i + 3) (by omega) [mZ,rdE l (15 + N + 4 * G + 8 * i + 3),mQ l nilC nilC (C.slc 3 0 6 0 (i) q false),rW l N G (i) q,.ob (.own [.c (iC (gI l (15 + N + 4 * G + 8 * i))),.c (iC 0),.c (iC 0),.c (iC 0),.c (iC 0),.c (iC 0)])] hl' ?_ rfl ?_
    ·exact wH
    refine wB ?_
    refine two_at (n:=1) (k:=15 + N + 4 * G + 8 * i + 3) (15 + N + 4 * G + 8 * i + 5) (by omega) [mZ,rdE l (15 + N + 4 * G + 8 * i + 5),mQ l nilC nilC (C.slc 3 0 6 0 (i) q false),rW l N G (i) q,.ob (.own [.c (iC (gI l (15 + N + 4 * G + 8 * i))),.c (iC (wI l (15 + N + 4 * G + 8 * i + 1))),.c (iC 0),.c (iC 0),.c (iC 0),.c (iC 0)])] hl' ?_ rfl ?_
    ·exact wH
    refine wB ?_
    refine one_at (n:=1) (k:=15 + N + 4 * G + 8 * i + 5) (15 + N + 4 * G + 8 * i + 6) (by omega) [mZ,rdE l (15 + N + 4 * G + 8 * i + 6),mQ l nilC nilC (C.slc 3 0 6 0 (i) q false),rW l N G (i) q,.ob (.own [.c (iC (gI l (15 + N + 4 * G + 8 * i))),.c (iC (wI l (15 + N + 4 * G + 8 * i + 1))),.c (iC (wI l (15 + N + 4 * G + 8 * i + 3))),.c (iC 0),.c (iC 0),.c (iC 0)])] hl' ?_ rfl ?_
    ·exact wH
    refine wB ?_
    refine one_at (n:=1) (k:=15 + N + 4 * G + 8 * i + 6) (15 + N + 4 * G + 8 * i + 7) (by omega) [mZ,rdE l (15 + N + 4 * G + 8 * i + 7),mQ l nilC nilC (C.slc 3 0 6 0 (i) q false),rW l N G (i) q,.ob (.own [.c (iC (gI l (15 + N + 4 * G + 8 * i))),.c (iC (wI l (15 + N + 4 * G + 8 * i + 1))),.c (iC (wI l (15 + N + 4 * G + 8 * i + 3))),.c (iC (gI l (15 + N + 4 * G + 8 * i + 5))),.c (iC 0),.c (iC 0)])] hl' ?_ rfl ?_
    ·exact wH
    refine wB ?_
    refine one_at (n:=1) (k:=15 + N + 4 * G + 8 * i + 7) (15 + N + 4 * G + 8 * (i + 1)) (by omega) [mZ,rdE l (15 + N + 4 * G + 8 * (i + 1)),mQ l nilC nilC (C.slc 3 0 6 0 (i) q false),rW l N G (i) q,.ob (.own [.c (iC (gI l (15 + N + 4 * G + 8 * i))),.c (iC (wI l (15 + N + 4 * G + 8 * i + 1))),.c (iC (wI l (15 + N + 4 * G + 8 * i + 3))),.c (iC (gI l (15 + N + 4 * G + 8 * i + 5))),.c (iC (gI l (15 + N + 4 * G + 8 * i + 6))),.c (iC 0)])] hl' ?_ rfl ?_
    ·exact wH
    refine wB ?_
    refine cT (decide_eq_true (by show (i + 1) * 48 ≤ 1099511627776; omega)) ?_
    refine wB ?_
    intro cap hc
    refine wB ?_
    rw [show ((W - i : Nat) : Int) - 1 = ((W - (i + 1) : Nat) : Int) by omega]
    refine ⟨(i + 1,[mZ,rdE l (15 + N + 4 * G + 8 * (i + 1)),mQ l nilC nilC (C.slc 3 0 6 0 (i + 1) cap false),rW l N G (i + 1) cap]),⟨.inr ⟨by show 1 ≤ i + 1; omega,by show i + 1 ≤ W; omega,cap,hc,rfl⟩,by show W - (i + 1) < W - i; omega⟩, ?_⟩
    conv=>whnf
    refine Le.nm [0,1,2,6] rfl ?_ ?_
    all_goals (repeat'(first|exact wZ|refine And.intro ?_ ?_))
    all_goals (intro x hx; first | exact row_up (f:=fun q=>winL (pmW l (15 + N + 4 * G + 8 * q))) hx rfl | exact row_0 (f:=fun q=>winL (pmW l (15 + N + 4 * G + 8 * q))) hx rfl)
   obtain rfl : W = i:=by omega
   refine wB ?_
   refine ⟨(3,[mZ,rdE l (15 + N + 4 * G + 8 * W),mQ l nilC nilC (C.slc 3 0 6 0 W q false),rW l N G W q]),⟨.inr (.inr (.inr (.inr (.inr (.inr (.inr (.inr (.inl (⟨rfl,z0,z1,hi1,q,hq,rfl⟩))))))))),by show 3 - 3 < 3 - 2; omega⟩, ?_⟩
   conv=>whnf
   refine Le.id rfl ?_ ?_
   all_goals (repeat'(first|exact wZ|refine And.intro ?_ ?_))
 ·
  refine wB ?_
  refine one_at (n:=1) (k:=14 + N + 4 * G) (15 + N + 4 * G + 8 * 0) (by omega) [mZ,rdE l (15 + N + 4 * G + 8 * 0),mQ l nilC (C.slc 3 0 3 0 G q1 false) nilC,rG l N G q1] hl' ?_ rfl ?_
  ·exact wH
  rw [hW]
  refine wB ?_
  refine .inv (fun p : Nat × Heap=>(p.1 = 0 ∧ p.2 = [mZ,rdE l (15 + N + 4 * G + 8 * 0),mQ l nilC (C.slc 3 0 3 0 G q1 false) nilC,rG l N G q1]) ∨ (1 ≤ p.1 ∧ p.1 ≤ W ∧ ∃ q,p.1 ≤ q ∧ p.2 = [mZ,rdE l (15 + N + 4 * G + 8 * p.1),mQ l nilC (C.slc 3 0 3 0 G q1 false) (C.slc 4 0 6 0 (p.1) q false),rG l N G q1,rW l N G (p.1) q])) (fun p=>[(5,iv .i64 (W - p.1 : Nat))]) (fun p=>p.2) (fun p=>W - p.1) (0,[mZ,rdE l (15 + N + 4 * G + 8 * 0),mQ l nilC (C.slc 3 0 3 0 G q1 false) nilC,rG l N G q1]) (.inl ⟨rfl,rfl⟩) ?_ (fun p hP=>?_)
  ·conv=>whnf
   refine Le.id rfl ?_ ?_
   all_goals (repeat'(first|exact wZ|refine And.intro ?_ ?_))
  generalize p.1 = i at *
  generalize p.2 = hp at *
  rcases hP with ⟨rfl,rfl⟩ | ⟨hi1,hi2,q,hq,rfl⟩
  ·conv=>whnf
   refine cD (fun h=>?_) (fun h=>?_)
   ·refine wB ?_
    refine cD (fun hbad=>?_) (fun hbad=>?_)
    ·refine wB ?_
     exact par_no (pOk_no (k:=15 + N + 4 * G + 8 * 0) (by omega) (by omega))
    have b0:=gI_bd l (15 + N + 4 * G + 8 * 0)
    have b1:=wI_bd l (15 + N + 4 * G + 8 * 0 + 1)
    have b2:=wI_bd l (15 + N + 4 * G + 8 * 0 + 3)
    have b3:=gI_bd l (15 + N + 4 * G + 8 * 0 + 5)
    have b4:=gI_bd l (15 + N + 4 * G + 8 * 0 + 6)
    have b5:=gI_bd l (15 + N + 4 * G + 8 * 0 + 7)
    refine wB ?_
    refine one_at (n:=1) (k:=15 + N + 4 * G + 8 * 0) (15 + N + 4 * G + 8 * 0 + 1) (by omega) [mZ,rdE l (15 + N + 4 * G + 8 * 0 + 1),mQ l nilC (C.slc 3 0 3 0 G q1 false) nilC,rG l N G q1,.ob (.own [.c (iC 0),.c (iC 0),.c (iC 0),.c (iC 0),.c (iC 0),.c (iC 0)])] hl' ?_ rfl ?_
    ·exact wH
    refine wB ?_
    refine two_at (n:=1) (k:=15 + N + 4 * G + 8 * 0 + 1) (15 + N + 4 * G + 8 * 0 + 3) (by omega) [mZ,rdE l (15 + N + 4 * G + 8 * 0 + 3),mQ l nilC (C.slc 3 0 3 0 G q1 false) nilC,rG l N G q1,.ob (.own [.c (iC (gI l (15 + N + 4 * G + 8 * 0))),.c (iC 0),.c (iC 0),.c (iC 0),.c (iC 0),.c (iC 0)])] hl' ?_ rfl ?_
    ·exact wH
    refine wB ?_
    refine two_at (n:=1) (k:=15 + N + 4 * G + 8 * 0 + 3) (15 + N + 4 * G + 8 * 0 + 5) (by omega) [mZ,rdE l (15 + N + 4 * G + 8 * 0 + 5),mQ l nilC (C.slc 3 0 3 0 G q1 false) nilC,rG l N G q1,.ob (.own [.c (iC (gI l (15 + N + 4 * G + 8 * 0))),.c (iC (wI l (15 + N + 4 * G + 8 * 0 + 1))),.c (iC 0),.c (iC 0),.c (iC 0),.c (iC 0)])] hl' ?_ rfl ?_
    ·exact wH
    refine wB ?_
    refine one_at (n:=1) (k:=15 + N + 4 * G + 8 * 0 + 5) (15 + N + 4 * G + 8 * 0 + 6) (by omega) [mZ,rdE l (15 + N + 4 * G + 8 * 0 + 6),mQ l nilC (C.slc 3 0 3 0 G q1 false) nilC,rG l N G q1,.ob (.own [.c (iC (gI l (15 + N + 4 * G + 8 * 0))),.c (iC (wI l (15 + N + 4 * G + 8 * 0 + 1))),.c (iC (wI l (15 + N + 4 * G + 8 * 0 + 3))),.c (iC 0),.c (iC 0),.c (iC 0)])] hl' ?_ rfl ?_
    ·exact wH
    refine wB ?_
    refine one_at (n:=1) (k:=15 + N + 4 * G + 8 * 0 + 6) (15 + N + 4 * G + 8 * 0 + 7) (by omega) [mZ,rdE l (15 + N + 4 * G + 8 * 0 + 7),mQ l nilC (C.slc 3 0 3 0 G q1 false) nilC,rG l N G q1,.ob (.own [.c (iC (gI l (15 + N + 4 * G + 8 * 0))),.c (iC (wI l (15 + N + 4 * G + 8 * 0 + 1))),.c (iC (wI l (15 + N + 4 * G + 8 * 0 + 3))),.c (iC (gI l (15 + N + 4 * G + 8 * 0 + 5))),.c (iC 0),.c (iC 0)])] hl' ?_ rfl ?_
    ·exact wH
    refine wB ?_
    refine one_at (n:=1) (k:=15 + N + 4 * G + 8 * 0 + 7) (15 + N + 4 * G + 8 * (0 + 1)) (by omega) [mZ,rdE l (15 + N + 4 * G + 8 * (0 + 1)),mQ l nilC (C.slc 3 0 3 0 G q1 false) nilC,rG l N G q1,.ob (.own [.c (iC (gI l (15 + N + 4 * G + 8 * 0))),.c (iC (wI l (15 + N + 4 * G + 8 * 0 + 1))),.c (iC (wI l (15 + N + 4 * G + 8 * 0 + 3))),.c (iC (gI l (15 + N + 4 * G + 8 * 0 + 5))),.c (iC (gI l (15 + N + 4 * G + 8 * 0 + 6))),.c (iC 0)])] hl' ?_ rfl ?_
    ·exact wH
    refine wB ?_
    intro cap hc
    refine wB ?_
    rw [show ((W - 0 : Nat) : Int) - 1 = ((W - (0 + 1) : Nat) : Int) by omega]
    refine ⟨(0 + 1,[mZ,rdE l (15 + N + 4 * G + 8 * (0 + 1)),mQ l nilC (C.slc 3 0 3 0 G q1 false) (C.slc 4 0 6 0 (0 + 1) cap false),rG l N G q1,rW l N G (0 + 1) cap]),⟨.inr ⟨by show 1 ≤ 0 + 1; omega,by show 0 + 1 ≤ W; omega,cap,hc,rfl⟩,by show W - (0 + 1) < W - 0; omega⟩, ?_⟩
    conv=>whnf
    refine Le.nm [0,1,2,3,6] rfl ?_ ?_
    all_goals (repeat'(first|exact wZ|refine And.intro ?_ ?_))
    all_goals (intro x hx; first | exact row_up (f:=fun q=>winL (pmW l (15 + N + 4 * G + 8 * q))) hx rfl | exact row_0 (f:=fun q=>winL (pmW l (15 + N + 4 * G + 8 * q))) hx rfl)
   obtain rfl : W = 0:=by omega
   refine wB ?_
   refine ⟨(3,[mZ,rdE l (15 + N + 4 * G + 8 * 0),mQ l nilC (C.slc 3 0 3 0 G q1 false) nilC,rG l N G q1]),⟨.inr (.inr (.inr (.inr (.inr (.inr (.inr (.inr (.inr (.inl (⟨rfl,z0,z1,rfl,q1,hq1,rfl⟩)))))))))),by show 3 - 3 < 3 - 2; omega⟩, ?_⟩
   conv=>whnf
   refine Le.id rfl ?_ ?_
   all_goals (repeat'(first|exact wZ|refine And.intro ?_ ?_))
  ·conv=>whnf
   refine cD (fun h=>?_) (fun h=>?_)
   ·refine wB ?_
    refine cD (fun hbad=>?_) (fun hbad=>?_)
    ·refine wB ?_
     exact par_no (pOk_no (k:=15 + N + 4 * G + 8 * i) (by omega) (by omega))
    have b0:=gI_bd l (15 + N + 4 * G + 8 * i)
    have b1:=wI_bd l (15 + N + 4 * G + 8 * i + 1)
    have b2:=wI_bd l (15 + N + 4 * G + 8 * i + 3)
    have b3:=gI_bd l (15 + N + 4 * G + 8 * i + 5)
    have b4:=gI_bd l (15 + N + 4 * G + 8 * i + 6)
    have b5:=gI_bd l (15 + N + 4 * G + 8 * i + 7)
    refine wB ?_
    refine one_at (n:=1) (k:=15 + N + 4 * G + 8 * i) (15 + N + 4 * G + 8 * i + 1) (by omega) [mZ,rdE l (15 + N + 4 * G + 8 * i + 1),mQ l nilC (C.slc 3 0 3 0 G q1 false) (C.slc 4 0 6 0 (i) q false),rG l N G q1,rW l N G (i) q,.ob (.own [.c (iC 0),.c (iC 0),.c (iC 0),.c (iC 0),.c (iC 0),.c (iC 0)])] hl' ?_ rfl ?_
    ·exact wH
    refine wB ?_
    refine two_at (n:=1) (k:=15 + N + 4 * G + 8 * i + 1) (15 + N + 4 * G + 8 * i + 3) (by omega) [mZ,rdE l (15 + N + 4 * G + 8 * i + 3),mQ l nilC (C.slc 3 0 3 0 G q1 false) (C.slc 4 0 6 0 (i) q false),rG l N G q1,rW l N G (i) q,.ob (.own [.c (iC (gI l (15 + N + 4 * G + 8 * i))),.c (iC 0),.c (iC 0),.c (iC 0),.c (iC 0),.c (iC 0)])] hl' ?_ rfl ?_
    ·exact wH
    refine wB ?_
    refine two_at (n:=1) (k:=15 + N + 4 * G + 8 * i + 3) (15 + N + 4 * G + 8 * i + 5) (by omega) [mZ,rdE l (15 + N + 4 * G + 8 * i + 5),mQ l nilC (C.slc 3 0 3 0 G q1 false) (C.slc 4 0 6 0 (i) q false),rG l N G q1,rW l N G (i) q,.ob (.own [.c (iC (gI l (15 + N + 4 * G + 8 * i))),.c (iC (wI l (15 + N + 4 * G + 8 * i + 1))),.c (iC 0),.c (iC 0),.c (iC 0),.c (iC 0)])] hl' ?_ rfl ?_
    ·exact wH
    refine wB ?_
    refine one_at (n:=1) (k:=15 + N + 4 * G + 8 * i + 5) (15 + N + 4 * G + 8 * i + 6) (by omega) [mZ,rdE l (15 + N + 4 * G + 8 * i + 6),mQ l nilC (C.slc 3 0 3 0 G q1 false) (C.slc 4 0 6 0 (i) q false),rG l N G q1,rW l N G (i) q,.ob (.own [.c (iC (gI l (15 + N + 4 * G + 8 * i))),.c (iC (wI l (15 + N + 4 * G + 8 * i + 1))),.c (iC (wI l (15 + N + 4 * G + 8 * i + 3))),.c (iC 0),.c (iC 0),.c (iC 0)])] hl' ?_ rfl ?_
    ·exact wH
    refine wB ?_
    refine one_at (n:=1) (k:=15 + N + 4 * G + 8 * i + 6) (15 + N + 4 * G + 8 * i + 7) (by omega) [mZ,rdE l (15 + N + 4 * G + 8 * i + 7),mQ l nilC (C.slc 3 0 3 0 G q1 false) (C.slc 4 0 6 0 (i) q false),rG l N G q1,rW l N G (i) q,.ob (.own [.c (iC (gI l (15 + N + 4 * G + 8 * i))),.c (iC (wI l (15 + N + 4 * G + 8 * i + 1))),.c (iC (wI l (15 + N + 4 * G + 8 * i + 3))),.c (iC (gI l (15 + N + 4 * G + 8 * i + 5))),.c (iC 0),.c (iC 0)])] hl' ?_ rfl ?_
    ·exact wH
    refine wB ?_
    refine one_at (n:=1) (k:=15 + N + 4 * G + 8 * i + 7) (15 + N + 4 * G + 8 * (i + 1)) (by omega) [mZ,rdE l (15 + N + 4 * G + 8 * (i + 1)),mQ l nilC (C.slc 3 0 3 0 G q1 false) (C.slc 4 0 6 0 (i) q false),rG l N G q1,rW l N G (i) q,.ob (.own [.c (iC (gI l (15 + N + 4 * G + 8 * i))),.c (iC (wI l (15 + N + 4 * G + 8 * i + 1))),.c (iC (wI l (15 + N + 4 * G + 8 * i + 3))),.c (iC (gI l (15 + N + 4 * G + 8 * i + 5))),.c (iC (gI l (15 + N + 4 * G + 8 * i + 6))),.c (iC 0)])] hl' ?_ rfl ?_
    ·exact wH
    refine wB ?_
    refine cT (decide_eq_true (by show (i + 1) * 48 ≤ 1099511627776; omega)) ?_
    refine wB ?_
    intro cap hc
    refine wB ?_
    rw [show ((W - i : Nat) : Int) - 1 = ((W - (i + 1) : Nat) : Int) by omega]
    refine ⟨(i + 1,[mZ,rdE l (15 + N + 4 * G + 8 * (i + 1)),mQ l nilC (C.slc 3 0 3 0 G q1 false) (C.slc 4 0 6 0 (i + 1) cap false),rG l N G q1,rW l N G (i + 1) cap]),⟨.inr ⟨by show 1 ≤ i + 1; omega,by show i + 1 ≤ W; omega,cap,hc,rfl⟩,by show W - (i + 1) < W - i; omega⟩, ?_⟩
    conv=>whnf
    refine Le.nm [0,1,2,3,7] rfl ?_ ?_
    all_goals (repeat'(first|exact wZ|refine And.intro ?_ ?_))
    all_goals (intro x hx; first | exact row_up (f:=fun q=>winL (pmW l (15 + N + 4 * G + 8 * q))) hx rfl | exact row_0 (f:=fun q=>winL (pmW l (15 + N + 4 * G + 8 * q))) hx rfl)
   obtain rfl : W = i:=by omega
   refine wB ?_
   refine ⟨(3,[mZ,rdE l (15 + N + 4 * G + 8 * W),mQ l nilC (C.slc 3 0 3 0 G q1 false) (C.slc 4 0 6 0 W q false),rG l N G q1,rW l N G W q]),⟨.inr (.inr (.inr (.inr (.inr (.inr (.inr (.inr (.inr (.inr (.inl (⟨rfl,z0,z1,hi1,q1,hq1,q,hq,rfl⟩))))))))))),by show 3 - 3 < 3 - 2; omega⟩, ?_⟩
   conv=>whnf
   refine Le.id rfl ?_ ?_
   all_goals (repeat'(first|exact wZ|refine And.intro ?_ ?_))
 ·
  refine wB ?_
  refine one_at (n:=1) (k:=14 + N + 4 * G) (15 + N + 4 * G + 8 * 0) (by omega) [mZ,rdE l (15 + N + 4 * G + 8 * 0),mQ l (C.slc 3 0 1 0 N q0 false) nilC nilC,rM l N q0] hl' ?_ rfl ?_
  ·exact wH
  rw [hW]
  refine wB ?_
  refine .inv (fun p : Nat × Heap=>(p.1 = 0 ∧ p.2 = [mZ,rdE l (15 + N + 4 * G + 8 * 0),mQ l (C.slc 3 0 1 0 N q0 false) nilC nilC,rM l N q0]) ∨ (1 ≤ p.1 ∧ p.1 ≤ W ∧ ∃ q,p.1 ≤ q ∧ p.2 = [mZ,rdE l (15 + N + 4 * G + 8 * p.1),mQ l (C.slc 3 0 1 0 N q0 false) nilC (C.slc 4 0 6 0 (p.1) q false),rM l N q0,rW l N G (p.1) q])) (fun p=>[(5,iv .i64 (W - p.1 : Nat))]) (fun p=>p.2) (fun p=>W - p.1) (0,[mZ,rdE l (15 + N + 4 * G + 8 * 0),mQ l (C.slc 3 0 1 0 N q0 false) nilC nilC,rM l N q0]) (.inl ⟨rfl,rfl⟩) ?_ (fun p hP=>?_)
  ·conv=>whnf
   refine Le.id rfl ?_ ?_
   all_goals (repeat'(first|exact wZ|refine And.intro ?_ ?_))
  generalize p.1 = i at *
  generalize p.2 = hp at *
  rcases hP with ⟨rfl,rfl⟩ | ⟨hi1,hi2,q,hq,rfl⟩
  ·conv=>whnf
   refine cD (fun h=>?_) (fun h=>?_)
   ·refine wB ?_
    refine cD (fun hbad=>?_) (fun hbad=>?_)
    ·refine wB ?_
     exact par_no (pOk_no (k:=15 + N + 4 * G + 8 * 0) (by omega) (by omega))
    have b0:=gI_bd l (15 + N + 4 * G + 8 * 0)
    have b1:=wI_bd l (15 + N + 4 * G + 8 * 0 + 1)
    have b2:=wI_bd l (15 + N + 4 * G + 8 * 0 + 3)
    have b3:=gI_bd l (15 + N + 4 * G + 8 * 0 + 5)
    have b4:=gI_bd l (15 + N + 4 * G + 8 * 0 + 6)
    have b5:=gI_bd l (15 + N + 4 * G + 8 * 0 + 7)
    refine wB ?_
    refine one_at (n:=1) (k:=15 + N + 4 * G + 8 * 0) (15 + N + 4 * G + 8 * 0 + 1) (by omega) [mZ,rdE l (15 + N + 4 * G + 8 * 0 + 1),mQ l (C.slc 3 0 1 0 N q0 false) nilC nilC,rM l N q0,.ob (.own [.c (iC 0),.c (iC 0),.c (iC 0),.c (iC 0),.c (iC 0),.c (iC 0)])] hl' ?_ rfl ?_
    ·exact wH
    refine wB ?_
    refine two_at (n:=1) (k:=15 + N + 4 * G + 8 * 0 + 1) (15 + N + 4 * G + 8 * 0 + 3) (by omega) [mZ,rdE l (15 + N + 4 * G + 8 * 0 + 3),mQ l (C.slc 3 0 1 0 N q0 false) nilC nilC,rM l N q0,.ob (.own [.c (iC (gI l (15 + N + 4 * G + 8 * 0))),.c (iC 0),.c (iC 0),.c (iC 0),.c (iC 0),.c (iC 0)])] hl' ?_ rfl ?_
    ·exact wH
    refine wB ?_
    refine two_at (n:=1) (k:=15 + N + 4 * G + 8 * 0 + 3) (15 + N + 4 * G + 8 * 0 + 5) (by omega) [mZ,rdE l (15 + N + 4 * G + 8 * 0 + 5),mQ l (C.slc 3 0 1 0 N q0 false) nilC nilC,rM l N q0,.ob (.own [.c (iC (gI l (15 + N + 4 * G + 8 * 0))),.c (iC (wI l (15 + N + 4 * G + 8 * 0 + 1))),.c (iC 0),.c (iC 0),.c (iC 0),.c (iC 0)])] hl' ?_ rfl ?_
    ·exact wH
    refine wB ?_
    refine one_at (n:=1) (k:=15 + N + 4 * G + 8 * 0 + 5) (15 + N + 4 * G + 8 * 0 + 6) (by omega) [mZ,rdE l (15 + N + 4 * G + 8 * 0 + 6),mQ l (C.slc 3 0 1 0 N q0 false) nilC nilC,rM l N q0,.ob (.own [.c (iC (gI l (15 + N + 4 * G + 8 * 0))),.c (iC (wI l (15 + N + 4 * G + 8 * 0 + 1))),.c (iC (wI l (15 + N + 4 * G + 8 * 0 + 3))),.c (iC 0),.c (iC 0),.c (iC 0)])] hl' ?_ rfl ?_
    ·exact wH
    refine wB ?_
    refine one_at (n:=1) (k:=15 + N + 4 * G + 8 * 0 + 6) (15 + N + 4 * G + 8 * 0 + 7) (by omega) [mZ,rdE l (15 + N + 4 * G + 8 * 0 + 7),mQ l (C.slc 3 0 1 0 N q0 false) nilC nilC,rM l N q0,.ob (.own [.c (iC (gI l (15 + N + 4 * G + 8 * 0))),.c (iC (wI l (15 + N + 4 * G + 8 * 0 + 1))),.c (iC (wI l (15 + N + 4 * G + 8 * 0 + 3))),.c (iC (gI l (15 + N + 4 * G + 8 * 0 + 5))),.c (iC 0),.c (iC 0)])] hl' ?_ rfl ?_
    ·exact wH
    refine wB ?_
    refine one_at (n:=1) (k:=15 + N + 4 * G + 8 * 0 + 7) (15 + N + 4 * G + 8 * (0 + 1)) (by omega) [mZ,rdE l (15 + N + 4 * G + 8 * (0 + 1)),mQ l (C.slc 3 0 1 0 N q0 false) nilC nilC,rM l N q0,.ob (.own [.c (iC (gI l (15 + N + 4 * G + 8 * 0))),.c (iC (wI l (15 + N + 4 * G + 8 * 0 + 1))),.c (iC (wI l (15 + N + 4 * G + 8 * 0 + 3))),.c (iC (gI l (15 + N + 4 * G + 8 * 0 + 5))),.c (iC (gI l (15 + N + 4 * G + 8 * 0 + 6))),.c (iC 0)])] hl' ?_ rfl ?_
    ·exact wH
    refine wB ?_
    intro cap hc
    refine wB ?_
    rw [show ((W - 0 : Nat) : Int) - 1 = ((W - (0 + 1) : Nat) : Int) by omega]
    refine ⟨(0 + 1,[mZ,rdE l (15 + N + 4 * G + 8 * (0 + 1)),mQ l (C.slc 3 0 1 0 N q0 false) nilC (C.slc 4 0 6 0 (0 + 1) cap false),rM l N q0,rW l N G (0 + 1) cap]),⟨.inr ⟨by show 1 ≤ 0 + 1; omega,by show 0 + 1 ≤ W; omega,cap,hc,rfl⟩,by show W - (0 + 1) < W - 0; omega⟩, ?_⟩
    conv=>whnf
    refine Le.nm [0,1,2,3,6] rfl ?_ ?_
    all_goals (repeat'(first|exact wZ|refine And.intro ?_ ?_))
    all_goals (intro x hx; first | exact row_up (f:=fun q=>winL (pmW l (15 + N + 4 * G + 8 * q))) hx rfl | exact row_0 (f:=fun q=>winL (pmW l (15 + N + 4 * G + 8 * q))) hx rfl)
   obtain rfl : W = 0:=by omega
   refine wB ?_
   refine ⟨(3,[mZ,rdE l (15 + N + 4 * G + 8 * 0),mQ l (C.slc 3 0 1 0 N q0 false) nilC nilC,rM l N q0]),⟨.inr (.inr (.inr (.inr (.inr (.inr (.inr (.inr (.inr (.inr (.inr (.inl (⟨rfl,z0,z1,rfl,q0,hq0,rfl⟩)))))))))))),by show 3 - 3 < 3 - 2; omega⟩, ?_⟩
   conv=>whnf
   refine Le.id rfl ?_ ?_
   all_goals (repeat'(first|exact wZ|refine And.intro ?_ ?_))
  ·conv=>whnf
   refine cD (fun h=>?_) (fun h=>?_)
   ·refine wB ?_
    refine cD (fun hbad=>?_) (fun hbad=>?_)
    ·refine wB ?_
     exact par_no (pOk_no (k:=15 + N + 4 * G + 8 * i) (by omega) (by omega))
    have b0:=gI_bd l (15 + N + 4 * G + 8 * i)
    have b1:=wI_bd l (15 + N + 4 * G + 8 * i + 1)
    have b2:=wI_bd l (15 + N + 4 * G + 8 * i + 3)
    have b3:=gI_bd l (15 + N + 4 * G + 8 * i + 5)
    have b4:=gI_bd l (15 + N + 4 * G + 8 * i + 6)
    have b5:=gI_bd l (15 + N + 4 * G + 8 * i + 7)
    refine wB ?_
    refine one_at (n:=1) (k:=15 + N + 4 * G + 8 * i) (15 + N + 4 * G + 8 * i + 1) (by omega) [mZ,rdE l (15 + N + 4 * G + 8 * i + 1),mQ l (C.slc 3 0 1 0 N q0 false) nilC (C.slc 4 0 6 0 (i) q false),rM l N q0,rW l N G (i) q,.ob (.own [.c (iC 0),.c (iC 0),.c (iC 0),.c (iC 0),.c (iC 0),.c (iC 0)])] hl' ?_ rfl ?_
    ·exact wH
    refine wB ?_
    refine two_at (n:=1) (k:=15 + N + 4 * G + 8 * i + 1) (15 + N + 4 * G + 8 * i + 3) (by omega) [mZ,rdE l (15 + N + 4 * G + 8 * i + 3),mQ l (C.slc 3 0 1 0 N q0 false) nilC (C.slc 4 0 6 0 (i) q false),rM l N q0,rW l N G (i) q,.ob (.own [.c (iC (gI l (15 + N + 4 * G + 8 * i))),.c (iC 0),.c (iC 0),.c (iC 0),.c (iC 0),.c (iC 0)])] hl' ?_ rfl ?_
    ·exact wH
    refine wB ?_
    refine two_at (n:=1) (k:=15 + N + 4 * G + 8 * i + 3) (15 + N + 4 * G + 8 * i + 5) (by omega) [mZ,rdE l (15 + N + 4 * G + 8 * i + 5),mQ l (C.slc 3 0 1 0 N q0 false) nilC (C.slc 4 0 6 0 (i) q false),rM l N q0,rW l N G (i) q,.ob (.own [.c (iC (gI l (15 + N + 4 * G + 8 * i))),.c (iC (wI l (15 + N + 4 * G + 8 * i + 1))),.c (iC 0),.c (iC 0),.c (iC 0),.c (iC 0)])] hl' ?_ rfl ?_
    ·exact wH
    refine wB ?_
    refine one_at (n:=1) (k:=15 + N + 4 * G + 8 * i + 5) (15 + N + 4 * G + 8 * i + 6) (by omega) [mZ,rdE l (15 + N + 4 * G + 8 * i + 6),mQ l (C.slc 3 0 1 0 N q0 false) nilC (C.slc 4 0 6 0 (i) q false),rM l N q0,rW l N G (i) q,.ob (.own [.c (iC (gI l (15 + N + 4 * G + 8 * i))),.c (iC (wI l (15 + N + 4 * G + 8 * i + 1))),.c (iC (wI l (15 + N + 4 * G + 8 * i + 3))),.c (iC 0),.c (iC 0),.c (iC 0)])] hl' ?_ rfl ?_
    ·exact wH
    refine wB ?_
    refine one_at (n:=1) (k:=15 + N + 4 * G + 8 * i + 6) (15 + N + 4 * G + 8 * i + 7) (by omega) [mZ,rdE l (15 + N + 4 * G + 8 * i + 7),mQ l (C.slc 3 0 1 0 N q0 false) nilC (C.slc 4 0 6 0 (i) q false),rM l N q0,rW l N G (i) q,.ob (.own [.c (iC (gI l (15 + N + 4 * G + 8 * i))),.c (iC (wI l (15 + N + 4 * G + 8 * i + 1))),.c (iC (wI l (15 + N + 4 * G + 8 * i + 3))),.c (iC (gI l (15 + N + 4 * G + 8 * i + 5))),.c (iC 0),.c (iC 0)])] hl' ?_ rfl ?_
    ·exact wH
    refine wB ?_
    refine one_at (n:=1) (k:=15 + N + 4 * G + 8 * i + 7) (15 + N + 4 * G + 8 * (i + 1)) (by omega) [mZ,rdE l (15 + N + 4 * G + 8 * (i + 1)),mQ l (C.slc 3 0 1 0 N q0 false) nilC (C.slc 4 0 6 0 (i) q false),rM l N q0,rW l N G (i) q,.ob (.own [.c (iC (gI l (15 + N + 4 * G + 8 * i))),.c (iC (wI l (15 + N + 4 * G + 8 * i + 1))),.c (iC (wI l (15 + N + 4 * G + 8 * i + 3))),.c (iC (gI l (15 + N + 4 * G + 8 * i + 5))),.c (iC (gI l (15 + N + 4 * G + 8 * i + 6))),.c (iC 0)])] hl' ?_ rfl ?_
    ·exact wH
    refine wB ?_
    refine cT (decide_eq_true (by show (i + 1) * 48 ≤ 1099511627776; omega)) ?_
    refine wB ?_
    intro cap hc
    refine wB ?_
    rw [show ((W - i : Nat) : Int) - 1 = ((W - (i + 1) : Nat) : Int) by omega]
    refine ⟨(i + 1,[mZ,rdE l (15 + N + 4 * G + 8 * (i + 1)),mQ l (C.slc 3 0 1 0 N q0 false) nilC (C.slc 4 0 6 0 (i + 1) cap false),rM l N q0,rW l N G (i + 1) cap]),⟨.inr ⟨by show 1 ≤ i + 1; omega,by show i + 1 ≤ W; omega,cap,hc,rfl⟩,by show W - (i + 1) < W - i; omega⟩, ?_⟩
    conv=>whnf
    refine Le.nm [0,1,2,3,7] rfl ?_ ?_
    all_goals (repeat'(first|exact wZ|refine And.intro ?_ ?_))
    all_goals (intro x hx; first | exact row_up (f:=fun q=>winL (pmW l (15 + N + 4 * G + 8 * q))) hx rfl | exact row_0 (f:=fun q=>winL (pmW l (15 + N + 4 * G + 8 * q))) hx rfl)
   obtain rfl : W = i:=by omega
   refine wB ?_
   refine ⟨(3,[mZ,rdE l (15 + N + 4 * G + 8 * W),mQ l (C.slc 3 0 1 0 N q0 false) nilC (C.slc 4 0 6 0 W q false),rM l N q0,rW l N G W q]),⟨.inr (.inr (.inr (.inr (.inr (.inr (.inr (.inr (.inr (.inr (.inr (.inr (.inl (⟨rfl,z0,z1,hi1,q0,hq0,q,hq,rfl⟩))))))))))))),by show 3 - 3 < 3 - 2; omega⟩, ?_⟩
   conv=>whnf
   refine Le.id rfl ?_ ?_
   all_goals (repeat'(first|exact wZ|refine And.intro ?_ ?_))
 ·
  refine wB ?_
  refine one_at (n:=1) (k:=14 + N + 4 * G) (15 + N + 4 * G + 8 * 0) (by omega) [mZ,rdE l (15 + N + 4 * G + 8 * 0),mQ l (C.slc 3 0 1 0 N q0 false) (C.slc 4 0 3 0 G q1 false) nilC,rM l N q0,rG l N G q1] hl' ?_ rfl ?_
  ·exact wH
  rw [hW]
  refine wB ?_
  refine .inv (fun p : Nat × Heap=>(p.1 = 0 ∧ p.2 = [mZ,rdE l (15 + N + 4 * G + 8 * 0),mQ l (C.slc 3 0 1 0 N q0 false) (C.slc 4 0 3 0 G q1 false) nilC,rM l N q0,rG l N G q1]) ∨ (1 ≤ p.1 ∧ p.1 ≤ W ∧ ∃ q,p.1 ≤ q ∧ p.2 = [mZ,rdE l (15 + N + 4 * G + 8 * p.1),mQ l (C.slc 3 0 1 0 N q0 false) (C.slc 4 0 3 0 G q1 false) (C.slc 5 0 6 0 (p.1) q false),rM l N q0,rG l N G q1,rW l N G (p.1) q])) (fun p=>[(5,iv .i64 (W - p.1 : Nat))]) (fun p=>p.2) (fun p=>W - p.1) (0,[mZ,rdE l (15 + N + 4 * G + 8 * 0),mQ l (C.slc 3 0 1 0 N q0 false) (C.slc 4 0 3 0 G q1 false) nilC,rM l N q0,rG l N G q1]) (.inl ⟨rfl,rfl⟩) ?_ (fun p hP=>?_)
  ·conv=>whnf
   refine Le.id rfl ?_ ?_
   all_goals (repeat'(first|exact wZ|refine And.intro ?_ ?_))
  generalize p.1 = i at *
  generalize p.2 = hp at *
  rcases hP with ⟨rfl,rfl⟩ | ⟨hi1,hi2,q,hq,rfl⟩
  ·conv=>whnf
   refine cD (fun h=>?_) (fun h=>?_)
   ·refine wB ?_
    refine cD (fun hbad=>?_) (fun hbad=>?_)
    ·refine wB ?_
     exact par_no (pOk_no (k:=15 + N + 4 * G + 8 * 0) (by omega) (by omega))
    have b0:=gI_bd l (15 + N + 4 * G + 8 * 0)
    have b1:=wI_bd l (15 + N + 4 * G + 8 * 0 + 1)
    have b2:=wI_bd l (15 + N + 4 * G + 8 * 0 + 3)
    have b3:=gI_bd l (15 + N + 4 * G + 8 * 0 + 5)
    have b4:=gI_bd l (15 + N + 4 * G + 8 * 0 + 6)
    have b5:=gI_bd l (15 + N + 4 * G + 8 * 0 + 7)
    refine wB ?_
    refine one_at (n:=1) (k:=15 + N + 4 * G + 8 * 0) (15 + N + 4 * G + 8 * 0 + 1) (by omega) [mZ,rdE l (15 + N + 4 * G + 8 * 0 + 1),mQ l (C.slc 3 0 1 0 N q0 false) (C.slc 4 0 3 0 G q1 false) nilC,rM l N q0,rG l N G q1,.ob (.own [.c (iC 0),.c (iC 0),.c (iC 0),.c (iC 0),.c (iC 0),.c (iC 0)])] hl' ?_ rfl ?_
    ·exact wH
    refine wB ?_
    refine two_at (n:=1) (k:=15 + N + 4 * G + 8 * 0 + 1) (15 + N + 4 * G + 8 * 0 + 3) (by omega) [mZ,rdE l (15 + N + 4 * G + 8 * 0 + 3),mQ l (C.slc 3 0 1 0 N q0 false) (C.slc 4 0 3 0 G q1 false) nilC,rM l N q0,rG l N G q1,.ob (.own [.c (iC (gI l (15 + N + 4 * G + 8 * 0))),.c (iC 0),.c (iC 0),.c (iC 0),.c (iC 0),.c (iC 0)])] hl' ?_ rfl ?_
    ·exact wH
    refine wB ?_
    refine two_at (n:=1) (k:=15 + N + 4 * G + 8 * 0 + 3) (15 + N + 4 * G + 8 * 0 + 5) (by omega) [mZ,rdE l (15 + N + 4 * G + 8 * 0 + 5),mQ l (C.slc 3 0 1 0 N q0 false) (C.slc 4 0 3 0 G q1 false) nilC,rM l N q0,rG l N G q1,.ob (.own [.c (iC (gI l (15 + N + 4 * G + 8 * 0))),.c (iC (wI l (15 + N + 4 * G + 8 * 0 + 1))),.c (iC 0),.c (iC 0),.c (iC 0),.c (iC 0)])] hl' ?_ rfl ?_
    ·exact wH
    refine wB ?_
    refine one_at (n:=1) (k:=15 + N + 4 * G + 8 * 0 + 5) (15 + N + 4 * G + 8 * 0 + 6) (by omega) [mZ,rdE l (15 + N + 4 * G + 8 * 0 + 6),mQ l (C.slc 3 0 1 0 N q0 false) (C.slc 4 0 3 0 G q1 false) nilC,rM l N q0,rG l N G q1,.ob (.own [.c (iC (gI l (15 + N + 4 * G + 8 * 0))),.c (iC (wI l (15 + N + 4 * G + 8 * 0 + 1))),.c (iC (wI l (15 + N + 4 * G + 8 * 0 + 3))),.c (iC 0),.c (iC 0),.c (iC 0)])] hl' ?_ rfl ?_
    ·exact wH
    refine wB ?_
    refine one_at (n:=1) (k:=15 + N + 4 * G + 8 * 0 + 6) (15 + N + 4 * G + 8 * 0 + 7) (by omega) [mZ,rdE l (15 + N + 4 * G + 8 * 0 + 7),mQ l (C.slc 3 0 1 0 N q0 false) (C.slc 4 0 3 0 G q1 false) nilC,rM l N q0,rG l N G q1,.ob (.own [.c (iC (gI l (15 + N + 4 * G + 8 * 0))),.c (iC (wI l (15 + N + 4 * G + 8 * 0 + 1))),.c (iC (wI l (15 + N + 4 * G + 8 * 0 + 3))),.c (iC (gI l (15 + N + 4 * G + 8 * 0 + 5))),.c (iC 0),.c (iC 0)])] hl' ?_ rfl ?_
    ·exact wH
    refine wB ?_
    refine one_at (n:=1) (k:=15 + N + 4 * G + 8 * 0 + 7) (15 + N + 4 * G + 8 * (0 + 1)) (by omega) [mZ,rdE l (15 + N + 4 * G + 8 * (0 + 1)),mQ l (C.slc 3 0 1 0 N q0 false) (C.slc 4 0 3 0 G q1 false) nilC,rM l N q0,rG l N G q1,.ob (.own [.c (iC (gI l (15 + N + 4 * G + 8 * 0))),.c (iC (wI l (15 + N + 4 * G + 8 * 0 + 1))),.c (iC (wI l (15 + N + 4 * G + 8 * 0 + 3))),.c (iC (gI l (15 + N + 4 * G + 8 * 0 + 5))),.c (iC (gI l (15 + N + 4 * G + 8 * 0 + 6))),.c (iC 0)])] hl' ?_ rfl ?_
    ·exact wH
    refine wB ?_
    intro cap hc
    refine wB ?_
    rw [show ((W - 0 : Nat) : Int) - 1 = ((W - (0 + 1) : Nat) : Int) by omega]
    refine ⟨(0 + 1,[mZ,rdE l (15 + N + 4 * G + 8 * (0 + 1)),mQ l (C.slc 3 0 1 0 N q0 false) (C.slc 4 0 3 0 G q1 false) (C.slc 5 0 6 0 (0 + 1) cap false),rM l N q0,rG l N G q1,rW l N G (0 + 1) cap]),⟨.inr ⟨by show 1 ≤ 0 + 1; omega,by show 0 + 1 ≤ W; omega,cap,hc,rfl⟩,by show W - (0 + 1) < W - 0; omega⟩, ?_⟩
    conv=>whnf
    refine Le.nm [0,1,2,3,4,7] rfl ?_ ?_
    all_goals (repeat'(first|exact wZ|refine And.intro ?_ ?_))
    all_goals (intro x hx; first | exact row_up (f:=fun q=>winL (pmW l (15 + N + 4 * G + 8 * q))) hx rfl | exact row_0 (f:=fun q=>winL (pmW l (15 + N + 4 * G + 8 * q))) hx rfl)
   obtain rfl : W = 0:=by omega
   refine wB ?_
   refine ⟨(3,[mZ,rdE l (15 + N + 4 * G + 8 * 0),mQ l (C.slc 3 0 1 0 N q0 false) (C.slc 4 0 3 0 G q1 false) nilC,rM l N q0,rG l N G q1]),⟨.inr (.inr (.inr (.inr (.inr (.inr (.inr (.inr (.inr (.inr (.inr (.inr (.inr (.inl (⟨rfl,z0,z1,rfl,q0,hq0,q1,hq1,rfl⟩)))))))))))))),by show 3 - 3 < 3 - 2; omega⟩, ?_⟩
   conv=>whnf
   refine Le.id rfl ?_ ?_
   all_goals (repeat'(first|exact wZ|refine And.intro ?_ ?_))
  ·conv=>whnf
   refine cD (fun h=>?_) (fun h=>?_)
   ·refine wB ?_
    refine cD (fun hbad=>?_) (fun hbad=>?_)
    ·refine wB ?_
     exact par_no (pOk_no (k:=15 + N + 4 * G + 8 * i) (by omega) (by omega))
    have b0:=gI_bd l (15 + N + 4 * G + 8 * i)
    have b1:=wI_bd l (15 + N + 4 * G + 8 * i + 1)
    have b2:=wI_bd l (15 + N + 4 * G + 8 * i + 3)
    have b3:=gI_bd l (15 + N + 4 * G + 8 * i + 5)
    have b4:=gI_bd l (15 + N + 4 * G + 8 * i + 6)
    have b5:=gI_bd l (15 + N + 4 * G + 8 * i + 7)
    refine wB ?_
    refine one_at (n:=1) (k:=15 + N + 4 * G + 8 * i) (15 + N + 4 * G + 8 * i + 1) (by omega) [mZ,rdE l (15 + N + 4 * G + 8 * i + 1),mQ l (C.slc 3 0 1 0 N q0 false) (C.slc 4 0 3 0 G q1 false) (C.slc 5 0 6 0 (i) q false),rM l N q0,rG l N G q1,rW l N G (i) q,.ob (.own [.c (iC 0),.c (iC 0),.c (iC 0),.c (iC 0),.c (iC 0),.c (iC 0)])] hl' ?_ rfl ?_
    ·exact wH
    refine wB ?_
    refine two_at (n:=1) (k:=15 + N + 4 * G + 8 * i + 1) (15 + N + 4 * G + 8 * i + 3) (by omega) [mZ,rdE l (15 + N + 4 * G + 8 * i + 3),mQ l (C.slc 3 0 1 0 N q0 false) (C.slc 4 0 3 0 G q1 false) (C.slc 5 0 6 0 (i) q false),rM l N q0,rG l N G q1,rW l N G (i) q,.ob (.own [.c (iC (gI l (15 + N + 4 * G + 8 * i))),.c (iC 0),.c (iC 0),.c (iC 0),.c (iC 0),.c (iC 0)])] hl' ?_ rfl ?_
    ·exact wH
    refine wB ?_
    refine two_at (n:=1) (k:=15 + N + 4 * G + 8 * i + 3) (15 + N + 4 * G + 8 * i + 5) (by omega) [mZ,rdE l (15 + N + 4 * G + 8 * i + 5),mQ l (C.slc 3 0 1 0 N q0 false) (C.slc 4 0 3 0 G q1 false) (C.slc 5 0 6 0 (i) q false),rM l N q0,rG l N G q1,rW l N G (i) q,.ob (.own [.c (iC (gI l (15 + N + 4 * G + 8 * i))),.c (iC (wI l (15 + N + 4 * G + 8 * i + 1))),.c (iC 0),.c (iC 0),.c (iC 0),.c (iC 0)])] hl' ?_ rfl ?_
    ·exact wH
    refine wB ?_
    refine one_at (n:=1) (k:=15 + N + 4 * G + 8 * i + 5) (15 + N + 4 * G + 8 * i + 6) (by omega) [mZ,rdE l (15 + N + 4 * G + 8 * i + 6),mQ l (C.slc 3 0 1 0 N q0 false) (C.slc 4 0 3 0 G q1 false) (C.slc 5 0 6 0 (i) q false),rM l N q0,rG l N G q1,rW l N G (i) q,.ob (.own [.c (iC (gI l (15 + N + 4 * G + 8 * i))),.c (iC (wI l (15 + N + 4 * G + 8 * i + 1))),.c (iC (wI l (15 + N + 4 * G + 8 * i + 3))),.c (iC 0),.c (iC 0),.c (iC 0)])] hl' ?_ rfl ?_
    ·exact wH
    refine wB ?_
    refine one_at (n:=1) (k:=15 + N + 4 * G + 8 * i + 6) (15 + N + 4 * G + 8 * i + 7) (by omega) [mZ,rdE l (15 + N + 4 * G + 8 * i + 7),mQ l (C.slc 3 0 1 0 N q0 false) (C.slc 4 0 3 0 G q1 false) (C.slc 5 0 6 0 (i) q false),rM l N q0,rG l N G q1,rW l N G (i) q,.ob (.own [.c (iC (gI l (15 + N + 4 * G + 8 * i))),.c (iC (wI l (15 + N + 4 * G + 8 * i + 1))),.c (iC (wI l (15 + N + 4 * G + 8 * i + 3))),.c (iC (gI l (15 + N + 4 * G + 8 * i + 5))),.c (iC 0),.c (iC 0)])] hl' ?_ rfl ?_
    ·exact wH
    refine wB ?_
    refine one_at (n:=1) (k:=15 + N + 4 * G + 8 * i + 7) (15 + N + 4 * G + 8 * (i + 1)) (by omega) [mZ,rdE l (15 + N + 4 * G + 8 * (i + 1)),mQ l (C.slc 3 0 1 0 N q0 false) (C.slc 4 0 3 0 G q1 false) (C.slc 5 0 6 0 (i) q false),rM l N q0,rG l N G q1,rW l N G (i) q,.ob (.own [.c (iC (gI l (15 + N + 4 * G + 8 * i))),.c (iC (wI l (15 + N + 4 * G + 8 * i + 1))),.c (iC (wI l (15 + N + 4 * G + 8 * i + 3))),.c (iC (gI l (15 + N + 4 * G + 8 * i + 5))),.c (iC (gI l (15 + N + 4 * G + 8 * i + 6))),.c (iC 0)])] hl' ?_ rfl ?_
    ·exact wH
    refine wB ?_
    refine cT (decide_eq_true (by show (i + 1) * 48 ≤ 1099511627776; omega)) ?_
    refine wB ?_
    intro cap hc
    refine wB ?_
    rw [show ((W - i : Nat) : Int) - 1 = ((W - (i + 1) : Nat) : Int) by omega]
    refine ⟨(i + 1,[mZ,rdE l (15 + N + 4 * G + 8 * (i + 1)),mQ l (C.slc 3 0 1 0 N q0 false) (C.slc 4 0 3 0 G q1 false) (C.slc 5 0 6 0 (i + 1) cap false),rM l N q0,rG l N G q1,rW l N G (i + 1) cap]),⟨.inr ⟨by show 1 ≤ i + 1; omega,by show i + 1 ≤ W; omega,cap,hc,rfl⟩,by show W - (i + 1) < W - i; omega⟩, ?_⟩
    conv=>whnf
    refine Le.nm [0,1,2,3,4,8] rfl ?_ ?_
    all_goals (repeat'(first|exact wZ|refine And.intro ?_ ?_))
    all_goals (intro x hx; first | exact row_up (f:=fun q=>winL (pmW l (15 + N + 4 * G + 8 * q))) hx rfl | exact row_0 (f:=fun q=>winL (pmW l (15 + N + 4 * G + 8 * q))) hx rfl)
   obtain rfl : W = i:=by omega
   refine wB ?_
   refine ⟨(3,[mZ,rdE l (15 + N + 4 * G + 8 * W),mQ l (C.slc 3 0 1 0 N q0 false) (C.slc 4 0 3 0 G q1 false) (C.slc 5 0 6 0 W q false),rM l N q0,rG l N G q1,rW l N G W q]),⟨.inr (.inr (.inr (.inr (.inr (.inr (.inr (.inr (.inr (.inr (.inr (.inr (.inr (.inr (⟨rfl,z0,z1,hi1,q0,hq0,q1,hq1,q,hq,rfl⟩)))))))))))))),by show 3 - 3 < 3 - 2; omega⟩, ?_⟩
   conv=>whnf
   refine Le.id rfl ?_ ?_
   all_goals (repeat'(first|exact wZ|refine And.intro ?_ ?_))
 ·
  refine wB ?_
  refine cD (fun hbad=>?_) (fun hbad=>?_)
  ·refine wB ?_
   exact par_no (pOk_no (k:=15 + N + 4 * G + 8 * W) (by omega) (by omega))
  subst z0
  subst z1
  subst z2
  refine AskC.use ((mP l 0 0 0),⟨0,0,0,true,true,true⟩) [0,0,0] (mP_ok (by omega) (by omega) (by omega)) rfl ?_ ?_ ?_
  ·exact wH
  ·exact wH
  conv=>whnf
  have he : strEq (prM (mP l 0 0 0)) (tx (l.drop 0)) = decide (prM (pm l) = tx l):=by rw [hpm]; rfl
  by_cases hq : prM (pm l) = tx l
  ·rw [decide_eq_true hq] at he
   rw [he]
   have hy:=pOk_yes hl (by omega) hq
   exact absurd hy.2.size.1 (by rw [hpm]; show ¬ 1 ≤ 0; omega)
  ·rw [decide_eq_false hq] at he
   rw [he]
   refine wB ?_
   exact par_no (pOk_ne hq)
 ·
  refine wB ?_
  refine cD (fun hbad=>?_) (fun hbad=>?_)
  ·refine wB ?_
   exact par_no (pOk_no (k:=15 + N + 4 * G + 8 * W) (by omega) (by omega))
  subst z0
  subst z1
  refine AskC.use ((mP l 0 0 W),⟨0,0,q2,true,true,false⟩) [0,0,3] (mP_ok (by omega) (by omega) (by omega)) rfl ?_ ?_ ?_
  ·exact wH
  ·exact wH
  conv=>whnf
  have he : strEq (prM (mP l 0 0 W)) (tx (l.drop 0)) = decide (prM (pm l) = tx l):=by rw [hpm]; rfl
  by_cases hq : prM (pm l) = tx l
  ·rw [decide_eq_true hq] at he
   rw [he]
   have hy:=pOk_yes hl (by omega) hq
   exact absurd hy.2.size.1 (by rw [hpm]; show ¬ 1 ≤ 0; omega)
  ·rw [decide_eq_false hq] at he
   rw [he]
   refine wB ?_
   exact par_no (pOk_ne hq)
 ·
  refine wB ?_
  refine cD (fun hbad=>?_) (fun hbad=>?_)
  ·refine wB ?_
   exact par_no (pOk_no (k:=15 + N + 4 * G + 8 * W) (by omega) (by omega))
  subst z0
  subst z2
  refine AskC.use ((mP l 0 G 0),⟨0,q1,0,true,false,true⟩) [0,3,0] (mP_ok (by omega) (by omega) (by omega)) rfl ?_ ?_ ?_
  ·exact wH
  ·exact wH
  conv=>whnf
  have he : strEq (prM (mP l 0 G 0)) (tx (l.drop 0)) = decide (prM (pm l) = tx l):=by rw [hpm]; rfl
  by_cases hq : prM (pm l) = tx l
  ·rw [decide_eq_true hq] at he
   rw [he]
   have hy:=pOk_yes hl (by omega) hq
   exact absurd hy.2.size.1 (by rw [hpm]; show ¬ 1 ≤ 0; omega)
  ·rw [decide_eq_false hq] at he
   rw [he]
   refine wB ?_
   exact par_no (pOk_ne hq)
 ·
  refine wB ?_
  refine cD (fun hbad=>?_) (fun hbad=>?_)
  ·refine wB ?_
   exact par_no (pOk_no (k:=15 + N + 4 * G + 8 * W) (by omega) (by omega))
  subst z0
  refine AskC.use ((mP l 0 G W),⟨0,q1,q2,true,false,false⟩) [0,3,4] (mP_ok (by omega) (by omega) (by omega)) rfl ?_ ?_ ?_
  ·exact wH
  ·exact wH
  conv=>whnf
  have he : strEq (prM (mP l 0 G W)) (tx (l.drop 0)) = decide (prM (pm l) = tx l):=by rw [hpm]; rfl
  by_cases hq : prM (pm l) = tx l
  ·rw [decide_eq_true hq] at he
   rw [he]
   have hy:=pOk_yes hl (by omega) hq
   exact absurd hy.2.size.1 (by rw [hpm]; show ¬ 1 ≤ 0; omega)
  ·rw [decide_eq_false hq] at he
   rw [he]
   refine wB ?_
   exact par_no (pOk_ne hq)
 ·
  refine wB ?_
  refine cD (fun hbad=>?_) (fun hbad=>?_)
  ·refine wB ?_
   exact par_no (pOk_no (k:=15 + N + 4 * G + 8 * W) (by omega) (by omega))
  subst z1
  subst z2
  refine AskC.use ((mP l N 0 0),⟨q0,0,0,false,true,true⟩) [3,0,0] (mP_ok (by omega) (by omega) (by omega)) rfl ?_ ?_ ?_
  ·exact wH
  ·exact wH
  conv=>whnf
  have he : strEq (prM (mP l N 0 0)) (tx (l.drop 0)) = decide (prM (pm l) = tx l):=by rw [hpm]; rfl
  by_cases hq : prM (pm l) = tx l
  ·rw [decide_eq_true hq] at he
   rw [he]
   have hy:=pOk_yes hl (by omega) hq
   refine wB ?_
   refine Trim.fam (q0,0,0) ⟨hq0,Nat.le_refl _,Nat.le_refl _⟩ ?_
   rw [show parX l N 0 0 (q0,0,0) = parY l N 0 0 (q0,0,0) from if_pos hy.1,show parHp l N 0 0 (q0,0,0) = parZ l N 0 0 (q0,0,0) from if_pos hy.1]
   obtain ⟨n0,rfl⟩ : ∃ k,N = k + 1:=⟨N - 1,by omega⟩
   conv=>whnf
   refine Le.nm [3] rfl ?_ ?_
   all_goals (repeat'(first|exact wZ|refine And.intro ?_ ?_))
  ·rw [decide_eq_false hq] at he
   rw [he]
   refine wB ?_
   exact par_no (pOk_ne hq)
 ·
  refine wB ?_
  refine cD (fun hbad=>?_) (fun hbad=>?_)
  ·refine wB ?_
   exact par_no (pOk_no (k:=15 + N + 4 * G + 8 * W) (by omega) (by omega))
  subst z1
  refine AskC.use ((mP l N 0 W),⟨q0,0,q2,false,true,false⟩) [3,0,4] (mP_ok (by omega) (by omega) (by omega)) rfl ?_ ?_ ?_
  ·exact wH
  ·exact wH
  conv=>whnf
  have he : strEq (prM (mP l N 0 W)) (tx (l.drop 0)) = decide (prM (pm l) = tx l):=by rw [hpm]; rfl
  by_cases hq : prM (pm l) = tx l
  ·rw [decide_eq_true hq] at he
   rw [he]
   have hy:=pOk_yes hl (by omega) hq
   refine wB ?_
   refine Trim.fam (q0,0,q2) ⟨hq0,Nat.le_refl _,hq2⟩ ?_
   rw [show parX l N 0 W (q0,0,q2) = parY l N 0 W (q0,0,q2) from if_pos hy.1,show parHp l N 0 W (q0,0,q2) = parZ l N 0 W (q0,0,q2) from if_pos hy.1]
   obtain ⟨n0,rfl⟩ : ∃ k,N = k + 1:=⟨N - 1,by omega⟩
   obtain ⟨n2,rfl⟩ : ∃ k,W = k + 1:=⟨W - 1,by omega⟩
   conv=>whnf
   refine Le.nm [3,4] rfl ?_ ?_
   all_goals (repeat'(first|exact wZ|refine And.intro ?_ ?_))
  ·rw [decide_eq_false hq] at he
   rw [he]
   refine wB ?_
   exact par_no (pOk_ne hq)
 ·
  refine wB ?_
  refine cD (fun hbad=>?_) (fun hbad=>?_)
  ·refine wB ?_
   exact par_no (pOk_no (k:=15 + N + 4 * G + 8 * W) (by omega) (by omega))
  subst z2
  refine AskC.use ((mP l N G 0),⟨q0,q1,0,false,false,true⟩) [3,4,0] (mP_ok (by omega) (by omega) (by omega)) rfl ?_ ?_ ?_
  ·exact wH
  ·exact wH
  conv=>whnf
  have he : strEq (prM (mP l N G 0)) (tx (l.drop 0)) = decide (prM (pm l) = tx l):=by rw [hpm]; rfl
  by_cases hq : prM (pm l) = tx l
  ·rw [decide_eq_true hq] at he
   rw [he]
   have hy:=pOk_yes hl (by omega) hq
   refine wB ?_
   refine Trim.fam (q0,q1,0) ⟨hq0,hq1,Nat.le_refl _⟩ ?_
   rw [show parX l N G 0 (q0,q1,0) = parY l N G 0 (q0,q1,0) from if_pos hy.1,show parHp l N G 0 (q0,q1,0) = parZ l N G 0 (q0,q1,0) from if_pos hy.1]
   obtain ⟨n0,rfl⟩ : ∃ k,N = k + 1:=⟨N - 1,by omega⟩
   obtain ⟨n1,rfl⟩ : ∃ k,G = k + 1:=⟨G - 1,by omega⟩
   conv=>whnf
   refine Le.nm [3,4] rfl ?_ ?_
   all_goals (repeat'(first|exact wZ|refine And.intro ?_ ?_))
  ·rw [decide_eq_false hq] at he
   rw [he]
   refine wB ?_
   exact par_no (pOk_ne hq)
 ·
  refine wB ?_
  refine cD (fun hbad=>?_) (fun hbad=>?_)
  ·refine wB ?_
   exact par_no (pOk_no (k:=15 + N + 4 * G + 8 * W) (by omega) (by omega))
  refine AskC.use ((mP l N G W),⟨q0,q1,q2,false,false,false⟩) [3,4,5] (mP_ok (by omega) (by omega) (by omega)) rfl ?_ ?_ ?_
  ·exact wH
  ·exact wH
  conv=>whnf
  have he : strEq (prM (mP l N G W)) (tx (l.drop 0)) = decide (prM (pm l) = tx l):=by rw [hpm]; rfl
  by_cases hq : prM (pm l) = tx l
  ·rw [decide_eq_true hq] at he
   rw [he]
   have hy:=pOk_yes hl (by omega) hq
   refine wB ?_
   refine Trim.fam (q0,q1,q2) ⟨hq0,hq1,hq2⟩ ?_
   rw [show parX l N G W (q0,q1,q2) = parY l N G W (q0,q1,q2) from if_pos hy.1,show parHp l N G W (q0,q1,q2) = parZ l N G W (q0,q1,q2) from if_pos hy.1]
   obtain ⟨n0,rfl⟩ : ∃ k,N = k + 1:=⟨N - 1,by omega⟩
   obtain ⟨n1,rfl⟩ : ∃ k,G = k + 1:=⟨G - 1,by omega⟩
   obtain ⟨n2,rfl⟩ : ∃ k,W = k + 1:=⟨W - 1,by omega⟩
   conv=>whnf
   refine Le.nm [3,4,5] rfl ?_ ?_
   all_goals (repeat'(first|exact wZ|refine And.intro ?_ ?_))
  ·rw [decide_eq_false hq] at he
   rw [he]
   refine wB ?_
   exact par_no (pOk_ne hq)
theorem par_run (l : List UInt8) : clRunX 7 tt outsPar tabPar 3 F.config_Parse [] [sv (tx l)] [] (fun x h=>Trim 0 x h fun x h=>∃ q : Nat × Nat × Nat,(pN l ≤ q.1 ∧ pG l ≤ q.2.1 ∧ pW l ≤ q.2.2) ∧ x = parX l (pN l) (pG l) (pW l) q ∧ h = parHp l (pN l) (pG l) (pW l) q):=by
 have h1:=gI_bd l 12
 have e1 : gI l 12 = (pN l : Int):=by unfold pN; omega
 have h2:=gI_bd l (13 + pN l)
 have e2 : gI l (13 + pN l) = (pG l : Int):=by unfold pG p1; omega
 have h3:=gI_bd l (14 + pN l + 4 * pG l)
 have e3 : gI l (14 + pN l + 4 * pG l) = (pW l : Int):=by
  unfold pW p2 p1
  rw [show 13 + pN l + 1 + 4 * pG l = 14 + pN l + 4 * pG l by omega]; omega
 by_cases hl : l.length ≤ 400
 ·exact par_head l _ _ _ hl e1 e2 e3
 ·have hno : pOk l = false:=by
   unfold pOk
   rw [decide_eq_false (by omega),Bool.false_and]
  have hs : (tx l).size = l.length:=rfl
  generalize hq : tx l = s at *
  refine wB ?_
  exact par_no hno
abbrev parC : Con (List UInt8):=FamCon (β:=Nat × Nat × Nat) (fun l=>[sv (tx l)]) (fun _=>[]) (fun _=>True) (fun l q=>pN l ≤ q.1 ∧ pG l ≤ q.2.1 ∧ pW l ≤ q.2.2) (fun l q=>parX l (pN l) (pG l) (pW l) q) (fun l q=>parHp l (pN l) (pG l) (pW l) q)
theorem par_ok : ConOk Tryz.prog F.config_Parse parC:=con_of_run (clRunX_ok (d:=7) ttOk outsPar_ok tabPar_ok 3) (fn_enters (ok.config_Parse (D:=7) u0 _ (clRunX_ok (d:=7) ttOk .nil TabOk.nil 1))) fun l _=>par_run l
end Go.Proofs.YtlckbdhpehkeoaaGreat.Co
