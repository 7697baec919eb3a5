/- Parts. -/
import Derived.Test.YtlckbdhpehkeoaaGreatJ04
import Derived.Test.YtlckbdhpehkeoaaGreatJ06
import Derived.Test.YtlckbdhpehkeoaaGreatJ23
namespace Go.Proofs.YtlckbdhpehkeoaaGreat.La
open Go Go.Eng Go.Proofs Go.Proofs.YtlckbdhpehkeoaaGreat
set_option maxRecDepth 100000
noncomputable def initL : { l : List Char // Tryz.prog.initOrder = String.ofList l }:=⟨_,rfl⟩
theorem initL_eq : Tryz.prog.initOrder.toList = initL.1:=(congrArg String.toList initL.2).trans String.toList_ofList
theorem w1 : (behindMainWord (wordsSigns initL.1)).head? = some "cut".toList := by kernel_rfl
theorem words : ∃ rest, behindMainWord (wordsSigns Tryz.prog.initOrder.toList) = "cut".toList :: rest := by
 rw [initL_eq]
 have h1:=w1
 cases h : behindMainWord (wordsSigns initL.1) with
 | nil=>rw [h] at h1; cases h1
 | cons a l=>rw [h] at h1; injection h1 with h1; exact ⟨l,by rw [h1]⟩
theorem c1 : ("cut".toList == "gc".toList) = false := by kernel_rfl
theorem c2 : ("cut".toList == "spec".toList) = false := by kernel_rfl
theorem c3 : ("cut".toList == "carried".toList) = false := by kernel_rfl
theorem c4 : ("cut".toList == "cut".toList) = true := by kernel_rfl
theorem make_of {P : Program} {rest : List (List Char)} (hr : behindMainWord (wordsSigns P.initOrder.toList) = "cut".toList :: rest) : P.make = some .cut := by
 unfold Program.make
 rw [hr]
 simp only [c1,c2,c4,Bool.or_false,Bool.true_or,Bool.false_eq_true,if_false,if_true]
theorem l1 : Tryz.prog.laysLater = false:=by kernel_rfl
theorem l2 : Tryz.prog.bearsReflect = false:=by kernel_rfl
theorem s1 (rest : List (List Char)) : stripLifts liftWords ("cut".toList :: rest) = ([], "cut".toList :: rest) := by kernel_rfl
theorem l3 : Tryz.prog.doorFits [] = true:=by kernel_rfl
theorem mayEnter_of {P : Program} {rest : List (List Char)} (hr : behindMainWord (wordsSigns P.initOrder.toList) = "cut".toList :: rest) (l1 : P.laysLater = false) (l2 : P.bearsReflect = false) (l3 : P.doorFits [] = true) : P.mayEnter = true := by
 unfold Program.mayEnter
 rw [hr]
 simp only [c1,c2,c3,s1,l1,l2,l3,Bool.or_false,Bool.false_and,Bool.false_or,Bool.not_false,Bool.or_true,Bool.and_true,List.head?_cons,BEq.rfl,List.contains_nil]
theorem make_ok : Tryz.prog.make = some .cut:=words.elim fun _ h=>make_of h
theorem mayEnter_ok : Tryz.prog.mayEnter = true:=words.elim fun _ h=>mayEnter_of h l1 l2 l3
theorem lifts_ok : Tryz.prog.liftsFinal = false:=by
 unfold Program.liftsFinal Program.headLifts
 rw [initL_eq]
 kernel_rfl
theorem laid_ok : laidOutB Tryz.prog = true:=by kernel_rfl
theorem rowed_ok : mapsRowed Tryz.prog = true:=by kernel_rfl
theorem beq_r {α : Type} [BEq α] {a b c : α} (h : b = c) (e : (a == c) = true) : (a == b) = true:=by rw [h]; exact e
theorem beq_l {α : Type} [BEq α] {a b c : α} (h : a = c) (e : (c == b) = true) : (a == b) = true:=by rw [h]; exact e
end Go.Proofs.YtlckbdhpehkeoaaGreat.La
namespace Go.Proofs.YtlckbdhpehkeoaaGreat.La
open Go Go.Eng Go.Proofs Go.Proofs.YtlckbdhpehkeoaaGreat.Tb Go.Proofs.YtlckbdhpehkeoaaGreat.Co Go.Pu
set_option maxRecDepth 100000
set_option maxHeartbeats 8000000
theorem own : ownKnob Tryz.prog.godebug = none:=by kernel_rfl
theorem kids : Kids Tryz.prog (· < Tryz.prog.types.size):=kids_rows (by kernel_rfl) (by kernel_rfl)
theorem full : ∀ t e,t < Tryz.prog.types.size → Tryz.prog.underlying t = some (.slice e) → 0 < Tryz.prog.cellsOf e:=slices_full_of Tryz.prog (by kernel_rfl)
abbrev trueC : Con Unit:=RoCon (fun _=>[]) (fun _=>[]) (fun _=>True) fun _=>bv true
theorem true_use {h : Heap} {K : R → Heap → Prop} (hk : K (bv true) h) : AskC trueC [] h K:=.use () [] trivial rfl trivial trivial hk
theorem con_closed {P : Program} {f : FuncId} {cl : Cl} (hc : ClOk P cl) (hE : Eng.Enters P f) (hr : cl f [] [] [] fun x _=>x = bv true) : ConOk P f trueC:=by
 refine ⟨hE,fun p _ ρ w vs h1 h2=>((hc _ _ _ _ _ hr).2 ρ w vs h1 h2).mono fun e w' ⟨v,he,x,ρ',h',k1,k2,k3,k4⟩=>⟨v,he,trim_ok (n:=0) (fun m y hy=>?_) k2 k3 k4 (trim0 (F:=bv true) (by rw [k1]; rfl) k1)⟩⟩
 have:=h1.fresh m (.inr (Nat.zero_le _))
 rw [this] at hy; cases hy
abbrev i64 : Sh:=.c (.int .i64)
abbrev u8 : Sh:=.c (.int .u8)
abbrev u16 : Sh:=.c (.int .u16)
theorem ok_u16 {v : Value} (h : okW (.int .u16) v) : ∃ n : Int,v = .int .u16 n ∧ 0 ≤ n ∧ n ≤ 65535:=by
 cases v <;> first | exact h.elim | skip
 obtain ⟨rfl,h⟩:=h
 refine ⟨_,rfl, ?_⟩
 simpa [Lit.wf,IntKind.min,IntKind.max,IntKind.signed,IntKind.bits] using h
theorem da_u16 {d : Da} (h : OkDa u16 d) : ∃ n : Int,d = .c (.int .u16 n) ∧ 0 ≤ n ∧ n ≤ 65535:=by
 cases d with
 | c v=>obtain ⟨n,rfl,g⟩:=ok_u16 h; exact ⟨n,rfl,g⟩
 | s _ _ _ _=>exact h.elim
theorem da_sl {ks : List Ck} {d : Da} (h : OkDa (.s ks) d) : ∃ n cap nl F,d = .s n cap nl F ∧ n ≤ cap ∧ cap ≤ 9223372036854775807 ∧ ∀ i,i < n → All2 okW ks (F i):=by
 cases d with
 | c v=>exact h.elim
 | s n cap nl F=>exact ⟨n,cap,nl,F,rfl,h.1,h.2.1,h.2.2.2⟩
theorem two_0 {α β : Type} {p : α → β → Prop} {l : List β} (h : All2 p [] l) : l = []:=by cases l with | nil=>rfl | cons _ _=>exact h.elim
theorem two_c {α β : Type} {p : α → β → Prop} {a : α} {aa : List α} {l : List β} (h : All2 p (a :: aa) l) : ∃ b bs,l = b :: bs ∧ p a b ∧ All2 p aa bs:=by
 cases l with
 | nil=>exact h.elim
 | cons b bs=>exact ⟨b,bs,rfl,h.1,h.2⟩
theorem one_u16 {d : List Da} (h : All2 OkDa [u16] d) : ∃ n : Int,d = [.c (.int .u16 n)] ∧ 0 ≤ n ∧ n ≤ 65535:=by
 obtain ⟨_,_,rfl,h1,h2⟩:=two_c h
 obtain rfl:=two_0 h2
 obtain ⟨n,rfl,g⟩:=da_u16 h1
 exact ⟨n,rfl,g⟩
theorem ds_len {H : Type} {enc : TypeId × Value → H} {P : Program} {w : World} {base : Nat} {spare : Nat → Bool} {held : Bool} : ∀ {ts : List TypeId} {vs : List Value} {ds : List (DataW H)} {ps : List MemPlace},DataW.TrodAll enc P w base spare held ts vs ds ps → ds.length = ts.length
 | [],[],[],_,_=>rfl
 | _ :: _,_ :: _,_ :: _,_,⟨_,_,_,h,_⟩=>by simp [ds_len h]
 | [],[],_ :: _,_,h=>h.elim
 | [],_ :: _,_,_,h=>h.elim
 | _ :: _,[],_,_,h=>h.elim
 | _ :: _,_ :: _,[],_,h=>h.elim
theorem row_of {H : Type} {enc : TypeId × Value → H} {f : FuncId} {F : Func} {s : ChangeSpec} {W : World} {base : Nat} {args : Array Value} {ds gs : List (DataW H)} {before : List MemPlace} {ps : List Pa} {cl : Cl}
    (hts : (F.params.toList.all fun t => decide (t < Tryz.prog.types.size)) = true) (hps : pasB Tryz.prog F.params.toList ps = true) (hres : F.resultTypes = #[4]) (hvs : s.vars = [])
    (hspec : ∀ ds : List (DataW H), ds.length = F.params.toList.length → s.fn H ds = { results := [.lit (.bool true)], args := ds })
    (hval : ∀ (j : Nat) t v, F.params[j]? = some t → args[j]? = some v → Value.okWide Tryz.prog W .any base t v) (hW : DataW.Whole enc Tryz.prog F.params.toList s.vars false W args.toList ds gs before)
    (hc : ClOk Tryz.prog cl) (hrun : ∀ D, OkAll ps D → cl f [] (xsP 0 ps D) (hsP ps D) fun x _ => x = bv true) :
    Calls Tryz.prog f args W fun e W' => ∃ v, e = .returned v ∧ s.post enc Tryz.prog F false true false false W args v W' :=
  law_body (C := Tryz.checked) kids full (fun t ht => of_decide_eq_true (List.all_eq_true.1 hts t ht)) hps hres Tryz.underlying4 hvs (by obtain ⟨p, q, hA, _⟩ := hW; exact hspec ds (ds_len hA)) hval hW hc hrun
abbrev outs24 : List (FuncId × Cx):=[(F.law24_least,AskC least24C),(F.ref12_Print,AskC priC),(F.node_New,OrC (AskC nnewB) (AskC nnewZ)),(F.node_Node_Tick,AskC ntickB),(F.node_Node_Drive,OrC (AskC ndriveB) (AskC ndriveZ)),(F.node_Node_Sample,AskC nsampB),(F.node_Node_Send,OrC (AskC nsendB) (AskC nsendZ)),(F.node_Node_Status,OrC (AskC nstatB) (AskC nstatZ)),(F.node_Node_Mac,AskC nmacZ)]
theorem outs24_ok : OutsOk Tryz.prog outs24:=.cons (ask_ok least24_ok) (.cons (ask_ok prr_ok) (.cons (or_ok (ask_ok nnewB_ok) (ask_ok nnewZ_ok)) (.cons (ask_ok ntickB_ok) (.cons (or_ok (ask_ok ndriveB_ok) (ask_ok ndriveZ_ok)) (.cons (ask_ok nsampB_ok) (.cons (or_ok (ask_ok nsendB_ok) (ask_ok nsendZ_ok)) (.cons (or_ok (ask_ok nstatB_ok) (ask_ok nstatZ_ok)) (.cons (ask_ok nmacZ_ok) .nil))))))))
theorem new_ask {who : Int} {h : Heap} {K : R → Heap → Prop} (hw : 0 ≤ who ∧ who < 3) (hk : ∀ c fg,K (pR h.length) (h ++ [bx (ndQ (n24 who c)) fg])) : AskC nnewB [sv (tx l24),iv .i64 who] h K:=by
 refine .fam (l24,who,k24) [] (fun _=>pR h.length) (fun q=>h ++ [bx (ndQ (n24 who q.1)) q.2]) (new24 hw) rfl trivial ⟨.inl rfl,.inl rfl,trivial⟩ (fun q=>rfl) (fun q=>?_) (fun q _=>hk q.1 q.2)
 show mrgGo _ [] [] _ 0 h ++ [_] = _
 rw [mrgGo_rest h 0 (fun j hj=>by cases hj)]; rfl
theorem newZ_ask {l : List UInt8} {who : Int} {h : Heap} {K : R → Heap → Prop} (hl : pOk l = false) (hk : K (pR h.length) (h ++ [ndZ])) : AskC nnewZ [sv (tx l),iv .i64 who] h K:=AskC.mk1 (l,who) hl rfl (fun _=>rfl) hk
def what : List UInt8:=[119,104,97,116]
theorem what_no : pOk what = false:=by decide +kernel
def N24 (c : Caps) (i : Nat) : Nd:=if i ≤ 511 then (n24 0 c).q i else f24 c
theorem q_ok {n : Nd} (h : n.Ok) (i : Nat) : (n.q i).Ok:=by
 refine ⟨h.mo,h.is,h.rank,⟨(by show 1 ≤ 64; decide),(by show 64 ≤ 64; decide),(by show 1 ≤ 16384; decide),(by show 16384 ≤ 32768; decide), ?_, ?_⟩,h.mrk,h.glb,h.mst,h.tab,h.obj,h.sch,h.trg⟩
 ·show (i % 16) * 1024 < 16384; omega
 ·show (i / 16) % 65536 < 65536; omega
theorem N24_ok (c : Caps) (i : Nat) : (N24 c i).Ok:=by
 unfold N24
 split
 ·exact q_ok (n24_ok ⟨by decide,by decide⟩ c) i
 ·exact Nd.Ok.tick (q_ok (n24_ok ⟨by decide,by decide⟩ c) 511) 4
theorem N24_wait (c : Caps) (i : Nat) (h : i ≤ 512) : 0 ≤ (N24 c i).wait ∧ (N24 c i).wait ≤ 1000000000000000000:=by
 unfold N24
 split
 ·show 0 ≤ ((i / 16 : Nat) : Int) ∧ ((i / 16 : Nat) : Int) ≤ _; omega
 ·rw [(f24_rest c).2.2.2]; omega
theorem smp_idle {n : Nd} {m' : Mac} (ho : n.Ok) (hr : RowsOk n) (hs : n.mac.sample true = (m',[])) (hn : n.mac.state ≠ 1) (hl : n.mac.left ≤ 1000) (hf : n.mac.waits = true → n.mac.f.ok) : SmpIn n 49:=by
 refine ⟨ho,hr,⟨hl,fun h=>absurd h hn,fun h=>absurd h hn,hf⟩,by omega, ?_⟩
 show EvsOk (n.mac.sample true).2
 rw [hs]; exact evs_nil
theorem f24_rows (c : Caps) : (f24 c).del = [] ∧ (f24 c).conf = []:=⟨by kernel_rfl,by kernel_rfl⟩
theorem a24_1 : ((qmac 511).ask (bldF k24 0 0 32 true)).on = false:=by decide +kernel
theorem a24_2 : ((qmac 511).ask (bldF k24 0 0 32 true)).r.need = 0:=by decide +kernel
theorem a24_3 : ((qmac 511).ask (bldF k24 0 0 32 true)).state ≠ 1:=by decide +kernel
theorem a24_4 : ((qmac 511).ask (bldF k24 0 0 32 true)).left ≤ 1000:=by decide +kernel
theorem a24_5 : ((qmac 511).ask (bldF k24 0 0 32 true)).f.ok:=by decide +kernel
theorem maced_self (n : Nd) : n.maced n.mac = n:=by cases n; rfl
theorem f24_ok (c : Caps) : (f24 c).Ok:=Nd.Ok.tick (q_ok (n24_ok ⟨by decide,by decide⟩ c) 511) 4
theorem f24_eq (c : Caps) : ((n24 0 c).q 511).tick 4 = f24 c:=rfl
attribute [local irreducible] f24
theorem step24b (c : Caps) : DrvOk (f24 c).mac ∧ SmpIn (f24 c) 49 ∧ (f24 c).sample true = f24 c:=by
 have hdc:=f24_rows c
 have hRows : RowsOk (f24 c):=⟨by rw [hdc.1]; exact Nat.zero_le _,by rw [hdc.2]; exact Nat.zero_le _⟩
 refine ⟨?_,smp_idle (f24_ok c) hRows (f24_s c) ?_ ?_ ?_, ?_⟩
 ·rw [f24_mac]
  have h2:=a24_2
  exact ⟨fun h=>(Bool.noConfusion (a24_1.symm.trans h)),by omega⟩
 ·rw [f24_mac]; exact a24_3
 ·rw [f24_mac]; exact a24_4
 ·rw [f24_mac]; intro _; exact a24_5
 ·rw [sample_eq,f24_s]
  exact maced_self (f24 c)
theorem step24s (c : Caps) (i : Nat) (h : i ≤ 511) : ((N24 c i).tick 4).mac.drive = decide (i < 511) ∧ DrvOk ((N24 c i).tick 4).mac ∧ SmpIn ((N24 c i).tick 4) 49 ∧ ((N24 c i).tick 4).sample true = N24 c (i + 1):=by
 have hT:=Nd.Ok.tick (N24_ok c i) 4
 have e : N24 c i = (n24 0 c).q i:=if_pos h
 rw [e] at hT ⊢
 by_cases h5 : i < 511
 ·have hm : (n24 0 c).mute (i + 1):=by
   left
   show (((i + 1) / 16 : Nat) : Int) < k24.init + (Co.rank k24 0 + 1) * Pu.step k24
   rw [rk0,step24,k24_1.2.2.2.2.2.2.1]; omega
  have et:=q_tick (n:=n24 0 c) (i:=i) rfl (by omega) hm
  rw [et] at hT ⊢
  refine ⟨?_,qmac_drv i,smp_idle hT ⟨Nat.zero_le _,Nat.zero_le _⟩ (qmac_sample i) (qmac_ns i) (by show 3 - i ≤ 1000; omega) (fun h=>by cases h), ?_⟩
  ·rw [decide_eq_true h5]; exact qmac_drive i
  ·rw [q_sample]
   unfold N24
   rw [if_pos (by omega)]
 ·obtain rfl : i = 511:=by omega
  have e2 : N24 c (511 + 1) = f24 c:=if_neg (by omega)
  rw [f24_eq,e2]
  have h3:=step24b c
  exact ⟨(f24_drive c).trans (decide_eq_false (by omega)).symm,h3.1,h3.2.1,h3.2.2⟩
noncomputable abbrev tabKn24 : List (FuncId × Eng.Fn):=[(F.law24_known,fn.law24_known u0)]
theorem tabKn24_ok {d : Nat} : TabOk d tabKn24 tt:=.cons (ok.law24_known u0) (TabOk.nil)
theorem known24_run (u : Unit) : clRunX 7 tt outs24 tabKn24 2 F.law24_known [] [] [] (fun x _=>x = bv true):=by
 refine wB ?_
 refine .det () [] (.t (matC m24 ⟨2,2,2,false,false,false⟩)) [rwMM m24 2,rwGG m24 2,rwWW m24 2] trivial rfl trivial trivial rfl rfl ?_
 refine wB ?_
 refine .use (m24,(⟨2,2,2,false,false,false⟩ : Caps)) [0,1,2] m24_ok rfl ?_ ⟨⟨.inl rfl,.inl rfl,.inl rfl,.inl rfl,.inl rfl,.inl rfl,.inl rfl,.inl rfl,.inl rfl,.inl rfl,.inl rfl,trivial⟩,trivial⟩ ?_
 ·exact wH
 dsimp only
 rw [p24]
 refine wB ?_
 refine .inl (new_ask ⟨by decide,by decide⟩ (fun c fg=>?_))
 refine wB ?_
 refine .inr (newZ_ask (l:=what) what_no ?_)
 refine wB ?_
 refine .inr (AskC.one () 4 trivial rfl rfl rfl (fun _=>?_) (fun _=>rfl) ?_)
 ·exact wH
 refine wB ?_
 refine .inr (AskC.one ((0 : Int),(⟨#[]⟩ : ByteArray)) 4 trivial rfl rfl rfl (fun _=>?_) (fun _=>rfl) ?_)
 ·exact wH
 refine wB ?_
 refine .inr (AskC.one () 4 trivial rfl rfl rfl (fun _=>?_) (fun _=>rfl) ?_)
 ·exact wH
 refine wB ?_
 refine AskC.one () 4 trivial rfl rfl rfl (fun _=>?_) (fun _=>rfl) ?_
 ·exact wH
 refine wB ?_
 rw [show n24 0 c = N24 c 0 from (n24_q 0 c).symm.trans (if_pos (Nat.zero_le _)).symm]
 refine .inv (fun p : Nat × FG=>p.1 ≤ 512) (fun p=>[(3,iv .i64 (if p.1 ≤ 511 then -1 else 511)),(4,iv .i64 p.1)]) (fun p=>[rwMM m24 2,rwGG m24 2,rwWW m24 2,bx (ndQ (N24 c p.1)) p.2,ndZ]) (fun p=>512 - p.1) (0,fg) (Nat.zero_le _) ?_ (fun p hi=>?_)
 ·exact wF
 generalize p.1 = i at *
 generalize p.2 = g at *
 by_cases h : i ≤ 511
 ·obtain ⟨s1,s2,s3,s4⟩:=step24s c i h
  rw [if_pos h]
  refine wB ?_
  refine AskC.nb (N24 c i,4) g 3 ⟨N24_ok c i,N24_wait c i hi⟩ rfl rfl (fun g1=>?_)
  dsimp only
  generalize (N24 c i).tick 4 = T at *
  refine wB ?_
  refine .inl (AskC.nb T g1 3 s2 rfl rfl (fun g2=>?_))
  rw [s1]
  by_cases h5 : i < 511
  ·rw [decide_eq_true h5]
   refine wB ?_
   refine AskC.nb (T,49) g2 3 s3 rfl rfl (fun g3=>?_)
   rw [show (T,(49 : Int)).1.sample (!decide ((T,(49 : Int)).2 = 48)) = N24 c (i + 1) from s4]
   refine wB ?_
   refine ⟨(i + 1,g3),⟨by omega,by omega⟩, ?_⟩
   dsimp only
   rw [if_pos (show i + 1 ≤ 511 by omega)]
   exact wF
  ·obtain rfl : i = 511:=by omega
   rw [decide_eq_false h5]
   refine wB ?_
   refine AskC.nb (T,49) g2 3 s3 rfl rfl (fun g3=>?_)
   rw [show (T,(49 : Int)).1.sample (!decide ((T,(49 : Int)).2 = 48)) = N24 c (511 + 1) from s4]
   refine wB ?_
   refine ⟨(511 + 1,g3),⟨by omega,by omega⟩, ?_⟩
   dsimp only
   rw [if_neg (show ¬ 511 + 1 ≤ 511 by omega)]
   exact wF
 ·obtain rfl : i = 512:=by omega
  rw [if_neg h]
  have e5 : N24 c 512 = f24 c:=if_neg (by omega)
  have hr:=f24_rest c
  rw [e5]
  have hE : (f24 c).obj.sendE (f24 c).m 1 ⟨#[]⟩ = 145:=by rw [hr.2.2.1,hr.2.1]; decide +kernel
  have htab : (f24 c).tab.Ok:=(f24_ok c).tab
  refine wB ?_
  refine .inl (AskC.nb (f24 c,(1 : Int),(⟨#[]⟩ : ByteArray)) g 3 trivial rfl rfl (fun g1=>?_))
  dsimp only
  rw [hE]
  refine wB ?_
  have hst : ((f24 c).send 1 ⟨#[]⟩).mst.state = 0:=hr.1
  refine .inl (AskC.nb ((f24 c).send 1 ⟨#[]⟩) g1 3 htab rfl rfl (fun g2=>?_))
  refine wB ?_
  exact congrArg bv (decide_eq_true (by rw [hst]; rfl))
theorem known24_ok : ConOk Tryz.prog F.law24_known trueC:=con_closed (clRunX_ok (d:=7) ttOk outs24_ok tabKn24_ok 2) (fn_enters (ok.law24_known (D:=7) u0 _ (clRunX_ok (d:=7) ttOk .nil TabOk.nil 1))) (known24_run ())
abbrev outsSl : List (FuncId × Cx):=(F.law24_known,AskC trueC) :: (F.node_Node_Confirmed,AskC nconfB) :: outs24
theorem outsSl_ok : OutsOk Tryz.prog outsSl:=.cons (ask_ok known24_ok) (.cons (ask_ok nconfB_ok) outs24_ok)
noncomputable abbrev tabSl : List (FuncId × Eng.Fn):=[(F.law24_NodeSilent,fn.law24_NodeSilent u0)]
theorem tabSl_ok {d : Nat} : TabOk d tabSl tt:=.cons (ok.law24_NodeSilent u0) (TabOk.nil)
def sentV (V : Nat → ByteArray) (n : Nd) : Nat → Nd
 | 0=>n
 | i + 1=>(sentV V n i).send 0 (V i)
theorem sentV_inv (V : Nat → ByteArray) {n : Nd} (h : n.Inv 0) : ∀ i,(sentV V n i).Inv 0
 | 0=>h
 | i + 1=>(sentV_inv V h i).send 0 (V i)
theorem sentV_eq (V : Nat → ByteArray) (n : Nd) : ∀ i,(sentV V n i).mst = n.mst ∧ (sentV V n i).mrk = n.mrk ∧ (sentV V n i).conf = n.conf ∧ sentV V (n.q 0) i = (sentV V (n.q 0) i).q 0
 | 0=>⟨rfl,rfl,rfl,rfl⟩
 | i + 1=>by
  obtain ⟨a,b,c,d⟩:=sentV_eq V n i
  refine ⟨a,b,c, ?_⟩
  show (sentV V (n.q 0) i).send 0 (V i) = ((sentV V (n.q 0) i).send 0 (V i)).q 0
  rw [d]; rfl
theorem q_inv {n : Nd} (h : n.Inv 0) (i : Nat) : (n.q i).Inv i:=by
 refine ⟨⟨h.1.mo,h.1.is,h.1.rank,⟨(by show 1 ≤ 64; decide),(by show 64 ≤ 64; decide),(by show 1 ≤ 16384; decide),(by show 16384 ≤ 32768; decide), ?_, ?_⟩,h.1.mrk,h.1.glb,h.1.mst,h.1.tab,h.1.obj,h.1.sch,h.1.trg⟩,⟨h.2.rows,⟨?_, ?_,(fun h=>by cases h),(by show 0 ≤ 103; decide),(fun h=>absurd h (qmac_ns i)),(fun h=>absurd h (qmac_ns i)),fun h=>by cases h⟩, ?_⟩⟩
 ·show (i % 16) * 1024 < 16384; omega
 ·show (i / 16) % 65536 < 65536; omega
 ·show 3 - i ≤ 1000; omega
 ·show 0 ≤ 1000 ∧ 0 ≤ 1000; decide
 ·show 0 ≤ ((i / 16 : Nat) : Int) ∧ ((i / 16 : Nat) : Int) ≤ 65536 * (i : Int); omega
theorem silent_run (n cap : Nat) (nl : Bool) (V : Nat → ByteArray) (b : Int) (hb : 0 ≤ b ∧ b ≤ 65535) (hn : n ≤ 9223372036854775807) :
    clRunX 7 tt outsSl tabSl 2 F.law24_NodeSilent [] [.t (.one (.slc 0 0 1 0 n cap nl)), iv .u16 b] [.ob (.ro 1 n fun i => [.v (.string (V i))])] (fun x _ => x = bv true) := by
  refine wB ?_
  refine true_use ?_
  refine wB ?_
  by_cases g1 : 10 < n
  · refine wB ?_
    exact rfl
  refine wB ?_
  refine .det () [] (matT m24 ⟨2, 2, 2, false, false, false⟩ 1 2 3) [.ob (.ro 1 n fun i => [.v (.string (V i))]), rwMM m24 2, rwGG m24 2, rwWW m24 2] trivial rfl trivial trivial rfl rfl ?_
  refine wB ?_
  refine .use (m24, (⟨2, 2, 2, false, false, false⟩ : Caps)) [1, 2, 3] m24_ok rfl ?_ ⟨⟨.inl rfl, .inl rfl, .inl rfl, .inl rfl, .inl rfl, .inl rfl, .inl rfl, .inl rfl, .inl rfl, .inl rfl, .inl rfl, trivial⟩, trivial⟩ ?_
  · exact wH
  dsimp only
  rw [p24]
  refine wB ?_
  refine .inl (new_ask ⟨by decide, by decide⟩ (fun c fg => ?_))
  refine wB ?_
  have hN : (n24 2 c).Inv 0 := new_inv (n24_ok ⟨by decide, by decide⟩ c)
  rw [← n24_q 2 c]
  have hN : ((n24 2 c).q 0).Inv 0 := q_inv hN 0
  have hmst : ((n24 2 c).q 0).mst.stands = false := by
    show decide (0 ≤ max (Co.rank k24 2) (-1)) = false
    rw [rk2]; rfl
  have e4 : b.tmod 4000 = b % 4000 := Int.tmod_eq_emod_of_nonneg hb.1
  obtain ⟨w, hw, hw2⟩ : ∃ w : Nat, b.tmod 4000 = (w : Int) ∧ w < 4000 := ⟨(b.tmod 4000).toNat, by omega, by omega⟩
  have hq : sentV V ((n24 2 c).q 0) n = (sentV V ((n24 2 c).q 0) n).q 0 := (sentV_eq V (n24 2 c) n).2.2.2
  have he := sentV_eq V ((n24 2 c).q 0) n
  have hIn : ∀ i, (sentV V ((n24 2 c).q 0) i).Inv 0 := sentV_inv V hN
  have hst : (sentV V ((n24 2 c).q 0) n).mst.state = 0 := by rw [he.1]; rfl
  have hbn : (sentV V ((n24 2 c).q 0) n).mrk.bn = 0 := by rw [he.2.1]; rfl
  have hcf : (sentV V ((n24 2 c).q 0) n).conf = [] := by rw [he.2.2.1]; rfl
  rw [← he.1] at hmst
  have h0 : sentV V ((n24 2 c).q 0) 0 = (n24 2 c).q 0 := rfl
  rw [← h0]
  have hS : ∀ i, sentV V ((n24 2 c).q 0) (i + 1) = (sentV V ((n24 2 c).q 0) i).send 0 (V i) := fun _ => rfl
  clear he h0 hN
  generalize sentV V ((n24 2 c).q 0) = S at *
  refine .inv (fun p : Nat × FG => p.1 ≤ n) (fun p => [(6, iv .i64 p.1)]) (fun p => [.ob (.ro 1 n fun i => [.v (.string (V i))]), rwMM m24 2, rwGG m24 2, rwWW m24 2, bx (ndQ (S p.1)) p.2]) (fun p => n - p.1) (0, fg) (Nat.zero_le _) ?_ (fun p hi => ?_)
  · exact wF
  generalize p.1 = i at *
  generalize p.2 = g at *
  by_cases h : i < n
  · refine wB ?_
    rw [show 0 + ((i : Int)).toNat = i by omega]
    refine .inl (AskC.nb (S i, (0 : Int), V i) g 4 trivial rfl rfl (fun g1 => ?_))
    dsimp only
    rw [← hS]
    refine wB ?_
    refine ⟨(i + 1, g1), ⟨by omega, by omega⟩, ?_⟩
    exact wF
  obtain rfl : i = n := by omega
  refine wB ?_
  rw [hq]
  have hI := hIn i
  rw [hq] at hst hbn hcf hmst hI
  generalize S i = N1 at *
  clear hq hS hIn
  refine .inv (fun p : Nat × FG => p.1 ≤ w) (fun p => [(7, iv .i64 p.1)]) (fun p => [.ob (.ro 1 i fun i => [.v (.string (V i))]), rwMM m24 2, rwGG m24 2, rwWW m24 2, bx (ndQ (N1.q p.1)) p.2]) (fun p => w - p.1) (0, g) (Nat.zero_le _) ?_ (fun p hj => ?_)
  · exact wF
  generalize p.1 = j at *
  generalize p.2 = g' at *
  have hIq : (N1.q j).Inv j := q_inv (n := N1.q 0) hI j
  conv => whnf
  rw [hw]
  by_cases h5 : j < w
  · have et := q_tick (n := N1) (i := j) hbn (by omega) (.inr hmst)
    have hT := hIq.tick 4
    have hd : ((N1.q j).tick 4).mac.drive = true := by rw [et]; exact qmac_drive j
    have hs : ((N1.q j).tick 4).sample true = N1.q (j + 1) := by rw [et]; exact q_sample N1 j
    refine wB ?_
    refine AskC.nb (N1.q j, 4) g' 4 (hIq.tk (by omega)) rfl rfl (fun g1 => ?_)
    dsimp only
    clear et
    generalize (N1.q j).tick 4 = T at *
    refine wB ?_
    refine .inl (AskC.nb T g1 4 hT.drv rfl rfl (fun g2 => ?_))
    rw [hd]
    refine wB ?_
    refine AskC.nb (T, 49) g2 4 (hT.smp ⟨by show (0 : Int) ≤ 49; decide, by show (49 : Int) ≤ 255; decide⟩) rfl rfl (fun g3 => ?_)
    rw [show (T, (49 : Int)).1.sample (!decide ((T, (49 : Int)).2 = 48)) = N1.q (j + 1) from hs]
    refine wB ?_
    refine ⟨(j + 1, g3), ⟨by omega, by omega⟩, ?_⟩
    exact wF
  · obtain rfl : j = w := by omega
    have h8 : (N1.q j).mst.state = 0 := hst
    have h9 : (N1.q j).conf = [] := hcf
    generalize N1.q j = T at *
    refine wB ?_
    refine .inl (AskC.nb T g' 4 hIq.1.tab rfl rfl (fun g1 => ?_))
    repeat(refine wA ?_;(conv=>whnf);first|rw [h8])
    refine wB ?_
    refine AskC.bx T g1 4 hIq.2.rows rfl rfl (fun q fg' _ => ?_)
    rw [h9]
    refine wB ?_
    rfl
end Go.Proofs.YtlckbdhpehkeoaaGreat.La
namespace Go.Proofs.YtlckbdhpehkeoaaGreat.La
open Go Go.Eng Go.Proofs Go.Proofs.YtlckbdhpehkeoaaGreat.Tb Go.Proofs.YtlckbdhpehkeoaaGreat.Co Go.Pu
theorem one_row {ks : List Ck} {d : List Da} (h : All2 OkDa [.s ks] d) : ∃ n cap nl V,d = [.s n cap nl V] ∧ n ≤ cap ∧ cap ≤ 9223372036854775807 ∧ ∀ i,i < n → All2 okW ks (V i):=by
 obtain ⟨_,_,rfl,h1,h2⟩:=two_c h
 obtain rfl:=two_0 h2
 obtain ⟨n,cap,nl,V,rfl,g⟩:=da_sl h1
 exact ⟨n,cap,nl,V,rfl,g⟩
end Go.Proofs.YtlckbdhpehkeoaaGreat.La
