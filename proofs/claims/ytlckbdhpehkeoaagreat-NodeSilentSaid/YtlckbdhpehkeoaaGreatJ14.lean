/- Parts. -/
import Derived.Test.YtlckbdhpehkeoaaGreatJ11
import Derived.Test.YtlckbdhpehkeoaaGreatJ12
import Derived.Test.YtlckbdhpehkeoaaGreatJ13
namespace Go.Proofs.YtlckbdhpehkeoaaGreat.Co
open Go Go.Eng Go.Proofs Go.Proofs.YtlckbdhpehkeoaaGreat.Tb Go.Pu
set_option maxRecDepth 100000
set_option maxHeartbeats 8000000
theorem bs1 : (⟨#[49]⟩ : ByteArray) = bs [true]:=rfl
theorem bs00 : (⟨#[48,48]⟩ : ByteArray) = bs [false,false]:=rfl
theorem nth_of {α : Type} {x : α} {k : α → Prop} : ∀ {l : List α} {i : Nat},l[i]? = some x → k x → nthK l i k
 | [],i,h,_=>by simp at h
 | a :: l,0,h,hk=>by simp at h; subst h; exact hk
 | a :: l,i + 1,h,hk=>nth_of (l:=l) (i:=i) (by simpa using h) hk
theorem grd0 {d : Nat} {ops : List Oper} {r : Tr d} {o : Oper} {yes no : Tr d → Prop} (h : o.guard = none) (hk : yes r) : guardK ops r o yes no:=by unfold guardK; rw [h]; exact hk
theorem ev_cat {d : Nat} {tt : TT} {r : Tr d} {h : Heap} {n i j t u : Nat} {a b : ByteArray} {K : R → Option Ob → Prop} (h1 : Tr.get d r i = sv a) (h2 : Tr.get d r j = sv b) (h3 : a.size + b.size ≤ 9223372036854775807) (hk : K (sv (a ++ b)) none) : evX tt r h n (.binOp .add t (.tmp i) (.tmp j) u) K:=by
 unfold evX
 simp only [opK,Tr.getK_eq,h1,h2,binK,Chk,Cnd,sv]
 rw [decide_eq_true h3]
 exact hk
theorem ev_mv {d : Nat} {tt : TT} {r : Tr d} {h : Heap} {n i : Nat} {x : R} {K : R → Option Ob → Prop} (h1 : Tr.get d r i = x) (hk : K x none) : evX tt r h n (.move (.tmp i)) K:=by
 unfold evX
 simp only [opK,Tr.getK_eq,h1]
 exact hk
theorem sameK_ok {d : Nat} {r : Tr d} {dst : Option Tmp} {t : Tmp} {x : R} {p : Prop} (h0 : dst = some t) (h1 : Tr.get d r t = x) (h2 : okR x = true) (hp : p) : sameK r dst x p:=by
 subst h0
 unfold sameK
 simp only [Tr.getK_eq,h1]
 exact cS rfl h2 hp
noncomputable abbrev tabSgn : List (FuncId × Eng.Fn):=[(F.frame_sign,fn.frame_sign u0)]
theorem tabSgn_ok {d : Nat} : TabOk d tabSgn tt:=.cons (ok.frame_sign u0) (TabOk.nil)
theorem sgn_run (b : Bool) : clRunX 3 tt outs0b tabSgn 2 F.frame_sign [] [bv b] ([]) (fun x h=>Trim 0 x h fun x h=>x = sv (bs [b]) ∧ h = []):=by
 cases b
 ·refine wB ?_
  exact trim0 rfl rfl
 ·refine wB ?_
  exact trim0 rfl rfl
theorem sgn_ok : ConOk Tryz.prog F.frame_sign bitC:=con_of_run (clRunX_ok (d:=3) ttOk outs0b_ok tabSgn_ok 2) (fn_enters (ok.frame_sign (D:=3) u0 _ (clRunX_ok (d:=3) ttOk .nil TabOk.nil 1))) fun p _=>sgn_run p
abbrev outsPab : List (FuncId × Cx):=[(F.frame_Is,AskC isFC),(F.frame_sign,AskC bitC),(F.bits_Of,AskC ofC)]
theorem outsPab_ok : OutsOk Tryz.prog outsPab:=.cons (ask_ok fis_ok) (.cons (ask_ok sgn_ok) (.cons (ask_ok pof_ok) .nil))
noncomputable abbrev tabPab : List (FuncId × Eng.Fn):=[(F.frame_Arb,fn.frame_Arb u0)]
theorem tabPab_ok {d : Nat} : TabOk d tabPab tt:=.cons (ok.frame_Arb u0) (TabOk.nil)
theorem pab_run (ext : Bool) (id : Nat) (v : Int) (hv : v = (id : Int)) (rtr : Bool) (data : ByteArray) (hf : (Frm.mk ext id rtr data).ok) : clRunX 6 tt outsPab tabPab 2 F.frame_Arb [] [frmV ext v rtr data] ([]) (fun x h=>Trim 0 x h fun x h=>x = sv (bs (arb ⟨ext,id,rtr,data⟩)) ∧ h = []):=by
 have hin:=ok_in hf
 obtain ⟨h1,h2⟩:=hin
 have h1 : id < 4294967296:=h1
 subst hv
 refine wB ?_
 refine isF_use (f:=⟨ext,id,rtr,data⟩) (ok_in hf) ?_
 rw [decide_eq_true hf]
 cases ext
 ·have z1 : (bs (ofN id 11)).size = 11:=by rw [bs_size,ofN_len]
  have z2 : (bs [rtr]).size = 1:=bs_size _
  have z3 : (bs [false]).size = 1:=bs_size _
  have z4 : (bs [false] ++ bs (ofN id 11)).size = 12:=by rw [bs_app,bs_size,List.length_append,ofN_len]; rfl
  have z5 : (bs [false] ++ bs (ofN id 11) ++ bs [rtr]).size = 13:=by rw [bs_app,bs_app,bs_size,List.length_append,List.length_append,ofN_len]; rfl
  refine wB ?_
  refine of_use (w:=11) (by omega) (by omega) ?_
  rw [bs0]
  refine wB ?_
  refine bit_use ?_
  refine wB ?_
  refine trim0 rfl (congrArg sv ?_)
  rw [bs_app,bs_app,bs_app]
  unfold arb
  simp
 ·have hid : id < 536870912:=by
   have:=((okE true 536870912 (if_pos rfl) id rtr data).1 hf).2.2
   exact this
  have z1 : (bs (ofN (id / 262144) 11)).size = 11:=by rw [bs_size,ofN_len]
  have z3 : (bs [false]).size = 1:=bs_size _
  have z0 : (bs [true]).size = 1:=bs_size _
  have z4 : (bs [false] ++ bs (ofN (id / 262144) 11)).size = 12:=by rw [bs_app,bs_size,List.length_append,ofN_len]; rfl
  have z5 : (bs [false] ++ bs (ofN (id / 262144) 11) ++ bs [true]).size = 13:=by rw [bs_app,bs_app,bs_size,List.length_append,List.length_append,ofN_len]; rfl
  have z6 : (bs [false] ++ bs (ofN (id / 262144) 11) ++ bs [true] ++ bs [true]).size = 14:=by rw [bs_app,bs_app,bs_app,bs_size,List.length_append,List.length_append,List.length_append,ofN_len]; rfl
  have z7 : (bs (ofN id 18)).size = 18:=by rw [bs_size,ofN_len]
  have z8 : (bs [false] ++ bs (ofN (id / 262144) 11) ++ bs [true] ++ bs [true] ++ bs (ofN id 18)).size = 32:=by rw [bs_app,bs_app,bs_app,bs_app,bs_size,List.length_append,List.length_append,List.length_append,List.length_append,ofN_len,ofN_len]; rfl
  have z9 : (bs [rtr]).size = 1:=bs_size _
  refine wB ?_
  rw [shr18]
  refine wB ?_
  refine of_use (w:=11) (by omega) (by omega) ?_
  rw [bs0,bs1]
  refine wB ?_
  try rw [shr18]
  refine wB ?_
  refine of_use (w:=18) (by omega) (by omega) ?_
  refine wB ?_
  try rw [shr18]
  refine wB ?_
  refine bit_use ?_
  refine wB ?_
  try rw [shr18]
  refine wB ?_
  refine trim0 rfl (congrArg sv ?_)
  rw [bs_app,bs_app,bs_app,bs_app,bs_app]
  unfold arb
  simp
theorem pab_ok : ConOk Tryz.prog F.frame_Arb arbC:=con_of_run (clRunX_ok (d:=6) ttOk outsPab_ok tabPab_ok 2) (fn_enters (ok.frame_Arb (D:=6) u0 _ (clRunX_ok (d:=6) ttOk .nil TabOk.nil 1))) fun p hp=>pab_run p.ext p.id p.id rfl p.rtr p.data hp
abbrev outsPbd : List (FuncId × Cx):=[(F.frame_Is,AskC isFC),(F.frame_Arb,AskC arbC),(F.bits_Of,AskC ofC),(F.bits_FromBytes,AskC byC)]
theorem outsPbd_ok : OutsOk Tryz.prog outsPbd:=.cons (ask_ok fis_ok) (.cons (ask_ok pab_ok) (.cons (ask_ok pof_ok) (.cons (ask_ok pby_ok) .nil)))
noncomputable abbrev tabPbd : List (FuncId × Eng.Fn):=[(F.frame_Body,fn.frame_Body u0)]
theorem tabPbd_ok {d : Nat} : TabOk d tabPbd tt:=.cons (ok.frame_Body u0) (TabOk.nil)
theorem pbd_run (ext : Bool) (id : Nat) (v : Int) (hv : v = (id : Int)) (rtr : Bool) (data : ByteArray) (hf : (Frm.mk ext id rtr data).ok) : clRunX 6 tt outsPbd tabPbd 2 F.frame_Body [] [frmV ext v rtr data] ([]) (fun x h=>Trim 0 x h fun x h=>x = sv (bs (body ⟨ext,id,rtr,data⟩)) ∧ h = []):=by
 have hd : data.size ≤ 8:=hf.2.1
 subst hv
 refine wB ?_
 refine isF_use (f:=⟨ext,id,rtr,data⟩) (ok_in hf) ?_
 rw [decide_eq_true hf]
 cases ext
 ·have hB : body ⟨false,id,rtr,data⟩ = arb ⟨false,id,rtr,data⟩ ++ [false] ++ ofN data.size 4 ++ byB data:=rfl
  rw [hB]
  refine wB ?_
  refine arb_use (f:=⟨false,id,rtr,data⟩) hf ?_
  have ha:=arb_len ⟨false,id,rtr,data⟩
  have hz:=bs_size (arb ⟨false,id,rtr,data⟩)
  clear hB
  generalize arb ⟨false,id,rtr,data⟩ = A at *
  have z1 : (bs [false]).size = 1:=bs_size _
  have z2 : (bs A ++ bs [false]).size = A.length + 1:=by rw [bs_app,bs_size,List.length_append]; rfl
  have z4 : (bs (ofN data.size 4)).size = 4:=by rw [bs_size,ofN_len]
  have z5 : (bs A ++ bs [false] ++ bs (ofN data.size 4)).size = A.length + 5:=by rw [bs_app,bs_app,bs_size,List.length_append,List.length_append,ofN_len]; rfl
  have z7 : (bs (byB data)).size = 8 * data.size:=by rw [bs_size,byB_len]
  rw [bs0]
  (conv=>whnf)
  with_reducible refine qS ?_ ?_ ?_
  ·exact rfl
  ·exact rfl
  (conv=>whnf)
  with_reducible refine qS ?_ ?_ ?_
  ·exact rfl
  ·exact rfl
  (conv=>whnf)
  with_reducible refine qU64 ?_ ?_
  ·omega
  (conv=>whnf)
  with_reducible refine qS ?_ ?_ ?_
  ·exact rfl
  ·exact rfl
  (conv=>whnf)
  with_reducible refine qS ?_ ?_ ?_
  ·exact rfl
  ·exact rfl
  change nthK _ _ _
  refine nth_of rfl ?_
  refine grd0 rfl ?_
  refine ev_cat rfl rfl (by omega) ?_
  (conv=>whnf)
  refine of_use (n:=data.size) (w:=4) (by omega) (by omega) ?_
  (conv=>whnf)
  with_reducible refine qS ?_ ?_ ?_
  ·exact rfl
  ·exact rfl
  change nthK _ _ _
  refine nth_of rfl ?_
  refine grd0 rfl ?_
  refine ev_cat rfl rfl (by omega) ?_
  (conv=>whnf)
  with_reducible refine qS ?_ ?_ ?_
  ·exact rfl
  ·exact rfl
  change nthK _ _ _
  refine nth_of rfl ?_
  refine grd0 rfl ?_
  refine ev_cat rfl rfl (by omega) ?_
  (conv=>whnf)
  refine by_use (by omega) ?_
  change nthK _ _ _
  refine nth_of rfl ?_
  refine grd0 rfl ?_
  refine ev_mv rfl ?_
  change sameK _ _ _ _
  refine sameK_ok rfl rfl rfl ?_
  change nthK _ _ _
  refine nth_of rfl ?_
  refine grd0 rfl ?_
  refine ev_cat rfl rfl (by omega) ?_
  (conv=>whnf)
  with_reducible refine qS ?_ ?_ ?_
  ·exact rfl
  ·exact rfl
  change nthK _ _ _
  refine nth_of rfl ?_
  refine grd0 rfl ?_
  refine ev_cat rfl rfl (by omega) ?_
  (conv=>whnf)
  with_reducible refine qS ?_ ?_ ?_
  ·exact rfl
  ·exact rfl
  change nthK _ _ _
  refine nth_of rfl ?_
  refine grd0 rfl ?_
  refine ev_cat rfl rfl (by omega) ?_
  refine wB ?_
  refine trim0 rfl (congrArg sv ?_)
  rw [bs_app,bs_app,bs_app]
 ·have hB : body ⟨true,id,rtr,data⟩ = arb ⟨true,id,rtr,data⟩ ++ [false,false] ++ ofN data.size 4 ++ byB data:=rfl
  rw [hB]
  refine wB ?_
  refine arb_use (f:=⟨true,id,rtr,data⟩) hf ?_
  have ha:=arb_len ⟨true,id,rtr,data⟩
  have hz:=bs_size (arb ⟨true,id,rtr,data⟩)
  clear hB
  generalize arb ⟨true,id,rtr,data⟩ = A at *
  have z1 : (bs [false,false]).size = 2:=bs_size _
  have z2 : (bs A ++ bs [false,false]).size = A.length + 2:=by rw [bs_app,bs_size,List.length_append]; rfl
  have z4 : (bs (ofN data.size 4)).size = 4:=by rw [bs_size,ofN_len]
  have z5 : (bs A ++ bs [false,false] ++ bs (ofN data.size 4)).size = A.length + 6:=by rw [bs_app,bs_app,bs_size,List.length_append,List.length_append,ofN_len]; rfl
  have z7 : (bs (byB data)).size = 8 * data.size:=by rw [bs_size,byB_len]
  rw [bs00]
  (conv=>whnf)
  with_reducible refine qS ?_ ?_ ?_
  ·exact rfl
  ·exact rfl
  (conv=>whnf)
  with_reducible refine qS ?_ ?_ ?_
  ·exact rfl
  ·exact rfl
  (conv=>whnf)
  with_reducible refine qU64 ?_ ?_
  ·omega
  (conv=>whnf)
  with_reducible refine qS ?_ ?_ ?_
  ·exact rfl
  ·exact rfl
  (conv=>whnf)
  with_reducible refine qS ?_ ?_ ?_
  ·exact rfl
  ·exact rfl
  change nthK _ _ _
  refine nth_of rfl ?_
  refine grd0 rfl ?_
  refine ev_cat rfl rfl (by omega) ?_
  (conv=>whnf)
  refine of_use (n:=data.size) (w:=4) (by omega) (by omega) ?_
  (conv=>whnf)
  with_reducible refine qS ?_ ?_ ?_
  ·exact rfl
  ·exact rfl
  change nthK _ _ _
  refine nth_of rfl ?_
  refine grd0 rfl ?_
  refine ev_cat rfl rfl (by omega) ?_
  (conv=>whnf)
  with_reducible refine qS ?_ ?_ ?_
  ·exact rfl
  ·exact rfl
  change nthK _ _ _
  refine nth_of rfl ?_
  refine grd0 rfl ?_
  refine ev_cat rfl rfl (by omega) ?_
  (conv=>whnf)
  refine by_use (by omega) ?_
  change nthK _ _ _
  refine nth_of rfl ?_
  refine grd0 rfl ?_
  refine ev_mv rfl ?_
  change sameK _ _ _ _
  refine sameK_ok rfl rfl rfl ?_
  change nthK _ _ _
  refine nth_of rfl ?_
  refine grd0 rfl ?_
  refine ev_cat rfl rfl (by omega) ?_
  (conv=>whnf)
  with_reducible refine qS ?_ ?_ ?_
  ·exact rfl
  ·exact rfl
  change nthK _ _ _
  refine nth_of rfl ?_
  refine grd0 rfl ?_
  refine ev_cat rfl rfl (by omega) ?_
  (conv=>whnf)
  with_reducible refine qS ?_ ?_ ?_
  ·exact rfl
  ·exact rfl
  change nthK _ _ _
  refine nth_of rfl ?_
  refine grd0 rfl ?_
  refine ev_cat rfl rfl (by omega) ?_
  refine wB ?_
  refine trim0 rfl (congrArg sv ?_)
  rw [bs_app,bs_app,bs_app]
theorem pbd_ok : ConOk Tryz.prog F.frame_Body bodC:=con_of_run (clRunX_ok (d:=6) ttOk outsPbd_ok tabPbd_ok 2) (fn_enters (ok.frame_Body (D:=6) u0 _ (clRunX_ok (d:=6) ttOk .nil TabOk.nil 1))) fun p hp=>pbd_run p.ext p.id p.id rfl p.rtr p.data hp
abbrev outsPec : List (FuncId × Cx):=[(F.frame_Is,AskC isFC),(F.frame_Body,AskC bodC),(F.bits_CRC,AskC crcC),(F.bits_Of,AskC ofC),(F.stuff_Stuff,AskC stuC)]
theorem outsPec_ok : OutsOk Tryz.prog outsPec:=.cons (ask_ok fis_ok) (.cons (ask_ok pbd_ok) (.cons (ask_ok pcr_ok) (.cons (ask_ok pof_ok) (.cons (ask_ok pst_ok) .nil))))
def ecX (S : List Bool) (i q : Nat) : Int:=if q < S.length then cI (gb S q) else if q < i then 49 else 0
noncomputable abbrev tabPec : List (FuncId × Eng.Fn):=[(F.code_Encode,fn.code_Encode u0)]
theorem tabPec_ok {d : Nat} : TabOk d tabPec tt:=.cons (ok.code_Encode u0) (TabOk.nil)
theorem pec_run (ext : Bool) (id : Nat) (v : Int) (hv : v = (id : Int)) (rtr : Bool) (data : ByteArray) (hf : FIn ⟨ext,id,rtr,data⟩) : clRunX 6 tt outsPec tabPec 2 F.code_Encode [] [frmV ext v rtr data] ([]) (fun x h=>Trim 0 x h fun x h=>x = sv (enc ⟨ext,id,rtr,data⟩) ∧ h = []):=by
 subst hv
 refine wB ?_
 refine isF_use (f:=⟨ext,id,rtr,data⟩) hf ?_
 by_cases hok : (Frm.mk ext id rtr data).ok
 rotate_left
 ·rw [decide_eq_false hok]
  refine wB ?_
  refine trim0 rfl (congrArg sv ?_)
  unfold enc
  rw [if_neg hok]; rfl
 rw [decide_eq_true hok]
 have hE : enc ⟨ext,id,rtr,data⟩ = bs (encB ⟨ext,id,rtr,data⟩):=if_pos hok
 have hE2 : encB ⟨ext,id,rtr,data⟩ = stuff (body ⟨ext,id,rtr,data⟩ ++ ofN (crc (body ⟨ext,id,rtr,data⟩)) 15) ++ List.replicate 10 true:=rfl
 have hlen:=body_len ⟨ext,id,rtr,data⟩
 have hd : data.size ≤ 8:=hok.2.1
 have ht : thr ⟨ext,id,rtr,data⟩ ≤ 39:=by unfold thr; split <;> omega
 have hlen : (body ⟨ext,id,rtr,data⟩).length ≤ 103:=by
  rw [hlen]; show thr _ + 8 * data.size ≤ 103; omega
 refine wB ?_
 refine bod_use (f:=⟨ext,id,rtr,data⟩) hok ?_
 rw [hE,hE2]
 generalize body ⟨ext,id,rtr,data⟩ = B at *
 have zb:=bs_size B
 refine wB ?_
 refine crc_use (by omega) ?_
 rw [rd_bs]
 have hc:=crc_lt B
 generalize hC : crc B = c at *
 refine wB ?_
 refine of_use (n:=c) (w:=15) (by omega) (by omega) ?_
 have z1 : (bs (ofN c 15)).size = 15:=by rw [bs_size,ofN_len]
 refine wB ?_
 rw [bs_app]
 refine stu_use (by rw [bs_size,List.length_append,ofN_len]; omega) ?_
 rw [rd_bs]
 have z2:=stuffGo_len run0 (B ++ ofN c 15)
 rw [List.length_append,ofN_len] at z2
 have z2 : (stuff (B ++ ofN c 15)).length ≤ 2 * (B.length + 15):=z2
 have z3:=bs_size (stuff (B ++ ofN c 15))
 generalize stuff (B ++ ofN c 15) = S at *
 obtain ⟨k,hk⟩ : ∃ k,S.length = k:=⟨_,rfl⟩
 rw [hk] at z2 z3
 refine wB ?_
 rw [show ((bs S).size : Int) + 10 = ((k + 10 : Nat) : Int) by omega]
 refine wB ?_
 refine cDT ?_ ?_
 ·refine ⟨by omega,by omega, ?_,by omega⟩
  dsimp only
  omega
 try rw [tn]
 refine wB ?_
 refine .inv (fun i : Nat=>k ≤ i ∧ i ≤ k + 10) (fun i=>[(6,iv .i64 i)]) (fun i=>[.ob (.own (segsOf (.agg [.c (.v (.bool ext)),.c (.v (.int .u32 (id : Int))),.c (.v (.bool rtr)),.c (.v (.string data))]))),.ob (.row 1 (k + 10) (fun q=>[.v (.int .u8 (ecX S i q))]) (k + 10))]) (fun i=>k + 10 - i) k ⟨Nat.le_refl _,by omega⟩ ?_ (fun i ⟨hi,hi2⟩=>?_)
 ·have e6 : ((min (bs S).size (k + 10) : Nat) : Int) = (k : Int):=by rw [z3]; omega
  conv=>whnf
  refine Le.id rfl ?_ ?_
  all_goals(repeat'(first|exact wZ|refine And.intro ?_ ?_))
  ·intro q hq
   have hq : q < k + 10:=hq
   show (if 0 ≤ q ∧ q < 0 + min (bs S).size (k + 10) then [C.v (.int .u8 (bt (bs S) (q - 0)))] else [C.v (.int .u8 0)]) = [C.v (.int .u8 (ecX S k q))]
   unfold ecX
   rw [z3,hk]
   by_cases c : q < k
   ·rw [if_pos (by omega),if_pos c,Nat.sub_zero,bt_bs (by omega)]
   ·rw [if_neg (by omega),if_neg c,if_neg c]
  ·exact congrArg (fun v : Int=>iv .i64 v) e6
 have hup : ∀ q,q < k + 10 → (if q = i then [(.v (.int .u8 49) : C)] else [.v (.int .u8 (ecX S i q))]) = [.v (.int .u8 (ecX S (i + 1) q))]:=fun q hq=>by
  unfold ecX
  rw [hk]
  by_cases c : q = i
  ·rw [if_pos c,if_neg (by omega),if_pos (by omega)]
  ·rw [if_neg c]
   by_cases d : q < k
   ·rw [if_pos d,if_pos d]
   ·rw [if_neg d,if_neg d]
    by_cases e : q < i
    ·rw [if_pos e,if_pos (by omega)]
    ·rw [if_neg e,if_neg (by omega)]
 conv=>whnf
 refine cD (fun h5=>?_) (fun h5=>?_)
 ·refine wB ?_
  refine ⟨i + 1,⟨⟨by omega,by omega⟩,by omega⟩, ?_⟩
  conv=>whnf
  refine Le.id rfl ?_ ?_
  all_goals(repeat'(first|exact wZ|refine And.intro ?_ ?_))
  intro q hq
  show (if q = 0 + (i : Int).toNat then [(.v (.int .u8 49) : C)] else [.v (.int .u8 (ecX S i q))]) = [.v (.int .u8 (ecX S (i + 1) q))]
  rw [tn,Nat.zero_add]
  exact hup q hq
 obtain rfl : i = k + 10:=by omega
 refine wB ?_
 refine cT (bytesB_mk fun q hq=>⟨_,rfl⟩) ?_
 refine wB ?_
 refine trim0 rfl (congrArg sv ?_)
 refine mkStr_bs (by rw [List.length_append,hk]; rfl) fun q hq=>?_
 show [C.v (.int .u8 (ecX S (k + 10) (0 + q)))] = _
 unfold ecX
 rw [Nat.zero_add,hk]
 by_cases c : q < k
 ·rw [if_pos c,gb_left (by omega)]
 ·rw [if_neg c,if_pos hq,gb_right (by omega),hk]
  have : gb (List.replicate 10 true) (q - k) = true:=by
   unfold gb
   rw [List.getD_eq_getElem?_getD,List.getElem?_replicate,if_pos (by omega)]; rfl
  rw [this]; rfl
theorem pec_ok : ConOk Tryz.prog F.code_Encode encC:=con_of_run (clRunX_ok (d:=6) ttOk outsPec_ok tabPec_ok 2) (fn_enters (ok.code_Encode (D:=6) u0 _ (clRunX_ok (d:=6) ttOk .nil TabOk.nil 1))) fun p hp=>pec_run p.ext p.id p.id rfl p.rtr p.data hp
def mxV (st lf sn gt : Nat) (w : Bool) (f : Frm) (on : Bool) (bits : ByteArray) (arb pos : Nat) : Nat → Value
 | 0=>.int .i64 (st : Int)
 | 1=>.int .i64 (lf : Int)
 | 2=>.int .i64 (sn : Int)
 | 3=>.int .i64 (gt : Int)
 | 4=>.bool w
 | 5=>.bool f.ext
 | 6=>.int .u32 (f.id : Int)
 | 7=>.bool f.rtr
 | 8=>.string f.data
 | 9=>.bool on
 | 10=>.string bits
 | 11=>.int .i64 (arb : Int)
 | _=>.int .i64 (pos : Int)
theorem macS_rdM (st lf sn gt : Nat) (w : Bool) (f : Frm) (on : Bool) (bits : ByteArray) (arb pos : Nat) (r : Rd) : macS st lf sn gt w f on bits arb pos r = rdM (mxV st lf sn gt w f on bits arb pos) r:=rfl
theorem rdM_le (x : Nat → Value) (r : Rd) (g : Nat → Nat) : leHE g (rdM x r) (rdM x r):=by
 refine ⟨rfl,rfl,rfl,rfl,rfl,rfl,rfl,rfl,rfl,rfl,rfl,rfl,rfl,rfl,rfl,⟨rfl,fun i _=>rfl⟩,rfl,rfl,rfl,rfl,rfl,trivial⟩
theorem rdM_ren (x : Nat → Value) (r : Rd) (g : Nat → Nat) : renHE g (rdM x r) = rdM x r:=rfl
theorem psm_use {st lf sn gt : Nat} {w : Bool} {f : Frm} {on : Bool} {bits : ByteArray} {arb pos : Nat} {r : Rd} {c : Bool} {h : Heap} {K : R → Heap → Prop} (n : Nat) (hn : h[n]? = some (macS st lf sn gt w f on bits arb pos r)) (hr : r.Ok) (hf : r.fin ≤ 1000000)
    (hk : K (iv .i64 ((r.push c).2 : Nat)) (h.set n (macS st lf sn gt w f on bits arb pos (r.push c).1))) : AskC pshMC [.t (.one (.ptr n 13)), iv .u8 (cI c)] h K := by
  rw [macS_rdM] at hn hk
  refine .det (mxV st lf sn gt w f on bits arb pos, r, c) [n] _ (h.set n (rdM (mxV st lf sn gt w f on bits arb pos) (r.push c).1)) ⟨hr, hf⟩ rfl ⟨hent_of hn (rdM_le _ r _), trivial⟩ ⟨.inl rfl, .inl rfl, trivial⟩ rfl ?_ hk
  rw [mrg_set rfl, rdM_ren]; simp
theorem rb_bs (r : Rd) : mkStr ((r.b.length : Int).toNat - 0) (fun i=>[rbF r.b (0 + i)]) = bs r.b:=mkStr_bs (by rfl) fun q hq=>by
 have hq : q < r.b.length:=hq
 show [rbF _ (0 + q)] = _
 unfold rbF
 rw [Nat.zero_add,if_pos hq]
abbrev outsRfr : List (FuncId × Cx):=[(F.frame_Parse,AskC prsC)]
theorem outsRfr_ok : OutsOk Tryz.prog outsRfr:=.cons (ask_ok prs_ok) .nil
abbrev rfrC : Con ((Nat → Value) × Rd):=DetCon (fun p=>[.t (.one (.ptr 0 13))]) (fun p=>[rdM p.1 p.2]) (fun p=>p.2.Ok) (fun p=>frmR (parse p.2.b).1) fun p=>[rdM p.1 p.2]
noncomputable abbrev tabRfr : List (FuncId × Eng.Fn):=[(F.code_Reader_Frame,fn.code_Reader_Frame u0)]
theorem tabRfr_ok {d : Nat} : TabOk d tabRfr tt:=.cons (ok.code_Reader_Frame u0) (TabOk.nil)
theorem rfr_run (x : Nat → Value) (r : Rd) (hr : r.Ok) : clRunX 5 tt outsRfr tabRfr 2 F.code_Reader_Frame [] [.t (.one (.ptr 0 13))] [rdM x r] (fun y h=>Trim 1 y h fun y h=>y = frmR (parse r.b).1 ∧ h = [rdM x r]):=by
 have hb:=hr.len
 refine wB ?_
 refine cT (bytesB_mk fun q hq=>⟨_,rfl⟩) ?_
 rw [rb_bs]
 refine wB ?_
 refine ⟨?_, ?_⟩
 ·refine wB ?_
  refine prs_use (s:=bs r.b) (by rw [bs_size]; omega) ?_
  rw [rd_bs]
  refine wB ?_
  refine Trim.det (Le.id rfl wH wH)
 ·refine wB ?_
  try refine cT (bytesB_mk fun q hq=>⟨_,rfl⟩) ?_
  try rw [rb_bs]
  refine wB ?_
  refine prs_use (s:=bs r.b) (by rw [bs_size]; omega) ?_
  rw [rd_bs]
  refine wB ?_
  refine Trim.det (Le.id rfl wH wH)
theorem rfr_ok : ConOk Tryz.prog F.code_Reader_Frame rfrC:=con_of_run (clRunX_ok (d:=5) ttOk outsRfr_ok tabRfr_ok 2) (fn_enters (ok.code_Reader_Frame (D:=5) u0 _ (clRunX_ok (d:=5) ttOk .nil TabOk.nil 1))) fun p hp=>rfr_run p.1 p.2 hp
theorem rfr_use {st lf sn gt : Nat} {w : Bool} {f : Frm} {on : Bool} {bits : ByteArray} {arb pos : Nat} {r : Rd} {h : Heap} {K : R → Heap → Prop} (n : Nat) (hn : h[n]? = some (macS st lf sn gt w f on bits arb pos r)) (hr : r.Ok)
    (hk : K (frmR (parse r.b).1) h) : AskC rfrC [.t (.one (.ptr n 13))] h K := by
  rw [macS_rdM] at hn
  refine .det (mxV st lf sn gt w f on bits arb pos, r) [n] _ h hr rfl ⟨hent_of hn (rdM_le _ r _), trivial⟩ ⟨.inl rfl, trivial⟩ rfl ?_ hk
  rw [mrg_set rfl, rdM_ren]
  simp only [List.map_nil, List.append_nil]
  exact List.ext_getElem? fun i => by
    rw [List.getElem?_set]
    split
    · rename_i e; subst e
      rw [hn]
      split
      · rfl
      · rename_i hlt; rw [List.getElem?_eq_none (by omega)] at hn; cases hn
    · rfl
theorem pl_use {α : Type} {X : α → List R} {pre : α → Prop} {F : α → R} {h : Heap} {K : R → Heap → Prop} (p : α) (hp : pre p) (hX : ((X p).all plR && (X p).all isT && plR (F p)) = true) (hk : K (F p) h) : AskC (DetCon X (fun _=>[]) pre F fun _=>[]) (X p) h K:=by
 simp only [Bool.and_eq_true] at hX
 refine .det p [] (F p) h hp rfl trivial (plRs_leX (by rw [hX.1.1,hX.1.2]; rfl)) (plR_ren hX.2) ?_ hk
 have:=mrg_ro (g:=back h [] []) (h:=h) (l:=[]) (h':=[]) rfl []
 simpa using this
theorem cfs_use {c : Cts} {b : Bool} {h : Heap} {K : R → Heap → Prop} (hc : c.Ok) (hk : K (ctsT (c.send b)) h) : AskC cfSentC [ctsT c,bv b] h K:=pl_use (X:=fun p : Cts × Bool=>[ctsT p.1,bv p.2]) (c,b) hc rfl hk
theorem cfg_use {c : Cts} {b : Bool} {h : Heap} {K : R → Heap → Prop} (hc : c.Ok) (hk : K (ctsT (c.take b)) h) : AskC cfGotC [ctsT c,bv b] h K:=pl_use (X:=fun p : Cts × Bool=>[ctsT p.1,bv p.2]) (c,b) hc rfl hk
theorem cfo_use {c : Cts} {h : Heap} {K : R → Heap → Prop} (hk : K (bv c.off) h) : AskC cfOffC [ctsT c] h K:=pl_use (X:=fun p : Cts=>[ctsT p]) c trivial rfl hk
abbrev evC (e : Ev) : List C:=[.v (.int .i64 (e.kind : Int)),.v (.bool e.f.ext),.v (.int .u32 (e.f.id : Int)),.v (.bool e.f.rtr),.v (.string e.f.data),.v (.int .i64 (e.e : Int))]
def ev0 : Ev:=⟨0,frm0,0⟩
def evF : List Ev → Nat → List C
 | [],_=>evC ev0
 | e :: _,0=>evC e
 | _ :: l,q + 1=>evF l q
abbrev evR (l : List Ev) (b cap : Nat) : R:=match l with
 | []=>nilS
 | _ :: _=>.t (.one (.slc b 0 6 0 l.length cap false))
abbrev rowsE (l : List Ev) (cap : Nat) : Heap:=match l with
 | []=>[]
 | _ :: _=>[.ob (.row 6 l.length (evF l) cap)]
abbrev outsHrs : List (FuncId × Cx):=[(F.code_Reader_Push,AskC pshMC),(F.code_Reader_Frame,AskC rfrC),(F.confine_Got,AskC cfGotC),(F.confine_Sent,AskC cfSentC),(F.confine_IsOff,AskC cfOffC)]
theorem outsHrs_ok : OutsOk Tryz.prog outsHrs:=.cons (ask_ok psm_ok) (.cons (ask_ok rfr_ok) (.cons (ask_ok cfGot_ok) (.cons (ask_ok cfSent_ok) (.cons (ask_ok cfOff_ok) .nil))))
noncomputable abbrev tabHrs : List (FuncId × Eng.Fn):=[(F.mac_Mac_hears,fn.mac_Mac_hears u0),(F.mac_Mac_flags,fn.mac_Mac_flags u0),(F.code_Reader_End,fn.code_Reader_End u0)]
theorem tabHrs_ok {d : Nat} : TabOk d tabHrs tt:=.cons (ok.mac_Mac_hears u0) (.cons (ok.mac_Mac_flags u0) (.cons (ok.code_Reader_End u0) (TabOk.nil)))
theorem hears_run (st lf sn gt : Nat) (w : Bool) (f : Frm) (on : Bool) (bits : List Bool) (arb pos : Nat) (r : Rd) (lv : Bool) (hr : r.Ok) (hr2 : (r.push lv).2 = 0 → (r.push lv).1.Ok) (hf : r.fin ≤ 1000) (hc : (⟨sn, gt⟩ : Cts).Ok) (m' : Mac) (l : List Ev) (hm : (⟨st, lf, ⟨sn, gt⟩, w, f, on, bits, arb, pos, r⟩ : Mac).hears lv = (m', l)) :
    clRunX 6 tt outsHrs tabHrs 3 F.mac_Mac_hears [] [pR 0, iv .u8 (cI lv)] [macS st lf sn gt w f on (bs bits) arb pos r] (fun x h => Trim 1 x h fun x h => x = evR l 1 l.length ∧ h = macE m' :: rowsE l l.length) := by
  have e0 : (⟨st, lf, ⟨sn, gt⟩, w, f, on, bits, arb, pos, r⟩ : Mac).hears lv = if (r.push lv).2 ≠ 0 then (⟨st, lf, (⟨sn, gt⟩ : Cts).take false, w, f, on, bits, arb, pos, (r.push lv).1⟩ : Mac).flags ⟨5, frm0, (r.push lv).2⟩
    else if (r.push lv).1.end_ < 6 then (⟨st, lf, ⟨sn, gt⟩, w, f, on, bits, arb, pos, (r.push lv).1⟩, [])
    else (⟨2, lf, (⟨sn, gt⟩ : Cts).take true, w, f, on, bits, arb, pos, (r.push lv).1⟩, [⟨2, (parse (r.push lv).1.b).1, 0⟩]) := rfl
  rw [e0] at hm
  refine wB ?_
  refine psm_use 0 rfl hr (by omega) ?_
  have hfin : (r.push lv).1.fin ≤ r.fin + 1 := push_fin
  generalize (r.push lv).1 = r' at *
  generalize (r.push lv).2 = e at *
  have he : r'.end_ = r'.fin - 3 := rfl
  by_cases c0 : e = 0
  · subst c0
    rw [if_neg (by simp)] at hm
    by_cases c1 : r'.end_ < 6
    · rw [if_pos c1] at hm
      obtain ⟨rfl, rfl⟩ := Prod.mk.inj hm
      refine wB ?_
      refine Trim.det (Le.id rfl wH wH)
    · rw [if_neg c1] at hm
      obtain ⟨rfl, rfl⟩ := Prod.mk.inj hm
      refine wB ?_
      refine cfg_use (c := ⟨sn, gt⟩) hc ?_
      generalize (⟨sn, gt⟩ : Cts).take true = c' at *
      obtain ⟨s2, g2⟩ := c'
      refine wB ?_
      refine rfr_use 0 rfl (hr2 rfl) ?_
      refine wB ?_
      refine Trim.det (Le.id rfl wH wH)
  · rw [if_pos c0] at hm
    refine wB ?_
    refine cfg_use (c := ⟨sn, gt⟩) hc ?_
    generalize (⟨sn, gt⟩ : Cts).take false = c' at *
    obtain ⟨s2, g2⟩ := c'
    have e1 : (⟨st, lf, ⟨s2, g2⟩, w, f, on, bits, arb, pos, r'⟩ : Mac).flags ⟨5, frm0, e⟩ = if (⟨s2, g2⟩ : Cts).off then (⟨7, lf, ⟨s2, g2⟩, w, f, on, bits, arb, pos, r'⟩, [⟨5, frm0, e⟩, ⟨7, frm0, 0⟩]) else (⟨3, 6, ⟨s2, g2⟩, w, f, on, bits, arb, pos, r'⟩, [⟨5, frm0, e⟩]) := rfl
    rw [e1] at hm
    refine wB ?_
    refine cfo_use (c := ⟨s2, g2⟩) ?_
    cases ho : (⟨s2, g2⟩ : Cts).off
    · rw [ho, if_neg (by simp)] at hm
      obtain ⟨rfl, rfl⟩ := Prod.mk.inj hm
      refine wB ?_
      refine Trim.det (Le.nm [0, 2] rfl wH wH)
    · rw [ho, if_pos rfl] at hm
      obtain ⟨rfl, rfl⟩ := Prod.mk.inj hm
      refine wB ?_
      refine Trim.det (Le.nm [0, 2] rfl wH wH)
abbrev HrP (m : Mac) (lv : Bool) : Prop:=m.r.Ok ∧ ((m.r.push lv).2 = 0 → (m.r.push lv).1.Ok) ∧ m.r.fin ≤ 1000 ∧ m.c.Ok
abbrev hrsC : Con (Mac × Bool):=DetCon (fun p=>[pR 0,iv .u8 (cI p.2)]) (fun p=>[macE p.1]) (fun p=>HrP p.1 p.2) (fun p=>evR (p.1.hears p.2).2 1 (p.1.hears p.2).2.length) fun p=>macE (p.1.hears p.2).1 :: rowsE (p.1.hears p.2).2 (p.1.hears p.2).2.length
theorem hrs_ok : ConOk Tryz.prog F.mac_Mac_hears hrsC:=con_of_run (clRunX_ok (d:=6) ttOk outsHrs_ok tabHrs_ok 3) (fn_enters (ok.mac_Mac_hears (D:=6) u0 _ (clRunX_ok (d:=6) ttOk .nil TabOk.nil 1))) fun p hp=>hears_run p.1.state p.1.left p.1.c.sent p.1.c.got p.1.waits p.1.f p.1.on p.1.bits p.1.arb p.1.pos p.1.r p.2 hp.1 hp.2.1 hp.2.2.1 hp.2.2.2 _ _ rfl
theorem evF_ren (g : Nat → Nat) : ∀ (l : List Ev) (i : Nat),(evF l i).map (renC g) = evF l i
 | [],_=>rfl
 | _ :: _,0=>rfl
 | _ :: l,q + 1=>evF_ren g l q
theorem rowsE_ren (g : Nat → Nat) (l : List Ev) (cap : Nat) : (rowsE l cap).map (renHE g) = rowsE l cap:=by
 cases l with
 | nil=>rfl
 | cons e l =>
  show [HE.ob (.row 6 _ (fun i=>(evF (e :: l) i).map (renC g)) cap)] = _
  rw [funext (evF_ren g (e :: l))]
theorem evR_ren (h : Heap) (n : Nat) (e0 : HE) (l : List Ev) (cap : Nat) : renR (back h [e0] [n]) (evR l 1 cap) = evR l h.length cap:=by
 cases l <;> rfl
theorem hrs_use {m : Mac} {lv : Bool} {h : Heap} {K : R → Heap → Prop} (n : Nat) (hn : h[n]? = some (macE m)) (hp : HrP m lv) {m' : Mac} {l : List Ev} (hm : m.hears lv = (m', l))
    (hk : K (evR l h.length l.length) (h.set n (macE m') ++ rowsE l l.length)) : AskC hrsC [.t (.one (.ptr n 0)), iv .u8 (cI lv)] h K := by
  have h1 : (m.hears lv).1 = m' := by rw [hm]
  have h2 : (m.hears lv).2 = l := by rw [hm]
  have hn' : h[n]? = some (rdM (mxV m.state m.left m.c.sent m.c.got m.waits m.f m.on (bs m.bits) m.arb m.pos) m.r) := hn
  refine .det (m, lv) [n] _ _ hp rfl ⟨hent_of hn' (rdM_le _ m.r _), trivial⟩ ⟨.inl rfl, .inl rfl, trivial⟩ (evR_ren _ _ _ _ _) (mrg_set rfl h) ?_
  show K (evR (m.hears lv).2 h.length (m.hears lv).2.length) (h.set n (renHE _ (macE (m.hears lv).1)) ++ (rowsE (m.hears lv).2 (m.hears lv).2.length).map (renHE _))
  rw [h1, h2, rowsE_ren]
  exact hk
theorem macE_le (m : Mac) (g : Nat → Nat) : leHE g (macE m) (macE m):=rdM_le (mxV m.state m.left m.c.sent m.c.got m.waits m.f m.on (bs m.bits) m.arb m.pos) m.r g
theorem hears_len (m : Mac) (lv : Bool) : (m.hears lv).2.length ≤ 2:=by
 unfold Mac.hears Mac.flags
 split
 ·split <;> simp
 ·split <;> simp
abbrev outsSds : List (FuncId × Cx):=(F.mac_Mac_hears,AskC hrsC) :: outsHrs
theorem outsSds_ok : OutsOk Tryz.prog outsSds:=.cons (ask_ok hrs_ok) outsHrs_ok
theorem fails_eq (st lf sn gt : Nat) (w : Bool) (f : Frm) (on : Bool) (bits : List Bool) (arb pos : Nat) (r : Rd) (g : Frm) (e : Nat) : (⟨st, lf, ⟨sn, gt⟩, w, f, on, bits, arb, pos, r⟩ : Mac).fails g e =
    if ((⟨sn, gt⟩ : Cts).send false).off then (⟨7, lf, (⟨sn, gt⟩ : Cts).send false, false, frm0, false, [], 0, 0, r⟩, [⟨4, g, e⟩, ⟨7, frm0, 0⟩]) else (⟨3, 6, (⟨sn, gt⟩ : Cts).send false, false, frm0, false, [], 0, 0, r⟩, [⟨4, g, e⟩]) := rfl
noncomputable abbrev tabSds : List (FuncId × Eng.Fn):=[(F.mac_Mac_sends,fn.mac_Mac_sends u0),(F.mac_Mac_fails,fn.mac_Mac_fails u0),(F.mac_Mac_flags,fn.mac_Mac_flags u0),(F.mac_Mac_done,fn.mac_Mac_done u0),(F.mac_Mac_pauses,fn.mac_Mac_pauses u0)]
theorem tabSds_ok {d : Nat} : TabOk d tabSds tt:=.cons (ok.mac_Mac_sends u0) (.cons (ok.mac_Mac_fails u0) (.cons (ok.mac_Mac_flags u0) (.cons (ok.mac_Mac_done u0) (.cons (ok.mac_Mac_pauses u0) (TabOk.nil)))))
theorem msends_run (st lf sn gt : Nat) (w : Bool) (f : Frm) (on : Bool) (bits : List Bool) (arb pos : Nat) (r : Rd) (lv : Bool) (hp : pos < bits.length) (hb : bits.length ≤ 1000) (hr : r.Ok) (hr2 : (r.push lv).2 = 0 → (r.push lv).1.Ok) (hf : r.fin ≤ 1000) (hc : (⟨sn, gt⟩ : Cts).Ok) (m' : Mac) (l : List Ev) (hm : (⟨st, lf, ⟨sn, gt⟩, w, f, on, bits, arb, pos, r⟩ : Mac).sends lv = (m', l)) :
    clRunX 7 tt outsSds tabSds 4 F.mac_Mac_sends [] [pR 0, iv .u8 (cI lv)] [macS st lf sn gt w f on (bs bits) arb pos r] (fun x h => Trim 1 x h fun x h => ∃ q, l.length ≤ q ∧ x = evR l 1 q ∧ h = macE m' :: rowsE l q) := by
  have e0 : (⟨st, lf, ⟨sn, gt⟩, w, f, on, bits, arb, pos, r⟩ : Mac).sends lv = if gb bits pos = true ∧ lv = false ∧ pos < arb then (((⟨st, lf, ⟨sn, gt⟩, false, frm0, false, [], 0, 0, r⟩ : Mac).hears lv).1, ⟨3, f, 0⟩ :: ((⟨st, lf, ⟨sn, gt⟩, false, frm0, false, [], 0, 0, r⟩ : Mac).hears lv).2)
    else if pos + 9 = bits.length ∧ lv = true then (⟨st, lf, ⟨sn, gt⟩, w, f, on, bits, arb, pos, r⟩ : Mac).fails f 71
    else if pos + 9 ≠ bits.length ∧ lv ≠ gb bits pos then (⟨st, lf, ⟨sn, gt⟩, w, f, on, bits, arb, pos, r⟩ : Mac).fails f 70
    else if pos + 1 < bits.length then (⟨st, lf, ⟨sn, gt⟩, w, f, on, bits, arb, pos + 1, (r.push lv).1⟩, [])
    else (⟨6, 3, (⟨sn, gt⟩ : Cts).send true, false, frm0, false, [], 0, 0, (r.push lv).1⟩, [⟨1, f, 0⟩]) := rfl
  rw [e0] at hm
  have z := bs_size bits
  refine wB ?_
  rw [tn, bt_bs hp]
  generalize gb bits pos = d at *
  cases d <;> cases lv
  · by_cases c1 : pos + 9 = bits.length
    · rw [if_neg (fun h => by have h := h.1; cases h)] at hm
      rw [if_neg (fun h => by have h := h.2; cases h), if_neg (fun h => h.1 c1)] at hm
      refine wB ?_
      refine psm_use (c := false) 0 rfl hr (by omega) ?_
      generalize (r.push false).1 = r' at *
      generalize (r.push false).2 = e at *
      have c9 : pos + 1 < bits.length := by omega
      rw [if_pos c9] at hm
      obtain ⟨rfl, rfl⟩ := Prod.mk.inj hm
      refine wB ?_
      refine ⟨⟨evR [] 1 0, macE ⟨st, lf, ⟨sn, gt⟩, w, f, on, bits, arb, pos + 1, r'⟩ :: rowsE [] 0, ?_, 0, ?_, rfl, rfl⟩⟩
      · refine Le.nm [0] rfl ?_ ?_
        all_goals (repeat'(first|exact wZ|refine And.intro ?_ ?_))
      · exact Nat.le_refl _
    · rw [if_neg (fun h => by have h := h.1; cases h)] at hm
      rw [if_neg (fun h => c1 h.1), if_neg (fun h => h.2 rfl)] at hm
      refine wB ?_
      refine psm_use (c := false) 0 rfl hr (by omega) ?_
      generalize (r.push false).1 = r' at *
      generalize (r.push false).2 = e at *
      by_cases c9 : pos + 1 < bits.length
      · rw [if_pos c9] at hm
        obtain ⟨rfl, rfl⟩ := Prod.mk.inj hm
        refine wB ?_
        refine ⟨⟨evR [] 1 0, macE ⟨st, lf, ⟨sn, gt⟩, w, f, on, bits, arb, pos + 1, r'⟩ :: rowsE [] 0, ?_, 0, ?_, rfl, rfl⟩⟩
        · refine Le.nm [0] rfl ?_ ?_
          all_goals (repeat'(first|exact wZ|refine And.intro ?_ ?_))
        · exact Nat.le_refl _
      · rw [if_neg c9] at hm
        refine wB ?_
        refine cfs_use (c := ⟨sn, gt⟩) (b := true) hc ?_
        generalize (⟨sn, gt⟩ : Cts).send true = c' at *
        obtain ⟨s2, g2⟩ := c'
        obtain ⟨rfl, rfl⟩ := Prod.mk.inj hm
        refine wB ?_
        refine ⟨⟨evR [⟨1, f, 0⟩] 1 1, macE ⟨6, 3, ⟨s2, g2⟩, false, frm0, false, [], 0, 0, r'⟩ :: rowsE [⟨1, f, 0⟩] 1, ?_, 1, ?_, rfl, rfl⟩⟩
        · refine Le.nm [0, 2] rfl ?_ ?_
          all_goals (repeat'(first|exact wZ|refine And.intro ?_ ?_))
        · exact Nat.le_refl _
  · by_cases c1 : pos + 9 = bits.length
    · rw [if_neg (fun h => by have h := h.1; cases h)] at hm
      rw [if_pos ⟨c1, rfl⟩] at hm
      rw [fails_eq] at hm
      refine wB ?_
      refine cfs_use (c := ⟨sn, gt⟩) hc ?_
      generalize (⟨sn, gt⟩ : Cts).send false = c' at *
      obtain ⟨s2, g2⟩ := c'
      refine wB ?_
      refine cfo_use (c := ⟨s2, g2⟩) ?_
      cases ho : (⟨s2, g2⟩ : Cts).off
      · rw [ho, if_neg (by simp)] at hm
        obtain ⟨rfl, rfl⟩ := Prod.mk.inj hm
        refine wB ?_
        refine ⟨⟨evR [⟨4, f, 71⟩] 1 1, macE ⟨3, 6, ⟨s2, g2⟩, false, frm0, false, [], 0, 0, r⟩ :: rowsE [⟨4, f, 71⟩] 1, ?_, 1, ?_, rfl, rfl⟩⟩
        · refine Le.nm [0, 4] rfl ?_ ?_
          all_goals (repeat'(first|exact wZ|refine And.intro ?_ ?_))
        · exact Nat.le_refl _
      · rw [ho, if_pos rfl] at hm
        obtain ⟨rfl, rfl⟩ := Prod.mk.inj hm
        refine wB ?_
        refine ⟨⟨evR [⟨4, f, 71⟩, ⟨7, frm0, 0⟩] 1 2, macE ⟨7, lf, ⟨s2, g2⟩, false, frm0, false, [], 0, 0, r⟩ :: rowsE [⟨4, f, 71⟩, ⟨7, frm0, 0⟩] 2, ?_, 2, ?_, rfl, rfl⟩⟩
        · refine Le.nm [0, 4] rfl ?_ ?_
          all_goals (repeat'(first|exact wZ|refine And.intro ?_ ?_))
        · exact Nat.le_refl _
    · rw [if_neg (fun h => by have h := h.1; cases h)] at hm
      rw [if_neg (fun h => c1 h.1), if_pos ⟨c1, fun h => by cases h⟩] at hm
      rw [fails_eq] at hm
      refine wB ?_
      refine cfs_use (c := ⟨sn, gt⟩) hc ?_
      generalize (⟨sn, gt⟩ : Cts).send false = c' at *
      obtain ⟨s2, g2⟩ := c'
      refine wB ?_
      refine cfo_use (c := ⟨s2, g2⟩) ?_
      cases ho : (⟨s2, g2⟩ : Cts).off
      · rw [ho, if_neg (by simp)] at hm
        obtain ⟨rfl, rfl⟩ := Prod.mk.inj hm
        refine wB ?_
        refine ⟨⟨evR [⟨4, f, 70⟩] 1 1, macE ⟨3, 6, ⟨s2, g2⟩, false, frm0, false, [], 0, 0, r⟩ :: rowsE [⟨4, f, 70⟩] 1, ?_, 1, ?_, rfl, rfl⟩⟩
        · refine Le.nm [0, 4] rfl ?_ ?_
          all_goals (repeat'(first|exact wZ|refine And.intro ?_ ?_))
        · exact Nat.le_refl _
      · rw [ho, if_pos rfl] at hm
        obtain ⟨rfl, rfl⟩ := Prod.mk.inj hm
        refine wB ?_
        refine ⟨⟨evR [⟨4, f, 70⟩, ⟨7, frm0, 0⟩] 1 2, macE ⟨7, lf, ⟨s2, g2⟩, false, frm0, false, [], 0, 0, r⟩ :: rowsE [⟨4, f, 70⟩, ⟨7, frm0, 0⟩] 2, ?_, 2, ?_, rfl, rfl⟩⟩
        · refine Le.nm [0, 4] rfl ?_ ?_
          all_goals (repeat'(first|exact wZ|refine And.intro ?_ ?_))
        · exact Nat.le_refl _
  · by_cases c1 : pos < arb
    · rw [if_pos ⟨rfl, rfl, c1⟩] at hm
      refine wB ?_
      rcases hh : (⟨st, lf, ⟨sn, gt⟩, false, frm0, false, [], 0, 0, r⟩ : Mac).hears false with ⟨m2, l2⟩
      have hl2 := hears_len (⟨st, lf, ⟨sn, gt⟩, false, frm0, false, [], 0, 0, r⟩ : Mac) false
      rw [hh] at hm hl2
      have hl2 : l2.length ≤ 2 := hl2
      obtain ⟨rfl, rfl⟩ := Prod.mk.inj hm
      refine ⟨?_, ?_⟩
      · refine wB ?_
        refine hrs_use (lv := false) 0 (by exact rfl) ⟨hr, hr2, hf, hc⟩ hh ?_
        cases l2 with
        | nil =>
          refine wB ?_
          intro cap hcap
          refine wB ?_
          refine ⟨⟨evR [⟨3, f, 0⟩] 1 cap, macE m2 :: rowsE [⟨3, f, 0⟩] cap, ?_, cap, hcap, rfl, rfl⟩⟩
          refine Le.nm [0, 3] rfl ?_ ?_
          all_goals (repeat'(first|exact wZ|refine And.intro ?_ ?_))
        | cons e l2 =>
          refine wB ?_
          refine cT (decide_eq_true (by show (1 + (l2.length + 1)) * 48 ≤ 1099511627776; simp only [List.length_cons] at hl2; omega)) ?_
          refine wB ?_
          intro cap hcap
          refine wB ?_
          have hcap : 1 + (l2.length + 1) ≤ cap := hcap
          refine ⟨⟨evR (⟨3, f, 0⟩ :: e :: l2) 1 cap, macE m2 :: rowsE (⟨3, f, 0⟩ :: e :: l2) cap, ?_, cap, by show l2.length + 1 + 1 ≤ cap; omega, rfl, rfl⟩⟩
          refine Le.nm [0, 4] rfl ?_ ?_
          · refine ⟨macE_le m2 _, ⟨rfl, by show 1 + (l2.length + 1) = l2.length + 1 + 1; omega, rfl, fun q hq => ?_⟩, trivial⟩
            rw [evF_ren]
            cases q with
            | zero => rfl
            | succ q =>
              show (if q + 1 < 1 then _ else evF (e :: l2) (0 + (q + 1 - 1))) = evF (e :: l2) q
              rw [if_neg (by omega), Nat.zero_add, Nat.add_sub_cancel]
          · exact congrArg (fun n => R.t (.one (.slc 4 0 6 0 n cap false))) (show 1 + (l2.length + 1) = l2.length + 1 + 1 by omega)
      · refine wB ?_
        refine hrs_use (lv := false) 0 (by exact rfl) ⟨hr, hr2, hf, hc⟩ hh ?_
        cases l2 with
        | nil =>
          refine wB ?_
          intro cap hcap
          refine wB ?_
          refine ⟨⟨evR [⟨3, f, 0⟩] 1 cap, macE m2 :: rowsE [⟨3, f, 0⟩] cap, ?_, cap, hcap, rfl, rfl⟩⟩
          refine Le.nm [0, 3] rfl ?_ ?_
          all_goals (repeat'(first|exact wZ|refine And.intro ?_ ?_))
        | cons e l2 =>
          refine wB ?_
          refine cT (decide_eq_true (by show (1 + (l2.length + 1)) * 48 ≤ 1099511627776; simp only [List.length_cons] at hl2; omega)) ?_
          refine wB ?_
          intro cap hcap
          refine wB ?_
          have hcap : 1 + (l2.length + 1) ≤ cap := hcap
          refine ⟨⟨evR (⟨3, f, 0⟩ :: e :: l2) 1 cap, macE m2 :: rowsE (⟨3, f, 0⟩ :: e :: l2) cap, ?_, cap, by show l2.length + 1 + 1 ≤ cap; omega, rfl, rfl⟩⟩
          refine Le.nm [0, 4] rfl ?_ ?_
          · refine ⟨macE_le m2 _, ⟨rfl, by show 1 + (l2.length + 1) = l2.length + 1 + 1; omega, rfl, fun q hq => ?_⟩, trivial⟩
            rw [evF_ren]
            cases q with
            | zero => rfl
            | succ q =>
              show (if q + 1 < 1 then _ else evF (e :: l2) (0 + (q + 1 - 1))) = evF (e :: l2) q
              rw [if_neg (by omega), Nat.zero_add, Nat.add_sub_cancel]
          · exact congrArg (fun n => R.t (.one (.slc 4 0 6 0 n cap false))) (show 1 + (l2.length + 1) = l2.length + 1 + 1 by omega)
    · by_cases c2 : pos + 9 = bits.length
      · rw [if_neg (fun h => c1 h.2.2), if_neg (fun h => by have h := h.2; cases h), if_neg (fun h => h.1 c2)] at hm
        refine wB ?_
        refine psm_use (c := false) 0 rfl hr (by omega) ?_
        generalize (r.push false).1 = r' at *
        generalize (r.push false).2 = e at *
        have c9 : pos + 1 < bits.length := by omega
        rw [if_pos c9] at hm
        obtain ⟨rfl, rfl⟩ := Prod.mk.inj hm
        refine wB ?_
        refine ⟨⟨evR [] 1 0, macE ⟨st, lf, ⟨sn, gt⟩, w, f, on, bits, arb, pos + 1, r'⟩ :: rowsE [] 0, ?_, 0, ?_, rfl, rfl⟩⟩
        · refine Le.nm [0] rfl ?_ ?_
          all_goals (repeat'(first|exact wZ|refine And.intro ?_ ?_))
        · exact Nat.le_refl _
      · rw [if_neg (fun h => c1 h.2.2), if_neg (fun h => c2 h.1), if_pos ⟨c2, fun h => by cases h⟩] at hm
        rw [fails_eq] at hm
        refine wB ?_
        refine cfs_use (c := ⟨sn, gt⟩) hc ?_
        generalize (⟨sn, gt⟩ : Cts).send false = c' at *
        obtain ⟨s2, g2⟩ := c'
        refine wB ?_
        refine cfo_use (c := ⟨s2, g2⟩) ?_
        cases ho : (⟨s2, g2⟩ : Cts).off
        · rw [ho, if_neg (by simp)] at hm
          obtain ⟨rfl, rfl⟩ := Prod.mk.inj hm
          refine wB ?_
          refine ⟨⟨evR [⟨4, f, 70⟩] 1 1, macE ⟨3, 6, ⟨s2, g2⟩, false, frm0, false, [], 0, 0, r⟩ :: rowsE [⟨4, f, 70⟩] 1, ?_, 1, ?_, rfl, rfl⟩⟩
          · refine Le.nm [0, 4] rfl ?_ ?_
            all_goals (repeat'(first|exact wZ|refine And.intro ?_ ?_))
          · exact Nat.le_refl _
        · rw [ho, if_pos rfl] at hm
          obtain ⟨rfl, rfl⟩ := Prod.mk.inj hm
          refine wB ?_
          refine ⟨⟨evR [⟨4, f, 70⟩, ⟨7, frm0, 0⟩] 1 2, macE ⟨7, lf, ⟨s2, g2⟩, false, frm0, false, [], 0, 0, r⟩ :: rowsE [⟨4, f, 70⟩, ⟨7, frm0, 0⟩] 2, ?_, 2, ?_, rfl, rfl⟩⟩
          · refine Le.nm [0, 4] rfl ?_ ?_
            all_goals (repeat'(first|exact wZ|refine And.intro ?_ ?_))
          · exact Nat.le_refl _
  · by_cases c1 : pos + 9 = bits.length
    · rw [if_neg (fun h => by have h := h.2.1; cases h)] at hm
      rw [if_pos ⟨c1, rfl⟩] at hm
      rw [fails_eq] at hm
      refine wB ?_
      refine cfs_use (c := ⟨sn, gt⟩) hc ?_
      generalize (⟨sn, gt⟩ : Cts).send false = c' at *
      obtain ⟨s2, g2⟩ := c'
      refine wB ?_
      refine cfo_use (c := ⟨s2, g2⟩) ?_
      cases ho : (⟨s2, g2⟩ : Cts).off
      · rw [ho, if_neg (by simp)] at hm
        obtain ⟨rfl, rfl⟩ := Prod.mk.inj hm
        refine wB ?_
        refine ⟨⟨evR [⟨4, f, 71⟩] 1 1, macE ⟨3, 6, ⟨s2, g2⟩, false, frm0, false, [], 0, 0, r⟩ :: rowsE [⟨4, f, 71⟩] 1, ?_, 1, ?_, rfl, rfl⟩⟩
        · refine Le.nm [0, 4] rfl ?_ ?_
          all_goals (repeat'(first|exact wZ|refine And.intro ?_ ?_))
        · exact Nat.le_refl _
      · rw [ho, if_pos rfl] at hm
        obtain ⟨rfl, rfl⟩ := Prod.mk.inj hm
        refine wB ?_
        refine ⟨⟨evR [⟨4, f, 71⟩, ⟨7, frm0, 0⟩] 1 2, macE ⟨7, lf, ⟨s2, g2⟩, false, frm0, false, [], 0, 0, r⟩ :: rowsE [⟨4, f, 71⟩, ⟨7, frm0, 0⟩] 2, ?_, 2, ?_, rfl, rfl⟩⟩
        · refine Le.nm [0, 4] rfl ?_ ?_
          all_goals (repeat'(first|exact wZ|refine And.intro ?_ ?_))
        · exact Nat.le_refl _
    · rw [if_neg (fun h => by have h := h.2.1; cases h)] at hm
      rw [if_neg (fun h => c1 h.1), if_neg (fun h => h.2 rfl)] at hm
      refine wB ?_
      refine psm_use (c := true) 0 rfl hr (by omega) ?_
      generalize (r.push true).1 = r' at *
      generalize (r.push true).2 = e at *
      by_cases c9 : pos + 1 < bits.length
      · rw [if_pos c9] at hm
        obtain ⟨rfl, rfl⟩ := Prod.mk.inj hm
        refine wB ?_
        refine ⟨⟨evR [] 1 0, macE ⟨st, lf, ⟨sn, gt⟩, w, f, on, bits, arb, pos + 1, r'⟩ :: rowsE [] 0, ?_, 0, ?_, rfl, rfl⟩⟩
        · refine Le.nm [0] rfl ?_ ?_
          all_goals (repeat'(first|exact wZ|refine And.intro ?_ ?_))
        · exact Nat.le_refl _
      · rw [if_neg c9] at hm
        refine wB ?_
        refine cfs_use (c := ⟨sn, gt⟩) (b := true) hc ?_
        generalize (⟨sn, gt⟩ : Cts).send true = c' at *
        obtain ⟨s2, g2⟩ := c'
        obtain ⟨rfl, rfl⟩ := Prod.mk.inj hm
        refine wB ?_
        refine ⟨⟨evR [⟨1, f, 0⟩] 1 1, macE ⟨6, 3, ⟨s2, g2⟩, false, frm0, false, [], 0, 0, r'⟩ :: rowsE [⟨1, f, 0⟩] 1, ?_, 1, ?_, rfl, rfl⟩⟩
        · refine Le.nm [0, 2] rfl ?_ ?_
          all_goals (repeat'(first|exact wZ|refine And.intro ?_ ?_))
        · exact Nat.le_refl _
end Go.Proofs.YtlckbdhpehkeoaaGreat.Co
