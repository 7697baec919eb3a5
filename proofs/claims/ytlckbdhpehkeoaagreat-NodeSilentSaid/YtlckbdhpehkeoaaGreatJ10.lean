/- Parts. -/
import Derived.Test.YtlckbdhpehkeoaaGreatJ05
import Derived.Test.YtlckbdhpehkeoaaGreatJ06
namespace Go.Proofs.YtlckbdhpehkeoaaGreat.Co
open Go Go.Eng Go.Proofs Go.Proofs.YtlckbdhpehkeoaaGreat.Tb Go.Pu
set_option maxRecDepth 100000
set_option maxHeartbeats 8000000
abbrev cC (b : Bool) : C:=.v (.int .u8 (cI b))
abbrev addC : Con (Nat × Bool):=RoCon (fun p=>[iv .u16 p.1,bv p.2]) (fun _=>[]) (fun p=>p.1 < 32768) fun p=>iv .u16 (crcAdd p.1 p.2 : Nat)
theorem add_use {c : Nat} {b : Bool} {h : Heap} {K : R → Heap → Prop} (hc : c < 32768) (hk : K (iv .u16 (crcAdd c b : Nat)) h) : AskC addC [iv .u16 c,bv b] h K :=
 .use (c,b) [] hc rfl trivial ⟨.inl rfl,.inl rfl,trivial⟩ hk
noncomputable abbrev tabAdd : List (FuncId × Eng.Fn):=[(F.bits_Add,fn.bits_Add u0)]
theorem tabAdd_ok {d : Nat} : TabOk d tabAdd tt:=.cons (ok.bits_Add u0) (TabOk.nil)
theorem badd_run (c : Nat) (b : Bool) (hc : c < 32768) : clRunX 5 tt outs0b tabAdd 2 F.bits_Add [] [iv .u16 c,bv b] ([]) (fun x h=>Trim 0 x h fun x h=>x = iv .u16 (crcAdd c b : Nat) ∧ h = []):=by
 refine wB ?_
 rw [shl16]
 refine wB ?_
 rw [mask15 (by omega)]
 refine wB ?_
 rw [bit14 (by omega)]
 by_cases hb : (c / 16384 % 2 == 1) = b
 ·rw [hb,nB]
  refine wB ?_
  exact trim0 rfl (congrArg (fun n : Nat=>iv .u16 n) (crcAdd_same hb).symm)
 ·rw [nBne hb]
  refine wB ?_
  rw [poly (by omega)]
  refine wB ?_
  exact trim0 rfl (congrArg (fun n : Nat=>iv .u16 n) (crcAdd_un hb).symm)
theorem badd_ok : ConOk Tryz.prog F.bits_Add addC:=con_of_run (clRunX_ok (d:=5) ttOk outs0b_ok tabAdd_ok 2) (fn_enters (ok.bits_Add (D:=5) u0 _ (clRunX_ok (d:=5) ttOk .nil TabOk.nil 1))) fun p hp=>badd_run p.1 p.2 hp
abbrev numC : Con ByteArray:=RoCon (fun p=>[sv p]) (fun _=>[]) (fun p=>p.size ≤ 60) fun p=>iv .u64 (numB (rd p) : Nat)
theorem num_use {s : ByteArray} {h : Heap} {K : R → Heap → Prop} (hs : s.size ≤ 60) (hk : K (iv .u64 (numB (rd s) : Nat)) h) : AskC numC [sv s] h K :=
 .use s [] hs rfl trivial ⟨.inl rfl,trivial⟩ hk
noncomputable abbrev tabNum : List (FuncId × Eng.Fn):=[(F.bits_Num,fn.bits_Num u0)]
theorem tabNum_ok {d : Nat} : TabOk d tabNum tt:=.cons (ok.bits_Num u0) (TabOk.nil)
theorem num_run (s : ByteArray) (hs : s.size ≤ 60) : clRunX 5 tt outs0b tabNum 2 F.bits_Num [] [sv s] ([]) (fun x h=>Trim 0 x h fun x h=>x = iv .u64 (numB (rd s) : Nat) ∧ h = []):=by
 refine wB ?_
 refine .rd (fun j : Nat=>j ≤ s.size) (fun j=>[(3,iv .u64 (numB ((rd s).take j) : Nat)),(7,iv .i64 j)]) (fun j=>s.size - j) 0 (Nat.zero_le _) ?_ (fun j hj=>?_)
 ·exact wF
 have hc:=num_bd (l:=rd s) (j:=j) (w:=60) (by rw [rd_len]; exact hs)
 have hT:=fun h hb=>num_takeT (l:=rd s) (j:=j) h hb
 have hF:=fun h hb=>num_takeF (l:=rd s) (j:=j) h hb
 have he : j = s.size → numB ((rd s).take j) = numB (rd s):=fun e=>by rw [List.take_of_length_le (by rw [rd_len]; omega)]
 generalize numB ((rd s).take j) = c at *
 conv=>whnf
 refine cD (fun h5=>?_) (fun h5=>?_)
 ·have hj' : j < (rd s).length:=by rw [rd_len]; omega
  refine wB ?_
  rw [shl64]
  refine wB ?_
  rw [tn,dec49 (by omega)]
  cases hb : gb (rd s) j
  ·refine wB ?_
   refine ⟨j + 1,⟨by omega,by omega⟩, ?_⟩
   rw [hF hj' hb]
   exact wF
  ·refine wB ?_
   rw [or1 (by omega)]
   refine wB ?_
   refine ⟨j + 1,⟨by omega,by omega⟩, ?_⟩
   rw [hT hj' hb]
   exact wF
 refine wB ?_
 exact trim0 rfl (congrArg (fun n : Nat=>iv .u64 n) (he (by omega)))
theorem num_ok : ConOk Tryz.prog F.bits_Num numC:=con_of_run (clRunX_ok (d:=5) ttOk outs0b_ok tabNum_ok 2) (fn_enters (ok.bits_Num (D:=5) u0 _ (clRunX_ok (d:=5) ttOk .nil TabOk.nil 1))) fun p hp=>num_run p hp
abbrev bytC : Con ByteArray:=RoCon (fun p=>[sv p]) (fun _=>[]) (fun p=>p.size ≤ 1000) fun p=>sv (Pu.bytes (rd p))
theorem byt_use {s : ByteArray} {h : Heap} {K : R → Heap → Prop} (hs : s.size ≤ 1000) (hk : K (sv (Pu.bytes (rd s))) h) : AskC bytC [sv s] h K :=
 .use s [] hs rfl trivial ⟨.inl rfl,trivial⟩ hk
abbrev outsByt : List (FuncId × Cx):=[(F.bits_Num,AskC numC)]
theorem outsByt_ok : OutsOk Tryz.prog outsByt:=.cons (ask_ok num_ok) .nil
def byU (s : ByteArray) (i : Nat) : UInt8:=UInt8.ofNat (numB (((rd s).drop (8 * i)).take 8))
def byX (s : ByteArray) (i q : Nat) : Int:=if q < i then ((byU s q).toNat : Int) else 0
theorem byX_up (s : ByteArray) (i q : Nat) : (if q = i then [(.v (.int .u8 ((byU s i).toNat : Int)) : C)] else [.v (.int .u8 (byX s i q))]) = [.v (.int .u8 (byX s (i + 1) q))]:=by
 unfold byX
 by_cases c : q = i
 ·rw [if_pos c,c,if_pos (by omega)]
 ·rw [if_neg c]
  by_cases d : q < i
  ·rw [if_pos d,if_pos (by omega)]
  ·rw [if_neg d,if_neg (by omega)]
noncomputable abbrev tabByt : List (FuncId × Eng.Fn):=[(F.bits_Bytes,fn.bits_Bytes u0)]
theorem tabByt_ok {d : Nat} : TabOk d tabByt tt:=.cons (ok.bits_Bytes u0) (TabOk.nil)
theorem byt_run (s : ByteArray) (hs : s.size ≤ 1000) : clRunX 5 tt outsByt tabByt 2 F.bits_Bytes [] [sv s] ([]) (fun x h=>Trim 0 x h fun x h=>x = sv (Pu.bytes (rd s)) ∧ h = []):=by
 obtain ⟨L,hL⟩ : ∃ L : Nat,((s.size : Int).tdiv 8) = (L : Int):=⟨s.size / 8,by rw [Int.tdiv_eq_ediv_of_nonneg (by omega)]; omega⟩
 have hL2 : s.size / 8 = L:=by rw [Int.tdiv_eq_ediv_of_nonneg (by omega)] at hL; omega
 refine wB ?_
 rw [hL]
 refine wB ?_
 refine cDT ?_ ?_
 ·refine ⟨by omega,by omega, ?_,by omega⟩
  dsimp only
  omega
 try rw [tn]
 refine wB ?_
 refine .inv (fun i : Nat=>i ≤ L) (fun i=>[(11,iv .i64 i)]) (fun i=>[.ob (.row 1 L (fun q=>[.v (.int .u8 (byX s i q))]) L)]) (fun i=>L - i) 0 (Nat.zero_le _) ?_ (fun i hi=>?_)
 ·exact wF
 conv=>whnf
 refine cD (fun h5=>?_) (fun h5=>?_)
 ·have hn:=numB_lt (((rd s).drop (8 * i)).take 8)
  have hlen : (((rd s).drop (8 * i)).take 8).length = 8:=by rw [List.length_take,List.length_drop,rd_len]; omega
  rw [hlen] at hn
  have hu : ((byU s i).toNat : Int) = (numB (((rd s).drop (8 * i)).take 8) : Nat):=by
   unfold byU
   rw [UInt8.toNat_ofNat']
   omega
  refine wB ?_
  have ex : rd (s.extract (8 * (i : Int)).toNat (8 * ((i : Int) + 1)).toNat) = ((rd s).drop (8 * i)).take 8:=by
   rw [rd_ext,show (8 * (i : Int)).toNat = 8 * i by omega,show (8 * ((i : Int) + 1)).toNat - 8 * i = 8 by omega]
  have es : (s.extract (8 * (i : Int)).toNat (8 * ((i : Int) + 1)).toNat).size ≤ 60:=by
   rw [← rd_len,ex,hlen]; decide
  refine num_use es ?_
  rw [ex]
  generalize numB (((rd s).drop (8 * i)).take 8) = N at *
  refine wB ?_
  refine ⟨i + 1,⟨by omega,by omega⟩, ?_⟩
  conv=>whnf
  refine Le.id rfl ?_ ?_
  all_goals(repeat'(first|exact wZ|refine And.intro ?_ ?_))
  intro q hq
  show (if q = 0 + (i : Int).toNat then [(.v (.int .u8 (N : Int)) : C)] else [.v (.int .u8 (byX s i q))]) = [.v (.int .u8 (byX s (i + 1) q))]
  rw [← byX_up,hu,tn,Nat.zero_add]
 obtain rfl : i = L:=by omega
 refine wB ?_
 refine cT (bytesB_mk fun q hq=>⟨_,rfl⟩) ?_
 refine wB ?_
 refine trim0 rfl (congrArg sv ?_)
 rw [mkStr_map (x:=byU s) fun q hq=>by show [_] = _; unfold byX; rw [Nat.zero_add,if_pos hq]]
 unfold Pu.bytes
 rw [bytesL_eq i (by rw [rd_len]; exact hL2)]; rfl
theorem byt_ok : ConOk Tryz.prog F.bits_Bytes bytC:=con_of_run (clRunX_ok (d:=5) ttOk outsByt_ok tabByt_ok 2) (fn_enters (ok.bits_Bytes (D:=5) u0 _ (clRunX_ok (d:=5) ttOk .nil TabOk.nil 1))) fun p hp=>byt_run p hp
def rlI (r : Run) : Int:=if r.n = 0 then 0 else cI r.last
theorem add_same {r : Run} {b : Bool} (h : 0 < r.n) (hb : b = r.last) : r.add b = ⟨r.last,r.n + 1⟩:=if_pos ⟨h,hb⟩
theorem add_un {r : Run} {b : Bool} (h : ¬ (0 < r.n ∧ b = r.last)) : r.add b = ⟨b,1⟩:=if_neg h
abbrev stuC : Con ByteArray:=RoCon (fun p=>[sv p]) (fun _=>[]) (fun p=>p.size ≤ 1000) fun p=>sv (bs (stuff (rd p)))
theorem stu_use {s : ByteArray} {h : Heap} {K : R → Heap → Prop} (hs : s.size ≤ 1000) (hk : K (sv (bs (stuff (rd s)))) h) : AskC stuC [sv s] h K :=
 .use s [] hs rfl trivial ⟨.inl rfl,trivial⟩ hk
theorem appb {O : List Bool} {c : Bool} {n q : Nat} (hn : O.length = n) (hq : q < n + 1) : (if q < n then [cC (gb O (0 + q))] else nthD [] [[cC c]] (0 + (q - n))) = [cC (gb (O ++ [c]) q)]:=by
 rw [gb_snoc (by omega),hn]
 by_cases h : q < n
 ·rw [if_pos h,if_pos h,Nat.zero_add]
 ·rw [if_neg h,if_neg h,show 0 + (q - n) = 0 by omega]; rfl
theorem appb2 {O : List Bool} {c e : Bool} {n q : Nat} (hn : O.length = n) (hq : q < n + 1 + 1) : (if q < n + 1 then (if 0 + q < n then [cC (gb O (0 + (0 + q)))] else nthD [] [[cC c]] (0 + (0 + q - n))) else nthD [] [[cC e]] (0 + (q - (n + 1)))) = [cC (gb (O ++ [c,e]) q)]:=by
 have h2 : O ++ [c,e] = (O ++ [c]) ++ [e]:=by simp
 rw [h2,← appb (O:=O ++ [c]) (c:=e) (n:=n + 1) (by rw [List.length_append,hn]; rfl) hq]
 by_cases h : q < n + 1
 ·rw [if_pos h,if_pos h,Nat.zero_add,← appb hn h,Nat.zero_add]
 ·rw [if_neg h,if_neg h]
theorem add_rl (r : Run) (c : Bool) : rlI (r.add c) = cI c ∧ 1 ≤ (r.add c).n ∧ (r.add c).n ≤ r.n + 1:=by
 unfold rlI Run.add
 by_cases h : 0 < r.n ∧ c = r.last
 ·rw [if_pos h]; rw [h.2]
  exact ⟨if_neg (by show ¬ r.n + 1 = 0; omega),by show 1 ≤ r.n + 1; omega,Nat.le_refl _⟩
 ·rw [if_neg h]; exact ⟨if_neg (by show ¬ 1 = 0; decide),Nat.le_refl _,by show 1 ≤ r.n + 1; omega⟩
abbrev prR (p : Nat × Nat) : R:=.tup [.one (.v (.int .i64 (p.1 : Int))),.one (.v (.int .i64 (p.2 : Int)))]
abbrev needC : Con ByteArray:=RoCon (fun p=>[sv p]) (fun _=>[]) (fun p=>p.size ≤ 1000) fun p=>prR (need (rd p))
theorem need_use {s : ByteArray} {h : Heap} {K : R → Heap → Prop} (hs : s.size ≤ 1000) (hk : K (prR (need (rd s))) h) : AskC needC [sv s] h K :=
 .use s [] hs rfl trivial ⟨.inl rfl,trivial⟩ hk
noncomputable abbrev tabNeed : List (FuncId × Eng.Fn):=[(F.frame_Need,fn.frame_Need u0),(F.frame_forms,fn.frame_forms u0)]
theorem tabNeed_ok {d : Nat} : TabOk d tabNeed tt:=.cons (ok.frame_Need u0) (.cons (ok.frame_forms u0) (TabOk.nil))
theorem need_run (s : ByteArray) (hs : s.size ≤ 1000) : clRunX 6 tt outsByt tabNeed 3 F.frame_Need [] [sv s] ([]) (fun x h=>Trim 0 x h fun x h=>x = prR (need (rd s)) ∧ h = []):=by
 have hl:=rd_len s
 have d0 : 0 < s.size → decide (bt s (Int.toNat 0) = 49) = gb (rd s) 0:=fun h=>dec49 h
 have d12 : 12 < s.size → decide (bt s (Int.toNat 12) = 49) = gb (rd s) 12:=fun h=>dec49 h
 have d13 : 13 < s.size → decide (bt s (Int.toNat 13) = 49) = gb (rd s) 13:=fun h=>dec49 h
 have d32 : 32 < s.size → decide (bt s (Int.toNat 32) = 49) = gb (rd s) 32:=fun h=>dec49 h
 have e0 : need (rd s) = if 0 < (rd s).length ∧ gb (rd s) 0 = true then (0,12)
  else if (rd s).length ≤ 13 then (0,0)
  else if gb (rd s) 13 = true then
   if gb (rd s) 12 = false then (0,12)
   else if (rd s).length < 39 then (0,0)
   else if gb (rd s) 32 = true then (39,0)
   else (39 + 8 * min (numB (((rd s).drop 35).take 4)) 8,0)
  else if (rd s).length < 19 then (0,0)
  else if gb (rd s) 12 = true then (19,0)
  else (19 + 8 * min (numB (((rd s).drop 15).take 4)) 8,0):=rfl
 rw [hl] at e0
 have ex1 : rd (s.extract (Int.toNat 35) (Int.toNat 39)) = ((rd s).drop 35).take 4:=rd_ext s 35 39
 have ex2 : rd (s.extract (Int.toNat 15) (Int.toNat 19)) = ((rd s).drop 15).take 4:=rd_ext s 15 19
 have n1:=numB_lt (((rd s).drop 35).take 4)
 have n2:=numB_lt (((rd s).drop 15).take 4)
 have l1 : (((rd s).drop 35).take 4).length ≤ 4:=by rw [List.length_take]; omega
 have l2 : (((rd s).drop 15).take 4).length ≤ 4:=by rw [List.length_take]; omega
 have n1 : numB (((rd s).drop 35).take 4) < 16:=Nat.lt_of_lt_of_le n1 (Nat.pow_le_pow_right (by decide) l1)
 have n2 : numB (((rd s).drop 15).take 4) < 16:=Nat.lt_of_lt_of_le n2 (Nat.pow_le_pow_right (by decide) l2)
 have s1 : (s.extract (Int.toNat 35) (Int.toNat 39)).size ≤ 60:=by rw [← rd_len,ex1]; omega
 have s2 : (s.extract (Int.toNat 15) (Int.toNat 19)).size ≤ 60:=by rw [← rd_len,ex2]; omega
 have q1:=congrArg numB ex1
 have q2:=congrArg numB ex2
 generalize numB (((rd s).drop 35).take 4) = N1 at *
 generalize numB (((rd s).drop 15).take 4) = N2 at *
 have m1 : (39 : Int) + 8 * min (N1 : Int) 8 = ((39 + 8 * min N1 8 : Nat) : Int):=by omega
 have m2 : (19 : Int) + 8 * min (N2 : Int) 8 = ((19 + 8 * min N2 8 : Nat) : Int):=by omega
 refine wB ?_
 refine cD (fun h1=>?_) (fun h1=>?_)
 rotate_left
 ·refine wB ?_
  refine trim0 rfl ?_
  rw [e0,if_neg (by omega),if_pos (by omega)]; rfl
 refine wB ?_
 rw [d0 (by omega)]
 cases g0 : gb (rd s) 0
 rotate_left
 ·refine wB ?_
  refine trim0 rfl ?_
  rw [e0,if_pos ⟨by omega,g0⟩]; rfl
 rw [if_neg (by rw [g0]; simp)] at e0
 by_cases h2 : s.size ≤ 13
 ·refine wB ?_
  refine trim0 rfl ?_
  rw [e0,if_pos h2]; rfl
 rw [if_neg h2] at e0
 refine wB ?_
 rw [d13 (by omega)]
 cases g13 : gb (rd s) 13
 ·rw [if_neg (by rw [g13]; simp)] at e0
  by_cases h3 : s.size < 19
  ·refine wB ?_
   refine trim0 rfl ?_
   rw [e0,if_pos h3]; rfl
  rw [if_neg h3] at e0
  refine wB ?_
  rw [d12 (by omega)]
  cases g12 : gb (rd s) 12
  ·rw [if_neg (by rw [g12]; simp)] at e0
   refine wB ?_
   refine num_use s2 ?_
   rw [q2]
   refine wB ?_
   refine trim0 rfl ?_
   rw [e0,m2]; rfl
  ·rw [if_pos g12] at e0
   refine wB ?_
   refine trim0 rfl ?_
   rw [e0]; rfl
 ·rw [if_pos g13] at e0
  refine wB ?_
  rw [d12 (by omega)]
  cases g12 : gb (rd s) 12
  ·rw [if_pos g12] at e0
   refine wB ?_
   refine trim0 rfl ?_
   rw [e0]; rfl
  rw [if_neg (by rw [g12]; simp)] at e0
  by_cases h3 : s.size < 39
  ·refine wB ?_
   refine trim0 rfl ?_
   rw [e0,if_pos h3]; rfl
  rw [if_neg h3] at e0
  refine wB ?_
  rw [d32 (by omega)]
  cases g32 : gb (rd s) 32
  ·rw [if_neg (by rw [g32]; simp)] at e0
   refine wB ?_
   refine num_use s1 ?_
   rw [q1]
   refine wB ?_
   refine trim0 rfl ?_
   rw [e0,m1]; rfl
  ·rw [if_pos g32] at e0
   refine wB ?_
   refine trim0 rfl ?_
   rw [e0]; rfl
theorem need_ok : ConOk Tryz.prog F.frame_Need needC:=con_of_run (clRunX_ok (d:=6) ttOk outsByt_ok tabNeed_ok 3) (fn_enters (ok.frame_Need (D:=6) u0 _ (clRunX_ok (d:=6) ttOk .nil TabOk.nil 1))) fun p hp=>need_run p hp
abbrev frmS (f : Frm) : List Seg:=[.c (.v (.bool f.ext)),.c (.v (.int .u32 (f.id : Int))),.c (.v (.bool f.rtr)),.c (.v (.string f.data))]
abbrev frmT (f : Frm) : T:=.agg (frmS f)
abbrev prsR (p : Frm × Nat × Nat) : R:=.tup [frmT p.1,.one (.v (.int .i64 (p.2.1 : Int))),.one (.v (.int .i64 (p.2.2 : Int)))]
abbrev prsC : Con ByteArray:=RoCon (fun p=>[sv p]) (fun _=>[]) (fun p=>p.size ≤ 1000) fun p=>prsR (parse (rd p))
theorem prs_use {s : ByteArray} {h : Heap} {K : R → Heap → Prop} (hs : s.size ≤ 1000) (hk : K (prsR (parse (rd s))) h) : AskC prsC [sv s] h K :=
 .use s [] hs rfl trivial ⟨.inl rfl,trivial⟩ hk
abbrev outsPrs : List (FuncId × Cx):=[(F.frame_Need,AskC needC),(F.bits_Num,AskC numC),(F.bits_Bytes,AskC bytC)]
theorem outsPrs_ok : OutsOk Tryz.prog outsPrs:=.cons (ask_ok need_ok) (.cons (ask_ok num_ok) (.cons (ask_ok byt_ok) .nil))
noncomputable abbrev tabPrs : List (FuncId × Eng.Fn):=[(F.frame_Parse,fn.frame_Parse u0),(F.frame_forms,fn.frame_forms u0)]
theorem tabPrs_ok {d : Nat} : TabOk d tabPrs tt:=.cons (ok.frame_Parse u0) (.cons (ok.frame_forms u0) (TabOk.nil))
theorem prs_run (s : ByteArray) (hs : s.size ≤ 1000) : clRunX 7 tt outsPrs tabPrs 3 F.frame_Parse [] [sv s] ([]) (fun x h=>Trim 0 x h fun x h=>x = prsR (parse (rd s)) ∧ h = []):=by
 have hl:=rd_len s
 have d12 : 12 < s.size → decide (bt s (Int.toNat 12) = 49) = gb (rd s) 12:=fun h=>dec49 h
 have d13 : 13 < s.size → decide (bt s (Int.toNat 13) = 49) = gb (rd s) 13:=fun h=>dec49 h
 have d32 : 32 < s.size → decide (bt s (Int.toNat 32) = 49) = gb (rd s) 32:=fun h=>dec49 h
 have e0 : parse (rd s) = if (need (rd s)).2 ≠ 0 then (frm0,0,(need (rd s)).2)
  else if (need (rd s)).1 = 0 ∨ (rd s).length < (need (rd s)).1 then (frm0,0,10)
  else (frmOf (rd s),(need (rd s)).1,0):=rfl
 have hb:=need_bd (rd s)
 have f0 : frmOf (rd s) = if gb (rd s) 13 = true then ⟨true,numB (((rd s).drop 1).take 11) * 262144 + numB (((rd s).drop 14).take 18),gb (rd s) 32,Pu.bytes (((rd s).drop 39).take ((need (rd s)).1 - 39))⟩
  else ⟨false,numB (((rd s).drop 1).take 11),gb (rd s) 12,Pu.bytes (((rd s).drop 19).take ((need (rd s)).1 - 19))⟩:=rfl
 rw [hl] at e0 hb
 refine wB ?_
 refine need_use hs ?_
 rcases hnd : need (rd s) with ⟨n,e⟩
 rw [hnd] at e0 hb f0
 simp only at e0 hb f0
 by_cases he : e = 0
 rotate_left
 ·rw [if_pos he] at e0
  refine wB ?_
  refine trim0 rfl ?_
  rw [e0]; rfl
 subst he
 rw [if_neg (by simp)] at e0
 by_cases hn0 : n = 0
 ·rw [if_pos (.inl hn0)] at e0
  subst hn0
  refine wB ?_
  refine trim0 rfl ?_
  rw [e0]; rfl
 by_cases hn1 : s.size < n
 ·rw [if_pos (.inr hn1)] at e0
  refine wB ?_
  refine trim0 rfl ?_
  rw [e0]; rfl
 rw [if_neg (by omega)] at e0
 have q0:=congrArg numB (rd_ext s 1 12)
 have q1:=congrArg numB (rd_ext s 14 32)
 have b0 : numB (((rd s).drop 1).take (12 - 1)) < 2 ^ 11:=num_le (by rw [List.length_take]; omega)
 have b1 : numB (((rd s).drop 14).take (32 - 14)) < 2 ^ 18:=num_le (by rw [List.length_take]; omega)
 have s0 : (s.extract (Int.toNat 1) (Int.toNat 12)).size ≤ 60:=by rw [← rd_len,show rd (s.extract (Int.toNat 1) (Int.toNat 12)) = _ from rd_ext s 1 12,List.length_take]; omega
 have s1 : (s.extract (Int.toNat 14) (Int.toNat 32)).size ≤ 60:=by rw [← rd_len,show rd (s.extract (Int.toNat 14) (Int.toNat 32)) = _ from rd_ext s 14 32,List.length_take]; omega
 have s2 : ∀ d : Nat,(s.extract d n).size ≤ 1000:=fun d=>by rw [← rd_len,rd_ext,List.length_take,List.length_drop]; omega
 generalize hN0 : numB (((rd s).drop 1).take (12 - 1)) = N0 at *
 generalize hN1 : numB (((rd s).drop 14).take (32 - 14)) = N1 at *
 rcases hb with hb | ⟨_,g13,hb1,hb2,hb3⟩ | ⟨_,g13,hb1,hb2,hb3⟩
 ·exact absurd hb hn0
 ·rw [if_pos g13] at f0
  have d13:=d13 (by omega)
  have d32:=d32 (by omega)
  rw [g13] at d13
  refine wB ?_
  refine ⟨?_, ?_⟩
  all_goals
   refine wB ?_
   refine num_use s0 ?_
   rw [show numB (rd (s.extract (Int.toNat 1) (Int.toNat 12))) = N0 from q0]
   try rw [d13]
   refine wB ?_
   try rw [d13]
   refine wB ?_
   try rw [d13]
   refine wB ?_
   rw [shl32]
   refine wB ?_
   refine num_use s1 ?_
   rw [show numB (rd (s.extract (Int.toNat 14) (Int.toNat 32))) = N1 from q1]
   refine wB ?_
   try rw [shl32]
   refine wB ?_
   try rw [shl32]
   refine wB ?_
   rw [or18 (by omega) (by omega)]
   refine wB ?_
   rw [d32]
   refine wB ?_
   try rw [tn]
   refine byt_use (s2 39) ?_
   rw [rd_ext]
   refine wB ?_
   refine trim0 rfl ?_
   rw [e0,f0]; rfl
 ·rw [if_neg (by rw [g13]; simp)] at f0
  have d13:=d13 (by omega)
  have d12:=d12 (by omega)
  rw [g13] at d13
  refine wB ?_
  refine ⟨?_, ?_⟩
  all_goals
   refine wB ?_
   refine num_use s0 ?_
   rw [show numB (rd (s.extract (Int.toNat 1) (Int.toNat 12))) = N0 from q0]
   try rw [d13]
   refine wB ?_
   try rw [d13]
   refine wB ?_
   try rw [d13]
   refine wB ?_
   rw [d12]
   refine wB ?_
   try rw [tn]
   refine byt_use (s2 19) ?_
   rw [rd_ext]
   refine wB ?_
   refine trim0 rfl ?_
   rw [e0,f0]; rfl
theorem prs_ok : ConOk Tryz.prog F.frame_Parse prsC:=con_of_run (clRunX_ok (d:=7) ttOk outsPrs_ok tabPrs_ok 3) (fn_enters (ok.frame_Parse (D:=7) u0 _ (clRunX_ok (d:=7) ttOk .nil TabOk.nil 1))) fun p hp=>prs_run p hp
end Go.Proofs.YtlckbdhpehkeoaaGreat.Co
namespace Go.Proofs.YtlckbdhpehkeoaaGreat.Co
open Go Go.Eng Go.Proofs Go.Proofs.YtlckbdhpehkeoaaGreat.Tb Go.Pu
set_option maxRecDepth 100000
set_option maxHeartbeats 16000000
def rbF (b : List Bool) (i : Nat) : C:=.v (.int .u8 (if i < b.length then cI (gb b i) else 0))
theorem arr_up (b : List Bool) (c : Bool) (v : Int) (hv : v = cI c) (hb : b.length ≤ 118) : (fun i=>if (b.length : Int).toNat ≤ i ∧ i < (b.length : Int).toNat + min 1 (128 - (b.length : Int).toNat) then one1 ((fun i=>(fun i=>nthD [] [[C.v (.int .u8 v)]] i) (0 + i)) (i - (b.length : Int).toNat)) else rbF b i) = rbF (b ++ [c]):=by
 funext i
 have hl : (b ++ [c]).length = b.length + 1:=by rw [List.length_append]; rfl
 by_cases h : (b.length : Int).toNat ≤ i ∧ i < (b.length : Int).toNat + min 1 (128 - (b.length : Int).toNat)
 ·rw [if_pos h]
  obtain rfl : i = b.length:=by omega
  show one1 (nthD [] [[C.v (.int .u8 v)]] (0 + (b.length - b.length))) = _
  rw [Nat.sub_self]
  unfold rbF
  rw [hl,if_pos (by omega),gb_snoc (by omega),if_neg (by omega),hv]; rfl
 ·rw [if_neg h]
  unfold rbF
  rw [hl]
  by_cases k : i < b.length
  ·rw [if_pos k,if_pos (by omega),gb_snoc (by omega),if_pos k]
  ·rw [if_neg k,if_neg (by omega)]
abbrev outsPsh : List (FuncId × Cx):=[(F.frame_Need,AskC needC),(F.bits_Add,AskC addC)]
theorem outsPsh_ok : OutsOk Tryz.prog outsPsh:=.cons (ask_ok need_ok) (.cons (ask_ok badd_ok) .nil)
noncomputable abbrev tabPsh : List (FuncId × Eng.Fn):=[(F.code_Reader_Push,fn.code_Reader_Push u0),(F.code_Reader_inBits,fn.code_Reader_inBits u0),(F.code_Reader_add,fn.code_Reader_add u0),(F.code_Reader_tail,fn.code_Reader_tail u0),(F.code_Reader_Right,fn.code_Reader_Right u0),(F.stuff_Run_Full,fn.stuff_Run_Full u0),(F.stuff_Run_Other,fn.stuff_Run_Other u0),(F.stuff_Run_Add,fn.stuff_Run_Add u0),(F.stuff_other,fn.stuff_other u0)]
theorem tabPsh_ok {d : Nat} : TabOk d tabPsh tt:=.cons (ok.code_Reader_Push u0) (.cons (ok.code_Reader_inBits u0) (.cons (ok.code_Reader_add u0) (.cons (ok.code_Reader_tail u0) (.cons (ok.code_Reader_Right u0) (.cons (ok.stuff_Run_Full u0) (.cons (ok.stuff_Run_Other u0) (.cons (ok.stuff_Run_Add u0) (.cons (ok.stuff_other u0) (TabOk.nil)))))))))
abbrev frmR (f : Frm) : R:=.t (frmT f)
def FIn (f : Frm) : Prop:=f.id < 4294967296 ∧ f.data.size ≤ 9223372036854775807
abbrev isFC : Con Frm:=RoCon (fun p=>[frmR p]) (fun _=>[]) (fun p=>FIn p) fun p=>bv (decide p.ok)
theorem isF_use {f : Frm} {h : Heap} {K : R → Heap → Prop} (hf : FIn f) (hk : K (bv (decide f.ok)) h) : AskC isFC [frmR f] h K :=
 .use f [] hf rfl trivial ⟨⟨.inl rfl,.inl rfl,.inl rfl,.inl rfl,trivial⟩,trivial⟩ hk
theorem emp_iff (s : ByteArray) : strEq s .empty = decide (s.size = 0):=by
 unfold strEq
 refine decide_eq_decide.2 ⟨fun h=>by rw [h]; rfl,fun h=>?_⟩
 apply ba_ext
 have : s.data.toList.length = 0:=h
 rw [List.eq_nil_of_length_eq_zero this]; rfl
abbrev frmV (ext : Bool) (v : Int) (rtr : Bool) (data : ByteArray) : R:=.t (.agg [.c (.v (.bool ext)),.c (.v (.int .u32 v)),.c (.v (.bool rtr)),.c (.v (.string data))])
theorem okE (ext : Bool) (N : Nat) (hN : (if ext = true then 536870912 else 2048) = N) (id : Nat) (rtr : Bool) (data : ByteArray) : (Frm.mk ext id rtr data).ok ↔ ((rtr = true → data.size = 0) ∧ data.size ≤ 8 ∧ id < N):=by
 subst hN; exact Iff.rfl
abbrev arbC : Con Frm:=RoCon (fun p=>[frmR p]) (fun _=>[]) (fun p=>p.ok) fun p=>sv (bs (arb p))
theorem arb_use {f : Frm} {h : Heap} {K : R → Heap → Prop} (hf : f.ok) (hk : K (sv (bs (arb f))) h) : AskC arbC [frmR f] h K :=
 .use f [] hf rfl trivial ⟨⟨.inl rfl,.inl rfl,.inl rfl,.inl rfl,trivial⟩,trivial⟩ hk
theorem ok_in {f : Frm} (h : f.ok) : FIn f:=by
 obtain ⟨_,h2,h3⟩:=h
 refine ⟨?_,by omega⟩
 cases hx : f.ext
 ·rw [hx,if_neg (show ¬ (false = true) by simp)] at h3; omega
 ·rw [hx,if_pos rfl] at h3; omega
theorem shr18 (n : Nat) : (n : Int).fdiv (2 ^ min (Int.toNat 18) IntKind.u32.bits) = ((n / 262144 : Nat) : Int):=by
 rw [show min (Int.toNat 18) IntKind.u32.bits = 18 from rfl,shr_n]
theorem bs0 : (⟨#[48]⟩ : ByteArray) = bs [false]:=rfl
abbrev bodC : Con Frm:=RoCon (fun p=>[frmR p]) (fun _=>[]) (fun p=>p.ok) fun p=>sv (bs (body p))
theorem bod_use {f : Frm} {h : Heap} {K : R → Heap → Prop} (hf : f.ok) (hk : K (sv (bs (body f))) h) : AskC bodC [frmR f] h K :=
 .use f [] hf rfl trivial ⟨⟨.inl rfl,.inl rfl,.inl rfl,.inl rfl,trivial⟩,trivial⟩ hk
theorem arb_len (f : Frm) : (arb f).length ≤ 33:=by
 unfold arb
 split <;> simp [ofN_len]
abbrev encC : Con Frm:=RoCon (fun p=>[frmR p]) (fun _=>[]) FIn fun p=>sv (enc p)
theorem enc_use {f : Frm} {h : Heap} {K : R → Heap → Prop} (hf : FIn f) (hk : K (sv (enc f)) h) : AskC encC [frmR f] h K :=
 .use f [] hf rfl trivial ⟨⟨.inl rfl,.inl rfl,.inl rfl,.inl rfl,trivial⟩,trivial⟩ hk
end Go.Proofs.YtlckbdhpehkeoaaGreat.Co
namespace Go.Proofs.YtlckbdhpehkeoaaGreat.Co
open Go Go.Eng Go.Proofs Go.Proofs.YtlckbdhpehkeoaaGreat.Tb Go.Pu
set_option maxRecDepth 100000
set_option maxHeartbeats 8000000
def obX (n w i q : Nat) : Int:=if w ≤ q + i then cI (bitN n (w - 1 - q)) else 0
theorem obX_up {n w i q : Nat} {v : Int} (hi : i < w) (hq : q < w) (hv : v = cI (bitN n i)) : (if q = w - 1 - i then [(.v (.int .u8 v) : C)] else [.v (.int .u8 (obX n w i q))]) = [.v (.int .u8 (obX n w (i + 1) q))]:=by
 unfold obX
 by_cases c : q = w - 1 - i
 ·rw [if_pos c,if_pos (by omega),hv,show w - 1 - q = i by omega]
 ·rw [if_neg c]
  by_cases d : w ≤ q + i
  ·rw [if_pos d,if_pos (by omega)]
  ·rw [if_neg d,if_neg (by omega)]
noncomputable abbrev tabPof : List (FuncId × Eng.Fn):=[(F.bits_Of,fn.bits_Of u0),(F.bits_sign,fn.bits_sign u0)]
theorem tabPof_ok {d : Nat} : TabOk d tabPof tt:=.cons (ok.bits_Of u0) (.cons (ok.bits_sign u0) (TabOk.nil))
theorem pof_run (n w : Nat) (hn : n < 18446744073709551616) (hw : w ≤ 64) : clRunX 5 tt outs0b tabPof 3 F.bits_Of [] [iv .u64 n,iv .i64 w] ([]) (fun x h=>Trim 0 x h fun x h=>x = sv (bs (ofN n w)) ∧ h = []):=by
 have e0 : min (max (w : Int) 0) 64 = w:=by omega
 refine wB ?_
 rw [e0]
 refine wB ?_
 refine cDT ?_ ?_
 ·refine ⟨by omega,by omega, ?_,by omega⟩
  dsimp only
  omega
 try rw [tn]
 refine wB ?_
 refine .inv (fun i : Nat=>i ≤ w) (fun i=>[(13,iv .i64 i)]) (fun i=>[.ob (.row 1 w (fun q=>[.v (.int .u8 (obX n w i q))]) w)]) (fun i=>w - i) 0 (Nat.zero_le _) ?_ (fun i hi=>?_)
 ·conv=>whnf
  refine Le.id rfl ?_ ?_
  all_goals(repeat'(first|exact wZ|refine And.intro ?_ ?_))
  intro q hq
  show [_] = [_]
  unfold obX
  rw [if_neg (by omega)]; rfl
 conv=>whnf
 refine cD (fun h5=>?_) (fun h5=>?_)
 ·refine wB ?_
  rw [bit64 hn (show (i : Int) = ((i : Nat) : Int) from rfl) (by omega)]
  have hu:=fun q v=>@obX_up n w i q v (by omega)
  generalize bitN n i = b at *
  cases b
  ·refine wB ?_
   refine ⟨i + 1,⟨by omega,by omega⟩, ?_⟩
   conv=>whnf
   refine Le.id rfl ?_ ?_
   all_goals(repeat'(first|exact wZ|refine And.intro ?_ ?_))
   intro q hq
   show (if q = 0 + ((w : Int) - 1 - (i : Int)).toNat then _ else _) = _
   rw [show 0 + ((w : Int) - 1 - (i : Int)).toNat = w - 1 - i by omega]
   exact hu q 48 hq rfl
  ·refine wB ?_
   refine ⟨i + 1,⟨by omega,by omega⟩, ?_⟩
   conv=>whnf
   refine Le.id rfl ?_ ?_
   all_goals(repeat'(first|exact wZ|refine And.intro ?_ ?_))
   intro q hq
   show (if q = 0 + ((w : Int) - 1 - (i : Int)).toNat then _ else _) = _
   rw [show 0 + ((w : Int) - 1 - (i : Int)).toNat = w - 1 - i by omega]
   exact hu q 49 hq rfl
 obtain rfl : i = w:=by omega
 refine wB ?_
 refine cT (bytesB_mk fun q hq=>⟨_,rfl⟩) ?_
 refine wB ?_
 refine trim0 rfl (congrArg sv ?_)
 refine mkStr_bs (ofN_len n i) fun q hq=>?_
 show [C.v (.int .u8 (obX n i i (0 + q)))] = _
 unfold obX
 rw [if_pos (by omega),Nat.zero_add,ofN_get hq]
theorem pof_ok : ConOk Tryz.prog F.bits_Of ofC:=con_of_run (clRunX_ok (d:=5) ttOk outs0b_ok tabPof_ok 3) (fn_enters (ok.bits_Of (D:=5) u0 _ (clRunX_ok (d:=5) ttOk .nil TabOk.nil 1))) fun p hp=>pof_run p.1 p.2 hp.1 hp.2
abbrev outsPcr : List (FuncId × Cx):=[(F.bits_Add,AskC addC)]
theorem outsPcr_ok : OutsOk Tryz.prog outsPcr:=.cons (ask_ok badd_ok) .nil
noncomputable abbrev tabPcr : List (FuncId × Eng.Fn):=[(F.bits_CRC,fn.bits_CRC u0)]
theorem tabPcr_ok {d : Nat} : TabOk d tabPcr tt:=.cons (ok.bits_CRC u0) (TabOk.nil)
theorem pcr_run (s : ByteArray) (hs : s.size ≤ 9223372036854775807) : clRunX 5 tt outsPcr tabPcr 2 F.bits_CRC [] [sv s] ([]) (fun x h=>Trim 0 x h fun x h=>x = iv .u16 (crc (rd s) : Nat) ∧ h = []):=by
 refine wB ?_
 refine .rd (fun j : Nat=>j ≤ s.size) (fun j=>[(3,iv .u16 (crc ((rd s).take j) : Nat)),(7,iv .i64 j)]) (fun j=>s.size - j) 0 (Nat.zero_le _) ?_ (fun j hj=>?_)
 ·exact wF
 have hc:=crc_lt ((rd s).take j)
 have ho:=fun h=>crc_take (l:=rd s) (j:=j) h
 have he : j = s.size → crc ((rd s).take j) = crc (rd s):=fun e=>by rw [List.take_of_length_le (by rw [rd_len]; omega)]
 generalize crc ((rd s).take j) = c at *
 conv=>whnf
 refine cD (fun h5=>?_) (fun h5=>?_)
 ·have ho:=ho (by rw [rd_len]; omega)
  refine wB ?_
  rw [tn,dec49 (by omega)]
  refine add_use (by omega) ?_
  rw [← ho]
  refine wB ?_
  refine ⟨j + 1,⟨by omega,by omega⟩, ?_⟩
  exact wF
 refine wB ?_
 exact trim0 rfl (congrArg (fun n : Nat=>iv .u16 n) (he (by omega)))
theorem pcr_ok : ConOk Tryz.prog F.bits_CRC crcC:=con_of_run (clRunX_ok (d:=5) ttOk outsPcr_ok tabPcr_ok 2) (fn_enters (ok.bits_CRC (D:=5) u0 _ (clRunX_ok (d:=5) ttOk .nil TabOk.nil 1))) fun p hp=>pcr_run p hp
abbrev outsPby : List (FuncId × Cx):=[(F.bits_Of,AskC ofC)]
theorem outsPby_ok : OutsOk Tryz.prog outsPby:=.cons (ask_ok pof_ok) .nil
def byF (s : ByteArray) (j q : Nat) : List C:=if j = 0 then [.v (.int .u8 0)] else [cC (gb (byP s j) q)]
theorem byF_at {s : ByteArray} {j q : Nat} (hj : j ≤ s.size) (hq : q < 8 * j) : byF s j q = [cC (gb (byP s j) q)]:=if_neg (by omega)
noncomputable abbrev tabPby : List (FuncId × Eng.Fn):=[(F.bits_FromBytes,fn.bits_FromBytes u0)]
theorem tabPby_ok {d : Nat} : TabOk d tabPby tt:=.cons (ok.bits_FromBytes u0) (TabOk.nil)
theorem pby_run (s : ByteArray) (hs : s.size ≤ 1000) : clRunX 5 tt outsPby tabPby 2 F.bits_FromBytes [] [sv s] ([]) (fun x h=>Trim 0 x h fun x h=>x = sv (bs (byB s)) ∧ h = []):=by
 have e0 : (8 : Int) * s.size = ((8 * s.size : Nat) : Int):=by omega
 refine wB ?_
 rw [e0]
 refine wB ?_
 refine cDT ?_ ?_
 ·refine ⟨by omega,by omega, ?_,by omega⟩
  dsimp only
  omega
 try rw [tn]
 refine wB ?_
 refine .inv (fun p : Nat × Nat × Nat=>p.1 ≤ s.size ∧ ((p.1 = 0 ∧ p.2.1 = 8 * s.size) ∨ (p.1 ≠ 0 ∧ p.2.1 = 8 * p.1)) ∧ p.2.1 ≤ p.2.2) (fun p=>[(3,.t (.one (.slc 0 0 1 0 (8 * p.1) p.2.2 false))),(8,.junk),(11,iv .i64 p.1)]) (fun p=>[.ob (.row 1 p.2.1 (byF s p.1) p.2.2)]) (fun p=>s.size - p.1) (0,8 * s.size,8 * s.size) ⟨Nat.zero_le _,.inl ⟨rfl,rfl⟩,Nat.le_refl _⟩ ?_ (fun p ⟨hj,hn,hc⟩=>?_)
 ·exact wF
 generalize p.1 = j at *
 generalize p.2.1 = n at *
 generalize p.2.2 = cap at *
 have hl:=byP_len hj
 have ho:=fun h=>byP_succ (s:=s) (j:=j) h
 have he : j = s.size → byP s j = byB s:=fun e=>by rw [e]; exact byP_all s
 have hF:=fun q (hq : q < 8 * j)=>byF_at (s:=s) hj hq
 conv=>whnf
 refine cD (fun h5=>?_) (fun h5=>?_)
 ·obtain ⟨k,hk,hk2,hk3⟩:=bt_nat s j
  have ho:=ho (by omega)
  rw [← hk3] at ho
  have hF':=fun q (hq : q < 8 * (j + 1))=>byF_at (s:=s) (show j + 1 ≤ s.size by omega) hq
  rw [ho] at hF'
  have hnn : 8 * j ≤ n:=by omega
  generalize byP s j = L at *
  refine wB ?_
  rw [tn,hk]
  refine wB ?_
  refine of_use (w:=8) (by omega) (by omega) ?_
  have hb:=bs_size (ofN k 8)
  rw [ofN_len] at hb
  refine wB ?_
  refine cT (decide_eq_true (by show (8 * j + (bs (ofN k 8)).size) * 1 ≤ 1099511627776; omega)) ?_
  refine cT (decide_eq_true ⟨by omega,by omega⟩) ?_
  intro cap' hc'
  have hc' : 8 * j + (bs (ofN k 8)).size ≤ cap':=hc'
  rw [hb] at hc' ⊢
  refine wB ?_
  refine ⟨(j + 1,8 * j + 8,cap'),⟨⟨by show j + 1 ≤ s.size; omega,.inr ⟨by show j + 1 ≠ 0; omega,by show 8 * j + 8 = 8 * (j + 1); omega⟩,hc'⟩,by show s.size - (j + 1) < s.size - j; omega⟩, ?_⟩
  conv=>whnf
  refine Le.nm [1] rfl ?_ ?_
  ·refine ⟨⟨rfl,rfl,rfl,fun q hq=>?_⟩,trivial⟩
   have hq : q < 8 * j + 8:=hq
   show (if q < 8 * j then byF s j (0 + q) else [C.v (.int .u8 (bt (bs (ofN k 8)) (q - 8 * j)))]) = byF s (j + 1) q
   rw [hF' q (by omega)]
   by_cases c : q < 8 * j
   ·rw [if_pos c,Nat.zero_add,hF q c,gb_left (by omega)]
   ·rw [if_neg c,bt_bs (by rw [ofN_len]; omega),gb_right (by omega),hl]
  ·exact wH
 refine cT (decide_eq_true (by omega)) ?_
 refine cT (bytesB_mk fun q hq=>⟨_,by rw [Nat.zero_add]; exact hF q hq⟩) ?_
 refine wB ?_
 refine trim0 rfl (congrArg sv ?_)
 rw [← he (by omega)]
 exact mkStr_bs hl fun q hq=>by rw [Nat.zero_add]; exact hF q (by omega)
theorem pby_ok : ConOk Tryz.prog F.bits_FromBytes byC:=con_of_run (clRunX_ok (d:=5) ttOk outsPby_ok tabPby_ok 2) (fn_enters (ok.bits_FromBytes (D:=5) u0 _ (clRunX_ok (d:=5) ttOk .nil TabOk.nil 1))) fun p hp=>pby_run p hp
end Go.Proofs.YtlckbdhpehkeoaaGreat.Co
namespace Go.Proofs.YtlckbdhpehkeoaaGreat.Co
open Go Go.Eng Go.Proofs Go.Proofs.YtlckbdhpehkeoaaGreat.Tb Go.Pu
set_option maxRecDepth 100000
set_option maxHeartbeats 16000000
abbrev bldR (m : Mat) (rank cyc : Int) (a : Nat) (disc : Bool) : R:=.tup [frmT (bldF m rank cyc a disc),.one (.v (.bool (bldOk m rank cyc)))]
abbrev bldC : Con (Mat × Caps × Int × Int × Nat × Bool):=RoCon (fun p=>[matT p.1 p.2.1 0 1 2,iv .i64 p.2.2.1,iv .i64 p.2.2.2.1,iv .u16 p.2.2.2.2.1,bv p.2.2.2.2.2]) (fun p=>matH p.1 []) (fun p=>p.1.Ok ∧ p.2.2.2.2.1 < 65536) fun p=>bldR p.1 p.2.2.1 p.2.2.2.1 p.2.2.2.2.1 p.2.2.2.2.2
theorem bld_use {m : Mat} {c : Caps} {rank cyc : Int} {a : Nat} {disc : Bool} {rest : Heap} {K : R → Heap → Prop} (hm : m.Ok) (ha : a < 65536) (hk : K (bldR m rank cyc a disc) (matH m rest)) : AskC bldC [matT m c 0 1 2,iv .i64 rank,iv .i64 cyc,iv .u16 a,bv disc] (matH m rest) K :=
 .use (m,c,rank,cyc,a,disc) [0,1,2] ⟨hm,ha⟩ rfl (mat_le m rest) ⟨mat_lx m c rest,.inl rfl,.inl rfl,.inl rfl,.inl rfl,trivial⟩ hk
abbrev outsBld : List (FuncId × Cx):=[(F.matrix_Is,AskC isC)]
theorem outsBld_ok : OutsOk Tryz.prog outsBld:=.cons (ask_ok is_ok) .nil
noncomputable abbrev tabBld : List (FuncId × Eng.Fn):=[(F.refmsg_Build,fn.refmsg_Build u0)]
theorem tabBld_ok {d : Nat} : TabOk d tabBld tt:=.cons (ok.refmsg_Build u0) (TabOk.nil)
theorem bld_run (m : Mat) (c : Caps) (rank cyc : Int) (a : Nat) (disc : Bool) (hm : m.Ok) (ha : a < 65536) : clRunX 6 tt outsBld tabBld 2 F.refmsg_Build [] [matT m c 0 1 2,iv .i64 rank,iv .i64 cyc,iv .u16 a,bv disc] (matH m []) (fun x h=>Trim 3 x h fun x h=>x = bldR m rank cyc a disc ∧ h = matH m []):=by
 have hnM:=hm.nM
 have eF : bldF m rank cyc a disc = if bldOk m rank cyc then ⟨false,(m.ref + rank).toNat,false,bldD m cyc a disc⟩ else frm0:=rfl
 have eO : bldOk m rank cyc = (isM m && decide (0 ≤ rank ∧ rank < m.nM ∧ 0 ≤ cyc ∧ cyc < m.cycles)):=rfl
 have no : ∀ x,bldOk m rank cyc = false → x = R.tup [frmT frm0,.one (.v (.bool false))] → x = bldR m rank cyc a disc:=fun x h e=>by
  rw [e]
  show _ = R.tup [frmT (bldF m rank cyc a disc),.one (.v (.bool (bldOk m rank cyc)))]
  rw [eF,h]; rfl
 refine wB ?_
 refine is_use (m:=m) (c:=c) hm ?_
 cases hi : isM m
 ·refine wB ?_
  exact trimM rfl (no _ (by rw [eO,hi]; rfl) rfl)
 by_cases h1 : rank < 0
 ·refine wB ?_
  exact trimM rfl (no _ (by rw [eO,decide_eq_false (by omega)]; simp) rfl)
 by_cases h2 : (m.nM : Int) ≤ rank
 ·refine wB ?_
  exact trimM rfl (no _ (by rw [eO,decide_eq_false (by omega)]; simp) rfl)
 by_cases h3 : cyc < 0
 ·refine wB ?_
  exact trimM rfl (no _ (by rw [eO,decide_eq_false (by omega)]; simp) rfl)
 by_cases h4 : m.cycles ≤ cyc
 ·refine wB ?_
  exact trimM rfl (no _ (by rw [eO,decide_eq_false (by omega)]; simp) rfl)
 have hk : bldOk m rank cyc = true:=by rw [eO,hi,decide_eq_true (by omega)]; rfl
 have his:=isM_iff.1 hi
 have hl:=his.head
 have hn:=his.size
 unfold headP power at hl
 unfold sizeP at hn
 have hr0:=hm.ref
 unfold U32 at hr0
 have hid : m.ref + rank = (((m.ref + rank).toNat : Nat) : Int):=by omega
 by_cases h5 : m.level = 2
 ·have eD : bldD m cyc a disc = ⟨#[UInt8.ofNat cyc.toNat,UInt8.ofNat (if disc then 1 else 0),UInt8.ofNat (a / 256),UInt8.ofNat (a % 256)]⟩:=if_pos h5
  cases disc
  ·by_cases h6 : a ≤ 255
   ·have e6 : a % 256 = a:=by omega
    rw [e6] at eD
    refine wB ?_
    rw [shr8]
    refine wB ?_
    intro cap hcap
    refine wB ?_
    refine trimM rfl ?_
    show _ = R.tup [frmT (bldF m rank cyc a false),.one (.v (.bool (bldOk m rank cyc)))]
    rw [eF,hk,if_pos rfl,eD]
    show _ = R.tup [.agg [.c (.v (.bool false)),.c (.v (.int .u32 (((m.ref + rank).toNat : Nat) : Int))),.c (.v (.bool false)),.c (.v (.string _))],.one (.v (.bool true))]
    rw [← hid]
    rfl
   ·refine wB ?_
    rw [shr8]
    refine wB ?_
    refine qU8F (by omega) ?_
    rw [wrap8]
    refine wB ?_
    intro cap hcap
    refine wB ?_
    refine trimM rfl ?_
    show _ = R.tup [frmT (bldF m rank cyc a false),.one (.v (.bool (bldOk m rank cyc)))]
    rw [eF,hk,if_pos rfl,eD]
    show _ = R.tup [.agg [.c (.v (.bool false)),.c (.v (.int .u32 (((m.ref + rank).toNat : Nat) : Int))),.c (.v (.bool false)),.c (.v (.string _))],.one (.v (.bool true))]
    rw [← hid]
    rfl
  ·by_cases h6 : a ≤ 255
   ·have e6 : a % 256 = a:=by omega
    rw [e6] at eD
    refine wB ?_
    rw [shr8]
    refine wB ?_
    intro cap hcap
    refine wB ?_
    refine trimM rfl ?_
    show _ = R.tup [frmT (bldF m rank cyc a true),.one (.v (.bool (bldOk m rank cyc)))]
    rw [eF,hk,if_pos rfl,eD]
    show _ = R.tup [.agg [.c (.v (.bool false)),.c (.v (.int .u32 (((m.ref + rank).toNat : Nat) : Int))),.c (.v (.bool false)),.c (.v (.string _))],.one (.v (.bool true))]
    rw [← hid]
    rfl
   ·refine wB ?_
    rw [shr8]
    refine wB ?_
    refine qU8F (by omega) ?_
    rw [wrap8]
    refine wB ?_
    intro cap hcap
    refine wB ?_
    refine trimM rfl ?_
    show _ = R.tup [frmT (bldF m rank cyc a true),.one (.v (.bool (bldOk m rank cyc)))]
    rw [eF,hk,if_pos rfl,eD]
    show _ = R.tup [.agg [.c (.v (.bool false)),.c (.v (.int .u32 (((m.ref + rank).toNat : Nat) : Int))),.c (.v (.bool false)),.c (.v (.string _))],.one (.v (.bool true))]
    rw [← hid]
    rfl
 ·have eD : bldD m cyc a disc = ⟨#[UInt8.ofNat cyc.toNat]⟩:=if_neg h5
  refine wB ?_
  refine trimM rfl ?_
  show _ = R.tup [frmT (bldF m rank cyc a disc),.one (.v (.bool (bldOk m rank cyc)))]
  rw [eF,hk,if_pos rfl,eD]
  show _ = R.tup [.agg [.c (.v (.bool false)),.c (.v (.int .u32 (((m.ref + rank).toNat : Nat) : Int))),.c (.v (.bool false)),.c (.v (.string _))],.one (.v (.bool true))]
  rw [← hid]
  rfl
theorem bld_ok : ConOk Tryz.prog F.refmsg_Build bldC:=con_of_run (clRunX_ok (d:=6) ttOk outsBld_ok tabBld_ok 2) (fn_enters (ok.refmsg_Build (D:=6) u0 _ (clRunX_ok (d:=6) ttOk .nil TabOk.nil 1))) fun p hp=>bld_run p.1 p.2.1 p.2.2.1 p.2.2.2.1 p.2.2.2.2.1 p.2.2.2.2.2 hp.1 hp.2
end Go.Proofs.YtlckbdhpehkeoaaGreat.Co
