/- Parts. -/
import Derived.Test.YtlckbdhpehkeoaaGreatJ06
import Derived.Test.YtlckbdhpehkeoaaGreatJ12
namespace Go.Proofs.YtlckbdhpehkeoaaGreat.Co
open Go Go.Eng Go.Proofs Go.Proofs.YtlckbdhpehkeoaaGreat.Tb Go.Pu
set_option maxRecDepth 100000
set_option maxHeartbeats 8000000
abbrev outsPri : List (FuncId × Cx):=[(F.matrix_Is,AskC isC)]
theorem outsPri_ok : OutsOk Tryz.prog outsPri:=.cons (ask_ok is_ok) .nil
noncomputable abbrev tabPri : List (FuncId × Eng.Fn):=[(F.config_Print,fn.config_Print u0),(F.config_text_one,fn.config_text_one u0),(F.config_text_two,fn.config_text_two u0)]
theorem tabPri_ok {d : Nat} : TabOk d tabPri tt:=.cons (ok.config_Print u0) (.cons (ok.config_text_one u0) (.cons (ok.config_text_two u0) (TabOk.nil)))
abbrev rowI (L : List Int) (n cap : Nat) : HE:=.ob (.row 1 n (rI L) cap)
theorem wrap8i (n : Int) : IntKind.u8.wrap n = n % 256:=rfl
theorem bW8 {v : Int} {p q : Prop} (hpq : IntKind.u8.wrap v = v → (p ↔ q)) (h : q) : Cnd (inR .u8 v) p q:=by
 refine c2 (fun h1=>?_) (fun _=>h)
 refine (hpq ?_).2 h
 rw [wrap8i]
 rcases v with n | n
 ·have : Nat.ble n 255 = true:=h1
  have:=Nat.le_of_ble_eq_true this
  show (n : Int) % 256 = (n : Int)
  omega
 ·exact absurd h1 (by show ¬ false = true; decide)
theorem zip (i : Nat) : 0 + (i : Int).toNat = i:=by rw [Nat.zero_add]; rfl
theorem rI_nest {L A : List Int} {n : Nat} (hn : L.length = n) {f : Nat → List C} (hf : ∀ q,q < n → f q = rI L q) (q : Nat) : (if q < n then f (0 + q) else nthD [] (A.map fun v=>[.v (.int .u8 v)]) (0 + (q - n))) = rI (L ++ A) q:=by
 rw [← rI_app L A n hn q]
 by_cases h : q < n
 ·rw [if_pos h,if_pos h,hf (0 + q) (by omega)]
 ·rw [if_neg h,if_neg h]
theorem ren_rI {g : Nat → Nat} (L : List Int) (q : Nat) : (rI L q).map (renC g) = rI L q:=by
 unfold rI
 rw [Go.Pu.nthD_get,List.getD_eq_getElem?_getD,List.getElem?_map]
 cases L[q]? <;> rfl
theorem ll {L A : List Int} {n k : Nat} (h : L.length = n) (e : A.length = k) : (L ++ A).length = n + k:=by rw [List.length_append,h,e]
theorem fd8 (v : Int) : v.fdiv (2 ^ min (Int.toNat 8) IntKind.i64.bits) = v / 256:=by
 rw [show min (Int.toNat 8) IntKind.i64.bits = 8 from rfl,show (2 : Int) ^ 8 = 256 from rfl]
 exact Int.fdiv_eq_ediv_of_nonneg _ (by decide)
theorem pri_run (m : Mat) (c : Caps) (hm : m.Ok) (hI : m.Is) : clRunX 7 tt outsPri tabPri 3 F.config_Print [] [matT m c 0 1 2] (matH m []) (fun x h=>Trim 3 x h fun x h=>x = sv (txI (upW m m.nW)) ∧ h = matH m []):=by
 obtain ⟨⟨a1,a2,a3,a4,ap,a7,a8,a9,a10,a11,a12,a13,a14,a15,a16⟩,⟨b1,b2,b3,b4⟩,d1,d2,d3⟩:=id hI
 have a0:=hm.ref.1
 have aq : 1 ≤ m.cycles ∧ m.cycles ≤ 8:=by unfold power at ap; omega
 clear ap
 refine wB ?_
 refine is_use hm ?_
 rw [isM_iff.2 hI]
 refine wB ?_
 intro c1 k1
 refine wB ?_
 intro c2 k2
 refine wB ?_
 intro c3 k3
 refine wB ?_
 rw [fd8 m.length]
 refine wB ?_
 refine bW8 (fun e=>by rw [e]) ?_
 rw [wrap8i]
 refine wB ?_
 intro c4 k4
 refine wB ?_
 intro c5 k5
 refine wB ?_
 intro c6 k6
 refine wB ?_
 rw [fd8 m.init]
 refine wB ?_
 refine bW8 (fun e=>by rw [e]) ?_
 rw [wrap8i]
 refine wB ?_
 intro c7 k7
 refine wB ?_
 rw [fd8 m.ref]
 refine wB ?_
 refine bW8 (fun e=>by rw [e]) ?_
 rw [wrap8i]
 refine wB ?_
 intro c8 k8
 refine wB ?_
 intro c9 k9
 refine wB ?_
 refine .inv (fun p : Nat × Nat=>p.1 ≤ m.nM ∧ 13 + p.1 ≤ p.2) (fun p=>[(47,iv .i64 p.1)]) (fun p=>matH m [boxP m c,.dead,.ob (.own [.c (.slc 6 0 1 0 (13 + p.1) p.2 false)]),rowI (upM m p.1) (13 + p.1) p.2]) (fun p=>m.nM - p.1) (0,c9) ⟨Nat.zero_le _,k9⟩ ?_ (fun p ⟨hi,hc⟩=>?_)
 ·conv=>whnf
  refine Le.nm [0,1,2,3,4,5,23] rfl ?_ ?_
  all_goals (repeat'(first|exact wZ|refine And.intro ?_ ?_))
  intro q hq
  match q,hq with
  | 0,_=>rfl
  | 1,_=>rfl
  | 2,_=>rfl
  | 3,_=>rfl
  | 4,_=>rfl
  | 5,_=>rfl
  | 6,_=>rfl
  | 7,_=>rfl
  | 8,_=>rfl
  | 9,_=>rfl
  | 10,_=>rfl
  | 11,_=>rfl
  | 12,_=>rfl
  | q + 13,hq=>exact absurd hq (by omega)
 generalize p.1 = i at *
 generalize p.2 = cap at *
 conv=>whnf
 refine cD (fun h=>?_) (fun h=>?_)
 ·have e:=d1 i (by omega)
  obtain ⟨e1,e2⟩:=e
  have hu:=upM_succ m i
  refine wB ?_
  rw [zip i]
  generalize m.M i = v at *
  refine wB ?_
  refine cT (decide_eq_true (by show (13 + i + 1) * 1 ≤ 1099511627776; omega)) ?_
  refine wB ?_
  intro cap1 hc1
  refine wB ?_
  refine ⟨(i + 1,cap1),⟨⟨by show i + 1 ≤ m.nM; omega,by show 13 + (i + 1) ≤ cap1; omega⟩,by show m.nM - (i + 1) < m.nM - i; omega⟩, ?_⟩
  conv=>whnf
  refine Le.nm [0,1,2,3,4,5,8] rfl ?_ ?_
  all_goals (repeat'(first|exact wZ|refine And.intro ?_ ?_))
  intro q hq
  show _ = List.map (renC _) (rI (upM m (i + 1)) q)
  rw [ren_rI,hu]
  exact rI_nest (A:=[v]) (upM_len m i) (fun q _=>rfl) q
 obtain rfl : i = m.nM:=by omega
 refine wB ?_
 refine cT (decide_eq_true (by show (13 + m.nM + 1) * 1 ≤ 1099511627776; omega)) ?_
 refine wB ?_
 intro cap1 hc1
 refine wB ?_
 rw [show 13 + m.nM + 1 = 14 + m.nM + 4 * 0 by omega] at hc1 ⊢
 refine .inv (fun p : Nat × Nat=>p.1 ≤ m.nG ∧ 14 + m.nM + 4 * p.1 ≤ p.2) (fun p=>[(61,iv .i64 p.1)]) (fun p=>matH m [boxP m c,.dead,.ob (.own [.c (.slc 6 0 1 0 (14 + m.nM + 4 * p.1) p.2 false)]),rowI (upG m p.1) (14 + m.nM + 4 * p.1) p.2]) (fun p=>m.nG - p.1) (0,cap1) ⟨Nat.zero_le _,hc1⟩ ?_ (fun p ⟨hi,hc⟩=>?_)
 ·have e0 : upG m 0 = upM m m.nM ++ [(m.nG : Int)]:=by unfold upG; simp
  conv=>whnf
  refine Le.nm [0,1,2,3,4,5,8] rfl ?_ ?_
  all_goals (repeat'(first|exact wZ|refine And.intro ?_ ?_))
  intro q hq
  show _ = List.map (renC _) (rI (upG m 0) q)
  rw [ren_rI,e0]
  exact rI_nest (A:=[(m.nG : Int)]) (upM_len m m.nM) (fun q _=>rfl) q
 clear hc1 cap1
 generalize p.1 = i at *
 generalize p.2 = cap at *
 conv=>whnf
 refine cD (fun h=>?_) (fun h=>?_)
 ·have e:=d2 i (by omega)
  obtain ⟨e1,e2,e3⟩:=e
  have e0:=(hm.G i (by omega)).1.1
  have hu:=upG_succ m i
  have hg : prG (m.G i) = twI (m.G i).id ++ [(m.G i).ow,if (m.G i).ev then 1 else 0]:=rfl
  rw [hg] at hu
  refine wB ?_
  rw [zip i]
  generalize (m.G i).id = v at *
  generalize (m.G i).ow = ow at *
  generalize (m.G i).ev = ev at *
  refine wB ?_
  rw [fd8 v]
  refine wB ?_
  refine bW8 (fun e=>by rw [e]) ?_
  rw [wrap8i]
  refine wB ?_
  refine cT (decide_eq_true (by show (14 + m.nM + 4 * i + 2) * 1 ≤ 1099511627776; omega)) ?_
  refine wB ?_
  intro cap1 hc1
  refine wB ?_
  refine cT (decide_eq_true (by show (14 + m.nM + 4 * i + 2 + 1) * 1 ≤ 1099511627776; omega)) ?_
  refine wB ?_
  intro cap2 hc2
  conv=>whnf
  cases ev
  ·rw [if_neg (by simp)] at hu
   refine wB ?_
   refine cT (decide_eq_true (by show (14 + m.nM + 4 * i + 2 + 1 + 1) * 1 ≤ 1099511627776; omega)) ?_
   refine wB ?_
   intro cap3 hc3
   refine wB ?_
   rw [show 14 + m.nM + 4 * i + 2 + 1 + 1 = 14 + m.nM + 4 * (i + 1) by omega] at hc3 ⊢
   refine ⟨(i + 1,cap3),⟨⟨by show i + 1 ≤ m.nG; omega,hc3⟩,by show m.nG - (i + 1) < m.nG - i; omega⟩, ?_⟩
   conv=>whnf
   refine Le.nm [0,1,2,3,4,5,13] rfl ?_ ?_
   all_goals (repeat'(first|exact wZ|refine And.intro ?_ ?_))
   intro q hq
   show _ = List.map (renC _) (rI (upG m (i + 1)) q)
   rw [ren_rI,hu,show upG m i ++ (twI v ++ [ow,0]) = upG m i ++ twI v ++ [ow] ++ [0] by simp]
   exact rI_nest (A:=[0]) (ll (ll (upG_len m i) rfl) rfl) (fun q _=>rI_nest (A:=[ow]) (ll (upG_len m i) rfl) (fun q _=>rI_nest (A:=twI v) (upG_len m i) (fun q _=>rfl) q) q) q
  ·rw [if_pos rfl] at hu
   refine wB ?_
   refine cT (decide_eq_true (by show (14 + m.nM + 4 * i + 2 + 1 + 1) * 1 ≤ 1099511627776; omega)) ?_
   refine wB ?_
   intro cap3 hc3
   refine wB ?_
   rw [show 14 + m.nM + 4 * i + 2 + 1 + 1 = 14 + m.nM + 4 * (i + 1) by omega] at hc3 ⊢
   refine ⟨(i + 1,cap3),⟨⟨by show i + 1 ≤ m.nG; omega,hc3⟩,by show m.nG - (i + 1) < m.nG - i; omega⟩, ?_⟩
   conv=>whnf
   refine Le.nm [0,1,2,3,4,5,13] rfl ?_ ?_
   all_goals (repeat'(first|exact wZ|refine And.intro ?_ ?_))
   intro q hq
   show _ = List.map (renC _) (rI (upG m (i + 1)) q)
   rw [ren_rI,hu,show upG m i ++ (twI v ++ [ow,1]) = upG m i ++ twI v ++ [ow] ++ [1] by simp]
   exact rI_nest (A:=[1]) (ll (ll (upG_len m i) rfl) rfl) (fun q _=>rI_nest (A:=[ow]) (ll (upG_len m i) rfl) (fun q _=>rI_nest (A:=twI v) (upG_len m i) (fun q _=>rfl) q) q) q
 obtain rfl : i = m.nG:=by omega
 refine wB ?_
 refine cT (decide_eq_true (by show (14 + m.nM + 4 * m.nG + 1) * 1 ≤ 1099511627776; omega)) ?_
 refine wB ?_
 intro cap1 hc1
 refine wB ?_
 rw [show 14 + m.nM + 4 * m.nG + 1 = 15 + m.nM + 4 * m.nG + 8 * 0 by omega] at hc1 ⊢
 refine .inv (fun p : Nat × Nat=>p.1 ≤ m.nW ∧ 15 + m.nM + 4 * m.nG + 8 * p.1 ≤ p.2) (fun p=>[(84,iv .i64 p.1)]) (fun p=>matH m [boxP m c,.dead,.ob (.own [.c (.slc 6 0 1 0 (15 + m.nM + 4 * m.nG + 8 * p.1) p.2 false)]),rowI (upW m p.1) (15 + m.nM + 4 * m.nG + 8 * p.1) p.2]) (fun p=>m.nW - p.1) (0,cap1) ⟨Nat.zero_le _,hc1⟩ ?_ (fun p ⟨hi,hc⟩=>?_)
 ·have e0 : upW m 0 = upG m m.nG ++ [(m.nW : Int)]:=by unfold upW; simp
  conv=>whnf
  refine Le.nm [0,1,2,3,4,5,8] rfl ?_ ?_
  all_goals (repeat'(first|exact wZ|refine And.intro ?_ ?_))
  intro q hq
  show _ = List.map (renC _) (rI (upW m 0) q)
  rw [ren_rI,e0]
  exact rI_nest (A:=[(m.nW : Int)]) (upG_len m m.nG) (fun q _=>rfl) q
 clear hc1 cap1
 generalize p.1 = i at *
 generalize p.2 = cap at *
 conv=>whnf
 refine cD (fun h=>?_) (fun h=>?_)
 ·have e:=d3 i (by omega)
  obtain ⟨e1,e2,e3,e4,e5,e6,e7,ep,e9,e10,e11,e12,e13,e14⟩:=e
  have eq : 1 ≤ (m.W i).rep ∧ (m.W i).rep ≤ 8:=by unfold power at ep; omega
  have hu:=upW_succ m i
  have hg : prW (m.W i) = [(m.W i).kind] ++ twI (m.W i).st ++ twI (m.W i).en ++ [(m.W i).cyc,(m.W i).rep,(m.W i).msg]:=rfl
  rw [hg] at hu
  refine wB ?_
  rw [zip i]
  clear ep
  generalize (m.W i).kind = kd at *
  generalize (m.W i).st = st at *
  generalize (m.W i).en = en at *
  generalize (m.W i).cyc = cy at *
  generalize (m.W i).rep = rp at *
  generalize (m.W i).msg = mg at *
  refine wB ?_
  refine cT (decide_eq_true (by show (15 + m.nM + 4 * m.nG + 8 * i + 1) * 1 ≤ 1099511627776; omega)) ?_
  refine wB ?_
  intro cap1 hc1
  refine wB ?_
  rw [fd8 st]
  refine wB ?_
  refine bW8 (fun e=>by rw [e]) ?_
  rw [wrap8i]
  refine wB ?_
  refine cT (decide_eq_true (by show (15 + m.nM + 4 * m.nG + 8 * i + 1 + 2) * 1 ≤ 1099511627776; omega)) ?_
  refine wB ?_
  intro cap2 hc2
  refine wB ?_
  rw [fd8 en]
  refine wB ?_
  refine bW8 (fun e=>by rw [e]) ?_
  rw [wrap8i]
  refine wB ?_
  refine cT (decide_eq_true (by show (15 + m.nM + 4 * m.nG + 8 * i + 1 + 2 + 2) * 1 ≤ 1099511627776; omega)) ?_
  refine wB ?_
  intro cap3 hc3
  refine wB ?_
  refine cT (decide_eq_true (by show (15 + m.nM + 4 * m.nG + 8 * i + 1 + 2 + 2 + 1) * 1 ≤ 1099511627776; omega)) ?_
  refine wB ?_
  intro cap4 hc4
  refine wB ?_
  refine cT (decide_eq_true (by show (15 + m.nM + 4 * m.nG + 8 * i + 1 + 2 + 2 + 1 + 1) * 1 ≤ 1099511627776; omega)) ?_
  refine wB ?_
  intro cap5 hc5
  refine wB ?_
  refine cT (decide_eq_true (by show (15 + m.nM + 4 * m.nG + 8 * i + 1 + 2 + 2 + 1 + 1 + 1) * 1 ≤ 1099511627776; omega)) ?_
  refine wB ?_
  intro cap6 hc6
  refine wB ?_
  rw [show 15 + m.nM + 4 * m.nG + 8 * i + 1 + 2 + 2 + 1 + 1 + 1 = 15 + m.nM + 4 * m.nG + 8 * (i + 1) by omega] at hc6 ⊢
  refine ⟨(i + 1,cap6),⟨⟨by show i + 1 ≤ m.nW; omega,hc6⟩,by show m.nW - (i + 1) < m.nW - i; omega⟩, ?_⟩
  conv=>whnf
  refine Le.nm [0,1,2,3,4,5,19] rfl ?_ ?_
  all_goals (repeat'(first|exact wZ|refine And.intro ?_ ?_))
  intro q hq
  show _ = List.map (renC _) (rI (upW m (i + 1)) q)
  rw [ren_rI,hu,show upW m i ++ ([kd] ++ twI st ++ twI en ++ [cy,rp,mg]) = upW m i ++ [kd] ++ twI st ++ twI en ++ [cy] ++ [rp] ++ [mg] by simp]
  exact rI_nest (A:=[mg]) (ll (ll (ll (ll (ll (upW_len m i) rfl) rfl) rfl) rfl) rfl) (fun q _=>rI_nest (A:=[rp]) (ll (ll (ll (ll (upW_len m i) rfl) rfl) rfl) rfl) (fun q _=>rI_nest (A:=[cy]) (ll (ll (ll (upW_len m i) rfl) rfl) rfl) (fun q _=>rI_nest (A:=twI en) (ll (ll (upW_len m i) rfl) rfl) (fun q _=>rI_nest (A:=twI st) (ll (upW_len m i) rfl) (fun q _=>rI_nest (A:=[kd]) (upW_len m i) (fun q _=>rfl) q) q) q) q) q) q
 obtain rfl : i = m.nW:=by omega
 refine wB ?_
 refine cT (bytesB_mk fun q hq=>⟨_,by rw [Nat.zero_add,rI_at _ _ (by rw [upW_len]; exact hq)]⟩) ?_
 refine wB ?_
 rw [mkStr_I (upW_len m m.nW) (upW_bd hI hm.ref.1 fun i h=>(hm.G i h).1.1) fun q hq=>by rw [Nat.zero_add]]
 exact trimM rfl rfl
abbrev priC : Con (Mat × Caps):=RoCon (fun p=>[matT p.1 p.2 0 1 2]) (fun p=>matH p.1 []) (fun p=>p.1.Ok) fun p=>sv (prM p.1)
theorem pri_run0 (m : Mat) (c : Caps) (hm : m.Ok) (hi : isM m = false) : clRunX 7 tt outsPri tabPri 3 F.config_Print [] [matT m c 0 1 2] (matH m []) (fun x h=>Trim 3 x h fun x h=>x = sv ⟨#[]⟩ ∧ h = matH m []):=by
 refine wB ?_
 refine is_use hm ?_
 rw [hi]
 refine wB ?_
 exact trimM rfl rfl
theorem pri_runA (m : Mat) (c : Caps) (hm : m.Ok) : clRunX 7 tt outsPri tabPri 3 F.config_Print [] [matT m c 0 1 2] (matH m []) (fun x h=>Trim 3 x h fun x h=>x = sv (prM m) ∧ h = matH m []):=by
 unfold prM
 by_cases h : isM m = true
 ·rw [if_pos h]
  exact pri_run m c hm (isM_iff.1 h)
 ·rw [if_neg h]
  exact pri_run0 m c hm (Bool.eq_false_iff.2 h)
theorem pri_ok : ConOk Tryz.prog F.config_Print priC:=con_of_run (clRunX_ok (d:=7) ttOk outsPri_ok tabPri_ok 3) (fn_enters (ok.config_Print (D:=7) u0 _ (clRunX_ok (d:=7) ttOk .nil TabOk.nil 1))) fun p hp=>pri_runA p.1 p.2 hp
abbrev outsPrr : List (FuncId × Cx):=[(F.ref12_Is,AskC isC)]
theorem outsPrr_ok : OutsOk Tryz.prog outsPrr:=.cons (ask_ok isR_ok) .nil
noncomputable abbrev tabPrr : List (FuncId × Eng.Fn):=[(F.ref12_Print,fn.ref12_Print u0),(F.ref12_two,fn.ref12_two u0)]
theorem tabPrr_ok {d : Nat} : TabOk d tabPrr tt:=.cons (ok.ref12_Print u0) (.cons (ok.ref12_two u0) (TabOk.nil))
theorem prr_run (m : Mat) (c : Caps) (hm : m.Ok) (hI : m.Is) : clRunX 8 tt outsPrr tabPrr 3 F.ref12_Print [] [matT m c 0 1 2] (matH m []) (fun x h=>Trim 3 x h fun x h=>x = sv (txI (upW m m.nW)) ∧ h = matH m []):=by
 obtain ⟨⟨a1,a2,a3,a4,ap,a7,a8,a9,a10,a11,a12,a13,a14,a15,a16⟩,⟨b1,b2,b3,b4⟩,d1,d2,d3⟩:=id hI
 have a0:=hm.ref.1
 have aq : 1 ≤ m.cycles ∧ m.cycles ≤ 8:=by unfold power at ap; omega
 clear ap
 refine wB ?_
 refine is_use hm ?_
 rw [isM_iff.2 hI]
 refine wB ?_
 rw [fd8 m.length]
 refine wB ?_
 refine bW8 (fun e=>by rw [e]) ?_
 rw [wrap8i]
 refine wB ?_
 intro c1 k1
 refine wB ?_
 intro c2 k2
 refine wB ?_
 rw [fd8 m.init]
 refine wB ?_
 refine bW8 (fun e=>by rw [e]) ?_
 rw [wrap8i]
 refine wB ?_
 intro c3 k3
 refine wB ?_
 refine ⟨?_, ?_⟩
 all_goals (
  refine wB ?_
  rw [fd8 m.ref]
  refine wB ?_
  refine bW8 (fun e=>by rw [e]) ?_
  rw [wrap8i]
  refine wB ?_
  intro c4 k4
  refine wB ?_
  intro c5 k5
  refine wB ?_
  refine .inv (fun p : Nat × Nat=>p.1 ≤ m.nM ∧ 13 + p.1 ≤ p.2) (fun p=>[(3,.t (.one (.slc 4 0 1 0 (13 + p.1) p.2 false))),(4,iv .i64 p.1),(21,.junk),(24,.junk),(25,.junk),(32,.junk),(33,.junk),(36,.junk),(37,.junk),(41,.junk),(46,.junk),(47,.junk)]) (fun p=>matH m [boxP m c,rowI (upM m p.1) (13 + p.1) p.2]) (fun p=>m.nM - p.1) (0,c5) ⟨Nat.zero_le _,k5⟩ ?_ (fun p ⟨hi,hc⟩=>?_)
  ·conv=>whnf
   refine Le.nm [0,1,2,3,14] rfl ?_ ?_
   all_goals (repeat'(first|exact wZ|refine And.intro ?_ ?_))
   intro q hq
   match q,hq with
   | 0,_=>rfl
   | 1,_=>rfl
   | 2,_=>rfl
   | 3,_=>rfl
   | 4,_=>rfl
   | 5,_=>rfl
   | 6,_=>rfl
   | 7,_=>rfl
   | 8,_=>rfl
   | 9,_=>rfl
   | 10,_=>rfl
   | 11,_=>rfl
   | 12,_=>rfl
   | q + 13,hq=>exact absurd hq (by omega)
  generalize p.1 = i at *
  generalize p.2 = cap at *
  conv=>whnf
  refine cD (fun h=>?_) (fun h=>?_)
  ·have e:=d1 i (by omega)
   obtain ⟨e1,e2⟩:=e
   have hu:=upM_succ m i
   refine wB ?_
   rw [zip i]
   generalize m.M i = v at *
   refine wB ?_
   refine cT (decide_eq_true (by show (13 + i + 1) * 1 ≤ 1099511627776; omega)) ?_
   refine wB ?_
   intro cap1 hc1
   refine wB ?_
   refine ⟨(i + 1,cap1),⟨⟨by show i + 1 ≤ m.nM; omega,by show 13 + (i + 1) ≤ cap1; omega⟩,by show m.nM - (i + 1) < m.nM - i; omega⟩, ?_⟩
   conv=>whnf
   refine Le.nm [0,1,2,3,6] rfl ?_ ?_
   all_goals (repeat'(first|exact wZ|refine And.intro ?_ ?_))
   intro q hq
   show _ = List.map (renC _) (rI (upM m (i + 1)) q)
   rw [ren_rI,hu]
   exact rI_nest (A:=[v]) (upM_len m i) (fun q _=>rfl) q
  obtain rfl : i = m.nM:=by omega
  refine wB ?_
  refine cT (decide_eq_true (by show (13 + m.nM + 1) * 1 ≤ 1099511627776; omega)) ?_
  refine wB ?_
  intro cap1 hc1
  refine wB ?_
  rw [show 13 + m.nM + 1 = 14 + m.nM + 4 * 0 by omega] at hc1 ⊢
  refine .inv (fun p : Nat × Nat=>p.1 ≤ m.nG ∧ 14 + m.nM + 4 * p.1 ≤ p.2) (fun p=>[(3,.t (.one (.slc 4 0 1 0 (14 + m.nM + 4 * p.1) p.2 false))),(5,iv .i64 p.1),(64,.junk),(69,.junk),(70,.junk)]) (fun p=>matH m [boxP m c,rowI (upG m p.1) (14 + m.nM + 4 * p.1) p.2]) (fun p=>m.nG - p.1) (0,cap1) ⟨Nat.zero_le _,hc1⟩ ?_ (fun p ⟨hi,hc⟩=>?_)
  ·have e0 : upG m 0 = upM m m.nM ++ [(m.nG : Int)]:=by unfold upG; simp
   conv=>whnf
   refine Le.nm [0,1,2,3,6] rfl ?_ ?_
   all_goals (repeat'(first|exact wZ|refine And.intro ?_ ?_))
   intro q hq
   show _ = List.map (renC _) (rI (upG m 0) q)
   rw [ren_rI,e0]
   exact rI_nest (A:=[(m.nG : Int)]) (upM_len m m.nM) (fun q _=>rfl) q
  generalize p.1 = i at *
  generalize p.2 = cap at *
  conv=>whnf
  refine cD (fun h=>?_) (fun h=>?_)
  ·have e:=d2 i (by omega)
   obtain ⟨e1,e2,e3⟩:=e
   have e0:=(hm.G i (by omega)).1.1
   have hu:=upG_succ m i
   have hg : prG (m.G i) = twI (m.G i).id ++ [(m.G i).ow,if (m.G i).ev then 1 else 0]:=rfl
   rw [hg] at hu
   refine wB ?_
   rw [zip i]
   cases hev : (m.G i).ev
   ·rw [if_neg (by rw [hev]; simp)] at hu
    repeat(refine wA ?_;(conv=>whnf);first|rw [zip i])
    refine wB ?_
    refine ⟨?_, ?_⟩
    all_goals ((
     repeat(refine wA ?_;(conv=>whnf);first|rw [zip i])
     refine wB ?_
     rw [fd8 ((m.G i).id)]
     refine wB ?_
     refine bW8 (fun e=>by rw [e]) ?_
     rw [wrap8i]
     repeat(refine wA ?_;(conv=>whnf);first|rw [zip i])
     refine wB ?_
     refine cT (decide_eq_true (by show (14 + m.nM + 4 * i + 2) * 1 ≤ 1099511627776; omega)) ?_
     refine wB ?_
     intro cap1 hc1
     repeat(refine wA ?_;(conv=>whnf);first|rw [zip i])
     refine wB ?_
     refine cT (decide_eq_true (by show (14 + m.nM + 4 * i + 2 + 2) * 1 ≤ 1099511627776; omega)) ?_
     refine wB ?_
     intro cap3 hc3
     refine wB ?_
     rw [show 14 + m.nM + 4 * i + 2 + 2 = 14 + m.nM + 4 * (i + 1) by omega] at hc3 ⊢
     refine ⟨(i + 1,cap3),⟨⟨by show i + 1 ≤ m.nG; omega,hc3⟩,by show m.nG - (i + 1) < m.nG - i; omega⟩, ?_⟩
     conv=>whnf
     refine Le.nm [0,1,2,3,8] rfl ?_ ?_
     all_goals (repeat'(first|exact wZ|refine And.intro ?_ ?_))
     intro q hq
     show _ = List.map (renC _) (rI (upG m (i + 1)) q)
     rw [ren_rI,hu,show upG m i ++ (twI (m.G i).id ++ [(m.G i).ow,0]) = upG m i ++ twI (m.G i).id ++ [(m.G i).ow,0] by simp]
     exact rI_nest (A:=[(m.G i).ow,0]) (ll (upG_len m i) rfl) (fun q _=>rI_nest (A:=twI (m.G i).id) (upG_len m i) (fun q _=>rfl) q) q
     ))
   ·rw [if_pos hev] at hu
    repeat(refine wA ?_;(conv=>whnf);first|rw [zip i])
    refine wB ?_
    refine ⟨?_, ?_⟩
    all_goals ((
     repeat(refine wA ?_;(conv=>whnf);first|rw [zip i])
     refine wB ?_
     rw [fd8 ((m.G i).id)]
     refine wB ?_
     refine bW8 (fun e=>by rw [e]) ?_
     rw [wrap8i]
     repeat(refine wA ?_;(conv=>whnf);first|rw [zip i])
     refine wB ?_
     refine cT (decide_eq_true (by show (14 + m.nM + 4 * i + 2) * 1 ≤ 1099511627776; omega)) ?_
     refine wB ?_
     intro cap1 hc1
     repeat(refine wA ?_;(conv=>whnf);first|rw [zip i])
     refine wB ?_
     refine cT (decide_eq_true (by show (14 + m.nM + 4 * i + 2 + 2) * 1 ≤ 1099511627776; omega)) ?_
     refine wB ?_
     intro cap3 hc3
     refine wB ?_
     rw [show 14 + m.nM + 4 * i + 2 + 2 = 14 + m.nM + 4 * (i + 1) by omega] at hc3 ⊢
     refine ⟨(i + 1,cap3),⟨⟨by show i + 1 ≤ m.nG; omega,hc3⟩,by show m.nG - (i + 1) < m.nG - i; omega⟩, ?_⟩
     conv=>whnf
     refine Le.nm [0,1,2,3,8] rfl ?_ ?_
     all_goals (repeat'(first|exact wZ|refine And.intro ?_ ?_))
     intro q hq
     show _ = List.map (renC _) (rI (upG m (i + 1)) q)
     rw [ren_rI,hu,show upG m i ++ (twI (m.G i).id ++ [(m.G i).ow,1]) = upG m i ++ twI (m.G i).id ++ [(m.G i).ow,1] by simp]
     exact rI_nest (A:=[(m.G i).ow,1]) (ll (upG_len m i) rfl) (fun q _=>rI_nest (A:=twI (m.G i).id) (upG_len m i) (fun q _=>rfl) q) q
     ))
  obtain rfl : i = m.nG:=by omega
  refine wB ?_
  refine cT (decide_eq_true (by show (14 + m.nM + 4 * m.nG + 1) * 1 ≤ 1099511627776; omega)) ?_
  refine wB ?_
  intro cap1 hc1
  refine wB ?_
  rw [show 14 + m.nM + 4 * m.nG + 1 = 15 + m.nM + 4 * m.nG + 8 * 0 by omega] at hc1 ⊢
  refine .inv (fun p : Nat × Nat=>p.1 ≤ m.nW ∧ 15 + m.nM + 4 * m.nG + 8 * p.1 ≤ p.2) (fun p=>[(3,.t (.one (.slc 4 0 1 0 (15 + m.nM + 4 * m.nG + 8 * p.1) p.2 false))),(7,iv .i64 p.1),(103,.junk),(108,.junk),(109,.junk)]) (fun p=>matH m [boxP m c,rowI (upW m p.1) (15 + m.nM + 4 * m.nG + 8 * p.1) p.2]) (fun p=>m.nW - p.1) (0,cap1) ⟨Nat.zero_le _,hc1⟩ ?_ (fun p ⟨hi,hc⟩=>?_)
  ·have e0 : upW m 0 = upG m m.nG ++ [(m.nW : Int)]:=by unfold upW; simp
   conv=>whnf
   refine Le.nm [0,1,2,3,6] rfl ?_ ?_
   all_goals (repeat'(first|exact wZ|refine And.intro ?_ ?_))
   intro q hq
   show _ = List.map (renC _) (rI (upW m 0) q)
   rw [ren_rI,e0]
   exact rI_nest (A:=[(m.nW : Int)]) (upG_len m m.nG) (fun q _=>rfl) q
  generalize p.1 = i at *
  generalize p.2 = cap at *
  conv=>whnf
  refine cD (fun h=>?_) (fun h=>?_)
  ·have e:=d3 i (by omega)
   obtain ⟨e1,e2,e3,e4,e5,e6,e7,ep,e9,e10,e11,e12,e13,e14⟩:=e
   have eq : 1 ≤ (m.W i).rep ∧ (m.W i).rep ≤ 8:=by unfold power at ep; omega
   have hu:=upW_succ m i
   have hg : prW (m.W i) = [(m.W i).kind] ++ twI (m.W i).st ++ twI (m.W i).en ++ [(m.W i).cyc,(m.W i).rep,(m.W i).msg]:=rfl
   rw [hg] at hu
   refine wB ?_
   rw [zip i]
   clear ep
   generalize (m.W i).kind = kd at *
   generalize (m.W i).st = st at *
   generalize (m.W i).en = en at *
   generalize (m.W i).cyc = cy at *
   generalize (m.W i).rep = rp at *
   generalize (m.W i).msg = mg at *
   refine wB ?_
   refine cT (decide_eq_true (by show (15 + m.nM + 4 * m.nG + 8 * i + 1) * 1 ≤ 1099511627776; omega)) ?_
   refine wB ?_
   intro cap1 hc1
   refine wB ?_
   rw [fd8 (st)]
   refine wB ?_
   refine bW8 (fun e=>by rw [e]) ?_
   rw [wrap8i]
   refine wB ?_
   refine cT (decide_eq_true (by show (15 + m.nM + 4 * m.nG + 8 * i + 1 + 2) * 1 ≤ 1099511627776; omega)) ?_
   refine wB ?_
   intro cap2 hc2
   refine wB ?_
   rw [fd8 (en)]
   refine wB ?_
   refine bW8 (fun e=>by rw [e]) ?_
   rw [wrap8i]
   refine wB ?_
   refine cT (decide_eq_true (by show (15 + m.nM + 4 * m.nG + 8 * i + 1 + 2 + 2) * 1 ≤ 1099511627776; omega)) ?_
   refine wB ?_
   intro cap3 hc3
   refine wB ?_
   refine cT (decide_eq_true (by show (15 + m.nM + 4 * m.nG + 8 * i + 1 + 2 + 2 + 3) * 1 ≤ 1099511627776; omega)) ?_
   refine wB ?_
   intro cap6 hc6
   refine wB ?_
   rw [show 15 + m.nM + 4 * m.nG + 8 * i + 1 + 2 + 2 + 3 = 15 + m.nM + 4 * m.nG + 8 * (i + 1) by omega] at hc6 ⊢
   refine ⟨(i + 1,cap6),⟨⟨by show i + 1 ≤ m.nW; omega,hc6⟩,by show m.nW - (i + 1) < m.nW - i; omega⟩, ?_⟩
   conv=>whnf
   refine Le.nm [0,1,2,3,13] rfl ?_ ?_
   all_goals (repeat'(first|exact wZ|refine And.intro ?_ ?_))
   intro q hq
   show _ = List.map (renC _) (rI (upW m (i + 1)) q)
   rw [ren_rI,hu,show upW m i ++ ([kd] ++ twI st ++ twI en ++ [cy,rp,mg]) = upW m i ++ [kd] ++ twI st ++ twI en ++ [cy,rp,mg] by simp]
   exact rI_nest (A:=[cy,rp,mg]) (ll (ll (ll (upW_len m i) rfl) rfl) rfl) (fun q _=>rI_nest (A:=twI en) (ll (ll (upW_len m i) rfl) rfl) (fun q _=>rI_nest (A:=twI st) (ll (upW_len m i) rfl) (fun q _=>rI_nest (A:=[kd]) (upW_len m i) (fun q _=>rfl) q) q) q) q
  obtain rfl : i = m.nW:=by omega
  refine wB ?_
  refine cT (bytesB_mk fun q hq=>⟨_,by rw [Nat.zero_add,rI_at _ _ (by rw [upW_len]; exact hq)]⟩) ?_
  refine wB ?_
  rw [mkStr_I (upW_len m m.nW) (upW_bd hI hm.ref.1 fun i h=>(hm.G i h).1.1) fun q hq=>by rw [Nat.zero_add]]
  exact trimM rfl rfl
 )
theorem prr_run0 (m : Mat) (c : Caps) (hm : m.Ok) (hi : isM m = false) : clRunX 8 tt outsPrr tabPrr 3 F.ref12_Print [] [matT m c 0 1 2] (matH m []) (fun x h=>Trim 3 x h fun x h=>x = sv ⟨#[]⟩ ∧ h = matH m []):=by
 refine wB ?_
 refine is_use hm ?_
 rw [hi]
 refine wB ?_
 exact trimM rfl rfl
theorem prr_runA (m : Mat) (c : Caps) (hm : m.Ok) : clRunX 8 tt outsPrr tabPrr 3 F.ref12_Print [] [matT m c 0 1 2] (matH m []) (fun x h=>Trim 3 x h fun x h=>x = sv (prM m) ∧ h = matH m []):=by
 unfold prM
 by_cases h : isM m = true
 ·rw [if_pos h]
  exact prr_run m c hm (isM_iff.1 h)
 ·rw [if_neg h]
  exact prr_run0 m c hm (Bool.eq_false_iff.2 h)
theorem prr_ok : ConOk Tryz.prog F.ref12_Print priC:=con_of_run (clRunX_ok (d:=8) ttOk outsPrr_ok tabPrr_ok 3) (fn_enters (ok.ref12_Print (D:=8) u0 _ (clRunX_ok (d:=8) ttOk .nil TabOk.nil 1))) fun p hp=>prr_runA p.1 p.2 hp
end Go.Proofs.YtlckbdhpehkeoaaGreat.Co
