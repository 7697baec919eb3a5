/- Parts. -/
import Derived.Test.YtlckbdhpehkeoaaGreatJ05
import Derived.Test.YtlckbdhpehkeoaaGreatJ09
import Derived.Test.YtlckbdhpehkeoaaGreatJ12
import Derived.Test.YtlckbdhpehkeoaaGreatJ14
namespace Go.Proofs.YtlckbdhpehkeoaaGreat.Co
open Go Go.Eng Go.Proofs Go.Proofs.YtlckbdhpehkeoaaGreat.Tb Go.Pu
set_option maxRecDepth 100000
set_option maxHeartbeats 8000000
abbrev outsBgn : List (FuncId × Cx):=[(F.code_Reader_Push,AskC pshMC),(F.code_Encode,AskC encC),(F.frame_Arb,AskC arbC),(F.stuff_Stuff,AskC stuC)]
theorem outsBgn_ok : OutsOk Tryz.prog outsBgn:=.cons (ask_ok psm_ok) (.cons (ask_ok pec_ok) (.cons (ask_ok pab_ok) (.cons (ask_ok pst_ok) .nil)))
theorem rd0_ok : rd0.Ok:=⟨by decide,fun _=>⟨by decide,fun _=>by decide⟩,fun h=>absurd rfl h,by decide,by decide⟩
theorem hrb0 : (fun _ : Nat=>C.v (.int .u8 0)) = rbF []:=funext fun i=>(rb0 i).symm
noncomputable abbrev tabBgn : List (FuncId × Eng.Fn):=[(F.mac_Mac_begins,fn.mac_Mac_begins u0)]
theorem tabBgn_ok {d : Nat} : TabOk d tabBgn tt:=.cons (ok.mac_Mac_begins u0) (TabOk.nil)
theorem begins_run (st lf sn gt : Nat) (w : Bool) (f : Frm) (on : Bool) (bits : List Bool) (arb pos : Nat) (r : Rd) (s : Bool) (hs : s = true → f.ok) (m' : Mac) (l : List Ev) (hm : (⟨st, lf, ⟨sn, gt⟩, w, f, on, bits, arb, pos, r⟩ : Mac).begins s = (m', l)) :
    clRunX 6 tt outsBgn tabBgn 2 F.mac_Mac_begins [] [pR 0, bv s] [macS st lf sn gt w f on (bs bits) arb pos r] (fun x h => Trim 1 x h fun x h => x = evR l 1 l.length ∧ h = macE m' :: rowsE l l.length) := by
  have e0 : (⟨st, lf, ⟨sn, gt⟩, w, f, on, bits, arb, pos, r⟩ : Mac).begins s = if s then (⟨1, lf, ⟨sn, gt⟩, w, f, true, encB f, (stuff (Go.Pu.arb f)).length, 1, (rd0.push false).1⟩, [⟨6, frm0, 0⟩]) else (⟨1, lf, ⟨sn, gt⟩, w, f, on, bits, arb, pos, (rd0.push false).1⟩, [⟨6, frm0, 0⟩]) := rfl
  rw [e0] at hm
  refine wB ?_
  rw [hrb0]
  refine psm_use (c := false) (st := 1) (lf := lf) (sn := sn) (gt := gt) (w := w) (f := f) (on := on) (bits := bs bits) (arb := arb) (pos := pos) (r := rd0) 0 rfl rd0_ok (by decide) ?_
  generalize (rd0.push false).1 = r' at *
  generalize (rd0.push false).2 = e at *
  cases s
  · rw [if_neg (by simp)] at hm
    obtain ⟨rfl, rfl⟩ := Prod.mk.inj hm
    refine wB ?_
    refine Trim.det (Le.id rfl wH wH)
  · rw [if_pos rfl] at hm
    obtain ⟨rfl, rfl⟩ := Prod.mk.inj hm
    have hok := hs rfl
    have hE : enc f = bs (encB f) := if_pos hok
    refine wB ?_
    refine enc_use (f := f) (ok_in hok) ?_
    rw [hE]
    generalize encB f = eb at *
    refine wB ?_
    refine arb_use (f := f) hok ?_
    have ha := arb_len f
    refine wB ?_
    refine stu_use (by rw [bs_size]; omega) ?_
    rw [rd_bs]
    have hz := bs_size (stuff (Go.Pu.arb f))
    have hl2 := stuffGo_len run0 (Go.Pu.arb f)
    have hl2 : (stuff (Go.Pu.arb f)).length ≤ 2 * (Go.Pu.arb f).length := hl2
    generalize stuff (Go.Pu.arb f) = S at *
    refine wB ?_
    rw [hz]
    refine wB ?_
    refine Trim.det (Le.id rfl wH wH)
abbrev bgnC : Con (Mac × Bool):=DetCon (fun p=>[pR 0,bv p.2]) (fun p=>[macE p.1]) (fun p=>p.2 = true → p.1.f.ok) (fun p=>evR (p.1.begins p.2).2 1 (p.1.begins p.2).2.length) fun p=>macE (p.1.begins p.2).1 :: rowsE (p.1.begins p.2).2 (p.1.begins p.2).2.length
theorem bgn_ok : ConOk Tryz.prog F.mac_Mac_begins bgnC:=con_of_run (clRunX_ok (d:=6) ttOk outsBgn_ok tabBgn_ok 2) (fn_enters (ok.mac_Mac_begins (D:=6) u0 _ (clRunX_ok (d:=6) ttOk .nil TabOk.nil 1))) fun p hp=>begins_run p.1.state p.1.left p.1.c.sent p.1.c.got p.1.waits p.1.f p.1.on p.1.bits p.1.arb p.1.pos p.1.r p.2 hp _ _ rfl
theorem bgn_use {m : Mac} {s : Bool} {h : Heap} {K : R → Heap → Prop} (n : Nat) (hn : h[n]? = some (macE m)) (hp : s = true → m.f.ok) {m' : Mac} {l : List Ev} (hm : m.begins s = (m', l))
    (hk : K (evR l h.length l.length) (h.set n (macE m') ++ rowsE l l.length)) : AskC bgnC [.t (.one (.ptr n 0)), bv s] h K := by
  have h1 : (m.begins s).1 = m' := by rw [hm]
  have h2 : (m.begins s).2 = l := by rw [hm]
  have hn' : h[n]? = some (rdM (mxV m.state m.left m.c.sent m.c.got m.waits m.f m.on (bs m.bits) m.arb m.pos) m.r) := hn
  refine .det (m, s) [n] _ _ hp rfl ⟨hent_of hn' (rdM_le _ m.r _), trivial⟩ ⟨.inl rfl, .inl rfl, trivial⟩ (evR_ren _ _ _ _ _) (mrg_set rfl h) ?_
  show K (evR (m.begins s).2 h.length (m.begins s).2.length) (h.set n (renHE _ (macE (m.begins s).1)) ++ (rowsE (m.begins s).2 (m.begins s).2.length).map (renHE _))
  rw [h1, h2, rowsE_ren]
  exact hk
abbrev SdP (m : Mac) (lv : Bool) : Prop:=m.pos < m.bits.length ∧ m.bits.length ≤ 1000 ∧ HrP m lv
abbrev sdsC : Con (Mac × Bool):=FamCon (β:=Nat) (fun p=>[pR 0,iv .u8 (cI p.2)]) (fun p=>[macE p.1]) (fun p=>SdP p.1 p.2) (fun p q=>(p.1.sends p.2).2.length ≤ q) (fun p q=>evR (p.1.sends p.2).2 1 q) fun p q=>macE (p.1.sends p.2).1 :: rowsE (p.1.sends p.2).2 q
theorem sds_ok : ConOk Tryz.prog F.mac_Mac_sends sdsC:=con_of_run (clRunX_ok (d:=7) ttOk outsSds_ok tabSds_ok 4) (fn_enters (ok.mac_Mac_sends (D:=7) u0 _ (clRunX_ok (d:=7) ttOk .nil TabOk.nil 1))) fun p hp=>msends_run p.1.state p.1.left p.1.c.sent p.1.c.got p.1.waits p.1.f p.1.on p.1.bits p.1.arb p.1.pos p.1.r p.2 hp.1 hp.2.1 hp.2.2.1 hp.2.2.2.1 hp.2.2.2.2.1 hp.2.2.2.2.2 _ _ rfl
theorem sds_use {m : Mac} {lv : Bool} {h : Heap} {K : R → Heap → Prop} (n : Nat) (hn : h[n]? = some (macE m)) (hp : SdP m lv) {m' : Mac} {l : List Ev} (hm : m.sends lv = (m', l))
    (hk : ∀ q, l.length ≤ q → K (evR l h.length q) (h.set n (macE m') ++ rowsE l q)) : AskC sdsC [.t (.one (.ptr n 0)), iv .u8 (cI lv)] h K := by
  have h1 : (m.sends lv).1 = m' := by rw [hm]
  have h2 : (m.sends lv).2 = l := by rw [hm]
  have hn' : h[n]? = some (rdM (mxV m.state m.left m.c.sent m.c.got m.waits m.f m.on (bs m.bits) m.arb m.pos) m.r) := hn
  refine .fam (m, lv) [n] _ _ hp rfl ⟨hent_of hn' (rdM_le _ m.r _), trivial⟩ ⟨.inl rfl, .inl rfl, trivial⟩ (fun q => evR_ren _ _ _ _ _) (fun q => mrg_set rfl h) fun q hq => ?_
  show K (evR (m.sends lv).2 h.length q) (h.set n (renHE _ (macE (m.sends lv).1)) ++ (rowsE (m.sends lv).2 q).map (renHE _))
  rw [h1, h2, rowsE_ren]
  rw [h2] at hq
  exact hk q hq
structure MacIn (m : Mac) (lv : Bool) : Prop where
 left : m.left ≤ 1000
 sends : m.state = 1 → m.on = true → SdP m lv
 hears : m.state = 1 → m.on = false → HrP m lv
 ok : m.waits = true → m.f.ok
abbrev outsSmp : List (FuncId × Cx):=[(F.mac_Mac_hears,AskC hrsC),(F.mac_Mac_sends,AskC sdsC),(F.mac_Mac_begins,AskC bgnC)]
theorem outsSmp_ok : OutsOk Tryz.prog outsSmp:=.cons (ask_ok hrs_ok) (.cons (ask_ok sds_ok) (.cons (ask_ok bgn_ok) .nil))
def smP (m' : Mac) (l : List Ev) (x : R) (h : Heap) : Prop:=∃ q,l.length ≤ q ∧ x = evR l 1 q ∧ h = macE m' :: rowsE l q
theorem smp_end {m' : Mac} {l : List Ev} {q : Nat} (hq : l.length ≤ q) : Trim 1 (evR l 1 q) (macE m' :: rowsE l q) (smP m' l):=by
 refine ⟨⟨evR l 1 q,macE m' :: rowsE l q, ?_,q,hq,rfl,rfl⟩⟩
 cases l with
 | nil=>exact Le.id rfl ⟨macE_le m' _,trivial⟩ rfl
 | cons e l =>
  refine Le.id rfl ⟨macE_le m' _,⟨rfl,rfl,rfl,fun i _=>?_⟩,trivial⟩ rfl
  rw [evF_ren]
theorem smp_nil {m' : Mac} {h : Heap} (hh : h = [macE m']) : Trim 1 nilS h (smP m' []):=by
 subst hh; exact smp_end (l:=[]) (q:=0) (Nat.le_refl _)
noncomputable abbrev tabSmp : List (FuncId × Eng.Fn):=[(F.mac_Mac_Sample,fn.mac_Mac_Sample u0),(F.mac_Mac_counted,fn.mac_Mac_counted u0),(F.mac_Mac_pauses,fn.mac_Mac_pauses u0)]
theorem tabSmp_ok {d : Nat} : TabOk d tabSmp tt:=.cons (ok.mac_Mac_Sample u0) (.cons (ok.mac_Mac_counted u0) (.cons (ok.mac_Mac_pauses u0) (TabOk.nil)))
theorem smp_run (st lf sn gt : Nat) (w : Bool) (f : Frm) (on : Bool) (bits : List Bool) (arb pos : Nat) (r : Rd) (v : Int) (lv : Bool) (hv : lv = !decide (v = 48)) (hv2 : 0 ≤ v ∧ v ≤ 255) (hI : MacIn ⟨st, lf, ⟨sn, gt⟩, w, f, on, bits, arb, pos, r⟩ lv) (m' : Mac) (l : List Ev) (hm : (⟨st, lf, ⟨sn, gt⟩, w, f, on, bits, arb, pos, r⟩ : Mac).sample lv = (m', l)) :
    clRunX 7 tt outsSmp tabSmp 3 F.mac_Mac_Sample [] [pR 0, iv .u8 v] [macS st lf sn gt w f on (bs bits) arb pos r] (fun x h => Trim 1 x h (smP m' l)) := by
  have e0 : (⟨st, lf, ⟨sn, gt⟩, w, f, on, bits, arb, pos, r⟩ : Mac).sample lv = if st = 0 then (if lv then (⟨st, lf, ⟨sn, gt⟩, w, f, on, bits, arb, pos, r⟩, []) else (⟨st, lf, ⟨sn, gt⟩, w, f, on, bits, arb, pos, r⟩ : Mac).begins w)
    else if st = 1 then (if on then (⟨st, lf, ⟨sn, gt⟩, w, f, on, bits, arb, pos, r⟩ : Mac).sends lv else (⟨st, lf, ⟨sn, gt⟩, w, f, on, bits, arb, pos, r⟩ : Mac).hears lv)
    else if st = 2 then (⟨6, 3, ⟨sn, gt⟩, w, f, on, bits, arb, pos, r⟩, [])
    else if st = 3 then (if lf ≤ 1 then ⟨4, 0, ⟨sn, gt⟩, w, f, on, bits, arb, pos, r⟩ else ⟨st, lf - 1, ⟨sn, gt⟩, w, f, on, bits, arb, pos, r⟩, [])
    else if st = 4 then (if lv then ⟨5, 7, ⟨sn, gt⟩, w, f, on, bits, arb, pos, r⟩ else ⟨st, lf, ⟨sn, gt⟩, w, f, on, bits, arb, pos, r⟩, [])
    else if st = 5 then (if lv then (if lf ≤ 1 then ⟨6, 3, ⟨sn, gt⟩, w, f, on, bits, arb, pos, r⟩ else ⟨st, lf - 1, ⟨sn, gt⟩, w, f, on, bits, arb, pos, r⟩) else ⟨st, 7, ⟨sn, gt⟩, w, f, on, bits, arb, pos, r⟩, [])
    else if st = 6 then (if lv then (if lf ≤ 1 then ⟨0, 0, ⟨sn, gt⟩, w, f, on, bits, arb, pos, r⟩ else ⟨st, lf - 1, ⟨sn, gt⟩, w, f, on, bits, arb, pos, r⟩, []) else (⟨st, lf, ⟨sn, gt⟩, w, f, on, bits, arb, pos, r⟩ : Mac).begins false)
    else (⟨st, lf, ⟨sn, gt⟩, w, f, on, bits, arb, pos, r⟩, []) := rfl
  rw [e0] at hm
  clear e0
  obtain ⟨i1, i2, i3, i4⟩ := hI
  have i1 : lf ≤ 1000 := i1
  by_cases hz : v = 48
  · obtain rfl : lv = false := by rw [hv, hz]; rfl
    subst hz
    by_cases h0 : st = 0
    · subst h0
      rw [if_pos rfl, if_neg (by simp)] at hm
      refine wB ?_
      refine bgn_use 0 (by exact rfl) i4 hm ?_
      refine wB ?_
      exact smp_end (Nat.le_refl _)
    rw [if_neg h0] at hm
    by_cases h1 : st = 1
    · subst h1
      rw [if_pos rfl] at hm
      cases on
      · rw [if_neg (by simp)] at hm
        refine wB ?_
        refine hrs_use (lv := false) 0 (by exact rfl) (i3 rfl rfl) hm ?_
        refine wB ?_
        exact smp_end (Nat.le_refl _)
      · rw [if_pos rfl] at hm
        refine wB ?_
        refine sds_use (lv := false) 0 (by exact rfl) (i2 rfl rfl) hm fun q hq => ?_
        refine wB ?_
        exact smp_end hq
    rw [if_neg h1] at hm
    by_cases h2 : st = 2
    · rw [if_pos h2] at hm
      obtain ⟨rfl, rfl⟩ := Prod.mk.inj hm
      refine wB ?_
      exact smp_nil rfl
    rw [if_neg h2] at hm
    by_cases h3 : st = 3
    · subst h3
      rw [if_pos rfl] at hm
      by_cases hl : lf ≤ 1
      · rw [if_pos hl] at hm
        obtain ⟨rfl, rfl⟩ := Prod.mk.inj hm
        refine wB ?_
        exact smp_nil rfl
      · rw [if_neg hl] at hm
        obtain ⟨k, rfl⟩ : ∃ k, lf = k + 1 := ⟨lf - 1, by omega⟩
        rw [Nat.add_sub_cancel] at hm
        obtain ⟨rfl, rfl⟩ := Prod.mk.inj hm
        refine wB ?_
        try rw [show ((k + 1 : Nat) : Int) - 1 = (k : Int) by omega]
        refine wB ?_
        exact smp_nil rfl
    rw [if_neg h3] at hm
    by_cases h4 : st = 4
    · subst h4
      rw [if_pos rfl, if_neg (by simp)] at hm
      obtain ⟨rfl, rfl⟩ := Prod.mk.inj hm
      refine wB ?_
      exact smp_nil rfl
    rw [if_neg h4] at hm
    by_cases h5 : st = 5
    · subst h5
      rw [if_pos rfl, if_neg (by simp)] at hm
      obtain ⟨rfl, rfl⟩ := Prod.mk.inj hm
      refine wB ?_
      exact smp_nil rfl
    rw [if_neg h5] at hm
    by_cases h6 : st = 6
    · subst h6
      rw [if_pos rfl, if_neg (by simp)] at hm
      refine wB ?_
      refine bgn_use 0 (by exact rfl) (fun h => by cases h) hm ?_
      refine wB ?_
      exact smp_end (Nat.le_refl _)
    rw [if_neg h6] at hm
    obtain ⟨rfl, rfl⟩ := Prod.mk.inj hm
    refine wB ?_
    exact smp_nil rfl
  · obtain rfl : lv = true := by rw [hv, decide_eq_false hz]; rfl
    by_cases h0 : st = 0
    · subst h0
      rw [if_pos rfl, if_pos rfl] at hm
      obtain ⟨rfl, rfl⟩ := Prod.mk.inj hm
      refine wB ?_
      exact smp_nil rfl
    rw [if_neg h0] at hm
    by_cases h1 : st = 1
    · subst h1
      rw [if_pos rfl] at hm
      cases on
      · rw [if_neg (by simp)] at hm
        refine wB ?_
        refine hrs_use (lv := true) 0 (by exact rfl) (i3 rfl rfl) hm ?_
        refine wB ?_
        exact smp_end (Nat.le_refl _)
      · rw [if_pos rfl] at hm
        refine wB ?_
        refine sds_use (lv := true) 0 (by exact rfl) (i2 rfl rfl) hm fun q hq => ?_
        refine wB ?_
        exact smp_end hq
    rw [if_neg h1] at hm
    by_cases h2 : st = 2
    · rw [if_pos h2] at hm
      obtain ⟨rfl, rfl⟩ := Prod.mk.inj hm
      refine wB ?_
      exact smp_nil rfl
    rw [if_neg h2] at hm
    by_cases h3 : st = 3
    · subst h3
      rw [if_pos rfl] at hm
      by_cases hl : lf ≤ 1
      · rw [if_pos hl] at hm
        obtain ⟨rfl, rfl⟩ := Prod.mk.inj hm
        refine wB ?_
        exact smp_nil rfl
      · rw [if_neg hl] at hm
        obtain ⟨k, rfl⟩ : ∃ k, lf = k + 1 := ⟨lf - 1, by omega⟩
        rw [Nat.add_sub_cancel] at hm
        obtain ⟨rfl, rfl⟩ := Prod.mk.inj hm
        refine wB ?_
        try rw [show ((k + 1 : Nat) : Int) - 1 = (k : Int) by omega]
        refine wB ?_
        exact smp_nil rfl
    rw [if_neg h3] at hm
    by_cases h4 : st = 4
    · subst h4
      rw [if_pos rfl, if_pos rfl] at hm
      obtain ⟨rfl, rfl⟩ := Prod.mk.inj hm
      refine wB ?_
      exact smp_nil rfl
    rw [if_neg h4] at hm
    by_cases h5 : st = 5
    · subst h5
      rw [if_pos rfl, if_pos rfl] at hm
      by_cases hl : lf ≤ 1
      · rw [if_pos hl] at hm
        obtain ⟨rfl, rfl⟩ := Prod.mk.inj hm
        refine wB ?_
        exact smp_nil rfl
      · rw [if_neg hl] at hm
        obtain ⟨k, rfl⟩ : ∃ k, lf = k + 1 := ⟨lf - 1, by omega⟩
        rw [Nat.add_sub_cancel] at hm
        obtain ⟨rfl, rfl⟩ := Prod.mk.inj hm
        refine wB ?_
        try rw [show ((k + 1 : Nat) : Int) - 1 = (k : Int) by omega]
        refine wB ?_
        exact smp_nil rfl
    rw [if_neg h5] at hm
    by_cases h6 : st = 6
    · subst h6
      rw [if_pos rfl, if_pos rfl] at hm
      by_cases hl : lf ≤ 1
      · rw [if_pos hl] at hm
        obtain ⟨rfl, rfl⟩ := Prod.mk.inj hm
        refine wB ?_
        exact smp_nil rfl
      · rw [if_neg hl] at hm
        obtain ⟨k, rfl⟩ : ∃ k, lf = k + 1 := ⟨lf - 1, by omega⟩
        rw [Nat.add_sub_cancel] at hm
        obtain ⟨rfl, rfl⟩ := Prod.mk.inj hm
        refine wB ?_
        try rw [show ((k + 1 : Nat) : Int) - 1 = (k : Int) by omega]
        refine wB ?_
        exact smp_nil rfl
    rw [if_neg h6] at hm
    obtain ⟨rfl, rfl⟩ := Prod.mk.inj hm
    refine wB ?_
    exact smp_nil rfl
abbrev smpC : Con (Mac × Int):=FamCon (β:=Nat) (fun p=>[pR 0,iv .u8 p.2]) (fun p=>[macE p.1]) (fun p=>MacIn p.1 (!decide (p.2 = 48)) ∧ 0 ≤ p.2 ∧ p.2 ≤ 255) (fun p q=>(p.1.sample (!decide (p.2 = 48))).2.length ≤ q) (fun p q=>evR (p.1.sample (!decide (p.2 = 48))).2 1 q) fun p q=>macE (p.1.sample (!decide (p.2 = 48))).1 :: rowsE (p.1.sample (!decide (p.2 = 48))).2 q
theorem smp_ok : ConOk Tryz.prog F.mac_Mac_Sample smpC:=con_of_run (clRunX_ok (d:=7) ttOk outsSmp_ok tabSmp_ok 3) (fn_enters (ok.mac_Mac_Sample (D:=7) u0 _ (clRunX_ok (d:=7) ttOk .nil TabOk.nil 1))) fun p hp=>smp_run p.1.state p.1.left p.1.c.sent p.1.c.got p.1.waits p.1.f p.1.on p.1.bits p.1.arb p.1.pos p.1.r p.2 _ rfl hp.2 hp.1 _ _ rfl
abbrev dvT (d : Dv) : T:=.agg [.c (.v (.int .i64 d.1)),.c (.v (.string d.2))]
abbrev dvC (d : Dv) : List C:=[.v (.int .i64 d.1),.v (.string d.2)]
def dv0 : Dv:=(0,.empty)
def dvF (l : List Dv) (q : Nat) : List C:=dvC (l.getD q dv0)
abbrev quO (n : Nat) : HE:=.ob (.own [.c (.ch n)])
abbrev quQ (l : List Dv) : HE:=.ob (.raw (.chq 4 l))
abbrev quH (l : List Dv) : Heap:=[quO 1,quQ l]
noncomputable abbrev tabQpt : List (FuncId × Eng.Fn):=[(F.queue_Queue_Put,fn.queue_Queue_Put u0)]
theorem tabQpt_ok {d : Nat} : TabOk d tabQpt tt:=.cons (ok.queue_Queue_Put u0) (TabOk.nil)
theorem qput_run (l : List Dv) (m : Int) (s : ByteArray) : clRunX 5 tt outs0 tabQpt 2 F.queue_Queue_Put [] [pR 0,iv .i64 m,sv s] (quH l) (fun x h=>Trim 2 x h fun x h=>x = iv .i64 (if l.length < 4 then 0 else 170) ∧ h = quH (if l.length < 4 then l ++ [(m,s)] else l)):=by
 by_cases hl : l.length < 4
 ·rw [if_pos hl,if_pos hl]
  refine wB ?_
  refine Trim.det (Le.id rfl wH wH)
 ·rw [if_neg hl,if_neg hl]
  refine wB ?_
  refine Trim.det (Le.id rfl wH wH)
abbrev qputC : Con (List Dv × Int × ByteArray):=DetCon (fun p=>[pR 0,iv .i64 p.2.1,sv p.2.2]) (fun p=>quH p.1) (fun _=>True) (fun p=>iv .i64 (if p.1.length < 4 then 0 else 170)) fun p=>quH (if p.1.length < 4 then p.1 ++ [(p.2.1,p.2.2)] else p.1)
theorem qput_ok : ConOk Tryz.prog F.queue_Queue_Put qputC:=con_of_run (clRunX_ok (d:=5) ttOk outs0_ok tabQpt_ok 2) (fn_enters (ok.queue_Queue_Put (D:=5) u0 _ (clRunX_ok (d:=5) ttOk .nil TabOk.nil 1))) fun p _=>qput_run p.1 p.2.1 p.2.2
noncomputable abbrev tabQtk : List (FuncId × Eng.Fn):=[(F.queue_Queue_Take,fn.queue_Queue_Take u0)]
theorem tabQtk_ok {d : Nat} : TabOk d tabQtk tt:=.cons (ok.queue_Queue_Take u0) (TabOk.nil)
theorem qtake_run (d : Dv) (l : List Dv) : clRunX 5 tt outs0 tabQtk 2 F.queue_Queue_Take [] [pR 0] (quH (d :: l)) (fun x h=>Trim 2 x h fun x h=>x = .tup [dvT d,.one (.v (.int .i64 0))] ∧ h = quH l):=by
 refine wB ?_
 refine Trim.det (Le.id rfl wH wH)
abbrev qtakeC : Con (Dv × List Dv):=DetCon (fun _=>[pR 0]) (fun p=>quH (p.1 :: p.2)) (fun _=>True) (fun p=>.tup [dvT p.1,.one (.v (.int .i64 0))]) fun p=>quH p.2
theorem qtake_ok : ConOk Tryz.prog F.queue_Queue_Take qtakeC:=con_of_run (clRunX_ok (d:=5) ttOk outs0_ok tabQtk_ok 2) (fn_enters (ok.queue_Queue_Take (D:=5) u0 _ (clRunX_ok (d:=5) ttOk .nil TabOk.nil 1))) fun p _=>qtake_run p.1 p.2
abbrev dvR (k b cap : Nat) : R:=match k with
 | 0=>nilS
 | k + 1=>.t (.one (.slc b 0 2 0 (k + 1) cap false))
abbrev dvRow (l : List Dv) (k cap : Nat) : Heap:=match k with
 | 0=>[]
 | k + 1=>[.ob (.row 2 (k + 1) (dvF l) cap)]
theorem dvF_app {l : List Dv} {k q : Nat} {d : Dv} (hk : k < l.length) (hd : d = l.getD k dv0) (hq : q < k + 1) : (if q < k then dvF l (0 + q) else nthD [] [dvC d] (0 + (q - k))) = dvF l q:=by
 by_cases h : q < k
 ·rw [if_pos h,Nat.zero_add]
 ·obtain rfl : q = k:=by omega
  rw [if_neg h,Nat.sub_self]
  show dvC d = dvF l q
  rw [hd]; rfl
theorem rot_at {l : List Dv} {i : Nat} (h : i < l.length) : l.drop i ++ l.take i = l.getD i dv0 :: (l.drop (i + 1) ++ l.take i):=by
 rw [List.drop_eq_getElem_cons h,List.getD_eq_getElem?_getD,List.getElem?_eq_getElem h]; rfl
theorem rot_up {l : List Dv} {i : Nat} (h : i < l.length) : (l.drop (i + 1) ++ l.take i) ++ [l.getD i dv0] = l.drop (i + 1) ++ l.take (i + 1):=by
 rw [List.append_assoc,List.take_add_one,List.getD_eq_getElem?_getD,List.getElem?_eq_getElem h]; rfl
noncomputable abbrev tabQal : List (FuncId × Eng.Fn):=[(F.queue_Queue_All,fn.queue_Queue_All u0)]
theorem tabQal_ok {d : Nat} : TabOk d tabQal tt:=.cons (ok.queue_Queue_All u0) (TabOk.nil)
theorem qall_run (l : List Dv) (hl : l.length ≤ 4) : clRunX 5 tt outs0 tabQal 2 F.queue_Queue_All [] [pR 0] (quH l) (fun x h=>Trim 2 x h fun x h=>∃ q,l.length ≤ q ∧ x = dvR l.length 2 q ∧ h = quH l ++ dvRow l l.length q):=by
 refine wB ?_
 refine .inv (fun p : Nat × Nat=>p.1 ≤ l.length ∧ p.1 ≤ p.2) (fun p=>[(3,dvR p.1 2 p.2),(10,iv .i64 p.1)]) (fun p=>[quO 1,quQ (l.drop p.1 ++ l.take p.1)] ++ dvRow l p.1 p.2) (fun p=>l.length - p.1) (0,0) ⟨Nat.zero_le _,Nat.le_refl _⟩ ?_ (fun p ⟨hi,hc⟩=>?_)
 ·have e : l.drop 0 ++ l.take 0 = l:=by simp
  show junkK _ _ _
  rw [e]
  exact wF
 generalize p.1 = i at *
 generalize p.2 = cap at *
 rcases i with _ | i
 ·conv=>whnf
  refine cD (fun h5=>?_) (fun h5=>?_)
  ·have hi' : 0 < l.length:=by omega
   have hrot:=rot_at hi'
   have hup:=rot_up hi'
   have hrow:=fun q c9=>@dvF_app l 0 q (l.getD 0 dv0) hi' rfl c9
   have hRl : (l.drop (0 + 1) ++ l.take 0).length < 4:=by rw [List.length_append,List.length_drop,List.length_take]; omega
   rw [hrot]
   generalize l.drop (0 + 1) ++ l.take 0 = R at *
   generalize l.getD 0 dv0 = d at *
   obtain ⟨dm,ds⟩:=d
   refine wB ?_
   intro cap' hcap'
   have hcap' : 0 + 1 ≤ cap':=hcap'
   refine wB ?_
   rw [show R ++ [(dm,ds)] = l.drop (0 + 1) ++ l.take (0 + 1) from hup]
   refine ⟨(0 + 1,cap'),⟨⟨hi',hcap'⟩,by show l.length - (0 + 1) < l.length - 0; omega⟩, ?_⟩
   conv=>whnf
   refine Le.nm [0,1,4] rfl ?_ ?_
   ·refine ⟨⟨rfl,trivial⟩,rfl,⟨rfl,rfl,rfl,fun q hq=>?_⟩,trivial⟩
    obtain rfl : q = 0:=by have hq : q < 1:=hq; omega
    exact (if_neg (show ¬ 0 < 0 by omega)).symm.trans (hrow 0 (by omega))
   ·exact wH
  have hl0 : l = []:=List.eq_nil_of_length_eq_zero (by omega)
  subst hl0
  refine wB ?_
  refine ⟨⟨nilS,quH [], ?_,0,Nat.le_refl _,rfl,rfl⟩⟩
  refine Le.id rfl ?_ ?_
  all_goals (repeat'(first|exact wZ|refine And.intro ?_ ?_))
 ·conv=>whnf
  refine cD (fun h5=>?_) (fun h5=>?_)
  ·have hi' : (i + 1) < l.length:=by omega
   have hrot:=rot_at hi'
   have hup:=rot_up hi'
   have hrow:=fun q c9=>@dvF_app l (i + 1) q (l.getD (i + 1) dv0) hi' rfl c9
   have hRl : (l.drop ((i + 1) + 1) ++ l.take (i + 1)).length < 4:=by rw [List.length_append,List.length_drop,List.length_take]; omega
   rw [hrot]
   generalize l.drop ((i + 1) + 1) ++ l.take (i + 1) = R at *
   generalize l.getD (i + 1) dv0 = d at *
   obtain ⟨dm,ds⟩:=d
   refine wB ?_
   refine cT (decide_eq_true (by show ((i + 1) + 1) * 24 ≤ 1099511627776; omega)) ?_
   refine cT (decide_eq_true ⟨by omega,by omega⟩) ?_
   intro cap' hcap'
   have hcap' : (i + 1) + 1 ≤ cap':=hcap'
   refine wB ?_
   rw [show R ++ [(dm,ds)] = l.drop ((i + 1) + 1) ++ l.take ((i + 1) + 1) from hup]
   refine ⟨((i + 1) + 1,cap'),⟨⟨hi',hcap'⟩,by show l.length - ((i + 1) + 1) < l.length - (i + 1); omega⟩, ?_⟩
   conv=>whnf
   refine Le.nm [0,1,5] rfl ?_ ?_
   ·refine ⟨⟨rfl,trivial⟩,rfl,⟨rfl,rfl,rfl,fun q hq=>?_⟩,trivial⟩
    exact hrow q hq
   ·exact wH
  have hli : l.length = i + 1:=by omega
  have he : l.drop (i + 1) ++ l.take (i + 1) = l:=by rw [List.drop_of_length_le (by omega),List.take_of_length_le (by omega)]; rfl
  rw [he,hli]
  refine wB ?_
  refine ⟨⟨dvR (i + 1) 2 cap,quH l ++ dvRow l (i + 1) cap, ?_,cap,hc,rfl,rfl⟩⟩
  refine Le.id rfl ?_ ?_
  all_goals (repeat'(first|exact wZ|refine And.intro ?_ ?_))
abbrev qallC : Con (List Dv):=FamCon (β:=Nat) (fun _=>[pR 0]) (fun p=>quH p) (fun p=>p.length ≤ 4) (fun p q=>p.length ≤ q) (fun p q=>dvR p.length 2 q) fun p q=>quH p ++ dvRow p p.length q
theorem qall_ok : ConOk Tryz.prog F.queue_Queue_All qallC:=con_of_run (clRunX_ok (d:=5) ttOk outs0_ok tabQal_ok 2) (fn_enters (ok.queue_Queue_All (D:=5) u0 _ (clRunX_ok (d:=5) ttOk .nil TabOk.nil 1))) fun p hp=>qall_run p hp
abbrev outsQhd : List (FuncId × Cx):=[(F.queue_Queue_All,AskC qallC)]
theorem outsQhd_ok : OutsOk Tryz.prog outsQhd:=.cons (ask_ok qall_ok) .nil
noncomputable abbrev tabQhd : List (FuncId × Eng.Fn):=[(F.queue_Queue_Head,fn.queue_Queue_Head u0)]
theorem tabQhd_ok {d : Nat} : TabOk d tabQhd tt:=.cons (ok.queue_Queue_Head u0) (TabOk.nil)
abbrev hdR (l : List Dv) : R:=match l with
 | []=>.tup [dvT dv0,.one (.v (.bool false))]
 | d :: _=>.tup [dvT d,.one (.v (.bool true))]
theorem qhead_run (l : List Dv) (hl : l.length ≤ 4) : clRunX 4 tt outsQhd tabQhd 2 F.queue_Queue_Head [] [pR 0] (quH l) (fun x h=>Trim 2 x h fun x h=>x = hdR l ∧ h = quH l):=by
 cases l with
 | nil =>
  refine wB ?_
  refine .fam ([] : List Dv) [0,1] (fun _=>nilS) (fun _=>[quO 1,quQ [],.ob (.own [.c (.v (.int .i64 0)),.c (.v (.string .empty))])]) hl rfl ?_ ?_ (fun _=>rfl) (fun _=>rfl) fun q hq=>?_
  ·exact wH
  ·exact wH
  refine wB ?_
  refine Trim.det (Le.id rfl wH wH)
 | cons d l =>
  obtain ⟨dm,ds⟩:=d
  refine wB ?_
  refine .fam ((dm,ds) :: l) [0,1] (fun q=>.t (.one (.slc 3 0 2 0 (l.length + 1) q false))) (fun q=>[quO 1,quQ ((dm,ds) :: l),.ob (.own [.c (.v (.int .i64 0)),.c (.v (.string .empty))]),.ob (.row 2 (l.length + 1) (dvF ((dm,ds) :: l)) q)]) hl rfl ?_ ?_ (fun _=>rfl) (fun _=>rfl) fun q hq=>?_
  ·exact wH
  ·exact wH
  refine wB ?_
  refine Trim.det (Le.id rfl wH wH)
abbrev qheadC : Con (List Dv):=DetCon (fun _=>[pR 0]) (fun p=>quH p) (fun p=>p.length ≤ 4) (fun p=>hdR p) fun p=>quH p
theorem qhead_ok : ConOk Tryz.prog F.queue_Queue_Head qheadC:=con_of_run (clRunX_ok (d:=4) ttOk outsQhd_ok tabQhd_ok 2) (fn_enters (ok.queue_Queue_Head (D:=4) u0 _ (clRunX_ok (d:=4) ttOk .nil TabOk.nil 1))) fun p hp=>qhead_run p hp
noncomputable abbrev tabQnw : List (FuncId × Eng.Fn):=[(F.queue_New,fn.queue_New u0)]
theorem tabQnw_ok {d : Nat} : TabOk d tabQnw tt:=.cons (ok.queue_New u0) (TabOk.nil)
theorem qnew_run (u : Unit) : clRunX 4 tt outs0 tabQnw 2 F.queue_New [] [iv .i64 4] [] (fun x h=>Trim 0 x h fun x h=>x = pR 0 ∧ h = quH []):=by
 refine wB ?_
 refine Trim.det ?_
 refine Le.nm [1,0] rfl ?_ ?_
 ·refine ⟨⟨rfl,trivial⟩,rfl,trivial⟩
 ·exact wH
abbrev qnewC : Con Unit:=DetCon (fun _=>[iv .i64 4]) (fun _=>[]) (fun _=>True) (fun _=>pR 0) fun _=>quH []
theorem qnew_ok : ConOk Tryz.prog F.queue_New qnewC:=con_of_run (clRunX_ok (d:=4) ttOk outs0_ok tabQnw_ok 2) (fn_enters (ok.queue_New (D:=4) u0 _ (clRunX_ok (d:=4) ttOk .nil TabOk.nil 1))) fun p _=>qnew_run p
abbrev cpaC (w : Nat) {α : Type} (cell : α → List C) : Con ((Nat → α) × Nat × Nat × Bool):=DetCon (fun p=>[.t (.one (.slc 0 0 w 0 p.2.1 p.2.2.1 p.2.2.2))]) (fun p=>[.ob (.ro w p.2.1 fun i=>cell (p.1 i))]) (fun p=>p.2.1 ≤ 1000)
 (fun p=>if p.2.2.2 then nilR else .t (.one (.slc 1 0 w 0 p.2.1 p.2.1 false))) fun p=>.ob (.ro w p.2.1 fun i=>cell (p.1 i)) :: (if p.2.2.2 then [] else [.ob (.row w p.2.1 (fun i=>cell (p.1 i)) p.2.1)])
theorem cpIn_run (M : Nat → Int) (n cap : Nat) : clRunX 4 tt outs0 tabCpI 2 F.matrix_copied_int [] [.t (.one (.slc 0 0 1 0 n cap true))] [.ob (.ro 1 n fun i=>(fun v : Int=>[iC v]) (M i))] (fun x h=>Trim 1 x h fun x h=>x = nilR ∧ h = [.ob (.ro 1 n fun i=>(fun v : Int=>[iC v]) (M i))]):=by
 refine wB ?_
 refine Trim.det (Le.id rfl wH wH)
theorem cpIa_ok : ConOk Tryz.prog F.matrix_copied_int (cpaC 1 (fun v : Int=>[iC v])):=con_of_run (clRunX_ok (d:=4) ttOk outs0_ok tabCpI_ok 2) (fn_enters (ok.matrix_copied_int (D:=4) u0 _ (clRunX_ok (d:=4) ttOk .nil TabOk.nil 1))) fun p hp=>by
 obtain ⟨M,n,cap,nl⟩:=p
 cases nl
 ·exact cpI_run M n cap hp
 ·exact cpIn_run M n cap
theorem cpGn_run (M : Nat → Msg) (n cap : Nat) : clRunX 4 tt outs0 tabCpG 2 F.matrix_copied_Message [] [.t (.one (.slc 0 0 3 0 n cap true))] [.ob (.ro 3 n fun i=>msgL (M i))] (fun x h=>Trim 1 x h fun x h=>x = nilR ∧ h = [.ob (.ro 3 n fun i=>msgL (M i))]):=by
 refine wB ?_
 refine Trim.det (Le.id rfl wH wH)
theorem cpGa_ok : ConOk Tryz.prog F.matrix_copied_Message (cpaC 3 msgL):=con_of_run (clRunX_ok (d:=4) ttOk outs0_ok tabCpG_ok 2) (fn_enters (ok.matrix_copied_Message (D:=4) u0 _ (clRunX_ok (d:=4) ttOk .nil TabOk.nil 1))) fun p hp=>by
 obtain ⟨M,n,cap,nl⟩:=p
 cases nl
 ·exact cpG_run M n cap hp
 ·exact cpGn_run M n cap
theorem cpWn_run (M : Nat → Win) (n cap : Nat) : clRunX 4 tt outs0 tabCpW 2 F.matrix_copied_Window [] [.t (.one (.slc 0 0 6 0 n cap true))] [.ob (.ro 6 n fun i=>winL (M i))] (fun x h=>Trim 1 x h fun x h=>x = nilR ∧ h = [.ob (.ro 6 n fun i=>winL (M i))]):=by
 refine wB ?_
 refine Trim.det (Le.id rfl wH wH)
theorem cpWa_ok : ConOk Tryz.prog F.matrix_copied_Window (cpaC 6 winL):=con_of_run (clRunX_ok (d:=4) ttOk outs0_ok tabCpW_ok 2) (fn_enters (ok.matrix_copied_Window (D:=4) u0 _ (clRunX_ok (d:=4) ttOk .nil TabOk.nil 1))) fun p hp=>by
 obtain ⟨M,n,cap,nl⟩:=p
 cases nl
 ·exact cpW_run M n cap hp
 ·exact cpWn_run M n cap
abbrev matG (m : Mat) (s1 s2 s3 : C) : T:=.agg [.c (iC m.level),.c (iC m.nodes),.c (iC m.cycles),.c (iC m.length),.c (iC m.enable),.c (iC m.unit),.c (iC m.init),.c (uC m.ref),.c s1,.c s2,.c s3]
abbrev slN (b w n : Nat) : C:=.slc b 0 w 0 n n false
abbrev cNil : C:=.v (.slice none 0 0)
abbrev cwM (m : Mat) : HE:=.ob (.row 1 m.nM (fun i=>[iC (m.M i)]) m.nM)
abbrev cwG (m : Mat) : HE:=.ob (.row 3 m.nG (fun i=>msgL (m.G i)) m.nG)
abbrev cwW (m : Mat) : HE:=.ob (.row 6 m.nW (fun i=>winL (m.W i)) m.nW)
def cpyT (m : Mat) (z2 z3 : Bool) : T:=match z2,z3 with
 | false,false=>matG m (slN 3 1 m.nM) (slN 4 3 m.nG) (slN 5 6 m.nW)
 | false,true=>matG m (slN 3 1 m.nM) (slN 4 3 m.nG) cNil
 | true,false=>matG m (slN 3 1 m.nM) cNil (slN 4 6 m.nW)
 | true,true=>matG m (slN 3 1 m.nM) cNil cNil
def cpyH (m : Mat) (z2 z3 : Bool) : Heap:=match z2,z3 with
 | false,false=>[cwM m,cwG m,cwW m]
 | false,true=>[cwM m,cwG m]
 | true,false=>[cwM m,cwW m]
 | true,true=>[cwM m]
theorem cpa_use {w : Nat} {α : Type} {cell : α → List C} {f : Nat → α} {n cap : Nat} {h : Heap} {K : R → Heap → Prop} (b : Nat) (hb : h[b]? = some (.ob (.ro w n fun i => cell (f i)))) (hn : n ≤ 1000) (hg : ∀ x g, (cell x).map (renC g) = cell x)
    (hk : K (.t (.one (.slc h.length 0 w 0 n n false))) (h ++ [.ob (.row w n (fun i => cell (f i)) n)])) : AskC (cpaC w cell) [.t (.one (.slc b 0 w 0 n cap false))] h K := by
  have hro : ([.ob (.ro w n fun i => cell (f i))] : Heap).all roB = true := rfl
  refine .det (f, n, cap, false) [b] _ _ hn rfl ⟨hent_of hb ⟨.inl rfl, Nat.le_refl _, fun i _ => (hg _ _).symm⟩, trivial⟩ ⟨.inl rfl, trivial⟩ rfl (mrg_ro hro _) ?_
  show K _ (h ++ [HE.ob (.row w n (fun i => (cell (f i)).map (renC _)) n)])
  rw [show (fun i => (cell (f i)).map (renC (back h [HE.ob (.ro w n fun i => cell (f i))] [b]))) = fun i => cell (f i) from funext fun i => hg _ _]
  exact hk
theorem cpz_use {w : Nat} {α : Type} {cell : α → List C} {f : Nat → α} {n cap : Nat} {h : Heap} {K : R → Heap → Prop} (b : Nat) (hb : h[b]? = some (.ob (.ro w n fun i => cell (f i)))) (hn : n ≤ 1000) (hg : ∀ x g, (cell x).map (renC g) = cell x)
    (hk : K nilR h) : AskC (cpaC w cell) [.t (.one (.slc b 0 w 0 n cap true))] h K := by
  have hro : ([.ob (.ro w n fun i => cell (f i))] : Heap).all roB = true := rfl
  refine .det (f, n, cap, true) [b] _ _ hn rfl ⟨hent_of hb ⟨.inl rfl, Nat.le_refl _, fun i _ => (hg _ _).symm⟩, trivial⟩ ⟨.inl rfl, trivial⟩ rfl (mrg_ro hro []) ?_
  show K nilR (h ++ [])
  rw [List.append_nil]; exact hk
abbrev outsCpm : List (FuncId × Cx):=[(F.matrix_copied_int,AskC (cpaC 1 (fun v : Int=>[iC v]))),(F.matrix_copied_Message,AskC (cpaC 3 msgL)),(F.matrix_copied_Window,AskC (cpaC 6 winL))]
theorem outsCpm_ok : OutsOk Tryz.prog outsCpm:=.cons (ask_ok cpIa_ok) (.cons (ask_ok cpGa_ok) (.cons (ask_ok cpWa_ok) .nil))
noncomputable abbrev tabCpm : List (FuncId × Eng.Fn):=[(F.matrix_Copy,fn.matrix_Copy u0)]
theorem tabCpm_ok {d : Nat} : TabOk d tabCpm tt:=.cons (ok.matrix_Copy u0) (TabOk.nil)
theorem cpm_run (m : Mat) (c1 c2 c3 : Nat) (z2 z3 : Bool) (h1 : m.nM ≤ 1000) (h2 : m.nG ≤ 1000) (h3 : m.nW ≤ 1000) : clRunX 5 tt outsCpm tabCpm 2 F.matrix_Copy [] [matT m ⟨c1,c2,c3,false,z2,z3⟩ 0 1 2] (matH m []) (fun x h=>Trim 3 x h fun x h=>x = .t (cpyT m z2 z3) ∧ h = matH m [] ++ cpyH m z2 z3):=by
 cases z2 <;> cases z3
 ·refine wB ?_
  refine cpa_use 0 rfl h1 (fun _ _=>rfl) ?_
  refine wB ?_
  refine cpa_use 1 rfl h2 (fun _ _=>rfl) ?_
  refine wB ?_
  refine cpa_use 2 rfl h3 (fun _ _=>rfl) ?_
  refine wB ?_
  refine Trim.det (Le.nm [0,1,2,5,6,7] rfl wH wH)
 ·refine wB ?_
  refine cpa_use 0 rfl h1 (fun _ _=>rfl) ?_
  refine wB ?_
  refine cpa_use 1 rfl h2 (fun _ _=>rfl) ?_
  refine wB ?_
  refine cpz_use 2 rfl h3 (fun _ _=>rfl) ?_
  refine wB ?_
  refine Trim.det (Le.nm [0,1,2,5,6] rfl wH wH)
 ·refine wB ?_
  refine cpa_use 0 rfl h1 (fun _ _=>rfl) ?_
  refine wB ?_
  refine cpz_use 1 rfl h2 (fun _ _=>rfl) ?_
  refine wB ?_
  refine cpa_use 2 rfl h3 (fun _ _=>rfl) ?_
  refine wB ?_
  refine Trim.det (Le.nm [0,1,2,5,6] rfl wH wH)
 ·refine wB ?_
  refine cpa_use 0 rfl h1 (fun _ _=>rfl) ?_
  refine wB ?_
  refine cpz_use 1 rfl h2 (fun _ _=>rfl) ?_
  refine wB ?_
  refine cpz_use 2 rfl h3 (fun _ _=>rfl) ?_
  refine wB ?_
  refine Trim.det (Le.nm [0,1,2,5] rfl wH wH)
abbrev CpP:=Mat × Nat × Nat × Nat × Bool × Bool
abbrev cpmC : Con CpP:=DetCon (fun p=>[matT p.1 ⟨p.2.1,p.2.2.1,p.2.2.2.1,false,p.2.2.2.2.1,p.2.2.2.2.2⟩ 0 1 2]) (fun p=>matH p.1 []) (fun p=>p.1.nM ≤ 1000 ∧ p.1.nG ≤ 1000 ∧ p.1.nW ≤ 1000) (fun p=>.t (cpyT p.1 p.2.2.2.2.1 p.2.2.2.2.2)) fun p=>matH p.1 [] ++ cpyH p.1 p.2.2.2.2.1 p.2.2.2.2.2
theorem cpm_ok : ConOk Tryz.prog F.matrix_Copy cpmC:=con_of_run (clRunX_ok (d:=5) ttOk outsCpm_ok tabCpm_ok 2) (fn_enters (ok.matrix_Copy (D:=5) u0 _ (clRunX_ok (d:=5) ttOk .nil TabOk.nil 1))) fun p hp=>cpm_run p.1 p.2.1 p.2.2.1 p.2.2.2.1 p.2.2.2.2.1 p.2.2.2.2.2 hp.1 hp.2.1 hp.2.2
end Go.Proofs.YtlckbdhpehkeoaaGreat.Co
