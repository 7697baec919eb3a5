/- Parts. -/
import Derived.Test.YtlckbdhpehkeoaaGreatJ19
namespace Go.Proofs.YtlckbdhpehkeoaaGreat.Co
open Go Go.Eng Go.Proofs Go.Proofs.YtlckbdhpehkeoaaGreat.Tb Go.Pu
set_option maxRecDepth 100000
set_option maxHeartbeats 8000000
theorem nd_bt {n : Nd} {x : NdX} {rest : Heap} {K : R → Heap → Prop} {f : Frm} (hm : n.m.Ok) (hn : n.m.nM ≤ 1000) (hf : FIn f) (hk : K (btP n.m f) (ndH n x rest)) : AskC btC [matT n.m n.c 1 2 3,frmR f] (ndH n x rest) K :=
 .use (n.m,n.c,f) [1,2,3] ⟨hm,hn,hf⟩ rfl (mat1_le n x rest) ⟨mat1_lx _ _ _,⟨.inl rfl,.inl rfl,.inl rfl,.inl rfl,trivial⟩,trivial⟩ hk
theorem nd_fnd {n : Nd} {x : NdX} {rest : Heap} {K : R → Heap → Prop} {f : Frm} (hm : n.m.Ok) (hk : K (iv .i64 (findM n.m f)) (ndH n x rest)) : AskC fndC [matT n.m n.c 1 2 3,frmR f] (ndH n x rest) K :=
 .use (n.m,n.c,f) [1,2,3] hm rfl (mat1_le n x rest) ⟨mat1_lx _ _ _,⟨.inl rfl,.inl rfl,.inl rfl,.inl rfl,trivial⟩,trivial⟩ hk
theorem beat_m (n : Nd) (b : Bt) (s : Bool) : (n.beat b s).m = n.m:=rfl
abbrev outsSa : List (FuncId × Cx):=[(F.mac_Mac_Sample,AskC smpC),(F.mark_Mark_Start,AskC mkStartC),(F.refmsg_Parse,AskC btC),(F.node_Node_beat,AskC nbeatC),(F.matrix_Find,AskC fndC),(F.node_Node_message,AskC nmsgC)]
theorem outsSa_ok : OutsOk Tryz.prog outsSa:=.cons (ask_ok smp_ok) (.cons (ask_ok mkStart_ok) (.cons (ask_ok bt_ok) (.cons (ask_ok nbeat_ok) (.cons (ask_ok fnd_ok) (.cons (ask_ok nmsg_ok) .nil)))))
noncomputable abbrev tabSa : List (FuncId × Eng.Fn):=[(F.node_Node_Sample,fn.node_Node_Sample u0),(F.clock_Clock_Time,fn.clock_Clock_Time u0)]
theorem tabSa_ok {d : Nat} : TabOk d tabSa tt:=.cons (ok.node_Node_Sample u0) (.cons (ok.clock_Clock_Time u0) (TabOk.nil))
def Nd.maced (n : Nd) (m : Mac) : Nd:={ n with mac:=m }
theorem sample_eq (n : Nd) (lv : Bool) : n.sample lv = eventsL (n.mac.sample lv).2 (n.maced (n.mac.sample lv).1):=rfl
structure EvsOk (L : List Ev) : Prop where
 len : L.length ≤ 1000
 f : ∀ e,e ∈ L → FIn e.f
 last : ∀ i,i < L.length → ((L.getD i ev0).kind = 1 ∨ (L.getD i ev0).kind = 2) → i + 1 = L.length
theorem nsamp_run (n : Nd) (x : NdX) (v : Int) (ho : n.Ok) (hr : RowsOk n) (hm : MacIn n.mac (!decide (v = 48))) (hv : 0 ≤ v ∧ v ≤ 255) (hx : XOk n x) (he : EvsOk (n.mac.sample (!decide (v = 48))).2) (n' : Nd) (hn : n.sample (!decide (v = 48)) = n') :
    clRunX 7 tt outsSa tabSa 3 F.node_Node_Sample [] [pR 0, iv .u8 v] (ndH n x []) (fun x h => Trim 14 x h fun x h => ∃ q : NdX × Nat, XOk n' q.1 ∧ x = uR ∧ h = ndW n' q.1 q.2) := by
  rw [sample_eq] at hn
  rcases hs : n.mac.sample (!decide (v = 48)) with ⟨m', L⟩
  rw [hs] at hn he
  dsimp only at hn he
  have hlen := he.len
  have hoA : (n.maced m').Ok := ⟨ho.mo, ho.is, ho.rank, ho.clk, ho.mrk, ho.glb, ho.mst, ho.tab, ho.obj, ho.sch, ho.trg⟩
  have hrA : RowsOk (n.maced m') := hr
  refine wB ?_
  by_cases hL : L = []
  · subst hL
    refine nsmp_nil (m := n.mac) (m' := m') 5 rfl ⟨hm, hv⟩ hs ?_
    refine wB ?_
    refine .rd (fun _ : Unit => True) (fun _ => [(23, iv .i64 0)]) (fun _ => 0) () trivial ?_ (fun _ _ => ?_)
    · exact wF
    refine wB ?_
    subst hn
    refine ⟨⟨uR, ndH (n.maced m') x [], ⟨⟨ndL, rfl, nd_le (n.maced m') x [], rfl⟩⟩, (x, 0), hx, rfl, rfl⟩⟩
  · refine nsmp_cons (m := n.mac) (m' := m') (L := L) 5 rfl ⟨hm, hv⟩ hs hL (fun cap hcap => ?_)
    refine wB ?_
    refine .inv (fun p : Nat × NdX × Nat => p.1 ≤ L.length ∧ XOk (eventsL (L.take p.1) (n.maced m')) p.2.1 ∧ (p.2.2 ≠ 0 → p.1 = L.length)) (fun p => [(23, iv .i64 p.1)]) (fun p => ndWr (eventsL (L.take p.1) (n.maced m')) p.2.1 [evRow L cap] p.2.2) (fun p => L.length - p.1) (0, x, 0) ⟨Nat.zero_le _, hx, fun c => absurd rfl c⟩ ?_ (fun p ⟨hi, hq, hw⟩ => ?_)
    · conv => whnf
      refine Le.id rfl ?_ ?_
      all_goals(repeat'(first|exact wZ|refine And.intro ?_ ?_))
      exact fun j _ => (evF_ren _ _ _).symm
    generalize p.1 = i at *
    generalize p.2.1 = q at *
    generalize p.2.2 = w at *
    have hbo := Nd.Ok.eventsL (L.take i) hoA hrA fun e h => he.f e (List.mem_of_mem_take h)
    conv => whnf
    refine cD (fun h5 => ?_) (fun h5 => ?_)
    · have hlt : i < L.length := by omega
      obtain rfl : w = 0 := by
        rcases w with _ | w
        · rfl
        · have := hw (by omega); omega
      have hget : L[i]?.toList = [L.getD i ev0] := by rw [List.getElem?_eq_getElem hlt]; simp [List.getD_eq_getElem?_getD, List.getElem?_eq_getElem hlt]
      have hN1 : eventsL (L.take (i + 1)) (n.maced m') = (eventsL (L.take i) (n.maced m')).event (L.getD i ev0) := by
        rw [List.take_add_one, hget, eventsL_app]
      have hmem : L.getD i ev0 ∈ L := by
        have : L.getD i ev0 = L[i] := by simp [List.getD_eq_getElem?_getD, List.getElem?_eq_getElem hlt]
        rw [this]; exact List.getElem_mem hlt
      have hfe := he.f _ hmem
      have hlast := he.last i hlt
      have hev := evF_at hlt
      have z0 : 0 + ((i : Int)).toNat = i := by omega
      have hnx : ∀ (c : Nd) (q2 : NdX) (w2 : Nat), (eventsL (L.take i) (n.maced m')).event (L.getD i ev0) = c → XOk c q2 → (w2 ≠ 0 → i + 1 = L.length) → (i + 1 ≤ L.length ∧ XOk (eventsL (L.take (i + 1)) (n.maced m')) q2 ∧ (w2 ≠ 0 → i + 1 = L.length)) ∧ L.length - (i + 1) < L.length - i := by
        intro c q2 w2 e1 e2 e3
        rw [hN1, e1]
        exact ⟨⟨hlt, e2, e3⟩, by omega⟩
      generalize hB : eventsL (L.take i) (n.maced m') = b at *
      generalize L.getD i ev0 = e at *
      repeat(refine wA ?_;(conv=>whnf);first|rw [z0]|rw [hev])
      refine wB ?_
      by_cases hk6 : e.kind = 6
      · have hE : b.event e = { b with mrk := b.mrk.start b.clk.time } := by unfold Nd.event; rw [if_pos hk6]
        refine wB ?_
        refine AskC.one (b.mrk, b.clk.time) 6 trivial rfl rfl rfl (mrk_le _) (fun _ => rfl) ?_
        refine wB ?_
        refine ⟨(i + 1, q, 0), hnx _ q 0 hE hq (fun c => absurd rfl c), ?_⟩
        conv => whnf
        refine Le.nm [0, 1, 2, 3, 4, 5, 6, 7, 8, 9, 10, 11, 12, 13, 14] rfl (show leH _ _ _ (ndWr (eventsL (L.take (i + 1)) (n.maced m')) q [evRow L cap] 0) from ?_) ?_
        · rw [hN1, hE]
          repeat' (first | exact leT_empty | exact trivial | exact rfl | exact .inl rfl | exact .inr rfl | exact Nat.le_refl _ | exact Nat.zero_le _ | exact fun _ _ => rfl | exact fun j _ => (evF_ren _ _ _).symm | assumption | refine And.intro ?_ ?_)
        · repeat' (first | exact leT_empty | exact trivial | exact rfl | exact .inl rfl | exact .inr rfl | exact Nat.le_refl _ | exact Nat.zero_le _ | exact fun _ _ => rfl | exact fun j _ => (evF_ren _ _ _).symm | assumption | refine And.intro ?_ ?_)
      by_cases hk2 : e.kind = 2
      · clear hk6
        have hk6 : e.kind ≠ 6 := by omega
        refine wB ?_
        all_goals (try with_reducible refine And.intro ?_ ?_)
        all_goals
          refine wB ?_
          refine nd_bt (n := b) (x := q) (rest := _) hbo.1.mo (by have := hbo.1.is.size.2.1; omega) hfe ?_
          cases hok : btOk b.m e.f
          · repeat(refine wA ?_;(conv=>whnf);first|rw [hok])
            refine wB ?_
            refine nd_fnd (n := b) (x := q) (rest := _) hbo.1.mo ?_
            by_cases hfd : 0 ≤ findM b.m e.f
            · obtain ⟨k, hk, hkG⟩ := nfind_lt hfd
              have hk12 : k < 12 := by have := hbo.1.is.size.2.2.1; omega
              have hE : b.event e = b.message k e := by rw [← hk]; unfold Nd.event; rw [if_neg hk6, if_neg (fun c => by rw [hok] at c; cases c.2), if_pos (.inl hk2)]; rw [if_pos hfd]
              rw [hk]
              refine wB ?_
              refine nd_msg (n := b) (x := q) (k := k) (e := e) (rest := _) hbo.1 hbo.2 hk12 hq (fun q2 hq2 => ?_)
              cases hi : b.inTime
              · rw [show msgW b e = 0 by unfold msgW; rw [if_pos hk2, hi]; rfl]
                refine wB ?_
                refine ⟨(i + 1, q2, 0), hnx _ q2 0 hE hq2 (fun c => absurd rfl c), ?_⟩
                conv => whnf
                refine Le.nm [0, 1, 2, 3, 4, 5, 6, 7, 8, 9, 10, 11, 12, 13, 14] rfl (show leH _ _ _ (ndWr (eventsL (L.take (i + 1)) (n.maced m')) q2 [evRow L cap] 0) from ?_) ?_
                · rw [hN1, hE]
                  repeat' (first | exact leT_empty | exact trivial | exact rfl | exact .inl rfl | exact .inr rfl | exact Nat.le_refl _ | exact Nat.zero_le _ | exact fun _ _ => rfl | exact fun j _ => (evF_ren _ _ _).symm | assumption | refine And.intro ?_ ?_)
                · repeat' (first | exact leT_empty | exact trivial | exact rfl | exact .inl rfl | exact .inr rfl | exact Nat.le_refl _ | exact Nat.zero_le _ | exact fun _ _ => rfl | exact fun j _ => (evF_ren _ _ _).symm | assumption | refine And.intro ?_ ?_)
              · rw [show msgW b e = 1 by unfold msgW; rw [if_pos hk2, hi]; rfl]
                refine wB ?_
                refine ⟨(i + 1, q2, 1), hnx _ q2 1 hE hq2 (fun _ => hlast (.inr hk2)), ?_⟩
                conv => whnf
                refine Le.nm [0, 1, 2, 3, 4, 5, 6, 7, 8, 9, 10, 11, 12, 13, 14, 17] rfl (show leH _ _ _ (ndWr (eventsL (L.take (i + 1)) (n.maced m')) q2 [evRow L cap] 1) from ?_) ?_
                · rw [hN1, hE]
                  repeat' (first | exact leT_empty | exact trivial | exact rfl | exact .inl rfl | exact .inr rfl | exact Nat.le_refl _ | exact Nat.zero_le _ | exact fun _ _ => rfl | exact fun j _ => (evF_ren _ _ _).symm | assumption | refine And.intro ?_ ?_)
                · repeat' (first | exact leT_empty | exact trivial | exact rfl | exact .inl rfl | exact .inr rfl | exact Nat.le_refl _ | exact Nat.zero_le _ | exact fun _ _ => rfl | exact fun j _ => (evF_ren _ _ _).symm | assumption | refine And.intro ?_ ?_)
            · have hE : b.event e = b := by unfold Nd.event; rw [if_neg hk6, if_neg (fun c => by rw [hok] at c; cases c.2), if_pos (.inl hk2)]; rw [if_neg hfd]
              refine wB ?_
              refine ⟨(i + 1, q, 0), hnx _ q 0 hE hq (fun c => absurd rfl c), ?_⟩
              conv => whnf
              refine Le.nm [0, 1, 2, 3, 4, 5, 6, 7, 8, 9, 10, 11, 12, 13, 14] rfl (show leH _ _ _ (ndWr (eventsL (L.take (i + 1)) (n.maced m')) q [evRow L cap] 0) from ?_) ?_
              · rw [hN1, hE]
                repeat' (first | exact leT_empty | exact trivial | exact rfl | exact .inl rfl | exact .inr rfl | exact Nat.le_refl _ | exact Nat.zero_le _ | exact fun _ _ => rfl | exact fun j _ => (evF_ren _ _ _).symm | assumption | refine And.intro ?_ ?_)
              · repeat' (first | exact leT_empty | exact trivial | exact rfl | exact .inl rfl | exact .inr rfl | exact Nat.le_refl _ | exact Nat.zero_le _ | exact fun _ _ => rfl | exact fun j _ => (evF_ren _ _ _).symm | assumption | refine And.intro ?_ ?_)
          · have hE : b.event e = b.beat (btR b.m e.f) (decide ((e.kind : Int) = 1)) := by unfold Nd.event; rw [if_neg hk6, if_pos ⟨.inl hk2, hok⟩]; exact congrArg _ (decide_eq_decide.2 (by omega))
            repeat(refine wA ?_;(conv=>whnf);first|rw [hok])
            refine wB ?_
            refine AskC.nd (b, btR b.m e.f, decide ((e.kind : Int) = 1)) q _ ⟨hbo.1, (bt_in hbo.1.mo hfe).1⟩ hq rfl (beat_m _ _ _) (fun q2 hq2 => ?_)
            refine wB ?_
            refine ⟨(i + 1, q2, 0), hnx _ q2 0 hE hq2 (fun c => absurd rfl c), ?_⟩
            conv => whnf
            refine Le.nm [0, 1, 2, 3, 4, 5, 6, 7, 8, 9, 10, 11, 12, 13, 14] rfl (show leH _ _ _ (ndWr (eventsL (L.take (i + 1)) (n.maced m')) q2 [evRow L cap] 0) from ?_) ?_
            · rw [hN1, hE]
              repeat' (first | exact leT_empty | exact trivial | exact rfl | exact .inl rfl | exact .inr rfl | exact Nat.le_refl _ | exact Nat.zero_le _ | exact fun _ _ => rfl | exact fun j _ => (evF_ren _ _ _).symm | assumption | refine And.intro ?_ ?_)
            · repeat' (first | exact leT_empty | exact trivial | exact rfl | exact .inl rfl | exact .inr rfl | exact Nat.le_refl _ | exact Nat.zero_le _ | exact fun _ _ => rfl | exact fun j _ => (evF_ren _ _ _).symm | assumption | refine And.intro ?_ ?_)
      by_cases hk1 : e.kind = 1
      · clear hk6
        have hk6 : e.kind ≠ 6 := by omega
        refine wB ?_
        all_goals (try with_reducible refine And.intro ?_ ?_)
        all_goals
          refine wB ?_
          refine nd_bt (n := b) (x := q) (rest := _) hbo.1.mo (by have := hbo.1.is.size.2.1; omega) hfe ?_
          cases hok : btOk b.m e.f
          · repeat(refine wA ?_;(conv=>whnf);first|rw [hok])
            refine wB ?_
            refine nd_fnd (n := b) (x := q) (rest := _) hbo.1.mo ?_
            by_cases hfd : 0 ≤ findM b.m e.f
            · obtain ⟨k, hk, hkG⟩ := nfind_lt hfd
              have hk12 : k < 12 := by have := hbo.1.is.size.2.2.1; omega
              have hE : b.event e = b.message k e := by rw [← hk]; unfold Nd.event; rw [if_neg hk6, if_neg (fun c => by rw [hok] at c; cases c.2), if_pos (.inr (.inl hk1))]; rw [if_pos hfd]
              rw [hk]
              refine wB ?_
              refine nd_msg (n := b) (x := q) (k := k) (e := e) (rest := _) hbo.1 hbo.2 hk12 hq (fun q2 hq2 => ?_)
              rw [show msgW b e = 2 by unfold msgW; rw [if_neg (by omega), if_pos hk1]]
              refine wB ?_
              refine ⟨(i + 1, q2, 2), hnx _ q2 2 hE hq2 (fun _ => hlast (.inl hk1)), ?_⟩
              conv => whnf
              refine Le.nm [0, 1, 2, 3, 4, 5, 6, 7, 8, 9, 10, 11, 12, 13, 14, 17] rfl (show leH _ _ _ (ndWr (eventsL (L.take (i + 1)) (n.maced m')) q2 [evRow L cap] 2) from ?_) ?_
              · rw [hN1, hE]
                repeat' (first | exact leT_empty | exact trivial | exact rfl | exact .inl rfl | exact .inr rfl | exact Nat.le_refl _ | exact Nat.zero_le _ | exact fun _ _ => rfl | exact fun j _ => (evF_ren _ _ _).symm | assumption | refine And.intro ?_ ?_)
              · repeat' (first | exact leT_empty | exact trivial | exact rfl | exact .inl rfl | exact .inr rfl | exact Nat.le_refl _ | exact Nat.zero_le _ | exact fun _ _ => rfl | exact fun j _ => (evF_ren _ _ _).symm | assumption | refine And.intro ?_ ?_)
            · have hE : b.event e = b := by unfold Nd.event; rw [if_neg hk6, if_neg (fun c => by rw [hok] at c; cases c.2), if_pos (.inr (.inl hk1))]; rw [if_neg hfd]
              refine wB ?_
              refine ⟨(i + 1, q, 0), hnx _ q 0 hE hq (fun c => absurd rfl c), ?_⟩
              conv => whnf
              refine Le.nm [0, 1, 2, 3, 4, 5, 6, 7, 8, 9, 10, 11, 12, 13, 14] rfl (show leH _ _ _ (ndWr (eventsL (L.take (i + 1)) (n.maced m')) q [evRow L cap] 0) from ?_) ?_
              · rw [hN1, hE]
                repeat' (first | exact leT_empty | exact trivial | exact rfl | exact .inl rfl | exact .inr rfl | exact Nat.le_refl _ | exact Nat.zero_le _ | exact fun _ _ => rfl | exact fun j _ => (evF_ren _ _ _).symm | assumption | refine And.intro ?_ ?_)
              · repeat' (first | exact leT_empty | exact trivial | exact rfl | exact .inl rfl | exact .inr rfl | exact Nat.le_refl _ | exact Nat.zero_le _ | exact fun _ _ => rfl | exact fun j _ => (evF_ren _ _ _).symm | assumption | refine And.intro ?_ ?_)
          · have hE : b.event e = b.beat (btR b.m e.f) (decide ((e.kind : Int) = 1)) := by unfold Nd.event; rw [if_neg hk6, if_pos ⟨.inr hk1, hok⟩]; exact congrArg _ (decide_eq_decide.2 (by omega))
            repeat(refine wA ?_;(conv=>whnf);first|rw [hok])
            refine wB ?_
            refine AskC.nd (b, btR b.m e.f, decide ((e.kind : Int) = 1)) q _ ⟨hbo.1, (bt_in hbo.1.mo hfe).1⟩ hq rfl (beat_m _ _ _) (fun q2 hq2 => ?_)
            refine wB ?_
            refine ⟨(i + 1, q2, 0), hnx _ q2 0 hE hq2 (fun c => absurd rfl c), ?_⟩
            conv => whnf
            refine Le.nm [0, 1, 2, 3, 4, 5, 6, 7, 8, 9, 10, 11, 12, 13, 14] rfl (show leH _ _ _ (ndWr (eventsL (L.take (i + 1)) (n.maced m')) q2 [evRow L cap] 0) from ?_) ?_
            · rw [hN1, hE]
              repeat' (first | exact leT_empty | exact trivial | exact rfl | exact .inl rfl | exact .inr rfl | exact Nat.le_refl _ | exact Nat.zero_le _ | exact fun _ _ => rfl | exact fun j _ => (evF_ren _ _ _).symm | assumption | refine And.intro ?_ ?_)
            · repeat' (first | exact leT_empty | exact trivial | exact rfl | exact .inl rfl | exact .inr rfl | exact Nat.le_refl _ | exact Nat.zero_le _ | exact fun _ _ => rfl | exact fun j _ => (evF_ren _ _ _).symm | assumption | refine And.intro ?_ ?_)
      by_cases hk4 : e.kind = 4
      · refine wB ?_
        refine nd_fnd (n := b) (x := q) (rest := _) hbo.1.mo ?_
        by_cases hfd : 0 ≤ findM b.m e.f
        · obtain ⟨k, hk, hkG⟩ := nfind_lt hfd
          have hk12 : k < 12 := by have := hbo.1.is.size.2.2.1; omega
          have hE : b.event e = b.message k e := by rw [← hk]; unfold Nd.event; rw [if_neg hk6, if_neg (fun c => by rcases c.1 with c | c <;> omega), if_pos (.inr (.inr (.inl hk4)))]; rw [if_pos hfd]
          rw [hk]
          refine wB ?_
          refine nd_msg (n := b) (x := q) (k := k) (e := e) (rest := _) hbo.1 hbo.2 hk12 hq (fun q2 hq2 => ?_)
          rw [show msgW b e = 0 by unfold msgW; rw [if_neg (by omega), if_neg (by omega)]]
          refine wB ?_
          refine ⟨(i + 1, q2, 0), hnx _ q2 0 hE hq2 (fun c => absurd rfl c), ?_⟩
          conv => whnf
          refine Le.nm [0, 1, 2, 3, 4, 5, 6, 7, 8, 9, 10, 11, 12, 13, 14] rfl (show leH _ _ _ (ndWr (eventsL (L.take (i + 1)) (n.maced m')) q2 [evRow L cap] 0) from ?_) ?_
          · rw [hN1, hE]
            repeat' (first | exact leT_empty | exact trivial | exact rfl | exact .inl rfl | exact .inr rfl | exact Nat.le_refl _ | exact Nat.zero_le _ | exact fun _ _ => rfl | exact fun j _ => (evF_ren _ _ _).symm | assumption | refine And.intro ?_ ?_)
          · repeat' (first | exact leT_empty | exact trivial | exact rfl | exact .inl rfl | exact .inr rfl | exact Nat.le_refl _ | exact Nat.zero_le _ | exact fun _ _ => rfl | exact fun j _ => (evF_ren _ _ _).symm | assumption | refine And.intro ?_ ?_)
        · have hE : b.event e = b := by unfold Nd.event; rw [if_neg hk6, if_neg (fun c => by rcases c.1 with c | c <;> omega), if_pos (.inr (.inr (.inl hk4)))]; rw [if_neg hfd]
          refine wB ?_
          refine ⟨(i + 1, q, 0), hnx _ q 0 hE hq (fun c => absurd rfl c), ?_⟩
          conv => whnf
          refine Le.nm [0, 1, 2, 3, 4, 5, 6, 7, 8, 9, 10, 11, 12, 13, 14] rfl (show leH _ _ _ (ndWr (eventsL (L.take (i + 1)) (n.maced m')) q [evRow L cap] 0) from ?_) ?_
          · rw [hN1, hE]
            repeat' (first | exact leT_empty | exact trivial | exact rfl | exact .inl rfl | exact .inr rfl | exact Nat.le_refl _ | exact Nat.zero_le _ | exact fun _ _ => rfl | exact fun j _ => (evF_ren _ _ _).symm | assumption | refine And.intro ?_ ?_)
          · repeat' (first | exact leT_empty | exact trivial | exact rfl | exact .inl rfl | exact .inr rfl | exact Nat.le_refl _ | exact Nat.zero_le _ | exact fun _ _ => rfl | exact fun j _ => (evF_ren _ _ _).symm | assumption | refine And.intro ?_ ?_)
      by_cases hk3 : e.kind = 3
      · refine wB ?_
        refine nd_fnd (n := b) (x := q) (rest := _) hbo.1.mo ?_
        by_cases hfd : 0 ≤ findM b.m e.f
        · obtain ⟨k, hk, hkG⟩ := nfind_lt hfd
          have hk12 : k < 12 := by have := hbo.1.is.size.2.2.1; omega
          have hE : b.event e = b.message k e := by rw [← hk]; unfold Nd.event; rw [if_neg hk6, if_neg (fun c => by rcases c.1 with c | c <;> omega), if_pos (.inr (.inr (.inr hk3)))]; rw [if_pos hfd]
          rw [hk]
          refine wB ?_
          refine nd_msg (n := b) (x := q) (k := k) (e := e) (rest := _) hbo.1 hbo.2 hk12 hq (fun q2 hq2 => ?_)
          rw [show msgW b e = 0 by unfold msgW; rw [if_neg (by omega), if_neg (by omega)]]
          refine wB ?_
          refine ⟨(i + 1, q2, 0), hnx _ q2 0 hE hq2 (fun c => absurd rfl c), ?_⟩
          conv => whnf
          refine Le.nm [0, 1, 2, 3, 4, 5, 6, 7, 8, 9, 10, 11, 12, 13, 14] rfl (show leH _ _ _ (ndWr (eventsL (L.take (i + 1)) (n.maced m')) q2 [evRow L cap] 0) from ?_) ?_
          · rw [hN1, hE]
            repeat' (first | exact leT_empty | exact trivial | exact rfl | exact .inl rfl | exact .inr rfl | exact Nat.le_refl _ | exact Nat.zero_le _ | exact fun _ _ => rfl | exact fun j _ => (evF_ren _ _ _).symm | assumption | refine And.intro ?_ ?_)
          · repeat' (first | exact leT_empty | exact trivial | exact rfl | exact .inl rfl | exact .inr rfl | exact Nat.le_refl _ | exact Nat.zero_le _ | exact fun _ _ => rfl | exact fun j _ => (evF_ren _ _ _).symm | assumption | refine And.intro ?_ ?_)
        · have hE : b.event e = b := by unfold Nd.event; rw [if_neg hk6, if_neg (fun c => by rcases c.1 with c | c <;> omega), if_pos (.inr (.inr (.inr hk3)))]; rw [if_neg hfd]
          refine wB ?_
          refine ⟨(i + 1, q, 0), hnx _ q 0 hE hq (fun c => absurd rfl c), ?_⟩
          conv => whnf
          refine Le.nm [0, 1, 2, 3, 4, 5, 6, 7, 8, 9, 10, 11, 12, 13, 14] rfl (show leH _ _ _ (ndWr (eventsL (L.take (i + 1)) (n.maced m')) q [evRow L cap] 0) from ?_) ?_
          · rw [hN1, hE]
            repeat' (first | exact leT_empty | exact trivial | exact rfl | exact .inl rfl | exact .inr rfl | exact Nat.le_refl _ | exact Nat.zero_le _ | exact fun _ _ => rfl | exact fun j _ => (evF_ren _ _ _).symm | assumption | refine And.intro ?_ ?_)
          · repeat' (first | exact leT_empty | exact trivial | exact rfl | exact .inl rfl | exact .inr rfl | exact Nat.le_refl _ | exact Nat.zero_le _ | exact fun _ _ => rfl | exact fun j _ => (evF_ren _ _ _).symm | assumption | refine And.intro ?_ ?_)
      have hE : b.event e = b := by unfold Nd.event; rw [if_neg hk6, if_neg (fun c => by rcases c.1 with c | c <;> omega), if_neg (fun c => by rcases c with c | c | c | c <;> omega)]
      refine wB ?_
      refine ⟨(i + 1, q, 0), hnx _ q 0 hE hq (fun c => absurd rfl c), ?_⟩
      conv => whnf
      refine Le.nm [0, 1, 2, 3, 4, 5, 6, 7, 8, 9, 10, 11, 12, 13, 14] rfl (show leH _ _ _ (ndWr (eventsL (L.take (i + 1)) (n.maced m')) q [evRow L cap] 0) from ?_) ?_
      · rw [hN1, hE]
        repeat' (first | exact leT_empty | exact trivial | exact rfl | exact .inl rfl | exact .inr rfl | exact Nat.le_refl _ | exact Nat.zero_le _ | exact fun _ _ => rfl | exact fun j _ => (evF_ren _ _ _).symm | assumption | refine And.intro ?_ ?_)
      · repeat' (first | exact leT_empty | exact trivial | exact rfl | exact .inl rfl | exact .inr rfl | exact Nat.le_refl _ | exact Nat.zero_le _ | exact fun _ _ => rfl | exact fun j _ => (evF_ren _ _ _).symm | assumption | refine And.intro ?_ ?_)
    · obtain rfl : i = L.length := by omega
      rw [List.take_length] at hq hbo ⊢
      rw [hn] at hq hbo ⊢
      refine wB ?_
      rcases w with _ | _ | w
      · exact ⟨⟨uR, ndH n' q [], ⟨⟨ndL, rfl, nd_le n' q [evRow L cap], rfl⟩⟩, (q, 0), hq, rfl, rfl⟩⟩
      · refine ⟨⟨uR, ndW n' q 1, ?_, (q, 1), hq, rfl, rfl⟩⟩
        refine Le.nm [0, 1, 2, 3, 4, 5, 6, 7, 8, 9, 10, 11, 12, 13, 15] rfl ?_ ?_
        · exact wH
        · exact wH
      · refine ⟨⟨uR, ndW n' q (w + 2), ?_, (q, w + 2), hq, rfl, rfl⟩⟩
        refine Le.nm [0, 1, 2, 3, 4, 5, 6, 7, 8, 9, 10, 11, 12, 13, 15] rfl ?_ ?_
        · exact wH
        · exact wH
def SmpIn (n : Nd) (v : Int) : Prop:=n.Ok ∧ RowsOk n ∧ MacIn n.mac (!decide (v = 48)) ∧ (0 ≤ v ∧ v ≤ 255) ∧ EvsOk (n.mac.sample (!decide (v = 48))).2
abbrev nsampC : Con ((Nd × Int) × NdX):=FamCon (β:=NdX × Nat) (fun p=>[pR 0,iv .u8 p.1.2]) (fun p=>ndH p.1.1 p.2 []) (fun p=>SmpIn p.1.1 p.1.2 ∧ XOk p.1.1 p.2) (fun p q=>XOk (p.1.1.sample (!decide (p.1.2 = 48))) q.1) (fun _ _=>uR) fun p q=>ndW (p.1.1.sample (!decide (p.1.2 = 48))) q.1 q.2
theorem nsamp_ok : ConOk Tryz.prog F.node_Node_Sample nsampC:=con_of_run (clRunX_ok (d:=7) ttOk outsSa_ok tabSa_ok 3) (fn_enters (ok.node_Node_Sample (D:=7) u0 _ (clRunX_ok (d:=7) ttOk .nil TabOk.nil 1))) fun p hp=>nsamp_run p.1.1 p.2 p.1.2 hp.1.1 hp.1.2.1 hp.1.2.2.1 hp.1.2.2.2.1 hp.2 hp.1.2.2.2.2 _ rfl
end Go.Proofs.YtlckbdhpehkeoaaGreat.Co
