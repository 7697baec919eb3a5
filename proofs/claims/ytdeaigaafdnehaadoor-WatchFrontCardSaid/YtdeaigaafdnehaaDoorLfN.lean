/- WatchFront: the walk. -/
import Derived.Test.YtdeaigaafdnehaaDoorLfJ
import Derived.Test.YtdeaigaafdnehaaDoorEnM
namespace Go.Pu
theorem rd_app (a b : ByteArray) : rd (a ++ b) = rd a ++ rd b := by
  unfold rd
  rw [show (a ++ b).data.toList = a.data.toList ++ b.data.toList by simp [ByteArray.data_append], List.map_append]
theorem gs_map {O : List Sn} {d q : Nat} (h : q < O.length) : gs (O.map (Sn.later d)) q = (gs O q).later d := by
  unfold gs
  rw [List.getD_eq_getElem?_getD, List.getD_eq_getElem?_getD, List.getElem?_map, List.getElem?_eq_getElem h]; rfl
theorem gs_pre {O P : List Sn} (h : O <+: P) {q : Nat} (hq : q < O.length) : gs P q = gs O q := by
  obtain ⟨t, rfl⟩ := h
  unfold gs
  rw [List.getD_eq_getElem?_getD, List.getD_eq_getElem?_getD, List.getElem?_append_left hq]
theorem frG_at {l : List Bool} {n : Nat} {o : List Sn} (h : FrG l n o) : ∀ x ∈ o, x.at_ ≤ n + l.length := by
  induction h with
  | done a => exact fun x hx => by cases hx
  | @one l a o _ ih => exact fun x hx => by have := ih x hx; rw [List.length_cons]; omega
  | @ok l a n f o h1 _ ih =>
    intro x hx
    obtain ⟨q1, _, _⟩ := dec_len h1
    rcases List.mem_cons.1 hx with rfl | hx
    · exact Nat.le_add_right _ _
    · have := ih x hx
      rw [List.length_drop] at this
      omega
  | short => exact fun x hx => by cases hx
  | last => exact fun x hx => by rw [List.mem_singleton.1 hx]; exact Nat.le_add_right _ _
  | @next l a n e i f o h1 h2 h3 h4 _ ih =>
    intro x hx
    obtain ⟨_, q2, _⟩ := dec_len h1
    have q2 := q2 h3 h2
    have q3 := idx11_le _ (by rw [h4]; omega)
    rw [h4, List.length_drop] at q3
    rcases List.mem_cons.1 hx with rfl | hx
    · exact Nat.le_add_right _ _
    · have := ih x hx
      rw [List.length_drop] at this
      omega
theorem frG_len {l : List Bool} {n : Nat} {o : List Sn} (h : FrG l n o) : o.length ≤ l.length := by
  induction h with
  | done a => exact Nat.le_refl _
  | one _ ih => exact Nat.le_succ_of_le ih
  | @ok l a n f o h1 _ ih =>
    obtain ⟨q1, _, q3⟩ := dec_len h1
    have := q3 rfl
    rw [List.length_drop] at ih
    simp only [List.length_cons] at *
    omega
  | short => exact Nat.zero_le _
  | @last l => show 1 ≤ l.length + 1; omega
  | @next l a n e i f o h1 h2 h3 h4 _ ih =>
    obtain ⟨_, q2, _⟩ := dec_len h1
    have q2 := q2 h3 h2
    rw [List.length_drop] at ih
    simp only [List.length_cons] at *
    omega
theorem gs_mem {O : List Sn} {q : Nat} (h : q < O.length) : gs O q ∈ O := by
  unfold gs
  rw [List.getD_eq_getElem?_getD, List.getElem?_eq_getElem h]
  exact List.getElem_mem h
end Go.Pu
namespace Go.Proofs.YtdeaigaafdnehaaDoor.La
open Go Go.Eng Go.Proofs Go.Proofs.YtdeaigaafdnehaaDoor.Tb Go.Proofs.YtdeaigaafdnehaaDoor.Co Go.Pu
set_option maxRecDepth 100000
set_option maxHeartbeats 16000000
abbrev outsF26 : List (FuncId × Cx) := [(F.law26_known, AskC trueC), (F.watch_Frames, AskC frgC)]
theorem outsF26_ok : OutsOk Tryd.prog outsF26 := .cons (ask_ok known26_ok) (.cons (ask_ok frg_ok) .nil)
noncomputable abbrev tabF26 : List (FuncId × Eng.Fn) := [(F.law26_WatchFront, fn.law26_WatchFront u0)]
theorem tabF26_ok {d : Nat} : TabOk d tabF26 tt := .cons (ok.law26_WatchFront u0) (TabOk.nil)
theorem front26_run (s : ByteArray) (a c : Nat) (m : Int) (hs : s.size ≤ 9223372036854775807) (ha : a < 256) (hc : c < 65536) :
    clRunX 7 tt outsF26 tabF26 2 F.law26_WatchFront [] [sv s, iv .u8 a, iv .u16 c] [glE m] (fun x _ => x = bv true) := by
  repeat((conv=>whnf);first|((with_reducible refine qS ?_ ?_ ?_);exact rfl;exact rfl)|with_reducible refine qB ?_|((with_reducible refine qI ?_ ?_);omega)|((with_reducible refine qDT ?_ ?_);omega)|((with_reducible refine qDF ?_ ?_);omega)|((with_reducible refine qNT ?_ ?_);omega)|((with_reducible refine qNF ?_ ?_);omega)|((with_reducible refine qU8 ?_ ?_);omega)|((with_reducible refine qU32 ?_ ?_);omega)|((with_reducible refine qU64 ?_ ?_);omega)|((with_reducible refine qU16 ?_ ?_);omega))
  conv => whnf
  refine true_use ?_
  repeat((conv=>whnf);first|((with_reducible refine qS ?_ ?_ ?_);exact rfl;exact rfl)|with_reducible refine qB ?_|((with_reducible refine qI ?_ ?_);omega)|((with_reducible refine qDT ?_ ?_);omega)|((with_reducible refine qDF ?_ ?_);omega)|((with_reducible refine qNT ?_ ?_);omega)|((with_reducible refine qNF ?_ ?_);omega)|((with_reducible refine qU8 ?_ ?_);omega)|((with_reducible refine qU32 ?_ ?_);omega)|((with_reducible refine qU64 ?_ ?_);omega)|((with_reducible refine qU16 ?_ ?_);omega))
  conv => whnf
  by_cases g1 : 1000 < s.size
  · repeat((conv=>whnf);first|((with_reducible refine qS ?_ ?_ ?_);exact rfl;exact rfl)|with_reducible refine qB ?_|((with_reducible refine qI ?_ ?_);omega)|((with_reducible refine qDT ?_ ?_);omega)|((with_reducible refine qDF ?_ ?_);omega)|((with_reducible refine qNT ?_ ?_);omega)|((with_reducible refine qNF ?_ ?_);omega)|((with_reducible refine qU8 ?_ ?_);omega)|((with_reducible refine qU32 ?_ ?_);omega)|((with_reducible refine qU64 ?_ ?_);omega)|((with_reducible refine qU16 ?_ ?_);omega))
    conv => whnf
    exact rfl
  repeat((conv=>whnf);first|((with_reducible refine qS ?_ ?_ ?_);exact rfl;exact rfl)|with_reducible refine qB ?_|((with_reducible refine qI ?_ ?_);omega)|((with_reducible refine qDT ?_ ?_);omega)|((with_reducible refine qDF ?_ ?_);omega)|((with_reducible refine qNT ?_ ?_);omega)|((with_reducible refine qNF ?_ ?_);omega)|((with_reducible refine qU8 ?_ ?_);omega)|((with_reducible refine qU32 ?_ ?_);omega)|((with_reducible refine qU64 ?_ ?_);omega)|((with_reducible refine qU16 ?_ ?_);omega))
  conv => whnf
  refine .rd (fun p : Nat × ByteArray => p.1 ≤ a ∧ p.2 = bs (List.replicate p.1 true)) (fun p => [(7, sv p.2), (8, iv .i64 p.1)]) (fun p => a - p.1) (0, ⟨#[]⟩) ⟨Nat.zero_le _, rfl⟩ ?_ (fun p ⟨hj, ht⟩ => ?_)
  · conv => whnf
    refine Le.id rfl ?_ ?_
    all_goals(repeat'(first|exact leT_empty|exact trivial|exact rfl|exact .inl rfl|exact .inr rfl|exact .inr ⟨rfl,rfl⟩|exact Nat.le_refl _|exact Nat.zero_le _|exact fun _ _=>rfl|assumption|refine And.intro ?_ ?_|exact ul0|exact ul1 rfl|exact ul2 rfl rfl|exact ul3 rfl rfl rfl))
  generalize p.1 = j at *
  generalize p.2 = t at *
  have hts : t.size = j := by rw [ht, bs_size, List.length_replicate]
  repeat((conv=>whnf);first|((with_reducible refine qS ?_ ?_ ?_);exact rfl;exact rfl)|with_reducible refine qB ?_|((with_reducible refine qI ?_ ?_);omega)|((with_reducible refine qDT ?_ ?_);omega)|((with_reducible refine qDF ?_ ?_);omega)|((with_reducible refine qNT ?_ ?_);omega)|((with_reducible refine qNF ?_ ?_);omega)|((with_reducible refine qU8 ?_ ?_);omega)|((with_reducible refine qU32 ?_ ?_);omega)|((with_reducible refine qU64 ?_ ?_);omega)|((with_reducible refine qU16 ?_ ?_);omega))
  conv => whnf
  refine cD (fun h7 => ?_) (fun h7 => ?_)
  · repeat((conv=>whnf);first|((with_reducible refine qS ?_ ?_ ?_);exact rfl;exact rfl)|with_reducible refine qB ?_|((with_reducible refine qI ?_ ?_);omega)|((with_reducible refine qDT ?_ ?_);omega)|((with_reducible refine qDF ?_ ?_);omega)|((with_reducible refine qNT ?_ ?_);omega)|((with_reducible refine qNF ?_ ?_);omega)|((with_reducible refine qU8 ?_ ?_);omega)|((with_reducible refine qU32 ?_ ?_);omega)|((with_reducible refine qU64 ?_ ?_);omega)|((with_reducible refine qU16 ?_ ?_);omega))
    conv => whnf
    refine cDT (by show t.size + 1 ≤ _; omega) ?_
    repeat((conv=>whnf);first|((with_reducible refine qS ?_ ?_ ?_);exact rfl;exact rfl)|with_reducible refine qB ?_|((with_reducible refine qI ?_ ?_);omega)|((with_reducible refine qDT ?_ ?_);omega)|((with_reducible refine qDF ?_ ?_);omega)|((with_reducible refine qNT ?_ ?_);omega)|((with_reducible refine qNF ?_ ?_);omega)|((with_reducible refine qU8 ?_ ?_);omega)|((with_reducible refine qU32 ?_ ?_);omega)|((with_reducible refine qU64 ?_ ?_);omega)|((with_reducible refine qU16 ?_ ?_);omega))
    conv => whnf
    refine ⟨(j + 1, t ++ ⟨#[49]⟩), ⟨⟨by show j + 1 ≤ a; omega, by
      have h : List.replicate (j + 1) true = List.replicate j true ++ [true] := List.replicate_succ'
      show t ++ bs [true] = bs (List.replicate (j + 1) true)
      rw [ht, h, ← bs_app]⟩, by show a - (j + 1) < a - j; omega⟩, ?_⟩
    conv => whnf
    refine Le.id rfl ?_ ?_
    all_goals(repeat'(first|exact leT_empty|exact trivial|exact rfl|exact .inl rfl|exact .inr rfl|exact .inr ⟨rfl,rfl⟩|exact Nat.le_refl _|exact Nat.zero_le _|exact fun _ _=>rfl|assumption|refine And.intro ?_ ?_|exact ul0|exact ul1 rfl|exact ul2 rfl rfl|exact ul3 rfl rfl rfl))
  obtain rfl : j = a := by omega
  obtain ⟨W, hW⟩ := frG_ex (rd s) 0
  have hW2 : FrG (rd (t ++ s)) 0 (W.map (Sn.later j)) := by
    rw [rd_app, ht, rd_bs]
    exact frG_front j hW
  have hWl := frG_len hW
  rw [rd_len] at hWl
  have hl2 : (W.map (Sn.later j)).length = W.length := List.length_map _
  repeat((conv=>whnf);first|((with_reducible refine qS ?_ ?_ ?_);exact rfl;exact rfl)|with_reducible refine qB ?_|((with_reducible refine qI ?_ ?_);omega)|((with_reducible refine qDT ?_ ?_);omega)|((with_reducible refine qDF ?_ ?_);omega)|((with_reducible refine qNT ?_ ?_);omega)|((with_reducible refine qNF ?_ ?_);omega)|((with_reducible refine qU8 ?_ ?_);omega)|((with_reducible refine qU32 ?_ ?_);omega)|((with_reducible refine qU64 ?_ ?_);omega)|((with_reducible refine qU16 ?_ ?_);omega))
  conv => whnf
  refine frg_ask (m := m) (h := []) (by omega) hW fun c1 hc1 => ?_
  obtain ⟨w, hw⟩ : ∃ w, W.length = w := ⟨_, rfl⟩
  rw [hw] at hc1 hl2 ⊢
  have hts2 : (t ++ s).size ≤ 4000 := by rw [ByteArray.size_append]; omega
  have h3 : ∀ k, k ≤ s.size → ∃ W3, FrG (rd (s.extract 0 k)) 0 W3 ∧ W3 <+: W := fun k hk => by
    obtain ⟨W3, hW3⟩ := frG_ex (rd (s.extract 0 k)) 0
    refine ⟨W3, hW3, frG_less hW3 ((rd s).drop k) ?_⟩
    rw [rd_ext, Nat.sub_zero, List.drop_zero, List.take_append_drop]
    exact hW
  rcases w with _ | w
  · repeat((conv=>whnf);first|((with_reducible refine qS ?_ ?_ ?_);exact rfl;exact rfl)|with_reducible refine qB ?_|((with_reducible refine qI ?_ ?_);omega)|((with_reducible refine qDT ?_ ?_);omega)|((with_reducible refine qDF ?_ ?_);omega)|((with_reducible refine qNT ?_ ?_);omega)|((with_reducible refine qNF ?_ ?_);omega)|((with_reducible refine qU8 ?_ ?_);omega)|((with_reducible refine qU32 ?_ ?_);omega)|((with_reducible refine qU64 ?_ ?_);omega)|((with_reducible refine qU16 ?_ ?_);omega))
    conv => whnf
    refine frg_ask (m := m) (h := []) hts2 hW2 fun c2 hc2 => ?_
    rw [hl2] at hc2 ⊢
    repeat((conv=>whnf);first|((with_reducible refine qS ?_ ?_ ?_);exact rfl;exact rfl)|with_reducible refine qB ?_|((with_reducible refine qI ?_ ?_);omega)|((with_reducible refine qDT ?_ ?_);omega)|((with_reducible refine qDF ?_ ?_);omega)|((with_reducible refine qNT ?_ ?_);omega)|((with_reducible refine qNF ?_ ?_);omega)|((with_reducible refine qU8 ?_ ?_);omega)|((with_reducible refine qU32 ?_ ?_);omega)|((with_reducible refine qU64 ?_ ?_);omega)|((with_reducible refine qU16 ?_ ?_);omega))
    conv => whnf
    refine .rd (fun i : Nat => i = 0) (fun i => [(11, iv .i64 i)]) (fun _ => 0) 0 rfl ?_ (fun i hi => ?_)
    · conv => whnf
      refine Le.id rfl ?_ ?_
      all_goals(repeat'(first|exact leT_empty|exact trivial|exact rfl|exact .inl rfl|exact .inr rfl|exact .inr ⟨rfl,rfl⟩|exact Nat.le_refl _|exact Nat.zero_le _|exact fun _ _=>rfl|assumption|refine And.intro ?_ ?_|exact ul0|exact ul1 rfl|exact ul2 rfl rfl|exact ul3 rfl rfl rfl))
    subst hi
    conv => whnf
    repeat((conv=>whnf);first|((with_reducible refine qS ?_ ?_ ?_);exact rfl;exact rfl)|with_reducible refine qB ?_|((with_reducible refine qI ?_ ?_);omega)|((with_reducible refine qDT ?_ ?_);omega)|((with_reducible refine qDF ?_ ?_);omega)|((with_reducible refine qNT ?_ ?_);omega)|((with_reducible refine qNF ?_ ?_);omega)|((with_reducible refine qU8 ?_ ?_);omega)|((with_reducible refine qU32 ?_ ?_);omega)|((with_reducible refine qU64 ?_ ?_);omega)|((with_reducible refine qU16 ?_ ?_);omega))
    conv => whnf
    by_cases h0 : s.size = 0
    · obtain ⟨W3, hW3, hP⟩ := h3 0 (Nat.zero_le _)
      have hw3 : W3.length = 0 := Nat.le_zero.1 (hw ▸ hP.length_le)
      repeat((conv=>whnf);first|((with_reducible refine qS ?_ ?_ ?_);exact rfl;exact rfl)|with_reducible refine qB ?_|((with_reducible refine qI ?_ ?_);omega)|((with_reducible refine qDT ?_ ?_);omega)|((with_reducible refine qDF ?_ ?_);omega)|((with_reducible refine qNT ?_ ?_);omega)|((with_reducible refine qNF ?_ ?_);omega)|((with_reducible refine qU8 ?_ ?_);omega)|((with_reducible refine qU32 ?_ ?_);omega)|((with_reducible refine qU64 ?_ ?_);omega)|((with_reducible refine qU16 ?_ ?_);omega))
      conv => whnf
      refine frg_ask (m := m) (h := []) (s := s.extract 0 0) (by rw [ByteArray.size_extract]; omega) hW3 fun c3 hc3 => ?_
      rw [hw3] at hc3 ⊢
      repeat((conv=>whnf);first|((with_reducible refine qS ?_ ?_ ?_);exact rfl;exact rfl)|with_reducible refine qB ?_|((with_reducible refine qI ?_ ?_);omega)|((with_reducible refine qDT ?_ ?_);omega)|((with_reducible refine qDF ?_ ?_);omega)|((with_reducible refine qNT ?_ ?_);omega)|((with_reducible refine qNF ?_ ?_);omega)|((with_reducible refine qU8 ?_ ?_);omega)|((with_reducible refine qU32 ?_ ?_);omega)|((with_reducible refine qU64 ?_ ?_);omega)|((with_reducible refine qU16 ?_ ?_);omega))
      conv => whnf
      refine .rd (fun i : Nat => i = 0) (fun i => [(15, iv .i64 i)]) (fun _ => 0) 0 rfl ?_ (fun i hi => ?_)
      · conv => whnf
        refine Le.id rfl ?_ ?_
        all_goals(repeat'(first|exact leT_empty|exact trivial|exact rfl|exact .inl rfl|exact .inr rfl|exact .inr ⟨rfl,rfl⟩|exact Nat.le_refl _|exact Nat.zero_le _|exact fun _ _=>rfl|assumption|refine And.intro ?_ ?_|exact ul0|exact ul1 rfl|exact ul2 rfl rfl|exact ul3 rfl rfl rfl))
      subst hi
      conv => whnf
      repeat((conv=>whnf);first|((with_reducible refine qS ?_ ?_ ?_);exact rfl;exact rfl)|with_reducible refine qB ?_|((with_reducible refine qI ?_ ?_);omega)|((with_reducible refine qDT ?_ ?_);omega)|((with_reducible refine qDF ?_ ?_);omega)|((with_reducible refine qNT ?_ ?_);omega)|((with_reducible refine qNF ?_ ?_);omega)|((with_reducible refine qU8 ?_ ?_);omega)|((with_reducible refine qU32 ?_ ?_);omega)|((with_reducible refine qU64 ?_ ?_);omega)|((with_reducible refine qU16 ?_ ?_);omega))
      conv => whnf
      exact rfl
    · obtain ⟨W3, hW3, hP⟩ := h3 (c % s.size) (Nat.le_of_lt (Nat.mod_lt _ (by omega)))
      have hw3 : W3.length = 0 := Nat.le_zero.1 (hw ▸ hP.length_le)
      have hmod : c % s.size < s.size := Nat.mod_lt _ (by omega)
      repeat((conv=>whnf);first|((with_reducible refine qS ?_ ?_ ?_);exact rfl;exact rfl)|with_reducible refine qB ?_|((with_reducible refine qI ?_ ?_);omega)|((with_reducible refine qDT ?_ ?_);omega)|((with_reducible refine qDF ?_ ?_);omega)|((with_reducible refine qNT ?_ ?_);omega)|((with_reducible refine qNF ?_ ?_);omega)|((with_reducible refine qU8 ?_ ?_);omega)|((with_reducible refine qU32 ?_ ?_);omega)|((with_reducible refine qU64 ?_ ?_);omega)|((with_reducible refine qU16 ?_ ?_);omega))
      conv => whnf
      rw [show ((c : Int)).tmod (s.size : Int) = ((c % s.size : Nat) : Int) from rfl]
      repeat((conv=>whnf);first|((with_reducible refine qS ?_ ?_ ?_);exact rfl;exact rfl)|with_reducible refine qB ?_|((with_reducible refine qI ?_ ?_);omega)|((with_reducible refine qDT ?_ ?_);omega)|((with_reducible refine qDF ?_ ?_);omega)|((with_reducible refine qNT ?_ ?_);omega)|((with_reducible refine qNF ?_ ?_);omega)|((with_reducible refine qU8 ?_ ?_);omega)|((with_reducible refine qU32 ?_ ?_);omega)|((with_reducible refine qU64 ?_ ?_);omega)|((with_reducible refine qU16 ?_ ?_);omega))
      conv => whnf
      refine frg_ask (m := m) (h := []) (s := s.extract 0 (c % s.size)) (by rw [ByteArray.size_extract]; omega) hW3 fun c3 hc3 => ?_
      rw [hw3] at hc3 ⊢
      repeat((conv=>whnf);first|((with_reducible refine qS ?_ ?_ ?_);exact rfl;exact rfl)|with_reducible refine qB ?_|((with_reducible refine qI ?_ ?_);omega)|((with_reducible refine qDT ?_ ?_);omega)|((with_reducible refine qDF ?_ ?_);omega)|((with_reducible refine qNT ?_ ?_);omega)|((with_reducible refine qNF ?_ ?_);omega)|((with_reducible refine qU8 ?_ ?_);omega)|((with_reducible refine qU32 ?_ ?_);omega)|((with_reducible refine qU64 ?_ ?_);omega)|((with_reducible refine qU16 ?_ ?_);omega))
      conv => whnf
      refine .rd (fun i : Nat => i = 0) (fun i => [(15, iv .i64 i)]) (fun _ => 0) 0 rfl ?_ (fun i hi => ?_)
      · conv => whnf
        refine Le.id rfl ?_ ?_
        all_goals(repeat'(first|exact leT_empty|exact trivial|exact rfl|exact .inl rfl|exact .inr rfl|exact .inr ⟨rfl,rfl⟩|exact Nat.le_refl _|exact Nat.zero_le _|exact fun _ _=>rfl|assumption|refine And.intro ?_ ?_|exact ul0|exact ul1 rfl|exact ul2 rfl rfl|exact ul3 rfl rfl rfl))
      subst hi
      conv => whnf
      repeat((conv=>whnf);first|((with_reducible refine qS ?_ ?_ ?_);exact rfl;exact rfl)|with_reducible refine qB ?_|((with_reducible refine qI ?_ ?_);omega)|((with_reducible refine qDT ?_ ?_);omega)|((with_reducible refine qDF ?_ ?_);omega)|((with_reducible refine qNT ?_ ?_);omega)|((with_reducible refine qNF ?_ ?_);omega)|((with_reducible refine qU8 ?_ ?_);omega)|((with_reducible refine qU32 ?_ ?_);omega)|((with_reducible refine qU64 ?_ ?_);omega)|((with_reducible refine qU16 ?_ ?_);omega))
      conv => whnf
      exact rfl
  · repeat((conv=>whnf);first|((with_reducible refine qS ?_ ?_ ?_);exact rfl;exact rfl)|with_reducible refine qB ?_|((with_reducible refine qI ?_ ?_);omega)|((with_reducible refine qDT ?_ ?_);omega)|((with_reducible refine qDF ?_ ?_);omega)|((with_reducible refine qNT ?_ ?_);omega)|((with_reducible refine qNF ?_ ?_);omega)|((with_reducible refine qU8 ?_ ?_);omega)|((with_reducible refine qU32 ?_ ?_);omega)|((with_reducible refine qU64 ?_ ?_);omega)|((with_reducible refine qU16 ?_ ?_);omega))
    conv => whnf
    refine frg_ask (m := m) (h := [.ob (.row 7 (w + 1) (fun q => snL (gs W q)) c1)]) hts2 hW2 fun c2 hc2 => ?_
    rw [hl2] at hc2 ⊢
    repeat((conv=>whnf);first|((with_reducible refine qS ?_ ?_ ?_);exact rfl;exact rfl)|with_reducible refine qB ?_|((with_reducible refine qI ?_ ?_);omega)|((with_reducible refine qDT ?_ ?_);omega)|((with_reducible refine qDF ?_ ?_);omega)|((with_reducible refine qNT ?_ ?_);omega)|((with_reducible refine qNF ?_ ?_);omega)|((with_reducible refine qU8 ?_ ?_);omega)|((with_reducible refine qU32 ?_ ?_);omega)|((with_reducible refine qU64 ?_ ?_);omega)|((with_reducible refine qU16 ?_ ?_);omega))
    conv => whnf
    refine .rd (fun i : Nat => i ≤ w + 1) (fun i => [(11, iv .i64 i)]) (fun i => w + 1 - i) 0 (Nat.zero_le _) ?_ (fun i hi => ?_)
    · conv => whnf
      refine Le.id rfl ?_ ?_
      all_goals(repeat'(first|exact leT_empty|exact trivial|exact rfl|exact .inl rfl|exact .inr rfl|exact .inr ⟨rfl,rfl⟩|exact Nat.le_refl _|exact Nat.zero_le _|exact fun _ _=>rfl|assumption|refine And.intro ?_ ?_|exact ul0|exact ul1 rfl|exact ul2 rfl rfl|exact ul3 rfl rfl rfl))
    conv => whnf
    refine cD (fun h5 => ?_) (fun h5 => ?_)
    · have hg := gs_map (O := W) (d := j) (q := i) (by omega)
      repeat((conv=>whnf);first|((with_reducible refine qS ?_ ?_ ?_);exact rfl;exact rfl)|with_reducible refine qB ?_|((with_reducible refine qI ?_ ?_);omega)|((with_reducible refine qDT ?_ ?_);omega)|((with_reducible refine qDF ?_ ?_);omega)|((with_reducible refine qNT ?_ ?_);omega)|((with_reducible refine qNF ?_ ?_);omega)|((with_reducible refine qU8 ?_ ?_);omega)|((with_reducible refine qU32 ?_ ?_);omega)|((with_reducible refine qU64 ?_ ?_);omega)|((with_reducible refine qU16 ?_ ?_);omega))
      conv => whnf
      have hat := frG_at hW _ (gs_mem (O := W) (q := i) (by omega))
      rw [rd_len] at hat
      rw [show 0 + ((i : Int)).toNat = i by omega, hg]
      have hgi : ((Sn.later j (gs W i)).at_ : Int) - (j : Int) = ((gs W i).at_ : Int) := by show (((gs W i).at_ + j : Nat) : Int) - (j : Int) = _; omega
      repeat((conv=>whnf);first|((with_reducible refine qS ?_ ?_ ?_);exact rfl;exact rfl)|with_reducible refine qB ?_|((with_reducible refine qI ?_ ?_);omega)|((with_reducible refine qDT ?_ ?_);omega)|((with_reducible refine qDF ?_ ?_);omega)|((with_reducible refine qNT ?_ ?_);omega)|((with_reducible refine qNF ?_ ?_);omega)|((with_reducible refine qU8 ?_ ?_);omega)|((with_reducible refine qU32 ?_ ?_);omega)|((with_reducible refine qU64 ?_ ?_);omega)|((with_reducible refine qU16 ?_ ?_);omega))
      conv => whnf
      rw [hgi]
      repeat((conv=>whnf);first|((with_reducible refine qS ?_ ?_ ?_);exact rfl;exact rfl)|with_reducible refine qB ?_|((with_reducible refine qI ?_ ?_);omega)|((with_reducible refine qDT ?_ ?_);omega)|((with_reducible refine qDF ?_ ?_);omega)|((with_reducible refine qNT ?_ ?_);omega)|((with_reducible refine qNF ?_ ?_);omega)|((with_reducible refine qU8 ?_ ?_);omega)|((with_reducible refine qU32 ?_ ?_);omega)|((with_reducible refine qU64 ?_ ?_);omega)|((with_reducible refine qU16 ?_ ?_);omega))
      conv => whnf
      rw [show 0 + ((i : Int)).toNat = i by omega, show (Sn.later j (gs W i)).n = (gs W i).n from rfl, show (Sn.later j (gs W i)).f = (gs W i).f from rfl, show (Sn.later j (gs W i)).e = (gs W i).e from rfl, snEq, decide_eq_true ⟨rfl, rfl, rfl, rfl, rfl, rfl, rfl⟩]
      repeat((conv=>whnf);first|((with_reducible refine qS ?_ ?_ ?_);exact rfl;exact rfl)|with_reducible refine qB ?_|((with_reducible refine qI ?_ ?_);omega)|((with_reducible refine qDT ?_ ?_);omega)|((with_reducible refine qDF ?_ ?_);omega)|((with_reducible refine qNT ?_ ?_);omega)|((with_reducible refine qNF ?_ ?_);omega)|((with_reducible refine qU8 ?_ ?_);omega)|((with_reducible refine qU32 ?_ ?_);omega)|((with_reducible refine qU64 ?_ ?_);omega)|((with_reducible refine qU16 ?_ ?_);omega))
      conv => whnf
      refine ⟨i + 1, ⟨by omega, by omega⟩, ?_⟩
      conv => whnf
      refine Le.nm [0, 1, 2] rfl ?_ ?_
      · repeat'(first|exact leT_empty|exact trivial|exact rfl|exact .inl rfl|exact .inr rfl|exact .inr ⟨rfl,rfl⟩|exact Nat.le_refl _|exact Nat.zero_le _|exact fun _ _=>rfl|assumption|refine And.intro ?_ ?_|exact ul0|exact ul1 rfl|exact ul2 rfl rfl|exact ul3 rfl rfl rfl)
      · repeat'(first|exact leT_empty|exact trivial|exact rfl|exact .inl rfl|exact .inr rfl|exact .inr ⟨rfl,rfl⟩|exact Nat.le_refl _|exact Nat.zero_le _|exact fun _ _=>rfl|assumption|refine And.intro ?_ ?_|exact ul0|exact ul1 rfl|exact ul2 rfl rfl|exact ul3 rfl rfl rfl)
    have h0 : s.size ≠ 0 := by omega
    · obtain ⟨W3, hW3, hP⟩ := h3 (c % s.size) (Nat.le_of_lt (Nat.mod_lt _ (by omega)))
      have hmod : c % s.size < s.size := Nat.mod_lt _ (by omega)
      repeat((conv=>whnf);first|((with_reducible refine qS ?_ ?_ ?_);exact rfl;exact rfl)|with_reducible refine qB ?_|((with_reducible refine qI ?_ ?_);omega)|((with_reducible refine qDT ?_ ?_);omega)|((with_reducible refine qDF ?_ ?_);omega)|((with_reducible refine qNT ?_ ?_);omega)|((with_reducible refine qNF ?_ ?_);omega)|((with_reducible refine qU8 ?_ ?_);omega)|((with_reducible refine qU32 ?_ ?_);omega)|((with_reducible refine qU64 ?_ ?_);omega)|((with_reducible refine qU16 ?_ ?_);omega))
      conv => whnf
      rw [show ((c : Int)).tmod (s.size : Int) = ((c % s.size : Nat) : Int) from rfl]
      repeat((conv=>whnf);first|((with_reducible refine qS ?_ ?_ ?_);exact rfl;exact rfl)|with_reducible refine qB ?_|((with_reducible refine qI ?_ ?_);omega)|((with_reducible refine qDT ?_ ?_);omega)|((with_reducible refine qDF ?_ ?_);omega)|((with_reducible refine qNT ?_ ?_);omega)|((with_reducible refine qNF ?_ ?_);omega)|((with_reducible refine qU8 ?_ ?_);omega)|((with_reducible refine qU32 ?_ ?_);omega)|((with_reducible refine qU64 ?_ ?_);omega)|((with_reducible refine qU16 ?_ ?_);omega))
      conv => whnf
      obtain ⟨w3, hw3⟩ : ∃ w3, W3.length = w3 := ⟨_, rfl⟩
      have hle := hP.length_le
      rw [hw, hw3] at hle
      refine frg_ask (m := m) (h := [.ob (.row 7 (w + 1) (fun q => snL (gs W q)) c1), .ob (.row 7 (w + 1) (fun q => snL (gs (W.map (Sn.later j)) q)) c2)]) (s := s.extract 0 (c % s.size)) (by rw [ByteArray.size_extract]; omega) hW3 fun c3 hc3 => ?_
      rw [hw3] at hc3 ⊢
      rcases w3 with _ | w3
      · repeat((conv=>whnf);first|((with_reducible refine qS ?_ ?_ ?_);exact rfl;exact rfl)|with_reducible refine qB ?_|((with_reducible refine qI ?_ ?_);omega)|((with_reducible refine qDT ?_ ?_);omega)|((with_reducible refine qDF ?_ ?_);omega)|((with_reducible refine qNT ?_ ?_);omega)|((with_reducible refine qNF ?_ ?_);omega)|((with_reducible refine qU8 ?_ ?_);omega)|((with_reducible refine qU32 ?_ ?_);omega)|((with_reducible refine qU64 ?_ ?_);omega)|((with_reducible refine qU16 ?_ ?_);omega))
        conv => whnf
        refine .rd (fun i : Nat => i = 0) (fun i => [(15, iv .i64 i)]) (fun _ => 0) 0 rfl ?_ (fun i hi => ?_)
        · conv => whnf
          refine Le.id rfl ?_ ?_
          all_goals(repeat'(first|exact leT_empty|exact trivial|exact rfl|exact .inl rfl|exact .inr rfl|exact .inr ⟨rfl,rfl⟩|exact Nat.le_refl _|exact Nat.zero_le _|exact fun _ _=>rfl|assumption|refine And.intro ?_ ?_|exact ul0|exact ul1 rfl|exact ul2 rfl rfl|exact ul3 rfl rfl rfl))
        subst hi
        conv => whnf
        repeat((conv=>whnf);first|((with_reducible refine qS ?_ ?_ ?_);exact rfl;exact rfl)|with_reducible refine qB ?_|((with_reducible refine qI ?_ ?_);omega)|((with_reducible refine qDT ?_ ?_);omega)|((with_reducible refine qDF ?_ ?_);omega)|((with_reducible refine qNT ?_ ?_);omega)|((with_reducible refine qNF ?_ ?_);omega)|((with_reducible refine qU8 ?_ ?_);omega)|((with_reducible refine qU32 ?_ ?_);omega)|((with_reducible refine qU64 ?_ ?_);omega)|((with_reducible refine qU16 ?_ ?_);omega))
        conv => whnf
        exact rfl
      · repeat((conv=>whnf);first|((with_reducible refine qS ?_ ?_ ?_);exact rfl;exact rfl)|with_reducible refine qB ?_|((with_reducible refine qI ?_ ?_);omega)|((with_reducible refine qDT ?_ ?_);omega)|((with_reducible refine qDF ?_ ?_);omega)|((with_reducible refine qNT ?_ ?_);omega)|((with_reducible refine qNF ?_ ?_);omega)|((with_reducible refine qU8 ?_ ?_);omega)|((with_reducible refine qU32 ?_ ?_);omega)|((with_reducible refine qU64 ?_ ?_);omega)|((with_reducible refine qU16 ?_ ?_);omega))
        conv => whnf
        refine .rd (fun i : Nat => i ≤ w3 + 1) (fun i => [(15, iv .i64 i)]) (fun i => w3 + 1 - i) 0 (Nat.zero_le _) ?_ (fun i hi => ?_)
        · conv => whnf
          refine Le.id rfl ?_ ?_
          all_goals(repeat'(first|exact leT_empty|exact trivial|exact rfl|exact .inl rfl|exact .inr rfl|exact .inr ⟨rfl,rfl⟩|exact Nat.le_refl _|exact Nat.zero_le _|exact fun _ _=>rfl|assumption|refine And.intro ?_ ?_|exact ul0|exact ul1 rfl|exact ul2 rfl rfl|exact ul3 rfl rfl rfl))
        conv => whnf
        refine cD (fun h5 => ?_) (fun h5 => ?_)
        rotate_left
        · repeat((conv=>whnf);first|((with_reducible refine qS ?_ ?_ ?_);exact rfl;exact rfl)|with_reducible refine qB ?_|((with_reducible refine qI ?_ ?_);omega)|((with_reducible refine qDT ?_ ?_);omega)|((with_reducible refine qDF ?_ ?_);omega)|((with_reducible refine qNT ?_ ?_);omega)|((with_reducible refine qNF ?_ ?_);omega)|((with_reducible refine qU8 ?_ ?_);omega)|((with_reducible refine qU32 ?_ ?_);omega)|((with_reducible refine qU64 ?_ ?_);omega)|((with_reducible refine qU16 ?_ ?_);omega))
          conv => whnf
          exact congrArg bv (decide_eq_true (by omega))
        have hg := gs_pre hP (q := i) (by omega)
        repeat((conv=>whnf);first|((with_reducible refine qS ?_ ?_ ?_);exact rfl;exact rfl)|with_reducible refine qB ?_|((with_reducible refine qI ?_ ?_);omega)|((with_reducible refine qDT ?_ ?_);omega)|((with_reducible refine qDF ?_ ?_);omega)|((with_reducible refine qNT ?_ ?_);omega)|((with_reducible refine qNF ?_ ?_);omega)|((with_reducible refine qU8 ?_ ?_);omega)|((with_reducible refine qU32 ?_ ?_);omega)|((with_reducible refine qU64 ?_ ?_);omega)|((with_reducible refine qU16 ?_ ?_);omega))
        conv => whnf
        rw [show 0 + ((i : Int)).toNat = i by omega, hg, snEq, decide_eq_true ⟨rfl, rfl, rfl, rfl, rfl, rfl, rfl⟩]
        repeat((conv=>whnf);first|((with_reducible refine qS ?_ ?_ ?_);exact rfl;exact rfl)|with_reducible refine qB ?_|((with_reducible refine qI ?_ ?_);omega)|((with_reducible refine qDT ?_ ?_);omega)|((with_reducible refine qDF ?_ ?_);omega)|((with_reducible refine qNT ?_ ?_);omega)|((with_reducible refine qNF ?_ ?_);omega)|((with_reducible refine qU8 ?_ ?_);omega)|((with_reducible refine qU32 ?_ ?_);omega)|((with_reducible refine qU64 ?_ ?_);omega)|((with_reducible refine qU16 ?_ ?_);omega))
        conv => whnf
        refine ⟨i + 1, ⟨by omega, by omega⟩, ?_⟩
        conv => whnf
        refine Le.id rfl ?_ ?_
        all_goals(repeat'(first|exact leT_empty|exact trivial|exact rfl|exact .inl rfl|exact .inr rfl|exact .inr ⟨rfl,rfl⟩|exact Nat.le_refl _|exact Nat.zero_le _|exact fun _ _=>rfl|assumption|refine And.intro ?_ ?_|exact ul0|exact ul1 rfl|exact ul2 rfl rfl|exact ul3 rfl rfl rfl))
end Go.Proofs.YtdeaigaafdnehaaDoor.La
