/- WatchBeats: the walk. -/
import Derived.Test.YtdeaigaafdnehaaDoorLfG
namespace Go.Proofs.YtdeaigaafdnehaaDoor.La
open Go Go.Eng Go.Proofs Go.Proofs.YtdeaigaafdnehaaDoor.Tb Go.Proofs.YtdeaigaafdnehaaDoor.Co Go.Pu
set_option maxRecDepth 100000
set_option maxHeartbeats 16000000
abbrev outsB26 : List (FuncId × Cx) := [(F.law26_known, AskC trueC), (F.ref12_Build, AskC bldC), (F.ref3_Encode, AskC encC), (F.watch_Beats, AskC bsC), (F.watch_Frames, AskC frsC)]
theorem outsB26_ok : OutsOk Tryd.prog outsB26 := .cons (ask_ok known26_ok) (.cons (ask_ok bldR_ok) (.cons (ask_ok enc_ok) (.cons (ask_ok bs_ok) (.cons (ask_ok frs_ok) .nil))))
noncomputable abbrev tabB26 : List (FuncId × Eng.Fn) := [(F.law26_WatchBeats, fn.law26_WatchBeats u0), (F.law26_least, fn.law26_least u0)]
theorem tabB26_ok {d : Nat} : TabOk d tabB26 tt := .cons (ok.law26_WatchBeats u0) (.cons (ok.law26_least u0) (TabOk.nil))
abbrev box26 : HE := .ob (.own [.c (iC 2), .c (iC 3), .c (iC 2), .c (iC 120), .c (iC 2), .c (iC 64), .c (iC 20), .c (uC 16), .c (.slc 2 0 1 0 2 2 false), .c (.slc 3 0 3 0 2 2 false), .c (.slc 4 0 6 0 2 2 false)])
abbrev arrL (L : List Nat) : HE := .ob (.own [.arr 20 fun q => .v (.int .i64 ((L.getD q 0 : Nat) : Int))])
abbrev hp26 (M : Nat → Int) (n : Nat) (r : Heap) : Heap := .ob (.ro 1 n fun i => [.v (.int .u8 (M i))]) :: box26 :: matH m26 (box26 :: r)
theorem arr_snoc {L : List Nat} {k a q : Nat} (hk : L.length = k) : (if q = ((k : Nat) : Int).toNat then Eng.C.v (.int .i64 (a : Int)) else Eng.C.v (.int .i64 ((L.getD q 0 : Nat) : Int))) = Eng.C.v (.int .i64 (((L ++ [a]).getD q 0 : Nat) : Int)) := by
  rw [show ((k : Nat) : Int).toNat = k from rfl]
  simp only [List.getD_eq_getElem?_getD]
  by_cases h : q = k
  · rw [if_pos h, List.getElem?_append_right (by omega), show q - L.length = 0 by omega]; rfl
  · rw [if_neg h]
    by_cases h2 : q < k
    · rw [List.getElem?_append_left (by omega)]
    · rw [List.getElem?_eq_none (by omega), List.getElem?_eq_none (by rw [List.length_append]; show L.length + 1 ≤ q; omega)]
theorem beats26_run (C : Nat → Nat) (M : Nat → Int) (n cap : Nat) (nl : Bool) (g : Nat) (hn : n ≤ 9223372036854775807) (hM : ∀ i, i < n → M i = (C i : Int) ∧ C i < 256) (hg : g < 65536) :
    clRunX 7 tt outsB26 tabB26 3 F.law26_WatchBeats [] [.t (.one (.slc 0 0 1 0 n cap nl)), iv .u16 g] [.ob (.ro 1 n fun i => [.v (.int .u8 (M i))])] (fun x _ => x = bv true) := by
  repeat((conv=>whnf);first|((with_reducible refine qS ?_ ?_ ?_);exact rfl;exact rfl)|with_reducible refine qB ?_|((with_reducible refine qI ?_ ?_);omega)|((with_reducible refine qDT ?_ ?_);omega)|((with_reducible refine qDF ?_ ?_);omega)|((with_reducible refine qNT ?_ ?_);omega)|((with_reducible refine qNF ?_ ?_);omega)|((with_reducible refine qU8 ?_ ?_);omega)|((with_reducible refine qU32 ?_ ?_);omega)|((with_reducible refine qU64 ?_ ?_);omega)|((with_reducible refine qU16 ?_ ?_);omega))
  conv => whnf
  refine true_use ?_
  repeat((conv=>whnf);first|((with_reducible refine qS ?_ ?_ ?_);exact rfl;exact rfl)|with_reducible refine qB ?_|((with_reducible refine qI ?_ ?_);omega)|((with_reducible refine qDT ?_ ?_);omega)|((with_reducible refine qDF ?_ ?_);omega)|((with_reducible refine qNT ?_ ?_);omega)|((with_reducible refine qNF ?_ ?_);omega)|((with_reducible refine qU8 ?_ ?_);omega)|((with_reducible refine qU32 ?_ ?_);omega)|((with_reducible refine qU64 ?_ ?_);omega)|((with_reducible refine qU16 ?_ ?_);omega))
  conv => whnf
  by_cases g1 : 20 < n
  · repeat((conv=>whnf);first|((with_reducible refine qS ?_ ?_ ?_);exact rfl;exact rfl)|with_reducible refine qB ?_|((with_reducible refine qI ?_ ?_);omega)|((with_reducible refine qDT ?_ ?_);omega)|((with_reducible refine qDF ?_ ?_);omega)|((with_reducible refine qNT ?_ ?_);omega)|((with_reducible refine qNF ?_ ?_);omega)|((with_reducible refine qU8 ?_ ?_);omega)|((with_reducible refine qU32 ?_ ?_);omega)|((with_reducible refine qU64 ?_ ?_);omega)|((with_reducible refine qU16 ?_ ?_);omega))
    conv => whnf
    exact rfl
  repeat((conv=>whnf);first|((with_reducible refine qS ?_ ?_ ?_);exact rfl;exact rfl)|with_reducible refine qB ?_|((with_reducible refine qI ?_ ?_);omega)|((with_reducible refine qDT ?_ ?_);omega)|((with_reducible refine qDF ?_ ?_);omega)|((with_reducible refine qNT ?_ ?_);omega)|((with_reducible refine qNF ?_ ?_);omega)|((with_reducible refine qU8 ?_ ?_);omega)|((with_reducible refine qU32 ?_ ?_);omega)|((with_reducible refine qU64 ?_ ?_);omega)|((with_reducible refine qU16 ?_ ?_);omega))
  conv => whnf
  refine .inv (fun p : Nat × ByteArray × List Nat => p.1 ≤ n ∧ p.2.1 = bs (sentB (prB g C p.1)) ∧ p.2.2 = atB g C p.1) (fun p => [(6, sv p.2.1), (7, iv .i64 p.2.2.length), (9, iv .i64 p.1)]) (fun p => hp26 M n [arrL p.2.2]) (fun p => n - p.1) (0, ⟨#[]⟩, []) ⟨Nat.zero_le _, rfl, rfl⟩ ?_ (fun p ⟨hi, ht, hL⟩ => ?_)
  · conv => whnf
    refine Le.id rfl ?_ ?_
    · repeat'(first|exact leT_empty|exact trivial|exact rfl|exact .inl rfl|exact .inr rfl|exact .inr ⟨rfl,rfl⟩|exact Nat.le_refl _|exact Nat.zero_le _|exact fun _ _=>rfl|assumption|refine And.intro ?_ ?_|exact ul0|exact ul1 rfl|exact ul2 rfl rfl|exact ul3 rfl rfl rfl)
    · repeat'(first|exact leT_empty|exact trivial|exact rfl|exact .inl rfl|exact .inr rfl|exact .inr ⟨rfl,rfl⟩|exact Nat.le_refl _|exact Nat.zero_le _|exact fun _ _=>rfl|assumption|refine And.intro ?_ ?_|exact ul0|exact ul1 rfl|exact ul2 rfl rfl|exact ul3 rfl rfl rfl)
  generalize p.1 = i at *
  generalize p.2.1 = t at *
  generalize p.2.2 = L at *
  have hts : t.size ≤ 2900 := by
    rw [ht, bs_size]
    have := prB_sent g C i
    omega
  have hLl : L.length ≤ i := by rw [hL]; exact atB_len g C i
  obtain ⟨k, hk⟩ : ∃ k, L.length = k := ⟨_, rfl⟩
  rw [hk] at hLl ⊢
  conv => whnf
  refine cD (fun h5 => ?_) (fun h5 => ?_)
  rotate_left
  · obtain rfl : i = n := by omega
    have hfr : Fr (rd t) 0 (seenL 0 (prB g C i)) := by
      rw [ht, rd_bs]
      exact prB_fr g C i
    have hlen : (seenL 0 (prB g C i)).length = i := prB_len g C i
    have hbt := atB_bts hg C i (Nat.le_refl i)
    rw [← hL] at hbt
    repeat((conv=>whnf);first|((with_reducible refine qS ?_ ?_ ?_);exact rfl;exact rfl)|with_reducible refine qB ?_|((with_reducible refine qI ?_ ?_);omega)|((with_reducible refine qDT ?_ ?_);omega)|((with_reducible refine qDF ?_ ?_);omega)|((with_reducible refine qNT ?_ ?_);omega)|((with_reducible refine qNF ?_ ?_);omega)|((with_reducible refine qU8 ?_ ?_);omega)|((with_reducible refine qU32 ?_ ?_);omega)|((with_reducible refine qU64 ?_ ?_);omega)|((with_reducible refine qU16 ?_ ?_);omega))
    conv => whnf
    refine bs_ask (m := m26) (c := c26) (s := t) (W := seenL 0 (prB g C i)) [2, 3, 4] _ rfl m26_ok (by decide) (by omega) hfr (by omega) (fun q => ?_) rfl ?_ ?_ (fun q hq => ?_)
    · by_cases hqi : q < i
      · rw [prB_gs hqi]
        exact ok_in (fB_ok g (C q)).1
      · have : gs (seenL 0 (prB g C i)) q = sn0 := by
          unfold gs
          rw [List.getD_eq_getElem?_getD, List.getElem?_eq_none (by omega)]; rfl
        rw [this]
        exact (show FIn frm0 from ⟨by decide, by decide⟩)
    · repeat'(first|exact leT_empty|exact trivial|exact rfl|exact .inl rfl|exact .inr rfl|exact .inr ⟨rfl,rfl⟩|exact Nat.le_refl _|exact Nat.zero_le _|exact fun _ _=>rfl|assumption|refine And.intro ?_ ?_|exact ul0|exact ul1 rfl|exact ul2 rfl rfl|exact ul3 rfl rfl rfl)
    · repeat'(first|exact leT_empty|exact trivial|exact rfl|exact .inl rfl|exact .inr rfl|exact .inr ⟨rfl,rfl⟩|exact Nat.le_refl _|exact Nat.zero_le _|exact fun _ _=>rfl|assumption|refine And.intro ?_ ?_|exact ul0|exact ul1 rfl|exact ul2 rfl rfl|exact ul3 rfl rfl rfl)
    rw [hlen] at hq ⊢
    generalize btsL m26 (seenL 0 (prB g C i)) i = B at *
    have hBk : B.length = k := by rw [← hk, ← hbt, List.length_map]
    have hat : ∀ q, q < k → (gs B q).at_ = L.getD q 0 := fun q hq => by
      rw [← hbt]
      unfold gs
      rw [List.getD_eq_getElem?_getD, List.getD_eq_getElem?_getD, List.getElem?_map, List.getElem?_eq_getElem (by omega)]; rfl
    rw [hBk] at hq ⊢
    rcases k with _ | k
    · repeat((conv=>whnf);first|((with_reducible refine qS ?_ ?_ ?_);exact rfl;exact rfl)|with_reducible refine qB ?_|((with_reducible refine qI ?_ ?_);omega)|((with_reducible refine qDT ?_ ?_);omega)|((with_reducible refine qDF ?_ ?_);omega)|((with_reducible refine qNT ?_ ?_);omega)|((with_reducible refine qNF ?_ ?_);omega)|((with_reducible refine qU8 ?_ ?_);omega)|((with_reducible refine qU32 ?_ ?_);omega)|((with_reducible refine qU64 ?_ ?_);omega)|((with_reducible refine qU16 ?_ ?_);omega))
      conv => whnf
      refine frs_ask (W := seenL 0 (prB g C i)) (by omega) hfr fun fc hfc => ?_
      rw [hlen]
      rcases i with _ | i
      all_goals
        repeat((conv=>whnf);first|((with_reducible refine qS ?_ ?_ ?_);exact rfl;exact rfl)|with_reducible refine qB ?_|((with_reducible refine qI ?_ ?_);omega)|((with_reducible refine qDT ?_ ?_);omega)|((with_reducible refine qDF ?_ ?_);omega)|((with_reducible refine qNT ?_ ?_);omega)|((with_reducible refine qNF ?_ ?_);omega)|((with_reducible refine qU8 ?_ ?_);omega)|((with_reducible refine qU32 ?_ ?_);omega)|((with_reducible refine qU64 ?_ ?_);omega)|((with_reducible refine qU16 ?_ ?_);omega))
        conv => whnf
        refine .rd (fun j : Nat => j = 0) (fun j => [(13, iv .i64 j)]) (fun _ => 0) 0 rfl ?_ (fun j hj => ?_)
        · conv => whnf
          refine Le.id rfl ?_ ?_
          all_goals(repeat'(first|exact leT_empty|exact trivial|exact rfl|exact .inl rfl|exact .inr rfl|exact .inr ⟨rfl,rfl⟩|exact Nat.le_refl _|exact Nat.zero_le _|exact fun _ _=>rfl|assumption|refine And.intro ?_ ?_|exact ul0|exact ul1 rfl|exact ul2 rfl rfl|exact ul3 rfl rfl rfl))
        subst hj
        conv => whnf
        repeat((conv=>whnf);first|((with_reducible refine qS ?_ ?_ ?_);exact rfl;exact rfl)|with_reducible refine qB ?_|((with_reducible refine qI ?_ ?_);omega)|((with_reducible refine qDT ?_ ?_);omega)|((with_reducible refine qDF ?_ ?_);omega)|((with_reducible refine qNT ?_ ?_);omega)|((with_reducible refine qNF ?_ ?_);omega)|((with_reducible refine qU8 ?_ ?_);omega)|((with_reducible refine qU32 ?_ ?_);omega)|((with_reducible refine qU64 ?_ ?_);omega)|((with_reducible refine qU16 ?_ ?_);omega))
        conv => whnf
        exact rfl
    · repeat((conv=>whnf);first|((with_reducible refine qS ?_ ?_ ?_);exact rfl;exact rfl)|with_reducible refine qB ?_|((with_reducible refine qI ?_ ?_);omega)|((with_reducible refine qDT ?_ ?_);omega)|((with_reducible refine qDF ?_ ?_);omega)|((with_reducible refine qNT ?_ ?_);omega)|((with_reducible refine qNF ?_ ?_);omega)|((with_reducible refine qU8 ?_ ?_);omega)|((with_reducible refine qU32 ?_ ?_);omega)|((with_reducible refine qU64 ?_ ?_);omega)|((with_reducible refine qU16 ?_ ?_);omega))
      conv => whnf
      refine frs_ask (W := seenL 0 (prB g C i)) (by omega) hfr fun fc hfc => ?_
      rw [hlen]
      rcases i with _ | i
      · omega
      repeat((conv=>whnf);first|((with_reducible refine qS ?_ ?_ ?_);exact rfl;exact rfl)|with_reducible refine qB ?_|((with_reducible refine qI ?_ ?_);omega)|((with_reducible refine qDT ?_ ?_);omega)|((with_reducible refine qDF ?_ ?_);omega)|((with_reducible refine qNT ?_ ?_);omega)|((with_reducible refine qNF ?_ ?_);omega)|((with_reducible refine qU8 ?_ ?_);omega)|((with_reducible refine qU32 ?_ ?_);omega)|((with_reducible refine qU64 ?_ ?_);omega)|((with_reducible refine qU16 ?_ ?_);omega))
      conv => whnf
      refine .rd (fun j : Nat => j ≤ k + 1) (fun j => [(13, iv .i64 j)]) (fun j => k + 1 - j) 0 (Nat.zero_le _) ?_ (fun j hj => ?_)
      · conv => whnf
        refine Le.id rfl ?_ ?_
        all_goals(repeat'(first|exact leT_empty|exact trivial|exact rfl|exact .inl rfl|exact .inr rfl|exact .inr ⟨rfl,rfl⟩|exact Nat.le_refl _|exact Nat.zero_le _|exact fun _ _=>rfl|assumption|refine And.intro ?_ ?_|exact ul0|exact ul1 rfl|exact ul2 rfl rfl|exact ul3 rfl rfl rfl))
      conv => whnf
      refine cD (fun h6 => ?_) (fun h6 => ?_)
      rotate_left
      · repeat((conv=>whnf);first|((with_reducible refine qS ?_ ?_ ?_);exact rfl;exact rfl)|with_reducible refine qB ?_|((with_reducible refine qI ?_ ?_);omega)|((with_reducible refine qDT ?_ ?_);omega)|((with_reducible refine qDF ?_ ?_);omega)|((with_reducible refine qNT ?_ ?_);omega)|((with_reducible refine qNF ?_ ?_);omega)|((with_reducible refine qU8 ?_ ?_);omega)|((with_reducible refine qU32 ?_ ?_);omega)|((with_reducible refine qU64 ?_ ?_);omega)|((with_reducible refine qU16 ?_ ?_);omega))
        conv => whnf
        exact rfl
      have hj2 := hat j (by omega)
      repeat((conv=>whnf);first|((with_reducible refine qS ?_ ?_ ?_);exact rfl;exact rfl)|with_reducible refine qB ?_|((with_reducible refine qI ?_ ?_);omega)|((with_reducible refine qDT ?_ ?_);omega)|((with_reducible refine qDF ?_ ?_);omega)|((with_reducible refine qNT ?_ ?_);omega)|((with_reducible refine qNF ?_ ?_);omega)|((with_reducible refine qU8 ?_ ?_);omega)|((with_reducible refine qU32 ?_ ?_);omega)|((with_reducible refine qU64 ?_ ?_);omega)|((with_reducible refine qU16 ?_ ?_);omega))
      conv => whnf
      rw [show 0 + ((j : Int)).toNat = j by omega, show ((j : Int)).toNat = j from rfl, hj2]
      refine cNF rfl ?_
      repeat((conv=>whnf);first|((with_reducible refine qS ?_ ?_ ?_);exact rfl;exact rfl)|with_reducible refine qB ?_|((with_reducible refine qI ?_ ?_);omega)|((with_reducible refine qDT ?_ ?_);omega)|((with_reducible refine qDF ?_ ?_);omega)|((with_reducible refine qNT ?_ ?_);omega)|((with_reducible refine qNF ?_ ?_);omega)|((with_reducible refine qU8 ?_ ?_);omega)|((with_reducible refine qU32 ?_ ?_);omega)|((with_reducible refine qU64 ?_ ?_);omega)|((with_reducible refine qU16 ?_ ?_);omega))
      conv => whnf
      refine ⟨j + 1, ⟨by omega, by omega⟩, ?_⟩
      conv => whnf
      refine Le.id rfl ?_ ?_
      all_goals(repeat'(first|exact leT_empty|exact trivial|exact rfl|exact .inl rfl|exact .inr rfl|exact .inr ⟨rfl,rfl⟩|exact Nat.le_refl _|exact Nat.zero_le _|exact fun _ _=>rfl|assumption|refine And.intro ?_ ?_|exact ul0|exact ul1 rfl|exact ul2 rfl rfl|exact ul3 rfl rfl rfl))
  obtain ⟨hMi, hCi⟩ := hM i (by omega)
  repeat((conv=>whnf);first|((with_reducible refine qS ?_ ?_ ?_);exact rfl;exact rfl)|with_reducible refine qB ?_|((with_reducible refine qI ?_ ?_);omega)|((with_reducible refine qDT ?_ ?_);omega)|((with_reducible refine qDF ?_ ?_);omega)|((with_reducible refine qNT ?_ ?_);omega)|((with_reducible refine qNF ?_ ?_);omega)|((with_reducible refine qU8 ?_ ?_);omega)|((with_reducible refine qU32 ?_ ?_);omega)|((with_reducible refine qU64 ?_ ?_);omega)|((with_reducible refine qU16 ?_ ?_);omega))
  conv => whnf
  refine cDT (by show t.size + 3 ≤ _; omega) ?_
  repeat((conv=>whnf);first|((with_reducible refine qS ?_ ?_ ?_);exact rfl;exact rfl)|with_reducible refine qB ?_|((with_reducible refine qI ?_ ?_);omega)|((with_reducible refine qDT ?_ ?_);omega)|((with_reducible refine qDF ?_ ?_);omega)|((with_reducible refine qNT ?_ ?_);omega)|((with_reducible refine qNF ?_ ?_);omega)|((with_reducible refine qU8 ?_ ?_);omega)|((with_reducible refine qU32 ?_ ?_);omega)|((with_reducible refine qU64 ?_ ?_);omega)|((with_reducible refine qU16 ?_ ?_);omega))
  conv => whnf
  have z : 0 + ((i : Int)).toNat = i := by omega
  have d4 : ((C i : Nat) : Int).tdiv 4 = ((C i / 4 : Nat) : Int) := rfl
  have d8 : ((C i : Nat) : Int).tdiv 8 = ((C i / 8 : Nat) : Int) := rfl
  have m2 : ∀ a : Nat, ((a : Nat) : Int).tmod 2 = ((a % 2 : Nat) : Int) := fun _ => rfl
  have m4 : ∀ a : Nat, ((a : Nat) : Int).tmod 4 = ((a % 4 : Nat) : Int) := fun _ => rfl
  rw [z, hMi, d4]
  repeat((conv=>whnf);first|((with_reducible refine qS ?_ ?_ ?_);exact rfl;exact rfl)|with_reducible refine qB ?_|((with_reducible refine qI ?_ ?_);omega)|((with_reducible refine qDT ?_ ?_);omega)|((with_reducible refine qDF ?_ ?_);omega)|((with_reducible refine qNT ?_ ?_);omega)|((with_reducible refine qNF ?_ ?_);omega)|((with_reducible refine qU8 ?_ ?_);omega)|((with_reducible refine qU32 ?_ ?_);omega)|((with_reducible refine qU64 ?_ ?_);omega)|((with_reducible refine qU16 ?_ ?_);omega))
  conv => whnf
  rw [m2]
  repeat((conv=>whnf);first|((with_reducible refine qS ?_ ?_ ?_);exact rfl;exact rfl)|with_reducible refine qB ?_|((with_reducible refine qI ?_ ?_);omega)|((with_reducible refine qDT ?_ ?_);omega)|((with_reducible refine qDF ?_ ?_);omega)|((with_reducible refine qNT ?_ ?_);omega)|((with_reducible refine qNF ?_ ?_);omega)|((with_reducible refine qU8 ?_ ?_);omega)|((with_reducible refine qU32 ?_ ?_);omega)|((with_reducible refine qU64 ?_ ?_);omega)|((with_reducible refine qU16 ?_ ?_);omega))
  conv => whnf
  rw [z, hMi, d8]
  repeat((conv=>whnf);first|((with_reducible refine qS ?_ ?_ ?_);exact rfl;exact rfl)|with_reducible refine qB ?_|((with_reducible refine qI ?_ ?_);omega)|((with_reducible refine qDT ?_ ?_);omega)|((with_reducible refine qDF ?_ ?_);omega)|((with_reducible refine qNT ?_ ?_);omega)|((with_reducible refine qNF ?_ ?_);omega)|((with_reducible refine qU8 ?_ ?_);omega)|((with_reducible refine qU32 ?_ ?_);omega)|((with_reducible refine qU64 ?_ ?_);omega)|((with_reducible refine qU16 ?_ ?_);omega))
  conv => whnf
  rw [m2]
  repeat((conv=>whnf);first|((with_reducible refine qS ?_ ?_ ?_);exact rfl;exact rfl)|with_reducible refine qB ?_|((with_reducible refine qI ?_ ?_);omega)|((with_reducible refine qDT ?_ ?_);omega)|((with_reducible refine qDF ?_ ?_);omega)|((with_reducible refine qNT ?_ ?_);omega)|((with_reducible refine qNF ?_ ?_);omega)|((with_reducible refine qU8 ?_ ?_);omega)|((with_reducible refine qU32 ?_ ?_);omega)|((with_reducible refine qU64 ?_ ?_);omega)|((with_reducible refine qU16 ?_ ?_);omega))
  conv => whnf
  rw [z, hMi, m2]
  have hb2 : C i / 4 % 2 < 2 := Nat.mod_lt _ (by decide)
  have hc2 : C i / 8 % 2 < 2 := Nat.mod_lt _ (by decide)
  have ed : decide (((C i % 2 : Nat) : Int) = 1) = decide (C i % 2 = 1) := decide_eq_decide.2 (by omega)
  have eB : bldR m26 ((C i / 4 % 2 : Nat) : Int) ((C i / 8 % 2 : Nat) : Int) g (decide (((C i % 2 : Nat) : Int) = 1)) = .tup [frmT (bldF m26 ((C i / 4 % 2 : Nat) : Int) ((C i / 8 % 2 : Nat) : Int) g (decide (C i % 2 = 1))), .one (.v (.bool true))] := by
    show R.tup [frmT (bldF m26 _ _ _ _), .one (.v (.bool (bldOk m26 _ _)))] = _
    rw [bldOk26 hb2 hc2, ed]
  have eF : ∀ h : ¬ C i % 4 = 2, bldF m26 ((C i / 4 % 2 : Nat) : Int) ((C i / 8 % 2 : Nat) : Int) g (decide (C i % 2 = 1)) = fB g (C i) := fun h => (if_neg h).symm
  have eM : C i % 4 = 2 → fmsg = fB g (C i) := fun h => (if_pos h).symm
  have hs3 : (t ++ o3).size = t.size + 3 := by rw [ByteArray.size_append]; rfl
  have hes : (enc (fB g (C i))).size ≤ 142 := by
    unfold enc
    rw [if_pos (fB_ok g (C i)).1, bs_size]
    exact encB_len4 (fB_ok g (C i)).2.1 (fB_ok g (C i)).2.2
  have hw : t ++ o3 ++ enc (fB g (C i)) = bs (sentB (prB g C (i + 1))) := by
    show _ = bs (sentB (prB g C i ++ [(fB g (C i), 3)]))
    unfold enc
    rw [if_pos (fB_ok g (C i)).1, sent_app, ht, show o3 = bs [true, true, true] from rfl, bs_app, bs_app]
    show _ = bs (_ ++ (_ ++ (_ ++ [])))
    rw [List.append_nil, List.append_assoc]; rfl
  refine ⟨?_, ?_⟩
  rotate_left
  repeat((conv=>whnf);first|((with_reducible refine qS ?_ ?_ ?_);exact rfl;exact rfl)|with_reducible refine qB ?_|((with_reducible refine qI ?_ ?_);omega)|((with_reducible refine qDT ?_ ?_);omega)|((with_reducible refine qDF ?_ ?_);omega)|((with_reducible refine qNT ?_ ?_);omega)|((with_reducible refine qNF ?_ ?_);omega)|((with_reducible refine qU8 ?_ ?_);omega)|((with_reducible refine qU32 ?_ ?_);omega)|((with_reducible refine qU64 ?_ ?_);omega)|((with_reducible refine qU16 ?_ ?_);omega)|rw [z]|rw [hMi]|rw [d4]|rw [d8]|rw [m2])
  conv => whnf
  all_goals
    repeat((conv=>whnf);first|((with_reducible refine qS ?_ ?_ ?_);exact rfl;exact rfl)|with_reducible refine qB ?_|((with_reducible refine qI ?_ ?_);omega)|((with_reducible refine qDT ?_ ?_);omega)|((with_reducible refine qDF ?_ ?_);omega)|((with_reducible refine qNT ?_ ?_);omega)|((with_reducible refine qNF ?_ ?_);omega)|((with_reducible refine qU8 ?_ ?_);omega)|((with_reducible refine qU32 ?_ ?_);omega)|((with_reducible refine qU64 ?_ ?_);omega)|((with_reducible refine qU16 ?_ ?_);omega))
    conv => whnf
    refine .use (m26, c26, ((C i / 4 % 2 : Nat) : Int), ((C i / 8 % 2 : Nat) : Int), g, decide (((C i % 2 : Nat) : Int) = 1)) [2, 3, 4] ⟨m26_ok, hg⟩ rfl ?_ ?_ ?_
    · repeat'(first|exact leT_empty|exact trivial|exact rfl|exact .inl rfl|exact .inr rfl|exact .inr ⟨rfl,rfl⟩|exact Nat.le_refl _|exact Nat.zero_le _|exact fun _ _=>rfl|assumption|refine And.intro ?_ ?_|exact ul0|exact ul1 rfl|exact ul2 rfl rfl|exact ul3 rfl rfl rfl)
    · repeat'(first|exact leT_empty|exact trivial|exact rfl|exact .inl rfl|exact .inr rfl|exact .inr ⟨rfl,rfl⟩|exact Nat.le_refl _|exact Nat.zero_le _|exact fun _ _=>rfl|assumption|refine And.intro ?_ ?_|exact ul0|exact ul1 rfl|exact ul2 rfl rfl|exact ul3 rfl rfl rfl)
    rw [eB]
    generalize bldF m26 ((C i / 4 % 2 : Nat) : Int) ((C i / 8 % 2 : Nat) : Int) g (decide (C i % 2 = 1)) = x at *
    repeat((conv=>whnf);first|((with_reducible refine qS ?_ ?_ ?_);exact rfl;exact rfl)|with_reducible refine qB ?_|((with_reducible refine qI ?_ ?_);omega)|((with_reducible refine qDT ?_ ?_);omega)|((with_reducible refine qDF ?_ ?_);omega)|((with_reducible refine qNT ?_ ?_);omega)|((with_reducible refine qNF ?_ ?_);omega)|((with_reducible refine qU8 ?_ ?_);omega)|((with_reducible refine qU32 ?_ ?_);omega)|((with_reducible refine qU64 ?_ ?_);omega)|((with_reducible refine qU16 ?_ ?_);omega))
    conv => whnf
    rw [z, hMi, m4]
    by_cases h2 : C i % 4 = 2
    · repeat((conv=>whnf);first|((with_reducible refine qS ?_ ?_ ?_);exact rfl;exact rfl)|with_reducible refine qB ?_|((with_reducible refine qI ?_ ?_);omega)|((with_reducible refine qDT ?_ ?_);omega)|((with_reducible refine qDF ?_ ?_);omega)|((with_reducible refine qNT ?_ ?_);omega)|((with_reducible refine qNF ?_ ?_);omega)|((with_reducible refine qU8 ?_ ?_);omega)|((with_reducible refine qU32 ?_ ?_);omega)|((with_reducible refine qU64 ?_ ?_);omega)|((with_reducible refine qU16 ?_ ?_);omega))
      conv => whnf
      refine enc_use (f := fmsg) (ok_in (by decide +kernel)) ?_
      rw [eM h2]
      repeat((conv=>whnf);first|((with_reducible refine qS ?_ ?_ ?_);exact rfl;exact rfl)|with_reducible refine qB ?_|((with_reducible refine qI ?_ ?_);omega)|((with_reducible refine qDT ?_ ?_);omega)|((with_reducible refine qDF ?_ ?_);omega)|((with_reducible refine qNT ?_ ?_);omega)|((with_reducible refine qNF ?_ ?_);omega)|((with_reducible refine qU8 ?_ ?_);omega)|((with_reducible refine qU32 ?_ ?_);omega)|((with_reducible refine qU64 ?_ ?_);omega)|((with_reducible refine qU16 ?_ ?_);omega))
      conv => whnf
      refine cDT (by show (t ++ o3).size + (enc (fB g (C i))).size ≤ _; omega) ?_
      repeat((conv=>whnf);first|((with_reducible refine qS ?_ ?_ ?_);exact rfl;exact rfl)|with_reducible refine qB ?_|((with_reducible refine qI ?_ ?_);omega)|((with_reducible refine qDT ?_ ?_);omega)|((with_reducible refine qDF ?_ ?_);omega)|((with_reducible refine qNT ?_ ?_);omega)|((with_reducible refine qNF ?_ ?_);omega)|((with_reducible refine qU8 ?_ ?_);omega)|((with_reducible refine qU32 ?_ ?_);omega)|((with_reducible refine qU64 ?_ ?_);omega)|((with_reducible refine qU16 ?_ ?_);omega))
      conv => whnf
      refine ⟨(i + 1, t ++ o3 ++ enc (fB g (C i)), L), ⟨⟨by show i + 1 ≤ n; omega, hw, by show L = atB g C (i + 1); unfold atB; rw [if_pos h2, ← hL]⟩, by show n - (i + 1) < n - i; omega⟩, ?_⟩
      dsimp only
      rw [hk]
      conv => whnf
      refine Le.nm [0, 1, 2, 3, 4, 5, 6] rfl ?_ ?_
      · repeat'(first|exact leT_empty|exact trivial|exact rfl|exact .inl rfl|exact .inr rfl|exact .inr ⟨rfl,rfl⟩|exact Nat.le_refl _|exact Nat.zero_le _|exact fun _ _=>rfl|assumption|refine And.intro ?_ ?_|exact ul0|exact ul1 rfl|exact ul2 rfl rfl|exact ul3 rfl rfl rfl)
      · repeat'(first|exact leT_empty|exact trivial|exact rfl|exact .inl rfl|exact .inr rfl|exact .inr ⟨rfl,rfl⟩|exact Nat.le_refl _|exact Nat.zero_le _|exact fun _ _=>rfl|assumption|refine And.intro ?_ ?_|exact ul0|exact ul1 rfl|exact ul2 rfl rfl|exact ul3 rfl rfl rfl)
    · repeat((conv=>whnf);first|((with_reducible refine qS ?_ ?_ ?_);exact rfl;exact rfl)|with_reducible refine qB ?_|((with_reducible refine qI ?_ ?_);omega)|((with_reducible refine qDT ?_ ?_);omega)|((with_reducible refine qDF ?_ ?_);omega)|((with_reducible refine qNT ?_ ?_);omega)|((with_reducible refine qNF ?_ ?_);omega)|((with_reducible refine qU8 ?_ ?_);omega)|((with_reducible refine qU32 ?_ ?_);omega)|((with_reducible refine qU64 ?_ ?_);omega)|((with_reducible refine qU16 ?_ ?_);omega))
      conv => whnf
      rw [eF h2]
      refine enc_use (f := fB g (C i)) (ok_in (fB_ok g (C i)).1) ?_
      repeat((conv=>whnf);first|((with_reducible refine qS ?_ ?_ ?_);exact rfl;exact rfl)|with_reducible refine qB ?_|((with_reducible refine qI ?_ ?_);omega)|((with_reducible refine qDT ?_ ?_);omega)|((with_reducible refine qDF ?_ ?_);omega)|((with_reducible refine qNT ?_ ?_);omega)|((with_reducible refine qNF ?_ ?_);omega)|((with_reducible refine qU8 ?_ ?_);omega)|((with_reducible refine qU32 ?_ ?_);omega)|((with_reducible refine qU64 ?_ ?_);omega)|((with_reducible refine qU16 ?_ ?_);omega))
      conv => whnf
      refine cDT (by show (t ++ o3).size + (enc (fB g (C i))).size ≤ _; omega) ?_
      repeat((conv=>whnf);first|((with_reducible refine qS ?_ ?_ ?_);exact rfl;exact rfl)|with_reducible refine qB ?_|((with_reducible refine qI ?_ ?_);omega)|((with_reducible refine qDT ?_ ?_);omega)|((with_reducible refine qDF ?_ ?_);omega)|((with_reducible refine qNT ?_ ?_);omega)|((with_reducible refine qNF ?_ ?_);omega)|((with_reducible refine qU8 ?_ ?_);omega)|((with_reducible refine qU32 ?_ ?_);omega)|((with_reducible refine qU64 ?_ ?_);omega)|((with_reducible refine qU16 ?_ ?_);omega))
      conv => whnf
      refine ⟨(i + 1, t ++ o3 ++ enc (fB g (C i)), L ++ [(t ++ o3).size]), ⟨⟨by show i + 1 ≤ n; omega, hw, by show L ++ [(t ++ o3).size] = atB g C (i + 1); unfold atB; rw [if_neg h2, ← hL, hs3, ht, bs_size]⟩, by show n - (i + 1) < n - i; omega⟩, ?_⟩
      dsimp only
      rw [show (L ++ [(t ++ o3).size]).length = k + 1 by rw [List.length_append, hk]; rfl]
      conv => whnf
      refine Le.nm [0, 1, 2, 3, 4, 5, 6] rfl ?_ ?_
      · repeat'(first|exact leT_empty|exact trivial|exact rfl|exact .inl rfl|exact .inr rfl|exact .inr ⟨rfl,rfl⟩|exact Nat.le_refl _|exact Nat.zero_le _|exact fun _ _=>rfl|assumption|refine And.intro ?_ ?_|exact ul0|exact ul1 rfl|exact ul2 rfl rfl|exact ul3 rfl rfl rfl)
        exact fun q _ => arr_snoc hk
      · repeat'(first|exact leT_empty|exact trivial|exact rfl|exact .inl rfl|exact .inr rfl|exact .inr ⟨rfl,rfl⟩|exact Nat.le_refl _|exact Nat.zero_le _|exact fun _ _=>rfl|assumption|refine And.intro ?_ ?_|exact ul0|exact ul1 rfl|exact ul2 rfl rfl|exact ul3 rfl rfl rfl)
end Go.Proofs.YtdeaigaafdnehaaDoor.La
