/- Contracts: the beats of a row of bits. -/
import Derived.Test.YtdeaigaafdnehaaDoorCbK
namespace Go.Pu
def btB (m : Mat) (x : Sn) : Bool := btOk m x.f && decide (x.e = 0)
def btsL (m : Mat) (W : List Sn) : Nat → List Sn
  | 0 => []
  | j + 1 => if btB m (gs W j) then btsL m W j ++ [gs W j] else btsL m W j
theorem btsL_len (m : Mat) (W : List Sn) : ∀ j, (btsL m W j).length ≤ j
  | 0 => Nat.le_refl _
  | j + 1 => by
    have := btsL_len m W j
    unfold btsL
    split
    · rw [List.length_append]; show _ + 1 ≤ _; omega
    · omega
end Go.Pu
namespace Go.Proofs.YtdeaigaafdnehaaDoor.Co
open Go Go.Eng Go.Proofs Go.Proofs.YtdeaigaafdnehaaDoor.Tb Go.Pu
set_option maxRecDepth 100000
set_option maxHeartbeats 16000000
abbrev rowW (W : List Sn) (n cap : Nat) : HE := .ob (.row 7 n (fun q => snL (gs W q)) cap)
abbrev boxW (m : Mat) (c : Caps) : HE := .ob (.own [.c (iC m.level), .c (iC m.nodes), .c (iC m.cycles), .c (iC m.length), .c (iC m.enable), .c (iC m.unit), .c (iC m.init), .c (uC m.ref),
  .c (.slc 0 0 1 0 m.nM c.c1 c.z1), .c (.slc 1 0 3 0 m.nG c.c2 c.z2), .c (.slc 2 0 6 0 m.nW c.c3 c.z3)])
abbrev outsBs : List (FuncId × Cx) := [(F.watch_Frames, AskC frsC), (F.refmsg_Parse, AskC btC)]
theorem outsBs_ok : OutsOk Tryd.prog outsBs := .cons (ask_ok frs_ok) (.cons (ask_ok bt_ok) .nil)
noncomputable abbrev tabBs : List (FuncId × Eng.Fn) := [(F.watch_Beats, fn.watch_Beats u0)]
theorem tabBs_ok {d : Nat} : TabOk d tabBs tt := .cons (ok.watch_Beats u0) (TabOk.nil)
theorem bs_run (m : Mat) (c : Caps) (s : ByteArray) (W : List Sn) (hm : m.Ok) (hn : m.nM ≤ 1000) (hs : s.size ≤ 4000) (hW : Fr (rd s) 0 W) (hl : W.length ≤ 4000) (hf : ∀ q, FIn (gs W q).f) :
    clRunX 7 tt outsBs tabBs 2 F.watch_Beats [] [matT m c 0 1 2, sv s] (matH m []) (fun x h => Trim 3 x h fun x h => ∃ q, (btsL m W W.length).length ≤ q ∧ x = outN 3 (btsL m W W.length).length q ∧ h = matH m (rowsN (btsL m W W.length) (btsL m W W.length).length q)) := by
  repeat((conv=>whnf);first|((with_reducible refine qS ?_ ?_ ?_);exact rfl;exact rfl)|with_reducible refine qB ?_|((with_reducible refine qI ?_ ?_);omega)|((with_reducible refine qDT ?_ ?_);omega)|((with_reducible refine qDF ?_ ?_);omega)|((with_reducible refine qNT ?_ ?_);omega)|((with_reducible refine qNF ?_ ?_);omega)|((with_reducible refine qU8 ?_ ?_);omega)|((with_reducible refine qU32 ?_ ?_);omega)|((with_reducible refine qU64 ?_ ?_);omega)|((with_reducible refine qU16 ?_ ?_);omega))
  conv => whnf
  refine frs_ask hs hW fun fc hfc => ?_
  obtain ⟨w, hw⟩ : ∃ w, W.length = w := ⟨_, rfl⟩
  rw [hw] at hfc ⊢
  rcases w with _ | w
  · repeat((conv=>whnf);first|((with_reducible refine qS ?_ ?_ ?_);exact rfl;exact rfl)|with_reducible refine qB ?_|((with_reducible refine qI ?_ ?_);omega)|((with_reducible refine qDT ?_ ?_);omega)|((with_reducible refine qDF ?_ ?_);omega)|((with_reducible refine qNT ?_ ?_);omega)|((with_reducible refine qNF ?_ ?_);omega)|((with_reducible refine qU8 ?_ ?_);omega)|((with_reducible refine qU32 ?_ ?_);omega)|((with_reducible refine qU64 ?_ ?_);omega)|((with_reducible refine qU16 ?_ ?_);omega))
    conv => whnf
    refine .rd (fun j : Nat => j = 0) (fun _ => [(5, outN 0 0 0), (13, iv .i64 0)]) (fun _ => 0) 0 rfl ?_ (fun j hj => ?_)
    · conv => whnf
      refine Le.id rfl ?_ ?_
      all_goals(repeat'(first|exact leT_empty|exact trivial|exact rfl|exact .inl rfl|exact .inr rfl|exact .inr ⟨rfl,rfl⟩|exact Nat.le_refl _|exact Nat.zero_le _|exact fun _ _=>rfl|assumption|refine And.intro ?_ ?_|exact ul0|exact ul1 rfl|exact ul2 rfl rfl|exact ul3 rfl rfl rfl))
    conv => whnf
    repeat((conv=>whnf);first|((with_reducible refine qS ?_ ?_ ?_);exact rfl;exact rfl)|with_reducible refine qB ?_|((with_reducible refine qI ?_ ?_);omega)|((with_reducible refine qDT ?_ ?_);omega)|((with_reducible refine qDF ?_ ?_);omega)|((with_reducible refine qNT ?_ ?_);omega)|((with_reducible refine qNF ?_ ?_);omega)|((with_reducible refine qU8 ?_ ?_);omega)|((with_reducible refine qU32 ?_ ?_);omega)|((with_reducible refine qU64 ?_ ?_);omega)|((with_reducible refine qU16 ?_ ?_);omega))
    conv => whnf
    refine Trim.fam 0 (Nat.le_refl _) ?_
    refine Le.nm [0, 1, 2] rfl ?_ ?_
    · repeat'(first|exact leT_empty|exact trivial|exact rfl|exact .inl rfl|exact .inr rfl|exact .inr ⟨rfl,rfl⟩|exact Nat.le_refl _|exact Nat.zero_le _|exact fun _ _=>rfl|assumption|refine And.intro ?_ ?_|exact ul0|exact ul1 rfl|exact ul2 rfl rfl|exact ul3 rfl rfl rfl)
    · repeat'(first|exact leT_empty|exact trivial|exact rfl|exact .inl rfl|exact .inr rfl|exact .inr ⟨rfl,rfl⟩|exact Nat.le_refl _|exact Nat.zero_le _|exact fun _ _=>rfl|assumption|refine And.intro ?_ ?_|exact ul0|exact ul1 rfl|exact ul2 rfl rfl|exact ul3 rfl rfl rfl)
  repeat((conv=>whnf);first|((with_reducible refine qS ?_ ?_ ?_);exact rfl;exact rfl)|with_reducible refine qB ?_|((with_reducible refine qI ?_ ?_);omega)|((with_reducible refine qDT ?_ ?_);omega)|((with_reducible refine qDF ?_ ?_);omega)|((with_reducible refine qNT ?_ ?_);omega)|((with_reducible refine qNF ?_ ?_);omega)|((with_reducible refine qU8 ?_ ?_);omega)|((with_reducible refine qU32 ?_ ?_);omega)|((with_reducible refine qU64 ?_ ?_);omega)|((with_reducible refine qU16 ?_ ?_);omega))
  conv => whnf
  refine .inv (fun p : Nat × Nat × List Sn => p.1 ≤ w + 1 ∧ p.2.2 = btsL m W p.1 ∧ p.2.2.length ≤ p.2.1) (fun p => [(5, outN 5 p.2.2.length p.2.1), (13, iv .i64 p.1)]) (fun p => matH m (boxW m c :: rowW W (w + 1) fc :: rowsN p.2.2 p.2.2.length p.2.1)) (fun p => w + 1 - p.1) (0, 0, []) ⟨Nat.zero_le _, rfl, Nat.le_refl _⟩ ?_ (fun p ⟨hi, ho, hc⟩ => ?_)
  · conv => whnf
    refine Le.id rfl ?_ ?_
    all_goals(repeat'(first|exact leT_empty|exact trivial|exact rfl|exact .inl rfl|exact .inr rfl|exact .inr ⟨rfl,rfl⟩|exact Nat.le_refl _|exact Nat.zero_le _|exact fun _ _=>rfl|assumption|refine And.intro ?_ ?_|exact ul0|exact ul1 rfl|exact ul2 rfl rfl|exact ul3 rfl rfl rfl))
  have hlen := btsL_len m W p.1
  generalize p.1 = i at *
  generalize p.2.1 = cap at *
  generalize p.2.2 = O at *
  obtain ⟨k, hk⟩ : ∃ k, O.length = k := ⟨_, rfl⟩
  rw [← ho] at hlen
  rw [hk] at hlen hc ⊢
  rcases k with _ | k
  · conv => whnf
    refine cD (fun h5 => ?_) (fun h5 => ?_)
    rotate_left
    · obtain rfl : i = w + 1 := by omega
      repeat((conv=>whnf);first|((with_reducible refine qS ?_ ?_ ?_);exact rfl;exact rfl)|with_reducible refine qB ?_|((with_reducible refine qI ?_ ?_);omega)|((with_reducible refine qDT ?_ ?_);omega)|((with_reducible refine qDF ?_ ?_);omega)|((with_reducible refine qNT ?_ ?_);omega)|((with_reducible refine qNF ?_ ?_);omega)|((with_reducible refine qU8 ?_ ?_);omega)|((with_reducible refine qU32 ?_ ?_);omega)|((with_reducible refine qU64 ?_ ?_);omega)|((with_reducible refine qU16 ?_ ?_);omega))
      conv => whnf
      refine Trim.fam cap (by rw [← ho, hk]; exact hc) ?_
      rw [← ho, hk]
      refine Le.nm [0, 1, 2] rfl ?_ ?_
      · repeat'(first|exact leT_empty|exact trivial|exact rfl|exact .inl rfl|exact .inr rfl|exact .inr ⟨rfl,rfl⟩|exact Nat.le_refl _|exact Nat.zero_le _|exact fun _ _=>rfl|assumption|refine And.intro ?_ ?_|exact ul0|exact ul1 rfl|exact ul2 rfl rfl|exact ul3 rfl rfl rfl)
      · repeat'(first|exact leT_empty|exact trivial|exact rfl|exact .inl rfl|exact .inr rfl|exact .inr ⟨rfl,rfl⟩|exact Nat.le_refl _|exact Nat.zero_le _|exact fun _ _=>rfl|assumption|refine And.intro ?_ ?_|exact ul0|exact ul1 rfl|exact ul2 rfl rfl|exact ul3 rfl rfl rfl)
    have ew : btsL m W (i + 1) = if btB m (gs W i) then btsL m W i ++ [gs W i] else btsL m W i := rfl
    rw [← ho] at ew
    have hfi := hf i
    repeat((conv=>whnf);first|((with_reducible refine qS ?_ ?_ ?_);exact rfl;exact rfl)|with_reducible refine qB ?_|((with_reducible refine qI ?_ ?_);omega)|((with_reducible refine qDT ?_ ?_);omega)|((with_reducible refine qDF ?_ ?_);omega)|((with_reducible refine qNT ?_ ?_);omega)|((with_reducible refine qNF ?_ ?_);omega)|((with_reducible refine qU8 ?_ ?_);omega)|((with_reducible refine qU32 ?_ ?_);omega)|((with_reducible refine qU64 ?_ ?_);omega)|((with_reducible refine qU16 ?_ ?_);omega))
    conv => whnf
    rw [show 0 + ((i : Int)).toNat = i by omega]
    generalize gs W i = x at *
    refine bt_use (f := x.f) hm hn hfi ?_
    have eb : btB m x = (btOk m x.f && decide (x.e = 0)) := rfl
    cases hok : btOk m x.f
    · rw [hok, Bool.false_and] at eb
      rw [eb, if_neg (by simp)] at ew
      repeat((conv=>whnf);first|((with_reducible refine qS ?_ ?_ ?_);exact rfl;exact rfl)|with_reducible refine qB ?_|((with_reducible refine qI ?_ ?_);omega)|((with_reducible refine qDT ?_ ?_);omega)|((with_reducible refine qDF ?_ ?_);omega)|((with_reducible refine qNT ?_ ?_);omega)|((with_reducible refine qNF ?_ ?_);omega)|((with_reducible refine qU8 ?_ ?_);omega)|((with_reducible refine qU32 ?_ ?_);omega)|((with_reducible refine qU64 ?_ ?_);omega)|((with_reducible refine qU16 ?_ ?_);omega))
      conv => whnf
      rw [hok]
      repeat((conv=>whnf);first|((with_reducible refine qS ?_ ?_ ?_);exact rfl;exact rfl)|with_reducible refine qB ?_|((with_reducible refine qI ?_ ?_);omega)|((with_reducible refine qDT ?_ ?_);omega)|((with_reducible refine qDF ?_ ?_);omega)|((with_reducible refine qNT ?_ ?_);omega)|((with_reducible refine qNF ?_ ?_);omega)|((with_reducible refine qU8 ?_ ?_);omega)|((with_reducible refine qU32 ?_ ?_);omega)|((with_reducible refine qU64 ?_ ?_);omega)|((with_reducible refine qU16 ?_ ?_);omega))
      conv => whnf
      refine ⟨(i + 1, cap, O), ⟨⟨by show i + 1 ≤ w + 1; omega, by show O = btsL m W (i + 1); rw [ew], by show O.length ≤ cap; omega⟩, by show w + 1 - (i + 1) < w + 1 - i; omega⟩, ?_⟩
      dsimp only
      rw [hk]
      conv => whnf
      refine Le.nm [0, 1, 2, 3, 4] rfl ?_ ?_
      · repeat'(first|exact leT_empty|exact trivial|exact rfl|exact .inl rfl|exact .inr rfl|exact .inr ⟨rfl,rfl⟩|exact Nat.le_refl _|exact Nat.zero_le _|exact fun _ _=>rfl|assumption|refine And.intro ?_ ?_|exact ul0|exact ul1 rfl|exact ul2 rfl rfl|exact ul3 rfl rfl rfl)
      · repeat'(first|exact leT_empty|exact trivial|exact rfl|exact .inl rfl|exact .inr rfl|exact .inr ⟨rfl,rfl⟩|exact Nat.le_refl _|exact Nat.zero_le _|exact fun _ _=>rfl|assumption|refine And.intro ?_ ?_|exact ul0|exact ul1 rfl|exact ul2 rfl rfl|exact ul3 rfl rfl rfl)
    rw [hok, Bool.true_and] at eb
    by_cases he : x.e = 0
    rotate_left
    · rw [eb, if_neg (by simp [he])] at ew
      repeat((conv=>whnf);first|((with_reducible refine qS ?_ ?_ ?_);exact rfl;exact rfl)|with_reducible refine qB ?_|((with_reducible refine qI ?_ ?_);omega)|((with_reducible refine qDT ?_ ?_);omega)|((with_reducible refine qDF ?_ ?_);omega)|((with_reducible refine qNT ?_ ?_);omega)|((with_reducible refine qNF ?_ ?_);omega)|((with_reducible refine qU8 ?_ ?_);omega)|((with_reducible refine qU32 ?_ ?_);omega)|((with_reducible refine qU64 ?_ ?_);omega)|((with_reducible refine qU16 ?_ ?_);omega))
      conv => whnf
      rw [hok]
      repeat((conv=>whnf);first|((with_reducible refine qS ?_ ?_ ?_);exact rfl;exact rfl)|with_reducible refine qB ?_|((with_reducible refine qI ?_ ?_);omega)|((with_reducible refine qDT ?_ ?_);omega)|((with_reducible refine qDF ?_ ?_);omega)|((with_reducible refine qNT ?_ ?_);omega)|((with_reducible refine qNF ?_ ?_);omega)|((with_reducible refine qU8 ?_ ?_);omega)|((with_reducible refine qU32 ?_ ?_);omega)|((with_reducible refine qU64 ?_ ?_);omega)|((with_reducible refine qU16 ?_ ?_);omega))
      conv => whnf
      refine ⟨(i + 1, cap, O), ⟨⟨by show i + 1 ≤ w + 1; omega, by show O = btsL m W (i + 1); rw [ew], by show O.length ≤ cap; omega⟩, by show w + 1 - (i + 1) < w + 1 - i; omega⟩, ?_⟩
      dsimp only
      rw [hk]
      conv => whnf
      refine Le.nm [0, 1, 2, 3, 4] rfl ?_ ?_
      · repeat'(first|exact leT_empty|exact trivial|exact rfl|exact .inl rfl|exact .inr rfl|exact .inr ⟨rfl,rfl⟩|exact Nat.le_refl _|exact Nat.zero_le _|exact fun _ _=>rfl|assumption|refine And.intro ?_ ?_|exact ul0|exact ul1 rfl|exact ul2 rfl rfl|exact ul3 rfl rfl rfl)
      · repeat'(first|exact leT_empty|exact trivial|exact rfl|exact .inl rfl|exact .inr rfl|exact .inr ⟨rfl,rfl⟩|exact Nat.le_refl _|exact Nat.zero_le _|exact fun _ _=>rfl|assumption|refine And.intro ?_ ?_|exact ul0|exact ul1 rfl|exact ul2 rfl rfl|exact ul3 rfl rfl rfl)
    rw [eb, if_pos (decide_eq_true he)] at ew
    have el : (O ++ [x]).length = 0 + 1 := by rw [List.length_append, hk]; rfl
    repeat((conv=>whnf);first|((with_reducible refine qS ?_ ?_ ?_);exact rfl;exact rfl)|with_reducible refine qB ?_|((with_reducible refine qI ?_ ?_);omega)|((with_reducible refine qDT ?_ ?_);omega)|((with_reducible refine qDF ?_ ?_);omega)|((with_reducible refine qNT ?_ ?_);omega)|((with_reducible refine qNF ?_ ?_);omega)|((with_reducible refine qU8 ?_ ?_);omega)|((with_reducible refine qU32 ?_ ?_);omega)|((with_reducible refine qU64 ?_ ?_);omega)|((with_reducible refine qU16 ?_ ?_);omega))
    conv => whnf
    rw [hok]
    repeat((conv=>whnf);first|((with_reducible refine qS ?_ ?_ ?_);exact rfl;exact rfl)|with_reducible refine qB ?_|((with_reducible refine qI ?_ ?_);omega)|((with_reducible refine qDT ?_ ?_);omega)|((with_reducible refine qDF ?_ ?_);omega)|((with_reducible refine qNT ?_ ?_);omega)|((with_reducible refine qNF ?_ ?_);omega)|((with_reducible refine qU8 ?_ ?_);omega)|((with_reducible refine qU32 ?_ ?_);omega)|((with_reducible refine qU64 ?_ ?_);omega)|((with_reducible refine qU16 ?_ ?_);omega))
    conv => whnf
    skip
    intro cap' hc'
    repeat((conv=>whnf);first|((with_reducible refine qS ?_ ?_ ?_);exact rfl;exact rfl)|with_reducible refine qB ?_|((with_reducible refine qI ?_ ?_);omega)|((with_reducible refine qDT ?_ ?_);omega)|((with_reducible refine qDF ?_ ?_);omega)|((with_reducible refine qNT ?_ ?_);omega)|((with_reducible refine qNF ?_ ?_);omega)|((with_reducible refine qU8 ?_ ?_);omega)|((with_reducible refine qU32 ?_ ?_);omega)|((with_reducible refine qU64 ?_ ?_);omega)|((with_reducible refine qU16 ?_ ?_);omega))
    conv => whnf
    refine ⟨(i + 1, cap', O ++ [x]), ⟨⟨by show i + 1 ≤ w + 1; omega, by show O ++ [x] = btsL m W (i + 1); rw [ew], by show (O ++ [x]).length ≤ cap'; rw [el]; exact hc'⟩, by show w + 1 - (i + 1) < w + 1 - i; omega⟩, ?_⟩
    dsimp only
    rw [el]
    conv => whnf
    refine Le.nm [0, 1, 2, 3, 4, 8] rfl ?_ ?_
    · refine ⟨⟨.inl rfl, Nat.le_refl _, fun _ _ => rfl⟩, ⟨.inl rfl, Nat.le_refl _, fun _ _ => rfl⟩, ⟨.inl rfl, Nat.le_refl _, fun _ _ => rfl⟩, ?_, ⟨rfl, rfl, rfl, fun _ _ => rfl⟩, ⟨rfl, rfl, rfl, fun q hq => ?_⟩, trivial⟩
      · repeat'(first|exact leT_empty|exact trivial|exact rfl|exact .inl rfl|exact .inr rfl|exact .inr ⟨rfl,rfl⟩|exact Nat.le_refl _|exact Nat.zero_le _|exact fun _ _=>rfl|assumption|refine And.intro ?_ ?_|exact ul0|exact ul1 rfl|exact ul2 rfl rfl|exact ul3 rfl rfl rfl)
      · exact app0n (c := x) hk hq
    · repeat'(first|exact leT_empty|exact trivial|exact rfl|exact .inl rfl|exact .inr rfl|exact .inr ⟨rfl,rfl⟩|exact Nat.le_refl _|exact Nat.zero_le _|exact fun _ _=>rfl|assumption|refine And.intro ?_ ?_|exact ul0|exact ul1 rfl|exact ul2 rfl rfl|exact ul3 rfl rfl rfl)
  · conv => whnf
    refine cD (fun h5 => ?_) (fun h5 => ?_)
    rotate_left
    · obtain rfl : i = w + 1 := by omega
      repeat((conv=>whnf);first|((with_reducible refine qS ?_ ?_ ?_);exact rfl;exact rfl)|with_reducible refine qB ?_|((with_reducible refine qI ?_ ?_);omega)|((with_reducible refine qDT ?_ ?_);omega)|((with_reducible refine qDF ?_ ?_);omega)|((with_reducible refine qNT ?_ ?_);omega)|((with_reducible refine qNF ?_ ?_);omega)|((with_reducible refine qU8 ?_ ?_);omega)|((with_reducible refine qU32 ?_ ?_);omega)|((with_reducible refine qU64 ?_ ?_);omega)|((with_reducible refine qU16 ?_ ?_);omega))
      conv => whnf
      refine Trim.fam cap (by rw [← ho, hk]; exact hc) ?_
      rw [← ho, hk]
      refine Le.nm [0, 1, 2, 5] rfl ?_ ?_
      · repeat'(first|exact leT_empty|exact trivial|exact rfl|exact .inl rfl|exact .inr rfl|exact .inr ⟨rfl,rfl⟩|exact Nat.le_refl _|exact Nat.zero_le _|exact fun _ _=>rfl|assumption|refine And.intro ?_ ?_|exact ul0|exact ul1 rfl|exact ul2 rfl rfl|exact ul3 rfl rfl rfl)
      · repeat'(first|exact leT_empty|exact trivial|exact rfl|exact .inl rfl|exact .inr rfl|exact .inr ⟨rfl,rfl⟩|exact Nat.le_refl _|exact Nat.zero_le _|exact fun _ _=>rfl|assumption|refine And.intro ?_ ?_|exact ul0|exact ul1 rfl|exact ul2 rfl rfl|exact ul3 rfl rfl rfl)
    have ew : btsL m W (i + 1) = if btB m (gs W i) then btsL m W i ++ [gs W i] else btsL m W i := rfl
    rw [← ho] at ew
    have hfi := hf i
    repeat((conv=>whnf);first|((with_reducible refine qS ?_ ?_ ?_);exact rfl;exact rfl)|with_reducible refine qB ?_|((with_reducible refine qI ?_ ?_);omega)|((with_reducible refine qDT ?_ ?_);omega)|((with_reducible refine qDF ?_ ?_);omega)|((with_reducible refine qNT ?_ ?_);omega)|((with_reducible refine qNF ?_ ?_);omega)|((with_reducible refine qU8 ?_ ?_);omega)|((with_reducible refine qU32 ?_ ?_);omega)|((with_reducible refine qU64 ?_ ?_);omega)|((with_reducible refine qU16 ?_ ?_);omega))
    conv => whnf
    rw [show 0 + ((i : Int)).toNat = i by omega]
    generalize gs W i = x at *
    refine bt_use (f := x.f) hm hn hfi ?_
    have eb : btB m x = (btOk m x.f && decide (x.e = 0)) := rfl
    cases hok : btOk m x.f
    · rw [hok, Bool.false_and] at eb
      rw [eb, if_neg (by simp)] at ew
      repeat((conv=>whnf);first|((with_reducible refine qS ?_ ?_ ?_);exact rfl;exact rfl)|with_reducible refine qB ?_|((with_reducible refine qI ?_ ?_);omega)|((with_reducible refine qDT ?_ ?_);omega)|((with_reducible refine qDF ?_ ?_);omega)|((with_reducible refine qNT ?_ ?_);omega)|((with_reducible refine qNF ?_ ?_);omega)|((with_reducible refine qU8 ?_ ?_);omega)|((with_reducible refine qU32 ?_ ?_);omega)|((with_reducible refine qU64 ?_ ?_);omega)|((with_reducible refine qU16 ?_ ?_);omega))
      conv => whnf
      rw [hok]
      repeat((conv=>whnf);first|((with_reducible refine qS ?_ ?_ ?_);exact rfl;exact rfl)|with_reducible refine qB ?_|((with_reducible refine qI ?_ ?_);omega)|((with_reducible refine qDT ?_ ?_);omega)|((with_reducible refine qDF ?_ ?_);omega)|((with_reducible refine qNT ?_ ?_);omega)|((with_reducible refine qNF ?_ ?_);omega)|((with_reducible refine qU8 ?_ ?_);omega)|((with_reducible refine qU32 ?_ ?_);omega)|((with_reducible refine qU64 ?_ ?_);omega)|((with_reducible refine qU16 ?_ ?_);omega))
      conv => whnf
      refine ⟨(i + 1, cap, O), ⟨⟨by show i + 1 ≤ w + 1; omega, by show O = btsL m W (i + 1); rw [ew], by show O.length ≤ cap; omega⟩, by show w + 1 - (i + 1) < w + 1 - i; omega⟩, ?_⟩
      dsimp only
      rw [hk]
      conv => whnf
      refine Le.nm [0, 1, 2, 3, 4, 5] rfl ?_ ?_
      · repeat'(first|exact leT_empty|exact trivial|exact rfl|exact .inl rfl|exact .inr rfl|exact .inr ⟨rfl,rfl⟩|exact Nat.le_refl _|exact Nat.zero_le _|exact fun _ _=>rfl|assumption|refine And.intro ?_ ?_|exact ul0|exact ul1 rfl|exact ul2 rfl rfl|exact ul3 rfl rfl rfl)
      · repeat'(first|exact leT_empty|exact trivial|exact rfl|exact .inl rfl|exact .inr rfl|exact .inr ⟨rfl,rfl⟩|exact Nat.le_refl _|exact Nat.zero_le _|exact fun _ _=>rfl|assumption|refine And.intro ?_ ?_|exact ul0|exact ul1 rfl|exact ul2 rfl rfl|exact ul3 rfl rfl rfl)
    rw [hok, Bool.true_and] at eb
    by_cases he : x.e = 0
    rotate_left
    · rw [eb, if_neg (by simp [he])] at ew
      repeat((conv=>whnf);first|((with_reducible refine qS ?_ ?_ ?_);exact rfl;exact rfl)|with_reducible refine qB ?_|((with_reducible refine qI ?_ ?_);omega)|((with_reducible refine qDT ?_ ?_);omega)|((with_reducible refine qDF ?_ ?_);omega)|((with_reducible refine qNT ?_ ?_);omega)|((with_reducible refine qNF ?_ ?_);omega)|((with_reducible refine qU8 ?_ ?_);omega)|((with_reducible refine qU32 ?_ ?_);omega)|((with_reducible refine qU64 ?_ ?_);omega)|((with_reducible refine qU16 ?_ ?_);omega))
      conv => whnf
      rw [hok]
      repeat((conv=>whnf);first|((with_reducible refine qS ?_ ?_ ?_);exact rfl;exact rfl)|with_reducible refine qB ?_|((with_reducible refine qI ?_ ?_);omega)|((with_reducible refine qDT ?_ ?_);omega)|((with_reducible refine qDF ?_ ?_);omega)|((with_reducible refine qNT ?_ ?_);omega)|((with_reducible refine qNF ?_ ?_);omega)|((with_reducible refine qU8 ?_ ?_);omega)|((with_reducible refine qU32 ?_ ?_);omega)|((with_reducible refine qU64 ?_ ?_);omega)|((with_reducible refine qU16 ?_ ?_);omega))
      conv => whnf
      refine ⟨(i + 1, cap, O), ⟨⟨by show i + 1 ≤ w + 1; omega, by show O = btsL m W (i + 1); rw [ew], by show O.length ≤ cap; omega⟩, by show w + 1 - (i + 1) < w + 1 - i; omega⟩, ?_⟩
      dsimp only
      rw [hk]
      conv => whnf
      refine Le.nm [0, 1, 2, 3, 4, 5] rfl ?_ ?_
      · repeat'(first|exact leT_empty|exact trivial|exact rfl|exact .inl rfl|exact .inr rfl|exact .inr ⟨rfl,rfl⟩|exact Nat.le_refl _|exact Nat.zero_le _|exact fun _ _=>rfl|assumption|refine And.intro ?_ ?_|exact ul0|exact ul1 rfl|exact ul2 rfl rfl|exact ul3 rfl rfl rfl)
      · repeat'(first|exact leT_empty|exact trivial|exact rfl|exact .inl rfl|exact .inr rfl|exact .inr ⟨rfl,rfl⟩|exact Nat.le_refl _|exact Nat.zero_le _|exact fun _ _=>rfl|assumption|refine And.intro ?_ ?_|exact ul0|exact ul1 rfl|exact ul2 rfl rfl|exact ul3 rfl rfl rfl)
    rw [eb, if_pos (decide_eq_true he)] at ew
    have el : (O ++ [x]).length = (k + 1) + 1 := by rw [List.length_append, hk]; rfl
    repeat((conv=>whnf);first|((with_reducible refine qS ?_ ?_ ?_);exact rfl;exact rfl)|with_reducible refine qB ?_|((with_reducible refine qI ?_ ?_);omega)|((with_reducible refine qDT ?_ ?_);omega)|((with_reducible refine qDF ?_ ?_);omega)|((with_reducible refine qNT ?_ ?_);omega)|((with_reducible refine qNF ?_ ?_);omega)|((with_reducible refine qU8 ?_ ?_);omega)|((with_reducible refine qU32 ?_ ?_);omega)|((with_reducible refine qU64 ?_ ?_);omega)|((with_reducible refine qU16 ?_ ?_);omega))
    conv => whnf
    rw [hok]
    repeat((conv=>whnf);first|((with_reducible refine qS ?_ ?_ ?_);exact rfl;exact rfl)|with_reducible refine qB ?_|((with_reducible refine qI ?_ ?_);omega)|((with_reducible refine qDT ?_ ?_);omega)|((with_reducible refine qDF ?_ ?_);omega)|((with_reducible refine qNT ?_ ?_);omega)|((with_reducible refine qNF ?_ ?_);omega)|((with_reducible refine qU8 ?_ ?_);omega)|((with_reducible refine qU32 ?_ ?_);omega)|((with_reducible refine qU64 ?_ ?_);omega)|((with_reducible refine qU16 ?_ ?_);omega))
    conv => whnf
    refine cT (decide_eq_true (by show (k + 1 + 1) * 56 ≤ 1099511627776; omega)) ?_
    repeat((conv=>whnf);first|((with_reducible refine qS ?_ ?_ ?_);exact rfl;exact rfl)|with_reducible refine qB ?_|((with_reducible refine qI ?_ ?_);omega)|((with_reducible refine qDT ?_ ?_);omega)|((with_reducible refine qDF ?_ ?_);omega)|((with_reducible refine qNT ?_ ?_);omega)|((with_reducible refine qNF ?_ ?_);omega)|((with_reducible refine qU8 ?_ ?_);omega)|((with_reducible refine qU32 ?_ ?_);omega)|((with_reducible refine qU64 ?_ ?_);omega)|((with_reducible refine qU16 ?_ ?_);omega))
    conv => whnf
    intro cap' hc'
    repeat((conv=>whnf);first|((with_reducible refine qS ?_ ?_ ?_);exact rfl;exact rfl)|with_reducible refine qB ?_|((with_reducible refine qI ?_ ?_);omega)|((with_reducible refine qDT ?_ ?_);omega)|((with_reducible refine qDF ?_ ?_);omega)|((with_reducible refine qNT ?_ ?_);omega)|((with_reducible refine qNF ?_ ?_);omega)|((with_reducible refine qU8 ?_ ?_);omega)|((with_reducible refine qU32 ?_ ?_);omega)|((with_reducible refine qU64 ?_ ?_);omega)|((with_reducible refine qU16 ?_ ?_);omega))
    conv => whnf
    refine ⟨(i + 1, cap', O ++ [x]), ⟨⟨by show i + 1 ≤ w + 1; omega, by show O ++ [x] = btsL m W (i + 1); rw [ew], by show (O ++ [x]).length ≤ cap'; rw [el]; exact hc'⟩, by show w + 1 - (i + 1) < w + 1 - i; omega⟩, ?_⟩
    dsimp only
    rw [el]
    conv => whnf
    refine Le.nm [0, 1, 2, 3, 4, 9] rfl ?_ ?_
    · refine ⟨⟨.inl rfl, Nat.le_refl _, fun _ _ => rfl⟩, ⟨.inl rfl, Nat.le_refl _, fun _ _ => rfl⟩, ⟨.inl rfl, Nat.le_refl _, fun _ _ => rfl⟩, ?_, ⟨rfl, rfl, rfl, fun _ _ => rfl⟩, ⟨rfl, rfl, rfl, fun q hq => ?_⟩, trivial⟩
      · repeat'(first|exact leT_empty|exact trivial|exact rfl|exact .inl rfl|exact .inr rfl|exact .inr ⟨rfl,rfl⟩|exact Nat.le_refl _|exact Nat.zero_le _|exact fun _ _=>rfl|assumption|refine And.intro ?_ ?_|exact ul0|exact ul1 rfl|exact ul2 rfl rfl|exact ul3 rfl rfl rfl)
      · exact appn (c := x) (n := k + 1) hk hq
    · repeat'(first|exact leT_empty|exact trivial|exact rfl|exact .inl rfl|exact .inr rfl|exact .inr ⟨rfl,rfl⟩|exact Nat.le_refl _|exact Nat.zero_le _|exact fun _ _=>rfl|assumption|refine And.intro ?_ ?_|exact ul0|exact ul1 rfl|exact ul2 rfl rfl|exact ul3 rfl rfl rfl)
abbrev bsC : Con (Mat × Caps × ByteArray × List Sn) := FamCon (β := Nat) (fun p => [matT p.1 p.2.1 0 1 2, sv p.2.2.1]) (fun p => matH p.1 []) (fun p => p.1.Ok ∧ p.1.nM ≤ 1000 ∧ p.2.2.1.size ≤ 4000 ∧ Fr (rd p.2.2.1) 0 p.2.2.2 ∧ p.2.2.2.length ≤ 4000 ∧ ∀ q, FIn (gs p.2.2.2 q).f) (fun p q => (btsL p.1 p.2.2.2 p.2.2.2.length).length ≤ q) (fun p q => outN 3 (btsL p.1 p.2.2.2 p.2.2.2.length).length q) (fun p q => matH p.1 (rowsN (btsL p.1 p.2.2.2 p.2.2.2.length) (btsL p.1 p.2.2.2 p.2.2.2.length).length q))
theorem bs_ok : ConOk Tryd.prog F.watch_Beats bsC := con_of_run (clRunX_ok (d := 7) ttOk outsBs_ok tabBs_ok 2) (fn_enters (ok.watch_Beats (D := 7) u0 _ (clRunX_ok (d := 7) ttOk .nil TabOk.nil 1))) fun p hp => bs_run p.1 p.2.1 p.2.2.1 p.2.2.2 hp.1 hp.2.1 hp.2.2.1 hp.2.2.2.1 hp.2.2.2.2.1 hp.2.2.2.2.2
theorem bs_ask {m : Mat} {c : Caps} {s : ByteArray} {W : List Sn} (l : List Nat) {xs : List R} {h : Heap} {K : R → Heap → Prop} (D : List Sn) (hD : btsL m W W.length = D) (hm : m.Ok) (hn : m.nM ≤ 1000) (hs : s.size ≤ 4000) (hW : Fr (rd s) 0 W) (hl : W.length ≤ 4000) (hf : ∀ q, FIn (gs W q).f)
    (hb : ((matH m []).all obB && sepB l (matH m [])) = true) (hH : leH (sig h l) h l (matH m [])) (hX : leXs 3 (sig h l) xs [matT m c 0 1 2, sv s])
    (hk : ∀ q, D.length ≤ q → K (renR (back h (matH m []) l) (outN 3 D.length q)) (mrg (back h (matH m []) l) h l (matH m []) (matH m (rowsN D D.length q)))) : AskC bsC xs h K := by
  refine ⟨(m, c, s, W), l, ⟨hm, hn, hs, hW, hl, hf⟩, hb, hH, hX, fun x h'' hq => ?_⟩
  obtain ⟨q, hq, e1, e2⟩ := hq
  have e1 : x = outN 3 (btsL m W W.length).length q := e1
  have e2 : h'' = matH m (rowsN (btsL m W W.length) (btsL m W W.length).length q) := e2
  have hq : (btsL m W W.length).length ≤ q := hq
  rw [hD] at e1 e2 hq
  subst e1; subst e2
  exact hk q hq
end Go.Proofs.YtdeaigaafdnehaaDoor.Co
