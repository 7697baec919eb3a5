/- Contracts: the parts of the check. -/
import Derived.Test.YtbdifadabipfiaaCoF
namespace Go.Proofs.Ytbdifadabipfiaa.Co
open Go Go.Eng Go.Proofs Go.Proofs.Ytbdifadabipfiaa.Tb Go.Pu
set_option maxRecDepth 100000
set_option maxHeartbeats 8000000
def pairR (p : Int × Int) : R := .tup [.one (iC p.1), .one (iC p.2)]
/-! ### Index, Contains -/
structure SlI where
  N : Nat
  n : Nat
  cap : Nat
  nl : Bool
  f : Nat → Int
abbrev sliX (s : SlI) : R := .t (.one (.slc 0 0 1 0 s.n s.cap s.nl))
abbrev sliH (s : SlI) : Heap := [.ob (.ro 1 s.N fun i => [iC (s.f i)])]
theorem trimI {s : SlI} {x F : R} {g : Heap} (hp : plR x = true) (e : x = F) : Trim 1 x (.ob (.ro 1 s.N fun i => [iC (s.f i)]) :: g) (fun x h => x = F ∧ h = sliH s) :=
  .ro (h' := sliH s) ⟨⟨[0], rfl, ⟨⟨.inl rfl, Nat.le_refl _, fun _ _ => rfl⟩, trivial⟩, by show leR _ x x; unfold leR; cases x <;> first | trivial | exact (plR_ren hp).symm⟩⟩ ⟨e, rfl⟩
abbrev indexC : Con (SlI × Int) := RoCon (fun p => [sliX p.1, iv .i64 p.2]) (fun p => sliH p.1) (fun p => p.1.n ≤ p.1.N ∧ p.1.N ≤ 9223372036854775807) fun p => iv .i64 (first p.1.n fun i => decide (p.2 = p.1.f i))
noncomputable abbrev tabIx : List (FuncId × Eng.Fn) := [(F.slices_Index_int, fn.slices_Index_int u0)]
theorem tabIx_ok {d : Nat} : TabOk d tabIx tt := .cons (ok.slices_Index_int u0) (TabOk.nil)
theorem index_run (s : SlI) (v : Int) (hs : s.n ≤ s.N ∧ s.N ≤ 9223372036854775807) : clRunX 5 tt outs0 tabIx 2 F.slices_Index_int [] [sliX s, iv .i64 v] (sliH s) (fun x h => Trim 1 x h fun x h => x = iv .i64 (first s.n fun i => decide (v = s.f i)) ∧ h = sliH s) := by
  conv => whnf
  refine .rd (fun i : Nat => i ≤ s.n ∧ ∀ j, j < i → ¬ v = s.f j) (fun i => [(8, iv .i64 i)]) (fun i => s.n - i) 0 ⟨Nat.zero_le _, all_0⟩ ?_ (fun i ⟨hi, hp⟩ => ?_)
  · conv=>whnf
    refine Le.id rfl ?_ ?_<;>repeat'(first|exact leT_empty|exact trivial|exact rfl|exact fun _ _=>rfl|exact .inl rfl|exact Nat.le_refl _|refine And.intro ?_ ?_)
  conv => whnf
  refine cD (fun h5 => ?_) (fun h5 => ?_)
  · repeat((conv=>whnf);first|((with_reducible refine qS ?_ ?_ ?_);exact rfl;exact rfl)|with_reducible refine qB ?_|((with_reducible refine qI ?_ ?_);omega)|((with_reducible refine qDT ?_ ?_);omega)|((with_reducible refine qDF ?_ ?_);omega)|((with_reducible refine qNT ?_ ?_);omega)|((with_reducible refine qNF ?_ ?_);omega)|((with_reducible refine qU8 ?_ ?_);omega)|((with_reducible refine qU32 ?_ ?_);omega)|((with_reducible refine qU64 ?_ ?_);omega)|((with_reducible refine qU16 ?_ ?_);omega))
    conv => whnf
    try rw [zi i]
    refine cD (fun h6 => ?_) (fun h6 => ?_)
    · conv => whnf
      exact trimI rfl (congrArg (iv .i64) (first_some (by omega) (fun q hq => decide_eq_false (hp q hq)) (decide_eq_true h6)).symm)
    · repeat((conv=>whnf);first|((with_reducible refine qS ?_ ?_ ?_);exact rfl;exact rfl)|with_reducible refine qB ?_|((with_reducible refine qI ?_ ?_);omega)|((with_reducible refine qDT ?_ ?_);omega)|((with_reducible refine qDF ?_ ?_);omega)|((with_reducible refine qNT ?_ ?_);omega)|((with_reducible refine qNF ?_ ?_);omega)|((with_reducible refine qU8 ?_ ?_);omega)|((with_reducible refine qU32 ?_ ?_);omega)|((with_reducible refine qU64 ?_ ?_);omega)|((with_reducible refine qU16 ?_ ?_);omega))
      conv => whnf
      refine ⟨i + 1, ⟨⟨by omega, all_up hp h6⟩, by omega⟩, ?_⟩
      conv=>whnf
      refine Le.id rfl ?_ ?_<;>repeat'(first|exact leT_empty|exact trivial|exact rfl|exact fun _ _=>rfl|exact .inl rfl|exact Nat.le_refl _|refine And.intro ?_ ?_)
  obtain rfl : i = s.n := by omega
  conv => whnf
  exact trimI rfl (congrArg (iv .i64) (first_none fun j hj => decide_eq_false (hp j hj)).symm)
theorem index_ok : ConOk Try.prog F.slices_Index_int indexC := con_of_run (clRunX_ok (d := 5) ttOk outs0_ok tabIx_ok 2) (fn_enters (ok.slices_Index_int (D := 5) u0 _ (clRunX_ok (d := 5) ttOk .nil TabOk.nil 1))) fun p hp => index_run p.1 p.2 hp
theorem index_use {N n cap : Nat} {nl : Bool} {f : Nat → Int} {v : Int} {a : Nat} {h : Heap} {K : R → Heap → Prop} (hs : n ≤ N ∧ N ≤ 9223372036854775807) (hH : leH (sig h [a]) h [a] (sliH ⟨N, n, cap, nl, f⟩)) (hk : K (iv .i64 (first n fun i => decide (v = f i))) h) : AskC indexC [.t (.one (.slc a 0 1 0 n cap nl)), iv .i64 v] h K :=
  .use (⟨N, n, cap, nl, f⟩, v) [a] hs rfl hH ⟨.inl rfl, .inl rfl, trivial⟩ hk
abbrev containsC : Con (SlI × Int) := RoCon (fun p => [sliX p.1, iv .i64 p.2]) (fun p => sliH p.1) (fun p => p.1.n ≤ p.1.N ∧ p.1.N ≤ 9223372036854775807) fun p => bv (anyB p.1.n fun i => decide (p.2 = p.1.f i))
theorem contains_use {N n cap : Nat} {nl : Bool} {f : Nat → Int} {v : Int} {a : Nat} {h : Heap} {K : R → Heap → Prop} (hs : n ≤ N ∧ N ≤ 9223372036854775807) (hH : leH (sig h [a]) h [a] (sliH ⟨N, n, cap, nl, f⟩)) (hk : K (bv (anyB n fun i => decide (v = f i))) h) : AskC containsC [.t (.one (.slc a 0 1 0 n cap nl)), iv .i64 v] h K :=
  .use (⟨N, n, cap, nl, f⟩, v) [a] hs rfl hH ⟨.inl rfl, .inl rfl, trivial⟩ hk
abbrev outsIx : List (FuncId × Cx) := [(F.slices_Index_int, AskC indexC)]
theorem outsIx_ok : OutsOk Try.prog outsIx := .cons (ask_ok index_ok) .nil
theorem first_any (n : Nat) (p : Nat → Bool) : decide (0 ≤ first n p) = anyB n p := by
  rcases first_cases n p with ⟨h1, h2⟩ | ⟨j, h1, h2, h3, _⟩
  · rw [h1, anyB_false.2 h2]; rfl
  · rw [h2, anyB_iff.2 ⟨j, h1, h3⟩]; exact decide_eq_true (by omega)
noncomputable abbrev tabCn : List (FuncId × Eng.Fn) := [(F.slices_Contains_int, fn.slices_Contains_int u0)]
theorem tabCn_ok {d : Nat} : TabOk d tabCn tt := .cons (ok.slices_Contains_int u0) (TabOk.nil)
theorem contains_run (s : SlI) (v : Int) (hs : s.n ≤ s.N ∧ s.N ≤ 9223372036854775807) : clRunX 4 tt outsIx tabCn 2 F.slices_Contains_int [] [sliX s, iv .i64 v] (sliH s) (fun x h => Trim 1 x h fun x h => x = bv (anyB s.n fun i => decide (v = s.f i)) ∧ h = sliH s) := by
  conv => whnf
  refine index_use (N := s.N) (f := s.f) hs ⟨⟨.inl rfl, Nat.le_refl _, fun _ _ => rfl⟩, trivial⟩ ?_
  conv => whnf
  exact trimI rfl (congrArg bv (first_any _ _))
theorem contains_ok : ConOk Try.prog F.slices_Contains_int containsC := con_of_run (clRunX_ok (d := 4) ttOk outsIx_ok tabCn_ok 2) (fn_enters (ok.slices_Contains_int (D := 4) u0 _ (clRunX_ok (d := 4) ttOk .nil TabOk.nil 1))) fun p hp => contains_run p.1 p.2 hp
/-! ### who -/
abbrev whoC : Con (Mat × Caps) := RoCon (fun p => [matT p.1 p.2 0 1 2]) (fun p => matH p.1 []) (fun p => p.1.Ok) fun p => pairR (chkO p.1)
theorem who_use {m : Mat} {c : Caps} {rest : Heap} {K : R → Heap → Prop} (hm : m.Ok) (hk : K (pairR (chkO m)) (matH m rest)) : AskC whoC [matT m c 0 1 2] (matH m rest) K :=
  .use (m, c) [0, 1, 2] hm rfl (mat_le m rest) ⟨mat_lx m c rest, trivial⟩ hk
noncomputable abbrev tabWh : List (FuncId × Eng.Fn) := [(F.check_who, fn.check_who u0), (F.check_who_1, fn.check_who_1 u0), (F.check_who_2, fn.check_who_2 u0), (F.slices_IndexFunc_int, fn.slices_IndexFunc_int u0), (F.slices_IndexFunc_Message, fn.slices_IndexFunc_Message u0)]
theorem tabWh_ok {d : Nat} : TabOk d tabWh tt := .cons (ok.check_who u0) (.cons (ok.check_who_1 u0) (.cons (ok.check_who_2 u0) (.cons (ok.slices_IndexFunc_int u0) (.cons (ok.slices_IndexFunc_Message u0) (TabOk.nil)))))
theorem who_run (m : Mat) (c : Caps) (hm : m.Ok) : clRunX 5 tt outs0 tabWh 4 F.check_who [] [matT m c 0 1 2] (matH m []) (fun x h => Trim 3 x h fun x h => x = pairR (chkO m) ∧ h = matH m []) := by
  have hnM := hm.nM
  have hnG := hm.nG
  conv => whnf
  refine .rd (fun i : Nat => i ≤ m.nM ∧ ∀ j, j < i → ¬ m.nodes ≤ m.M j) (fun i => [(8, iv .i64 i)]) (fun i => m.nM - i) 0 ⟨Nat.zero_le _, all_0⟩ ?_ (fun i ⟨hi, hp⟩ => ?_)
  · conv=>whnf
    refine Le.id rfl ?_ ?_<;>repeat'(first|exact leT_empty|exact trivial|exact rfl|exact fun _ _=>rfl|exact .inl rfl|exact Nat.le_refl _|refine And.intro ?_ ?_)
  conv => whnf
  refine cD (fun h5 => ?_) (fun h5 => ?_)
  · repeat((conv=>whnf);first|((with_reducible refine qS ?_ ?_ ?_);exact rfl;exact rfl)|with_reducible refine qB ?_|((with_reducible refine qI ?_ ?_);omega)|((with_reducible refine qDT ?_ ?_);omega)|((with_reducible refine qDF ?_ ?_);omega)|((with_reducible refine qNT ?_ ?_);omega)|((with_reducible refine qNF ?_ ?_);omega)|((with_reducible refine qU8 ?_ ?_);omega)|((with_reducible refine qU32 ?_ ?_);omega)|((with_reducible refine qU64 ?_ ?_);omega)|((with_reducible refine qU16 ?_ ?_);omega))
    conv => whnf
    try rw [zi i]
    refine cD (fun h6 => ?_) (fun h6 => ?_)
    · repeat((conv=>whnf);first|((with_reducible refine qS ?_ ?_ ?_);exact rfl;exact rfl)|with_reducible refine qB ?_|((with_reducible refine qI ?_ ?_);omega)|((with_reducible refine qDT ?_ ?_);omega)|((with_reducible refine qDF ?_ ?_);omega)|((with_reducible refine qNT ?_ ?_);omega)|((with_reducible refine qNF ?_ ?_);omega)|((with_reducible refine qU8 ?_ ?_);omega)|((with_reducible refine qU32 ?_ ?_);omega)|((with_reducible refine qU64 ?_ ?_);omega)|((with_reducible refine qU16 ?_ ?_);omega))
      conv => whnf
      have e : first m.nM (fun i => decide (m.nodes ≤ m.M i)) = (i : Int) := first_some (by omega) (fun q hq => decide_eq_false (hp q hq)) (decide_eq_true h6)
      exact trimM rfl (congrArg pairR (by rw [chkO, e, Pu.pick, if_pos (by omega)]) : pairR ((i : Int), 141) = _)
    · repeat((conv=>whnf);first|((with_reducible refine qS ?_ ?_ ?_);exact rfl;exact rfl)|with_reducible refine qB ?_|((with_reducible refine qI ?_ ?_);omega)|((with_reducible refine qDT ?_ ?_);omega)|((with_reducible refine qDF ?_ ?_);omega)|((with_reducible refine qNT ?_ ?_);omega)|((with_reducible refine qNF ?_ ?_);omega)|((with_reducible refine qU8 ?_ ?_);omega)|((with_reducible refine qU32 ?_ ?_);omega)|((with_reducible refine qU64 ?_ ?_);omega)|((with_reducible refine qU16 ?_ ?_);omega))
      conv => whnf
      refine ⟨i + 1, ⟨⟨by omega, all_up hp h6⟩, by omega⟩, ?_⟩
      conv=>whnf
      refine Le.id rfl ?_ ?_<;>repeat'(first|exact leT_empty|exact trivial|exact rfl|exact fun _ _=>rfl|exact .inl rfl|exact Nat.le_refl _|refine And.intro ?_ ?_)
  obtain rfl : i = m.nM := by omega
  have e1 : first m.nM (fun i => decide (m.nodes ≤ m.M i)) = -1 := first_none fun j hj => decide_eq_false (hp j hj)
  repeat((conv=>whnf);first|((with_reducible refine qS ?_ ?_ ?_);exact rfl;exact rfl)|with_reducible refine qB ?_|((with_reducible refine qI ?_ ?_);omega)|((with_reducible refine qDT ?_ ?_);omega)|((with_reducible refine qDF ?_ ?_);omega)|((with_reducible refine qNT ?_ ?_);omega)|((with_reducible refine qNF ?_ ?_);omega)|((with_reducible refine qU8 ?_ ?_);omega)|((with_reducible refine qU32 ?_ ?_);omega)|((with_reducible refine qU64 ?_ ?_);omega)|((with_reducible refine qU16 ?_ ?_);omega))
  conv => whnf
  refine .rd (fun i : Nat => i ≤ m.nG ∧ ∀ j, j < i → ¬ m.nodes ≤ (m.G j).ow) (fun i => [(8, iv .i64 i)]) (fun i => m.nG - i) 0 ⟨Nat.zero_le _, all_0⟩ ?_ (fun i ⟨hi, hq⟩ => ?_)
  · conv=>whnf
    refine Le.id rfl ?_ ?_<;>repeat'(first|exact leT_empty|exact trivial|exact rfl|exact fun _ _=>rfl|exact .inl rfl|exact Nat.le_refl _|refine And.intro ?_ ?_)
  conv => whnf
  refine cD (fun h5 => ?_) (fun h5 => ?_)
  · repeat((conv=>whnf);first|((with_reducible refine qS ?_ ?_ ?_);exact rfl;exact rfl)|with_reducible refine qB ?_|((with_reducible refine qI ?_ ?_);omega)|((with_reducible refine qDT ?_ ?_);omega)|((with_reducible refine qDF ?_ ?_);omega)|((with_reducible refine qNT ?_ ?_);omega)|((with_reducible refine qNF ?_ ?_);omega)|((with_reducible refine qU8 ?_ ?_);omega)|((with_reducible refine qU32 ?_ ?_);omega)|((with_reducible refine qU64 ?_ ?_);omega)|((with_reducible refine qU16 ?_ ?_);omega))
    conv => whnf
    try rw [zi i]
    refine cD (fun h6 => ?_) (fun h6 => ?_)
    · repeat((conv=>whnf);first|((with_reducible refine qS ?_ ?_ ?_);exact rfl;exact rfl)|with_reducible refine qB ?_|((with_reducible refine qI ?_ ?_);omega)|((with_reducible refine qDT ?_ ?_);omega)|((with_reducible refine qDF ?_ ?_);omega)|((with_reducible refine qNT ?_ ?_);omega)|((with_reducible refine qNF ?_ ?_);omega)|((with_reducible refine qU8 ?_ ?_);omega)|((with_reducible refine qU32 ?_ ?_);omega)|((with_reducible refine qU64 ?_ ?_);omega)|((with_reducible refine qU16 ?_ ?_);omega))
      conv => whnf
      have e : first m.nG (fun i => decide (m.nodes ≤ (m.G i).ow)) = (i : Int) := first_some (by omega) (fun q hq' => decide_eq_false (hq q hq')) (decide_eq_true h6)
      exact trimM rfl (congrArg pairR (by rw [chkO, e1, e, Pu.pick, if_neg (by omega), Pu.pick, if_pos (by omega)]) : pairR ((i : Int), 141) = _)
    · repeat((conv=>whnf);first|((with_reducible refine qS ?_ ?_ ?_);exact rfl;exact rfl)|with_reducible refine qB ?_|((with_reducible refine qI ?_ ?_);omega)|((with_reducible refine qDT ?_ ?_);omega)|((with_reducible refine qDF ?_ ?_);omega)|((with_reducible refine qNT ?_ ?_);omega)|((with_reducible refine qNF ?_ ?_);omega)|((with_reducible refine qU8 ?_ ?_);omega)|((with_reducible refine qU32 ?_ ?_);omega)|((with_reducible refine qU64 ?_ ?_);omega)|((with_reducible refine qU16 ?_ ?_);omega))
      conv => whnf
      refine ⟨i + 1, ⟨⟨by omega, all_up hq h6⟩, by omega⟩, ?_⟩
      conv=>whnf
      refine Le.id rfl ?_ ?_<;>repeat'(first|exact leT_empty|exact trivial|exact rfl|exact fun _ _=>rfl|exact .inl rfl|exact Nat.le_refl _|refine And.intro ?_ ?_)
  obtain rfl : i = m.nG := by omega
  have e2 : first m.nG (fun i => decide (m.nodes ≤ (m.G i).ow)) = -1 := first_none fun j hj => decide_eq_false (hq j hj)
  repeat((conv=>whnf);first|((with_reducible refine qS ?_ ?_ ?_);exact rfl;exact rfl)|with_reducible refine qB ?_|((with_reducible refine qI ?_ ?_);omega)|((with_reducible refine qDT ?_ ?_);omega)|((with_reducible refine qDF ?_ ?_);omega)|((with_reducible refine qNT ?_ ?_);omega)|((with_reducible refine qNF ?_ ?_);omega)|((with_reducible refine qU8 ?_ ?_);omega)|((with_reducible refine qU32 ?_ ?_);omega)|((with_reducible refine qU64 ?_ ?_);omega)|((with_reducible refine qU16 ?_ ?_);omega))
  conv => whnf
  exact trimM rfl (congrArg pairR (by rw [chkO, e1, e2, Pu.pick, if_neg (by omega), Pu.pick, if_neg (by omega)]) : pairR (0, 0) = _)
theorem who_ok : ConOk Try.prog F.check_who whoC := con_of_run (clRunX_ok (d := 5) ttOk outs0_ok tabWh_ok 4) (fn_enters (ok.check_who (D := 5) u0 _ (clRunX_ok (d := 5) ttOk .nil TabOk.nil 1))) fun p hp => who_run p.1 p.2 hp
end Go.Proofs.Ytbdifadabipfiaa.Co
