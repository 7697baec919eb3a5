/- CheckOne: what the check says of a matrix that passes, with one thing spoilt. -/
import Derived.Test.YtbdifadabipfiaaLaB
namespace Go.Proofs.Ytbdifadabipfiaa.checkOne
open Go Go.Eng Go.Proofs Go.Proofs.Ytbdifadabipfiaa.Tb Go.Proofs.Ytbdifadabipfiaa.Co Go.Proofs.Ytbdifadabipfiaa.La Go.Pu
set_option maxRecDepth 100000
set_option maxHeartbeats 16000000
structure Pass (m : Mat) : Prop where
  is : m.Is
  len : Pu.step m ≤ m.length
  who : (chkO m).2 = 0
  two : (chkT m).2 = 0
  win : ∀ i, i < m.nW → winErr m i = 0
theorem pass_of {m : Mat} (h : (chk m).2 = 0) : Pass m := by
  unfold chk at h
  by_cases h1 : isM m = false
  · rw [if_pos h1] at h; cases h
  rw [if_neg h1] at h
  by_cases h2 : m.length < Pu.step m
  · rw [if_pos h2] at h; cases h
  rw [if_neg h2] at h
  by_cases h3 : (chkO m).2 = 0
  · rw [if_neg (by simp [h3])] at h
    by_cases h4 : (chkT m).2 = 0
    · rw [if_neg (by simp [h4])] at h
      by_cases h5 : (chkW m).2 = 0
      · refine ⟨isM_iff.1 (by simpa using h1), by omega, h3, h4, fun i hi => ?_⟩
        rcases first_cases m.nW (fun i => decide (winErr m i ≠ 0)) with ⟨_, q⟩ | ⟨j, q1, q2, q3, _⟩
        · have := q i hi
          simpa using this
        · exfalso
          unfold chkW at h5
          rw [q2, if_pos (by omega), Int.toNat_natCast] at h5
          have q3 := of_decide_eq_true q3
          exact q3 h5
      · rw [if_pos h5] at h; exact absurd h h5
    · rw [if_pos h4] at h; exact absurd h h4
  · rw [if_pos h3] at h; exact absurd h h3
theorem err_no {m : Mat} {i : Nat} (h : winErr m i = 0) : ¬ ((m.W i).kind = 1 ∧ ((m.nG : Int) ≤ (m.W i).msg ∨ (m.G (m.W i).msg.toNat).ev = true)) ∧ ¬ ((m.W i).st < Pu.step m ∨ ((m.W i).kind ≠ 3 ∧ (m.W i).en - (m.W i).st < Pu.step m)) ∧ anyB i (fun k => meet m i k) = false := by
  unfold winErr at h
  split at h
  · cases h
  · rename_i h1
    split at h
    · cases h
    · rename_i h2
      split at h
      · cases h
      · rename_i h3
        exact ⟨h1, h2, by simpa using h3⟩
theorem who_none {m : Mat} (h : (chkO m).2 = 0) : (∀ j, j < m.nM → ¬ m.nodes ≤ m.M j) ∧ ∀ j, j < m.nG → ¬ m.nodes ≤ (m.G j).ow := by
  unfold chkO at h
  rcases first_cases m.nM (fun i => decide (m.nodes ≤ m.M i)) with ⟨e, p⟩ | ⟨j, q1, e, _, _⟩
  · rw [e, pick_neg (by decide)] at h
    rcases first_cases m.nG (fun i => decide (m.nodes ≤ (m.G i).ow)) with ⟨e2, p2⟩ | ⟨j, q1, e2, _, _⟩
    · exact ⟨fun j hj => of_decide_eq_false (p j hj), fun j hj => of_decide_eq_false (p2 j hj)⟩
    · rw [e2, pick_pos (by omega)] at h; exact absurd h (by show ¬ (141 : Int) = 0; decide)
  · rw [e, pick_pos (by omega)] at h; exact absurd h (by show ¬ (141 : Int) = 0; decide)
theorem two_none {m : Mat} (h : (chkT m).2 = 0) : (∀ j, j < m.nM → badM m j = false) ∧ ∀ j, j < m.nG → badG m j = false := by
  unfold chkT at h
  rcases first_cases m.nM (badM m) with ⟨e, p⟩ | ⟨j, q1, e, _, _⟩
  · rw [e, pick_neg (by decide)] at h
    rcases first_cases m.nG (badG m) with ⟨e2, p2⟩ | ⟨j, q1, e2, _, _⟩
    · exact ⟨p, p2⟩
    · rw [e2, pick_pos (by omega)] at h; exact absurd h (by show ¬ (142 : Int) = 0; decide)
  · rw [e, pick_pos (by omega)] at h; exact absurd h (by show ¬ (142 : Int) = 0; decide)
theorem who_0 {m : Mat} (h1 : ∀ j, j < m.nM → ¬ m.nodes ≤ m.M j) (h2 : ∀ j, j < m.nG → ¬ m.nodes ≤ (m.G j).ow) : chkO m = (0, 0) := by
  unfold chkO
  rw [first_none (fun j hj => decide_eq_false (h1 j hj)), first_none (fun j hj => decide_eq_false (h2 j hj))]
  rfl
theorem two_0' {m : Mat} (h1 : ∀ j, j < m.nM → badM m j = false) (h2 : ∀ j, j < m.nG → badG m j = false) : chkT m = (0, 0) := by
  unfold chkT
  rw [first_none h1, first_none h2]
  rfl
theorem chk_O {m : Mat} {i e : Int} (his : m.Is) (hl : Pu.step m ≤ m.length) (h : chkO m = (i, e)) (he : e ≠ 0) : chk m = (i, e) := by
  unfold chk
  rw [isM_iff.2 his, if_neg (by decide), if_neg (by omega), h]
  exact if_pos he
theorem chk_T {m : Mat} {i e : Int} (his : m.Is) (hl : Pu.step m ≤ m.length) (h0 : chkO m = (0, 0)) (h : chkT m = (i, e)) (he : e ≠ 0) : chk m = (i, e) := by
  unfold chk
  rw [isM_iff.2 his, if_neg (by decide), if_neg (by omega), h0, if_neg (by decide), h]
  exact if_pos he
theorem chk_W {m : Mat} {i e : Int} (his : m.Is) (hl : Pu.step m ≤ m.length) (h0 : chkO m = (0, 0)) (h1 : chkT m = (0, 0)) (h : chkW m = (i, e)) (he : e ≠ 0) : chk m = (i, e) := by
  unfold chk
  rw [isM_iff.2 his, if_neg (by decide), if_neg (by omega), h0, if_neg (by decide), h1, if_neg (by decide), h]
  exact if_pos he
theorem step_eq {m m' : Mat} (h : m.Is) (h' : m'.Is) (hu : m'.unit = m.unit) (he : m'.enable = m.enable) : Pu.step m' = Pu.step m := by rw [step_of h, step_of h', hu, he]
/-! ### A master that is none -/
def m0 (m : Mat) (q : Nat) : Mat := { m with M := fun j => if j = q then m.nodes else m.M j }
theorem m0_ok {m : Mat} {q : Nat} (h : m.Ok) : (m0 m q).Ok := ⟨h.level, h.nodes, h.cycles, h.length, h.enable, h.unit, h.init, h.ref, h.nM, h.nG, h.nW, fun i hi => by
  show I64 (if i = q then m.nodes else m.M i)
  split
  · exact h.nodes
  · exact h.M i hi, h.G, h.W⟩
theorem m0_chk {m : Mat} {q : Nat} (P : Pass m) (hq : q < m.nM) : chk (m0 m q) = ((q : Int), 141) := by
  have hh := P.is.head
  unfold headP at hh
  have his : (m0 m q).Is := ⟨P.is.head, P.is.size, fun i hi => by
    show whoP (if i = q then m.nodes else m.M i)
    split
    · unfold whoP; omega
    · exact P.is.M i hi, P.is.G, P.is.W⟩
  refine chk_O his (by rw [step_eq P.is his rfl rfl]; exact P.len) ?_ (by decide)
  have h1 := (who_none P.who).1
  have e : first (m0 m q).nM (fun i => decide ((m0 m q).nodes ≤ (m0 m q).M i)) = (q : Int) := first_some (j := q) hq (fun j hj => decide_eq_false (by
    show ¬ m.nodes ≤ if j = q then m.nodes else m.M j
    rw [if_neg (by omega)]; exact h1 j (by omega))) (decide_eq_true (by
    show m.nodes ≤ if q = q then m.nodes else m.M q
    rw [if_pos rfl]; exact Int.le_refl _))
  unfold chkO
  rw [e, pick_pos (by omega)]
/-! ### A level that is none -/
def m1 (m : Mat) : Mat := { m with level := 3 }
theorem m1_ok {m : Mat} (h : m.Ok) : (m1 m).Ok := ⟨by show I64 3; unfold I64; omega, h.nodes, h.cycles, h.length, h.enable, h.unit, h.init, h.ref, h.nM, h.nG, h.nW, h.M, h.G, h.W⟩
theorem m1_chk {m : Mat} : chk (m1 m) = (0, 120) := by
  have h : isM (m1 m) = false := Bool.eq_false_iff.2 fun h => by
    have := (isM_iff.1 h).head.2.1
    have : (3 : Int) ≤ 2 := this
    omega
  unfold chk
  rw [if_pos h]
/-! ### A master twice -/
def m2 (m : Mat) (q : Nat) : Mat := { m with nM := m.nM + 1, M := fun j => if j < m.nM then m.M j else m.M q }
theorem m2_ok {m : Mat} {q : Nat} (h : m.Ok) (hq : q < m.nM) (h4 : m.nM ≤ 4) : (m2 m q).Ok := ⟨h.level, h.nodes, h.cycles, h.length, h.enable, h.unit, h.init, h.ref, by show m.nM + 1 ≤ 9223372036854775807; omega, h.nG, h.nW, fun i hi => by
  show I64 (if i < m.nM then m.M i else m.M q)
  split
  · exact h.M i (by assumption)
  · exact h.M q hq, h.G, h.W⟩
theorem m2_chk {m : Mat} {q : Nat} (P : Pass m) (hq : q < m.nM) (h4 : m.nM < 4) : chk (m2 m q) = ((m.nM : Int), 142) := by
  have hs := P.is.size
  unfold sizeP at hs
  have his : (m2 m q).Is := ⟨P.is.head, by show 1 ≤ m.nM + 1 ∧ m.nM + 1 ≤ 4 ∧ m.nG ≤ 12 ∧ m.nW ≤ 16; omega, fun i hi => by
    show whoP (if i < m.nM then m.M i else m.M q)
    split
    · exact P.is.M i (by assumption)
    · exact P.is.M q hq, P.is.G, P.is.W⟩
  have h1 := who_none P.who
  have h2 := two_none P.two
  refine chk_T his (by rw [step_eq P.is his rfl rfl]; exact P.len) (who_0 (fun j hj => ?_) h1.2) ?_ (by decide)
  · show ¬ m.nodes ≤ if j < m.nM then m.M j else m.M q
    split
    · exact h1.1 j (by assumption)
    · exact h1.1 q hq
  · have e : first (m2 m q).nM (badM (m2 m q)) = (m.nM : Int) := ?_
    · unfold chkT
      rw [e, pick_pos (by omega)]
    refine first_some (j := m.nM) (show m.nM < m.nM + 1 by omega) (fun j hj => ?_) ?_
    · have := anyB_false.1 (h2.1 j hj)
      refine anyB_false.2 fun k hk => ?_
      show decide ((if j < m.nM then m.M j else m.M q) = if k < m.nM then m.M k else m.M q) = false
      rw [if_pos hj, if_pos (by omega)]
      exact this k hk
    · refine anyB_iff.2 ⟨q, hq, decide_eq_true ?_⟩
      show (if m.nM < m.nM then m.M m.nM else m.M q) = if q < m.nM then m.M q else m.M q
      rw [if_neg (by omega), if_pos hq]
/-! ### A window twice -/
def m3 (m : Mat) (q : Nat) : Mat := { m with nW := m.nW + 1, W := fun j => if j < m.nW then m.W j else m.W q }
theorem m3_ok {m : Mat} {q : Nat} (h : m.Ok) (hq : q < m.nW) (h4 : m.nW ≤ 16) : (m3 m q).Ok := ⟨h.level, h.nodes, h.cycles, h.length, h.enable, h.unit, h.init, h.ref, h.nM, h.nG, by show m.nW + 1 ≤ 9223372036854775807; omega, h.M, h.G, fun i hi => by
  have e : (m3 m q).W i = if i < m.nW then m.W i else m.W q := rfl
  rw [e]
  split
  · exact h.W i (by assumption)
  · exact h.W q hq⟩
theorem comes_self {c r : Int} (hr : 0 < r) (hc : 0 ≤ c) : comes c r c = true := by
  unfold comes
  exact decide_eq_true ⟨hr, hc, Int.le_refl _, by rw [Int.sub_self, Int.zero_tmod]⟩
theorem m3_chk {m : Mat} {q : Nat} (P : Pass m) (hq : q < m.nW) (h4 : m.nW < 16) : chk (m3 m q) = ((m.nW : Int), 143) := by
  have hs := P.is.size
  unfold sizeP at hs
  have hh := P.is.head
  unfold headP power at hh
  have hw := P.is.W q hq
  unfold winP power at hw
  have eW : ∀ i, (m3 m q).W i = if i < m.nW then m.W i else m.W q := fun _ => rfl
  have his : (m3 m q).Is := ⟨P.is.head, by show 1 ≤ m.nM ∧ m.nM ≤ 4 ∧ m.nG ≤ 12 ∧ m.nW + 1 ≤ 16; omega, P.is.M, P.is.G, fun i hi => by
    rw [eW]
    split
    · exact P.is.W i (by assumption)
    · exact P.is.W q hq⟩
  have h1 := who_none P.who
  have h2 := two_none P.two
  have est := step_eq P.is his rfl rfl
  refine chk_W his (by rw [est]; exact P.len) (who_0 h1.1 h1.2) (two_0' h2.1 h2.2) (chkW_at (show m.nW < m.nW + 1 by omega) (fun j hj => ?_) ?_ (by decide)) (by decide)
  · obtain ⟨n1, n2, n3⟩ := err_no (P.win j hj)
    refine err0 ?_ ?_ (anyB_false.2 fun k hk => ?_)
    · rw [eW, if_pos hj]; exact n1
    · rw [eW, if_pos hj, est]; exact n2
    · have := anyB_false.1 n3 k hk
      rw [meet_in ⟨by omega, by show (j : Int) < ((m.nW + 1 : Nat) : Int); omega, by omega, by show (k : Int) < ((m.nW + 1 : Nat) : Int); omega⟩, Int.toNat_natCast, Int.toNat_natCast, eW, eW, if_pos hj, if_pos (by omega)]
      rw [meet_in ⟨by omega, by omega, by omega, by omega⟩, Int.toNat_natCast, Int.toNat_natCast] at this
      exact this
  · obtain ⟨n1, n2, n3⟩ := err_no (P.win q hq)
    have e1 : (m3 m q).W m.nW = m.W q := by rw [eW, if_neg (by omega)]
    have e2 : (m3 m q).W q = m.W q := by rw [eW, if_pos hq]
    refine err143 ?_ ?_ (anyB_iff.2 ⟨q, hq, ?_⟩)
    · rw [e1]; exact n1
    · rw [e1, est]; exact n2
    · rw [meet_in ⟨by omega, by show (m.nW : Int) < ((m.nW + 1 : Nat) : Int); omega, by omega, by show (q : Int) < ((m.nW + 1 : Nat) : Int); omega⟩, Int.toNat_natCast, Int.toNat_natCast, e1, e2]
      have hc : ((m.W q).cyc.toNat : Int) = (m.W q).cyc := by omega
      refine meetW_yes ⟨by omega, by omega⟩ (i := (m.W q).cyc.toNat) (by show (m.W q).cyc.toNat < (min (max m.cycles 0) 8).toNat; omega) ?_ ?_
      · rw [hc]; exact comes_self (by omega) (by omega)
      · rw [hc]; exact comes_self (by omega) (by omega)
/-! ### A message of a beat -/
def m4 (m : Mat) (q : Nat) (v : Int) : Mat := { m with G := fun j => if j = q then ⟨v, (m.G q).ow, (m.G q).ev⟩ else m.G j }
theorem m4_ok {m : Mat} {q : Nat} {v : Int} (h : m.Ok) (hq : q < m.nG) (hv : U32 v) : (m4 m q v).Ok := ⟨h.level, h.nodes, h.cycles, h.length, h.enable, h.unit, h.init, h.ref, h.nM, h.nG, h.nW, h.M, fun i hi => by
  have e : (m4 m q v).G i = if i = q then ⟨v, (m.G q).ow, (m.G q).ev⟩ else m.G i := rfl
  rw [e]
  split
  · exact ⟨hv, (h.G q hq).2⟩
  · exact h.G i hi, h.W⟩
theorem m4_chk {m : Mat} {q : Nat} {v : Int} (P : Pass m) (hq : q < m.nG) (hv : m.ref ≤ v) (hv8 : v - m.ref < 8) (hv2 : v < 2048) : chk (m4 m q v) = ((q : Int), 142) := by
  have eG : ∀ i, (m4 m q v).G i = if i = q then ⟨v, (m.G q).ow, (m.G q).ev⟩ else m.G i := fun _ => rfl
  have his : (m4 m q v).Is := ⟨P.is.head, P.is.size, P.is.M, fun i hi => by
    rw [eG]
    split
    · exact ⟨hv2, (P.is.G q hq).2⟩
    · exact P.is.G i hi, P.is.W⟩
  have h1 := who_none P.who
  have h2 := two_none P.two
  refine chk_T his (by rw [step_eq P.is his rfl rfl]; exact P.len) (who_0 h1.1 (fun j hj => ?_)) ?_ (by decide)
  · rw [eG]
    split
    · exact h1.2 q hq
    · exact h1.2 j hj
  · have e : first (m4 m q v).nG (badG (m4 m q v)) = (q : Int) := ?_
    · unfold chkT
      rw [show first (m4 m q v).nM (badM (m4 m q v)) = -1 from first_none h2.1, pick_neg (by decide), e, pick_pos (by omega)]
    refine first_some (j := q) hq (fun j hj => ?_) ?_
    · have := h2.2 j (by omega)
      unfold badG at this ⊢
      rw [Bool.or_eq_false_iff] at this ⊢
      refine ⟨?_, anyB_false.2 fun k hk => ?_⟩
      · rw [eG, if_neg (by omega)]; exact this.1
      · have := anyB_false.1 this.2 k hk
        rw [eG, eG, if_neg (by omega), if_neg (by omega)]; exact this
    · unfold badG
      rw [eG, if_pos rfl, Bool.or_eq_true]
      exact .inl (decide_eq_true ⟨hv, hv8⟩)
end Go.Proofs.Ytbdifadabipfiaa.checkOne
