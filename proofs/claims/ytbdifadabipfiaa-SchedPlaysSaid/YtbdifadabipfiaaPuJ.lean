/- Plain words, on: how many of each kind all plans hold. No program in sight. -/
import Derived.Test.YtbdifadabipfiaaPuH
namespace Go.Pu
theorem cnt_sh (q : Trg → Bool) (T : Nat → Trg) {i j : Nat} (hj : j ≤ i) : ∀ a, a ≤ i + 1 → cnt (fun p => q (shF T i j p)) a = if a ≤ j then cnt (fun p => q (T p)) a else cnt (fun p => q (T p)) (a - 1) + (if q (T i) then 1 else 0)
  | 0, _ => by rw [if_pos (Nat.zero_le _)]; rfl
  | a + 1, h => by
    have ih := cnt_sh q T hj a (by omega)
    show cnt (fun p => q (shF T i j p)) a + (if q (shF T i j a) then 1 else 0) = _
    rw [ih]
    rcases Nat.lt_trichotomy a j with c | c | c
    · have e : shF T i j a = T a := by unfold shF; rw [if_pos c]
      rw [e, if_pos (show a ≤ j by omega), if_pos (show a + 1 ≤ j by omega)]; rfl
    · subst c
      have e : shF T i a a = T i := by unfold shF; rw [if_neg (Nat.lt_irrefl _), if_pos rfl]
      rw [e, if_pos (Nat.le_refl a), if_neg (show ¬ a + 1 ≤ a by omega)]; rfl
    · have e : shF T i j a = T (a - 1) := by unfold shF; rw [if_neg (show ¬ a < j by omega), if_neg (show ¬ a = j by omega), if_pos (show a ≤ i by omega)]
      rw [e, if_neg (show ¬ a ≤ j by omega), if_neg (show ¬ a + 1 ≤ j by omega)]
      obtain ⟨b, rfl⟩ : ∃ b, a = b + 1 := ⟨a - 1, by omega⟩
      exact Nat.add_right_comm _ _ _
theorem cnt_ins (q : Trg → Bool) (T : Nat → Trg) (i : Nat) : cnt (fun p => q (insF T i p)) (i + 1) = cnt (fun p => q (T p)) (i + 1) := by
  have h0 := (posF_prop T i).1
  have := cnt_sh q T h0 (i + 1) (Nat.le_refl _)
  unfold insF
  rw [this, if_neg (by omega)]; rfl
theorem cnt_sort (q : Trg → Bool) (T : Nat → Trg) : ∀ n, cnt (fun p => q (sortF T n p)) n = cnt (fun p => q (T p)) n
  | 0 => rfl
  | n + 1 => by
    show cnt (fun p => q (insF (sortF T n) n p)) (n + 1) = _
    rw [cnt_ins]
    show cnt (fun p => q (sortF T n p)) n + (if q (sortF T n n) then 1 else 0) = cnt (fun p => q (T p)) n + (if q (T n) then 1 else 0)
    rw [cnt_sort q T n, sort_rest T n n (Nat.le_refl _)]
def numL (q : Trg → Bool) (l : List Trg) : Nat := cnt (fun i => q (at0L l i)) l.length
theorem numL_app (q : Trg → Bool) (l : List Trg) (t : Trg) : numL q (l ++ [t]) = numL q l + if q t then 1 else 0 := by
  unfold numL
  rw [List.length_append, show [t].length = 1 from rfl]
  show cnt (fun i => q (at0L (l ++ [t]) i)) l.length + (if q (at0L (l ++ [t]) l.length) then 1 else 0) = _
  rw [cnt_congr (q := fun i => q (at0L l i)) (fun i hi => by rw [at0L_end _ _ _ (by omega), if_pos hi]), at0L_end _ _ _ (by omega), if_neg (Nat.lt_irrefl _)]
theorem plan_num (m : Mat) (who : Int) (q : Trg → Bool) : cnt (fun i => q (planF m who i)) (rowL0 m who).length = numL q (rowL0 m who) := cnt_sort q _ _
theorem numL_w (m : Mat) (who : Int) (q : Trg → Bool) : ∀ k, numL q (wTrgs m who k) = cnt (fun i => decide ((m.W i).kind ≠ 3) && q (trgW m who (m.W i))) k
  | 0 => rfl
  | k + 1 => by
    simp only [wTrgs, cnt]
    by_cases c : (m.W k).kind = 3
    · rw [if_pos c, numL_w m who q k]; simp [c]
    · rw [if_neg c, numL_app, numL_w m who q k]; simp [c]
theorem row_num (m : Mat) (who : Int) (q : Trg → Bool) : numL q (rowL0 m who) = cnt (fun i => decide ((m.W i).kind ≠ 3) && q (trgW m who (m.W i))) m.nW + (if 0 ≤ rankM m who then (if q ⟨4, m.length, 0, 1, 0, 0⟩ then 1 else 0) + (if q ⟨4, beat1 m (rankM m who), 0, 1, 1, 0⟩ then 1 else 0) else 0) + (if q ⟨5, watch1 m, 0, 1, 0, 0⟩ then 1 else 0) := by
  unfold rowL0
  by_cases c : 0 ≤ rankM m who
  · rw [if_pos c, if_pos c, numL_app, numL_app, numL_app, numL_w]
    generalize (if q ⟨4, m.length, 0, 1, 0, 0⟩ = true then 1 else 0) = a
    generalize (if q ⟨4, beat1 m (rankM m who), 0, 1, 1, 0⟩ = true then 1 else 0) = b
    omega
  · rw [if_neg c, if_neg c, numL_app, numL_w]; rfl
def kq (k : Int) (t : Trg) : Bool := decide (t.kind = k)
/-- Of the first nodes' plans together. -/
def totK (m : Mat) (k : Int) : Nat → Nat
  | 0 => 0
  | w + 1 => totK m k w + numL (kq k) (rowL0 m w)
def exB (m : Mat) (i : Nat) : Bool := decide ((m.W i).kind = 1)
def arB (m : Mat) (i : Nat) : Bool := decide ((m.W i).kind = 2)
def owB (m : Mat) (w : Int) (i : Nat) : Bool := decide ((m.W i).kind = 1 ∧ (m.G (m.W i).msg.toNat).ow = w)
theorem cnt_split {p q r : Nat → Bool} {n : Nat} (h : ∀ i, i < n → p i = (q i || r i)) (h2 : ∀ i, i < n → q i = true → r i = true → False) : cnt p n = cnt q n + cnt r n := by
  rw [cnt_congr h, cnt_or h2]
theorem num1 {m : Mat} (h : Pass m) (w : Int) : numL (kq 1) (rowL0 m w) = cnt (owB m w) m.nW := by
  rw [row_num]
  have e : cnt (fun i => decide ((m.W i).kind ≠ 3) && kq 1 (trgW m w (m.W i))) m.nW = cnt (owB m w) m.nW := cnt_congr fun i hi => by
    have hp := h.is.W i hi
    unfold winP at hp
    unfold owB kq trgW
    rcases (show (m.W i).kind = 1 ∨ (m.W i).kind = 2 ∨ (m.W i).kind = 3 by omega) with k | k | k
    · by_cases c : (m.G (m.W i).msg.toNat).ow = w
      · simp [k, c]
      · simp [k, c]
    · simp [k]
    · simp [k]
  rw [e]
  have a : (if 0 ≤ rankM m w then (if kq 1 ⟨4, m.length, 0, 1, 0, 0⟩ then 1 else 0) + (if kq 1 ⟨4, beat1 m (rankM m w), 0, 1, 1, 0⟩ then 1 else 0) else 0) = 0 := by split <;> rfl
  rw [a]; rfl
theorem num2 {m : Mat} (h : Pass m) (w : Int) : numL (kq 2) (rowL0 m w) = cnt (arB m) m.nW := by
  rw [row_num]
  have e : cnt (fun i => decide ((m.W i).kind ≠ 3) && kq 2 (trgW m w (m.W i))) m.nW = cnt (arB m) m.nW := cnt_congr fun i hi => by
    have hp := h.is.W i hi
    unfold winP at hp
    unfold arB kq trgW
    rcases (show (m.W i).kind = 1 ∨ (m.W i).kind = 2 ∨ (m.W i).kind = 3 by omega) with k | k | k
    · by_cases c : (m.G (m.W i).msg.toNat).ow = w
      · simp [k, c]
      · simp [k, c]
    · simp [k]
    · simp [k]
  rw [e]
  have a : (if 0 ≤ rankM m w then (if kq 2 ⟨4, m.length, 0, 1, 0, 0⟩ then 1 else 0) + (if kq 2 ⟨4, beat1 m (rankM m w), 0, 1, 1, 0⟩ then 1 else 0) else 0) = 0 := by split <;> rfl
  rw [a]; rfl
theorem num3 {m : Mat} (h : Pass m) (w : Int) : numL (kq 3) (rowL0 m w) + cnt (owB m w) m.nW = cnt (exB m) m.nW := by
  rw [row_num]
  have e : cnt (exB m) m.nW = cnt (fun i => decide ((m.W i).kind ≠ 3) && kq 3 (trgW m w (m.W i))) m.nW + cnt (owB m w) m.nW := cnt_split (fun i hi => by
    have hp := h.is.W i hi
    unfold winP at hp
    unfold exB owB kq trgW
    rcases (show (m.W i).kind = 1 ∨ (m.W i).kind = 2 ∨ (m.W i).kind = 3 by omega) with k | k | k
    · by_cases c : (m.G (m.W i).msg.toNat).ow = w
      · simp [k, c]
      · simp [k, c]
    · simp [k]
    · simp [k]) (fun i _ h1 h2 => by
    unfold owB at h2
    have h2 := of_decide_eq_true h2
    unfold kq trgW at h1
    simp [h2.1, h2.2] at h1)
  have a : (if 0 ≤ rankM m w then (if kq 3 ⟨4, m.length, 0, 1, 0, 0⟩ then 1 else 0) + (if kq 3 ⟨4, beat1 m (rankM m w), 0, 1, 1, 0⟩ then 1 else 0) else 0) = 0 := by split <;> rfl
  have b : (if kq 3 ⟨5, watch1 m, 0, 1, 0, 0⟩ = true then 1 else 0) = 0 := rfl
  rw [a, b, e]; omega
theorem num_w0 {m : Mat} (h : Pass m) (w k : Int) (hk : k = 4 ∨ k = 5) : cnt (fun i => decide ((m.W i).kind ≠ 3) && kq k (trgW m w (m.W i))) m.nW = 0 := cnt_no fun i hi => by
  rw [Bool.and_eq_false_iff]
  right
  unfold kq trgW
  split
  · exact decide_eq_false (by show ¬ (2 = k); omega)
  · split
    · exact decide_eq_false (by show ¬ (1 = k); omega)
    · exact decide_eq_false (by show ¬ (3 = k); omega)
theorem num4 {m : Mat} (h : Pass m) (w : Int) : numL (kq 4) (rowL0 m w) = if 0 ≤ rankM m w then 2 else 0 := by
  rw [row_num, num_w0 h w 4 (.inl rfl)]
  by_cases c : 0 ≤ rankM m w
  · rw [if_pos c, if_pos c]; rfl
  · rw [if_neg c, if_neg c]; rfl
theorem num5 {m : Mat} (h : Pass m) (w : Int) : numL (kq 5) (rowL0 m w) = 1 := by
  rw [row_num, num_w0 h w 5 (.inr rfl)]
  by_cases c : 0 ≤ rankM m w
  · rw [if_pos c]; rfl
  · rw [if_neg c]; rfl
/-! ### All nodes together -/
def owL (m : Mat) (w : Int) (i : Nat) : Bool := decide ((m.W i).kind = 1 ∧ (m.G (m.W i).msg.toNat).ow < w)
theorem ow_next {m : Mat} (w : Nat) : cnt (owL m ((w : Int) + 1)) m.nW = cnt (owL m w) m.nW + cnt (owB m w) m.nW := cnt_split (fun i _ => by
    unfold owL owB
    rw [← Bool.decide_or]
    exact decide_eq_decide.2 (by omega)) (fun i _ h1 h2 => by
    have h1 := of_decide_eq_true h1
    have h2 := of_decide_eq_true h2
    omega)
theorem tot1 {m : Mat} (h : Pass m) : ∀ w : Nat, (∀ i, i < m.nW → (m.W i).kind = 1 → 0 ≤ (m.G (m.W i).msg.toNat).ow) → totK m 1 w = cnt (owL m w) m.nW
  | 0, h0 => (cnt_no fun i hi => decide_eq_false (by intro ⟨a, b⟩; have := h0 i hi a; omega)).symm
  | w + 1, h0 => by
    show totK m 1 w + numL (kq 1) (rowL0 m w) = _
    rw [tot1 h w h0, num1 h]
    exact (ow_next w).symm
theorem tot3 {m : Mat} (h : Pass m) : ∀ w : Nat, totK m 3 w + totK m 1 w = w * cnt (exB m) m.nW
  | 0 => by rw [Nat.zero_mul]; rfl
  | w + 1 => by
    show totK m 3 w + numL (kq 3) (rowL0 m w) + (totK m 1 w + numL (kq 1) (rowL0 m w)) = _
    have h1 := tot3 h w
    have h2 := num3 h w
    have h3 := num1 h w
    rw [Nat.succ_mul]; omega
theorem tot2 {m : Mat} (h : Pass m) : ∀ w : Nat, totK m 2 w = w * cnt (arB m) m.nW
  | 0 => by rw [Nat.zero_mul]; rfl
  | w + 1 => by
    show totK m 2 w + numL (kq 2) (rowL0 m w) = _
    have h1 := tot2 h w
    have h2 := num2 h w
    rw [Nat.succ_mul]; omega
theorem tot5 {m : Mat} (h : Pass m) : ∀ w : Nat, totK m 5 w = w
  | 0 => rfl
  | w + 1 => by
    show totK m 5 w + numL (kq 5) (rowL0 m w) = _
    rw [tot5 h w, num5 h]
/-- Masters below. -/
def mwL (m : Mat) (w : Int) (j : Nat) : Bool := decide (m.M j < w)
def mwB (m : Mat) (w : Int) (j : Nat) : Bool := decide (m.M j = w)
theorem mw_one {m : Mat} (w : Int) : ∀ n : Nat, (∀ i, i < n → badM m i = false) → cnt (mwB m w) n = if 0 ≤ first n (mwB m w) then 1 else 0
  | 0, _ => rfl
  | n + 1, hd => by
    have ih := mw_one w n fun i hi => hd i (by omega)
    have hn := anyB_false.1 (hd n (by omega))
    show cnt (mwB m w) n + (if mwB m w n then 1 else 0) = _
    rw [ih]
    rcases first_cases n (mwB m w) with ⟨e1, e2⟩ | ⟨j, e1, e2, e3, e4⟩
    · rw [e1, if_neg (by omega)]
      by_cases c : mwB m w n = true
      · rw [if_pos c, first_some (j := n) (by omega) e2 c, if_pos (by omega)]
      · rw [if_neg c, first_none fun j hj => by
          by_cases d : j = n
          · rw [d]; exact Bool.eq_false_iff.2 c
          · exact e2 j (by omega)]
        rfl
    · have c : mwB m w n = false := decide_eq_false fun h => by
        have h1 := of_decide_eq_false (hn j e1)
        have h2 := of_decide_eq_true e3
        omega
      rw [c, e2, first_some (j := j) (show j < n + 1 by omega) e4 e3, if_pos (show 0 ≤ (j : Int) by omega)]; rfl
theorem mw_next {m : Mat} (w : Nat) : cnt (mwL m ((w : Int) + 1)) m.nM = cnt (mwL m w) m.nM + cnt (mwB m w) m.nM := cnt_split (fun i _ => by
    unfold mwL mwB
    rw [← Bool.decide_or]
    exact decide_eq_decide.2 (by omega)) (fun i _ h1 h2 => by
    have h1 := of_decide_eq_true h1
    have h2 := of_decide_eq_true h2
    omega)
theorem tot4 {m : Mat} (h : Pass m) (hd : ∀ i, i < m.nM → badM m i = false) : ∀ w : Nat, totK m 4 w = 2 * cnt (mwL m w) m.nM
  | 0 => by
    rw [cnt_no (p := mwL m ((0 : Nat) : Int)) fun i hi => decide_eq_false (by have := (h.is.M i hi).1; omega)]; rfl
  | w + 1 => by
    show totK m 4 w + numL (kq 4) (rowL0 m w) = _
    rw [tot4 h hd w, num4 h]
    have e := mw_one (m := m) w m.nM hd
    have e2 := mw_next (m := m) w
    rw [show ((w + 1 : Nat) : Int) = (w : Int) + 1 from rfl, e2, e]
    unfold rankM
    unfold mwB
    split <;> omega
theorem cnt_all {p : Nat → Bool} : ∀ {n : Nat}, (∀ i, i < n → p i = true) → cnt p n = n
  | 0, _ => rfl
  | n + 1, h => by simp only [cnt]; rw [cnt_all fun i hi => h i (by omega), if_pos (h n (by omega))]
theorem who_no1 {m : Mat} (h : (chkO m).2 = 0) : (∀ j, j < m.nM → ¬ m.nodes ≤ m.M j) ∧ ∀ j, j < m.nG → ¬ m.nodes ≤ (m.G j).ow := by
  unfold chkO at h
  rcases first_cases m.nM (fun i => decide (m.nodes ≤ m.M i)) with ⟨e, p⟩ | ⟨j, q1, e, _, _⟩
  · rw [e, pick_neg (by decide)] at h
    rcases first_cases m.nG (fun i => decide (m.nodes ≤ (m.G i).ow)) with ⟨e2, p2⟩ | ⟨j, q1, e2, _, _⟩
    · exact ⟨fun j hj => of_decide_eq_false (p j hj), fun j hj => of_decide_eq_false (p2 j hj)⟩
    · rw [e2, pick_pos (by omega)] at h; exact absurd h (by show ¬ (141 : Int) = 0; decide)
  · rw [e, pick_pos (by omega)] at h; exact absurd h (by show ¬ (141 : Int) = 0; decide)
theorem two_no1 {m : Mat} (h : (chkT m).2 = 0) : (∀ j, j < m.nM → badM m j = false) ∧ ∀ j, j < m.nG → badG m j = false := by
  unfold chkT at h
  rcases first_cases m.nM (badM m) with ⟨e, p⟩ | ⟨j, q1, e, _, _⟩
  · rw [e, pick_neg (by decide)] at h
    rcases first_cases m.nG (badG m) with ⟨e2, p2⟩ | ⟨j, q1, e2, _, _⟩
    · exact ⟨p, p2⟩
    · rw [e2, pick_pos (by omega)] at h; exact absurd h (by show ¬ (142 : Int) = 0; decide)
  · rw [e, pick_pos (by omega)] at h; exact absurd h (by show ¬ (142 : Int) = 0; decide)
theorem tot1_all {m : Mat} (h : Pass m) (hg : ∀ i, i < m.nW → (m.W i).kind = 1 → (m.W i).msg < m.nG) : totK m 1 m.nodes.toNat = cnt (exB m) m.nW := by
  have hi := h.is
  have hl := hi.head
  unfold headP at hl
  have hx : ∀ i, i < m.nW → (m.W i).kind = 1 → (m.W i).msg.toNat < m.nG := fun i hi0 hk => by
    have := hg i hi0 hk
    have hw := hi.W i hi0
    unfold winP at hw
    omega
  rw [tot1 h _ fun i hi0 hk => (hi.G _ (hx i hi0 hk)).2.1]
  refine cnt_congr fun i hi0 => ?_
  unfold owL exB
  refine decide_eq_decide.2 ⟨fun g => g.1, fun g => ⟨g, ?_⟩⟩
  have := (who_no1 h.who).2 _ (hx i hi0 g)
  omega
theorem tot4_all {m : Mat} (h : Pass m) : totK m 4 m.nodes.toNat = 2 * m.nM := by
  have hl := h.is.head
  unfold headP at hl
  rw [tot4 h (two_no1 h.two).1, cnt_all (p := mwL m (m.nodes.toNat : Int)) fun j hj => decide_eq_true (by have := (who_no1 h.who).1 j hj; omega)]
end Go.Pu
