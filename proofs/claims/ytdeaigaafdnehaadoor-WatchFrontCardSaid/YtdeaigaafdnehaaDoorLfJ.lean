/- Layer 26, WatchErrors and WatchFront in plain words. -/
import Derived.Test.YtdeaigaafdnehaaDoorCbP
import Derived.Test.YtdeaigaafdnehaaDoorLfC
namespace Go.Pu
/-! ### Ones in a row -/
/-- No more than ten ones in a row, c ahead of it. -/
def lim : Nat → List Bool → Bool
  | _, [] => true
  | c, true :: l => decide (c + 1 ≤ 10) && lim (c + 1) l
  | _, false :: l => lim 0 l
theorem lim_le : ∀ {l : List Bool} {c d : Nat}, d ≤ c → lim c l = true → lim d l = true
  | [], _, _, _, _ => rfl
  | true :: l, c, d, h, hl => by
    have hl : (decide (c + 1 ≤ 10) && lim (c + 1) l) = true := hl
    rw [Bool.and_eq_true, decide_eq_true_eq] at hl
    show (decide (d + 1 ≤ 10) && lim (d + 1) l) = true
    rw [Bool.and_eq_true, decide_eq_true_eq]
    exact ⟨by omega, lim_le (by omega) hl.2⟩
  | false :: l, _, _, _, hl => hl
theorem lim_drop : ∀ {l : List Bool} {c : Nat} (i : Nat), lim c l = true → lim 0 (l.drop i) = true
  | l, c, 0, h => lim_le (Nat.zero_le _) h
  | [], _, _ + 1, _ => rfl
  | true :: l, c, i + 1, h => by
    have h : (decide (c + 1 ≤ 10) && lim (c + 1) l) = true := h
    rw [Bool.and_eq_true] at h
    exact lim_drop i h.2
  | false :: l, c, i + 1, h => lim_drop (c := 0) i h
theorem lim_not (t : List Bool) : lim 0 (List.replicate 11 true ++ t) = false := rfl
theorem lim_ones : ∀ (m c : Nat) (l : List Bool), c + m ≤ 10 → lim c (List.replicate m true ++ l) = lim (c + m) l
  | 0, c, l, _ => by rw [List.replicate_zero]; rfl
  | m + 1, c, l, h => by
    rw [List.replicate_succ]
    show (decide (c + 1 ≤ 10) && lim (c + 1) (List.replicate m true ++ l)) = _
    rw [decide_eq_true (by omega), Bool.true_and, lim_ones m (c + 1) l (by omega), show c + 1 + m = c + (m + 1) by omega]
theorem idx11_at : ∀ {l : List Bool} {i : Nat}, idx11 l = (i : Int) → List.replicate 11 true <+: l.drop i
  | [], i, h => by
    have h : (-1 : Int) = i := h
    omega
  | b :: l, i, h => by
    have h : (if (List.replicate 11 true).isPrefixOf (b :: l) then (0 : Int) else if idx11 l == -1 then -1 else idx11 l + 1) = (i : Int) := h
    by_cases hp : (List.replicate 11 true).isPrefixOf (b :: l) = true
    · rw [if_pos hp] at h
      obtain rfl : i = 0 := by omega
      exact List.isPrefixOf_iff_prefix.1 hp
    · rw [if_neg hp] at h
      by_cases h2 : idx11 l = -1
      · rw [h2] at h
        have h : (-1 : Int) = i := h
        omega
      · rw [if_neg (by simpa using h2)] at h
        have h3 := idx11_ge l
        match i, h with
        | 0, h => omega
        | i + 1, h => exact idx11_at (l := l) (i := i) (by omega)
/-- Eleven ones that end within ten ones behind a row without. -/
theorem idx11_end {P : List Bool} (hP : lim 0 P = true) {i : Nat} (h : idx11 (P ++ List.replicate 10 true) = (i : Int)) : ∃ k, (P ++ List.replicate 10 true).drop (i + 11) = List.replicate k true := by
  have h1 := idx11_at h
  have h2 := idx11_le _ (by rw [h]; omega)
  rw [h, List.length_append, List.length_replicate] at h2
  by_cases hi : i + 11 ≤ P.length
  · exfalso
    rw [List.drop_append_of_le_length (by omega)] at h1
    have h3 : List.replicate 11 true <+: P.drop i := List.prefix_of_prefix_length_le h1 (List.prefix_append _ _) (by rw [List.length_replicate, List.length_drop]; omega)
    obtain ⟨t, ht⟩ := h3
    have h4 := lim_drop i hP
    rw [← ht, lim_not] at h4
    cases h4
  · refine ⟨10 - (i + 11 - P.length), ?_⟩
    rw [List.drop_append, List.drop_of_length_le (by omega), List.nil_append, List.drop_replicate]
/-- Within ten bits ahead of a zero there are no eleven ones. -/
theorem idx11_skip : ∀ (A B : List Bool), A.length ≤ 10 → idx11 (A ++ false :: B) = if idx11 B = -1 then -1 else idx11 B + (A.length + 1 : Nat)
  | [], B, _ => by
    show (if (List.replicate 11 true).isPrefixOf (false :: B) then (0 : Int) else if idx11 B == -1 then -1 else idx11 B + 1) = _
    rw [if_neg (by show ¬ (true == false && _) = true; simp)]
    by_cases h : idx11 B = -1
    · rw [if_pos h, if_pos (by simpa using h)]
    · rw [if_neg h, if_neg (by simpa using h)]; rfl
  | a :: A, B, h => by
    have hl : A.length + 1 ≤ 10 := h
    have ih := idx11_skip A B (by omega)
    show (if (List.replicate 11 true).isPrefixOf (a :: (A ++ false :: B)) then (0 : Int) else if idx11 (A ++ false :: B) == -1 then -1 else idx11 (A ++ false :: B) + 1) = _
    rw [if_neg (fun hp => by
      obtain ⟨t, ht⟩ := List.isPrefixOf_iff_prefix.1 hp
      have h1 : (List.replicate 11 true ++ t)[A.length + 1]? = some true := by
        rw [List.getElem?_append_left (by rw [List.length_replicate]; omega), List.getElem?_replicate, if_pos (by omega)]
      rw [ht, List.getElem?_cons_succ, List.getElem?_append_right (Nat.le_refl _), Nat.sub_self] at h1
      cases h1), ih]
    by_cases hB : idx11 B = -1
    · rw [if_pos hB, if_pos hB]; rfl
    · have := idx11_ge B
      rw [if_neg hB, if_neg hB, if_neg (by simp only [beq_iff_eq]; omega)]
      show _ = idx11 B + ((A.length + 1 + 1 : Nat) : Int)
      omega
theorem idx11_ones {m : Nat} (h : 11 ≤ m) (r : List Bool) : idx11 (List.replicate m true ++ r) = 0 := by
  obtain ⟨k, rfl⟩ : ∃ k, m = k + 11 := ⟨m - 11, by omega⟩
  have e : List.replicate (k + 11) true = true :: (List.replicate 10 true ++ List.replicate k true) := by
    rw [List.replicate_append_replicate, ← List.replicate_succ]
    congr 1
    omega
  rw [e]
  show (if (List.replicate 11 true).isPrefixOf (true :: ((List.replicate 10 true ++ List.replicate k true) ++ r)) then (0 : Int) else _) = 0
  refine if_pos (List.isPrefixOf_iff_prefix.2 ⟨List.replicate k true ++ r, ?_⟩)
  rw [List.replicate_succ, List.cons_append, List.append_assoc]
theorem lim_stuff : ∀ (l : List Bool) (r : Run), r.n ≤ 4 → lim (if r.last then r.n else 0) (stuffGo r l) = true
  | [], r, _ => by
    show lim _ [] = true
    cases r.last <;> rfl
  | c :: l, ⟨b, n⟩, h => by
    have h : n ≤ 4 := h
    have ea : (⟨b, n⟩ : Run).add c = if 0 < n ∧ c = b then ⟨b, n + 1⟩ else ⟨c, 1⟩ := rfl
    have e : stuffGo ⟨b, n⟩ (c :: l) = if ((⟨b, n⟩ : Run).add c).n = 5 then c :: (!c) :: stuffGo ⟨!c, 1⟩ l else c :: stuffGo ((⟨b, n⟩ : Run).add c) l := rfl
    rw [e]
    show lim (if b then n else 0) _ = true
    have hcnt : (if b then n else 0) + 1 ≤ 10 := by split <;> omega
    by_cases h5 : ((⟨b, n⟩ : Run).add c).n = 5
    · rw [if_pos h5]
      cases c
      · exact (show (decide (0 + 1 ≤ 10) && lim (0 + 1) (stuffGo ⟨true, 1⟩ l)) = true by
          rw [decide_eq_true (by omega), Bool.true_and]; exact lim_stuff l ⟨true, 1⟩ (by decide))
      · exact (show (decide ((if b then n else 0) + 1 ≤ 10) && lim 0 (stuffGo ⟨false, 1⟩ l)) = true by
          rw [decide_eq_true hcnt, Bool.true_and]; exact lim_stuff l ⟨false, 1⟩ (by show 1 ≤ 4; decide))
    · rw [if_neg h5, ea]
      rw [ea] at h5
      by_cases hb : 0 < n ∧ c = b
      · rw [if_pos hb] at h5 ⊢
        obtain ⟨hb1, rfl⟩ := hb
        have h5 : n + 1 ≠ 5 := h5
        have ih := lim_stuff l ⟨c, n + 1⟩ (by show n + 1 ≤ 4; omega)
        cases c
        · exact ih
        · exact (show (decide (n + 1 ≤ 10) && lim (n + 1) (stuffGo ⟨true, n + 1⟩ l)) = true by
            rw [decide_eq_true (by omega), Bool.true_and]; exact ih)
      · rw [if_neg hb]
        have ih := lim_stuff l ⟨c, 1⟩ (by show 1 ≤ 4; decide)
        cases c
        · exact ih
        · have e0 : (if b then n else 0) = 0 := by
            cases b
            · rfl
            · rw [if_pos rfl]
              refine Nat.eq_zero_of_not_pos fun hn => hb ⟨hn, rfl⟩
          rw [e0]
          exact (show (decide (0 + 1 ≤ 10) && lim (0 + 1) (stuffGo ⟨true, 1⟩ l)) = true by
            rw [decide_eq_true (by omega), Bool.true_and]; exact ih)
theorem frG_gap {r : List Bool} {o : List Sn} : ∀ (k n : Nat), FrG r (n + k) o → FrG (List.replicate k true ++ r) n o
  | 0, n, h => h
  | k + 1, n, h => by
    rw [List.replicate_succ]
    exact .one (frG_gap k (n + 1) (by rw [show n + 1 + k = n + (k + 1) by omega]; exact h))
theorem frG_frame {f : Frm} (hf : f.ok) {r : List Bool} {n : Nat} {o : List Sn} (h : FrG r (n + (encB f).length) o) : FrG (encB f ++ r) n (⟨n, (encB f).length, f, 0⟩ :: o) := by
  obtain ⟨l, hl⟩ := encB_head f r
  have hd := dec_enc hf r
  have hdr : (encB f ++ r).drop (encB f).length = r := List.drop_left
  rw [hl] at hd hdr ⊢
  exact .ok hd (by rw [hdr]; exact h)
theorem dec6 (r : List Bool) : dec (List.replicate 6 false ++ r) = (frm0, 5, 20) := by
  have h : decGo rd0 0 (List.replicate 6 false) = (frm0, 5, 20) := by rfl
  show decGo rd0 0 (List.replicate 6 false ++ r) = _
  rw [decGo_app _ r rd0 0 (by rw [h]; decide), h]
/-- Behind an error, eight bits of noise, a zero, ones. -/
def errT (N m : Nat) : List Bool := List.replicate 6 false ++ (ofN N 8 ++ (false :: List.replicate m true))
theorem errT_len (N m : Nat) : (errT N m).length = 15 + m := by
  unfold errT
  simp only [List.length_append, List.length_replicate, ofN_len, List.length_cons]
  omega
theorem errT_succ (N m : Nat) : errT N (m + 1) = errT N m ++ [true] := by
  unfold errT
  have h : List.replicate (m + 1) true = List.replicate m true ++ [true] := List.replicate_succ'
  rw [List.append_assoc, List.append_assoc, h]; rfl
theorem frG_ones (k n : Nat) : FrG (List.replicate k true) n [] := by
  have := frG_gap k n (.done (n + k))
  rwa [List.append_nil] at this
theorem frG_err {f : Frm} (hf : f.ok) (N m : Nat) : FrG (errT N m ++ encB f) 0 (⟨0, 6, frm0, 20⟩ :: if 11 ≤ m then [⟨15 + m, (encB f).length, f, 0⟩] else []) := by
  have e1 : errT N m ++ encB f = List.replicate 6 false ++ (ofN N 8 ++ false :: (List.replicate m true ++ encB f)) := by
    unfold errT
    rw [List.append_assoc, List.append_assoc]; rfl
  rw [e1]
  have hd := dec6 (ofN N 8 ++ false :: (List.replicate m true ++ encB f))
  have h6 : (List.replicate 6 false ++ (ofN N 8 ++ false :: (List.replicate m true ++ encB f))).drop (5 + 1) = ofN N 8 ++ false :: (List.replicate m true ++ encB f) := rfl
  have hdr : ∀ k, (List.replicate 6 false ++ (ofN N 8 ++ false :: (List.replicate m true ++ encB f))).drop (5 + 1 + (9 + k)) = (List.replicate m true ++ encB f).drop k := fun k => by
    rw [← List.drop_drop, h6, List.drop_append, ofN_len, List.drop_of_length_le (by rw [ofN_len]; omega), List.nil_append, show 9 + k - 8 = k + 1 by omega, List.drop_succ_cons]
  have hx := idx11_skip (ofN N 8) (List.replicate m true ++ encB f) (by rw [ofN_len]; omega)
  rw [ofN_len] at hx
  by_cases hm : 11 ≤ m
  · rw [if_pos hm]
    rw [idx11_ones hm, if_neg (by omega)] at hx
    refine .next (e := 20) (i := 9) hd (by decide) (by decide) (by rw [← h6] at hx; exact hx) ?_
    have := hdr 11
    rw [show 5 + 1 + (9 + 11) = 5 + 1 + (9 + 11) from rfl] at this
    have hz : List.replicate m true = List.replicate 11 true ++ List.replicate (m - 11) true := by rw [List.replicate_append_replicate]; congr 1; omega
    have h7 : (List.replicate m true ++ encB f).drop 11 = List.replicate (m - 11) true ++ encB f := by rw [hz, List.append_assoc]; rfl
    have h8 : FrG ((List.replicate m true ++ encB f).drop 11) (0 + (5 + 1) + (9 + 11)) [⟨15 + m, (encB f).length, f, 0⟩] := by
      rw [h7]
      refine frG_gap (m - 11) _ ?_
      rw [show 0 + (5 + 1) + (9 + 11) + (m - 11) = 15 + m by omega]
      have := frG_frame hf (r := []) (n := 15 + m) (.done _)
      rwa [List.append_nil] at this
    rw [← this] at h8
    exact h8
  · rw [if_neg hm]
    rcases idx11_nat (l := List.replicate m true ++ encB f) with hi | ⟨i, hi, _⟩
    · rw [hi, if_pos rfl] at hx
      exact .last (e := 20) hd (by decide) (by decide) (by rw [← h6] at hx; exact hx)
    · rw [hi, if_neg (by omega)] at hx
      refine .next (e := 20) (i := 9 + i) hd (by decide) (by decide) (by
        rw [← h6] at hx
        refine hx.trans ?_
        omega) ?_
      have h9 := hdr (i + 11)
      have hP : lim 0 (List.replicate m true ++ stuff (body f ++ ofN (crc (body f)) 15)) = true := by
        rw [lim_ones m 0 _ (by omega)]
        have h0 : lim 0 (stuff (body f ++ ofN (crc (body f)) 15)) = true := lim_stuff _ run0 (by decide)
        obtain ⟨l, hl⟩ := encB_head f []
        have hs : ∃ S, stuff (body f ++ ofN (crc (body f)) 15) = false :: S := by
          obtain ⟨S, hS⟩ : ∃ S, stuff (body f ++ ofN (crc (body f)) 15) = S := ⟨_, rfl⟩
          unfold encB at hl
          rw [hS] at hl ⊢
          cases S with
          | nil => cases hl
          | cons a S => injection hl with h1 _; exact ⟨S, by rw [h1]⟩
        obtain ⟨S, hS⟩ := hs
        rw [hS] at h0 ⊢
        exact h0
      have hi' : idx11 ((List.replicate m true ++ stuff (body f ++ ofN (crc (body f)) 15)) ++ List.replicate 10 true) = (i : Int) := by
        rw [List.append_assoc]; exact hi
      obtain ⟨k, hk⟩ := idx11_end hP hi'
      have h10 : (List.replicate m true ++ encB f).drop (i + 11) = List.replicate k true := by
        rw [← hk, List.append_assoc]; rfl
      have h8 : FrG ((List.replicate m true ++ encB f).drop (i + 11)) (0 + (5 + 1) + (9 + i + 11)) [] := by
        rw [h10]; exact frG_ones _ _
      rw [← h9] at h8
      rw [show 5 + 1 + (9 + i + 11) = 5 + 1 + (9 + (i + 11)) by omega]
      exact h8
/-! ### So much later; less of it -/
def Sn.later (d : Nat) (x : Sn) : Sn := ⟨x.at_ + d, x.n, x.f, x.e⟩
theorem frG_later {l : List Bool} {n : Nat} {o : List Sn} (d : Nat) (h : FrG l n o) : FrG l (n + d) (o.map (Sn.later d)) := by
  induction h with
  | done a => exact .done _
  | one _ ih => exact .one (by rw [show ∀ a, a + d + 1 = a + 1 + d from fun a => by omega]; exact ih)
  | ok h1 _ ih => exact .ok h1 (by rw [show ∀ a b, a + d + b = a + b + d from fun a b => by omega]; exact ih)
  | short h1 => exact .short h1
  | last h1 h2 h3 h4 => exact .last h1 h2 h3 h4
  | next h1 h2 h3 h4 _ ih => exact .next h1 h2 h3 h4 (by rw [show ∀ a b c, a + d + b + c = a + b + c + d from fun a b c => by omega]; exact ih)
theorem frG_front {l : List Bool} {o : List Sn} (k : Nat) (h : FrG l 0 o) : FrG (List.replicate k true ++ l) 0 (o.map (Sn.later k)) := frG_gap k 0 (frG_later k h)
/-- Of less of a row the same beginning. -/
theorem frG_less {l : List Bool} {n : Nat} {o : List Sn} (h : FrG l n o) : ∀ (m : List Bool) {o' : List Sn}, FrG (l ++ m) n o' → o <+: o' := by
  induction h with
  | done a => exact fun m o' _ => List.nil_prefix
  | one _ ih => exact fun m o' h' => ih m (h'.inv1 rfl)
  | @ok l a n f o h1 h2 ih =>
    intro m o' h'
    obtain ⟨q1, _, _⟩ := dec_len h1
    have hd : dec (false :: l ++ m) = (f, n, 0) := by
      have h3 : decGo rd0 0 (false :: l) = (f, n, 0) := h1
      show decGo rd0 0 (false :: l ++ m) = _
      rw [decGo_app _ m rd0 0 (by rw [h3]; show (0 : Nat) ≠ 10; decide), h3]
    rcases h'.inv0 rfl with ⟨f', n', o2, e1, hF, e2⟩ | ⟨f', n', e1, e2⟩ | ⟨f', n', e', e1, ne0, _⟩ | ⟨f', n', e', i, o2, e1, ne0, _⟩
    · rw [hd] at e1
      injection e1 with e3 e4; injection e4 with e4 _; subst e3; subst e4
      rw [List.drop_append_of_le_length q1] at hF
      rw [e2]
      obtain ⟨t, ht⟩ := ih m hF
      exact ⟨t, by rw [List.cons_append, ht]⟩
    · rw [hd] at e1; injection e1 with _ e4; injection e4 with _ e4; cases e4
    · rw [hd] at e1; injection e1 with _ e4; injection e4 with _ e4; exact absurd e4.symm ne0
    · rw [hd] at e1; injection e1 with _ e4; injection e4 with _ e4; exact absurd e4.symm ne0
  | short h1 => exact fun m o' _ => List.nil_prefix
  | @last l a n e f h1 h2 h3 h4 =>
    intro m o' h'
    have hd : dec (false :: l ++ m) = (f, n, e) := by
      have h5 : decGo rd0 0 (false :: l) = (f, n, e) := h1
      show decGo rd0 0 (false :: l ++ m) = _
      rw [decGo_app _ m rd0 0 (by rw [h5]; exact h3), h5]
    rcases h'.inv0 rfl with ⟨f', n', o2, e1, _⟩ | ⟨f', n', e1, e2⟩ | ⟨f', n', e', e1, _, _, _, e2⟩ | ⟨f', n', e', i, o2, e1, _, _, _, _, e2⟩
    · rw [hd] at e1; injection e1 with _ e4; injection e4 with _ e4; exact absurd e4 h2
    · rw [hd] at e1; injection e1 with _ e4; injection e4 with _ e4; exact absurd e4 h3
    · rw [hd] at e1; injection e1 with _ e4; injection e4 with e4 e5; subst e4; subst e5
      rw [e2]; exact List.prefix_refl _
    · rw [hd] at e1; injection e1 with _ e4; injection e4 with e4 e5; subst e4; subst e5
      rw [e2]; exact ⟨o2, rfl⟩
  | @next l a n e i f o h1 h2 h3 h4 h5 ih =>
    intro m o' h'
    obtain ⟨_, q2, _⟩ := dec_len h1
    have q2 := q2 h3 h2
    have q3 := idx11_le _ (by rw [h4]; omega)
    rw [h4, List.length_drop] at q3
    have hd : dec (false :: l ++ m) = (f, n, e) := by
      have h5 : decGo rd0 0 (false :: l) = (f, n, e) := h1
      show decGo rd0 0 (false :: l ++ m) = _
      rw [decGo_app _ m rd0 0 (by rw [h5]; exact h3), h5]
    have hx : idx11 ((false :: l ++ m).drop (n + 1)) = (i : Int) := by
      rw [List.drop_append_of_le_length (by omega), idx11_app _ _ (by rw [h4]; omega), h4]
    rcases h'.inv0 rfl with ⟨f', n', o2, e1, _⟩ | ⟨f', n', e1, e2⟩ | ⟨f', n', e', e1, _, _, e3, e2⟩ | ⟨f', n', e', i', o2, e1, _, _, e3, hF, e2⟩
    · rw [hd] at e1; injection e1 with _ e4; injection e4 with _ e4; exact absurd e4 h2
    · rw [hd] at e1; injection e1 with _ e4; injection e4 with _ e4; exact absurd e4 h3
    · rw [hd] at e1; injection e1 with _ e4; injection e4 with e4 e5; subst e4; subst e5
      have e3 : idx11 ((false :: l ++ m).drop (n + 1)) = -1 := e3
      rw [hx] at e3; omega
    · rw [hd] at e1; injection e1 with _ e4; injection e4 with e4 e5; subst e4; subst e5
      have e3 : idx11 ((false :: l ++ m).drop (n + 1)) = (i' : Int) := e3
      rw [hx] at e3
      obtain rfl : i = i' := by omega
      have hF : FrG ((false :: l ++ m).drop (n + 1 + (i + 11))) (a + (n + 1) + (i + 11)) o2 := hF
      rw [List.drop_append_of_le_length (by omega)] at hF
      rw [e2]
      obtain ⟨t, ht⟩ := ih m hF
      exact ⟨t, by rw [List.cons_append, ht]⟩
end Go.Pu
