/- Plain words, on: a frame's bits, read, are the frame. No program in sight. -/
import Derived.Test.YtdeaigaafdnehaaDoorPuO
namespace Go.Pu
theorem gb_left {a b : List Bool} {i : Nat} (h : i < a.length) : gb (a ++ b) i = gb a i := by
  unfold gb
  rw [List.getD_eq_getElem?_getD, List.getD_eq_getElem?_getD, List.getElem?_append_left h]
theorem gb_right {a b : List Bool} {i : Nat} (h : a.length ≤ i) : gb (a ++ b) i = gb b (i - a.length) := by
  unfold gb
  rw [List.getD_eq_getElem?_getD, List.getD_eq_getElem?_getD, List.getElem?_append_right h]
def pre (f : Frm) : List Bool := arb f ++ (if f.ext then [false, false] else [false])
theorem body_eq (f : Frm) : body f = pre f ++ (ofN f.data.size 4 ++ byB f.data) := by
  unfold body pre
  simp only [List.append_assoc]
theorem pre_std {f : Frm} (h : f.ext = false) : pre f = false :: (ofN f.id 11 ++ [f.rtr, false, false]) := by
  unfold pre arb
  rw [h]; simp
theorem pre_ext {f : Frm} (h : f.ext = true) : pre f = false :: (ofN (f.id / 262144) 11 ++ (true :: true :: (ofN f.id 18 ++ [f.rtr, false, false]))) := by
  unfold pre arb
  rw [h]; simp
def thr (f : Frm) : Nat := if f.ext then 39 else 19
theorem pre_len (f : Frm) : (pre f).length + 4 = thr f := by
  unfold thr
  cases h : f.ext
  · rw [pre_std h]; simp [ofN_len]
  · rw [pre_ext h]; simp [ofN_len]
theorem body_len (f : Frm) : (body f).length = thr f + 8 * f.data.size := by
  have := pre_len f
  rw [body_eq, List.length_append, List.length_append, ofN_len, byB_len]; omega
theorem gb_pre0 (f : Frm) (y : List Bool) : gb (pre f ++ y) 0 = false := by
  cases h : f.ext
  · rw [pre_std h]; rfl
  · rw [pre_ext h]; rfl
theorem gb_cons {b : Bool} {l : List Bool} {i : Nat} : gb (b :: l) (i + 1) = gb l i := rfl
theorem gb_pre_std {f : Frm} (h : f.ext = false) (y : List Bool) : gb (pre f ++ y) 12 = f.rtr ∧ gb (pre f ++ y) 13 = false := by
  have hl : (pre f).length = 15 := by have := pre_len f; unfold thr at this; rw [h] at this; simp at this; omega
  rw [gb_left (by omega), gb_left (by omega), pre_std h, gb_cons, gb_cons, gb_right (by rw [ofN_len]; omega), gb_right (by rw [ofN_len]; omega), ofN_len]
  exact ⟨rfl, rfl⟩
theorem gb_pre_ext {f : Frm} (h : f.ext = true) (y : List Bool) : gb (pre f ++ y) 12 = true ∧ gb (pre f ++ y) 13 = true ∧ gb (pre f ++ y) 32 = f.rtr := by
  have hl : (pre f).length = 35 := by have := pre_len f; unfold thr at this; rw [h] at this; simp at this; omega
  rw [gb_left (by omega), gb_left (by omega), gb_left (by omega), pre_ext h, gb_cons, gb_cons, gb_cons, gb_right (by rw [ofN_len]; omega), gb_right (by rw [ofN_len]; omega), gb_right (by rw [ofN_len]; omega), ofN_len]
  refine ⟨rfl, rfl, ?_⟩
  show gb (true :: true :: (ofN f.id 18 ++ [f.rtr, false, false])) 20 = f.rtr
  rw [gb_cons, gb_cons, gb_right (by rw [ofN_len]; omega), ofN_len]; rfl
theorem drop_pre (f : Frm) (y : List Bool) : (pre f ++ y).drop (thr f - 4) = y := by
  have := pre_len f
  rw [show thr f - 4 = (pre f).length by omega, List.drop_left]
theorem num4 {n : Nat} (h : n ≤ 8) : min (numB (ofN n 4)) 8 = n := by
  rw [num_ofN, Nat.mod_eq_of_lt (by omega)]; omega
theorem need_full {f : Frm} (hf : f.ok) (y : List Bool) : need (pre f ++ (ofN f.data.size 4 ++ y)) = ((body f).length, 0) := by
  obtain ⟨h1, h2, h3⟩ := hf
  have hl := pre_len f
  have hd := drop_pre f (ofN f.data.size 4 ++ y)
  have h0 := gb_pre0 f (ofN f.data.size 4 ++ y)
  have ht : (ofN f.data.size 4 ++ y).take 4 = ofN f.data.size 4 := by
    rw [List.take_left' (ofN_len _ _)]
  have hL : (pre f ++ (ofN f.data.size 4 ++ y)).length = thr f + y.length := by
    rw [List.length_append, List.length_append, ofN_len]; omega
  rw [body_len]
  unfold need
  rw [hL, h0]
  cases h : f.ext
  · obtain ⟨g1, g2⟩ := gb_pre_std h (ofN f.data.size 4 ++ y)
    have t : thr f = 19 := by unfold thr; rw [h]; rfl
    rw [t] at hd ⊢
    rw [g1, g2, if_neg (by simp), if_neg (by omega), if_neg (by simp), if_neg (by omega)]
    cases hr : f.rtr
    · rw [if_neg (by simp), show (15 : Nat) = 19 - 4 from rfl, hd, ht, num4 h2]
    · rw [if_pos rfl, h1 hr]
  · obtain ⟨g1, g2, g3⟩ := gb_pre_ext h (ofN f.data.size 4 ++ y)
    have t : thr f = 39 := by unfold thr; rw [h]; rfl
    rw [t] at hd ⊢
    rw [g1, g2, g3, if_neg (by simp), if_neg (by omega), if_pos rfl, if_neg (by simp), if_neg (by omega)]
    cases hr : f.rtr
    · rw [if_neg (by simp), show (35 : Nat) = 39 - 4 from rfl, hd, ht, num4 h2]
    · rw [if_pos rfl, h1 hr]
theorem need_part {f : Frm} {p q y : List Bool} (he : p ++ q = pre f ++ y) (hp : p.length < thr f) : need p = (0, 0) := by
  have hl := pre_len f
  have g : ∀ i, i < p.length → gb p i = gb (pre f ++ y) i := fun i hi => by rw [← he, gb_left hi]
  unfold need
  by_cases c0 : p.length = 0
  · rw [if_neg (by omega), if_pos (by omega)]
  rw [if_neg (by rw [g 0 (by omega), gb_pre0]; simp)]
  by_cases c1 : p.length ≤ 13
  · rw [if_pos c1]
  rw [if_neg c1]
  cases h : f.ext
  · obtain ⟨g1, g2⟩ := gb_pre_std h y
    have t : thr f = 19 := by unfold thr; rw [h]; rfl
    rw [g 13 (by omega), g2, if_neg (by simp), if_pos (by omega)]
  · obtain ⟨g1, g2, g3⟩ := gb_pre_ext h y
    have t : thr f = 39 := by unfold thr; rw [h]; rfl
    rw [g 13 (by omega), g 12 (by omega), g1, g2, if_pos rfl, if_neg (by simp), if_pos (by omega)]
theorem frmOf_full {f : Frm} (hf : f.ok) (z : List Bool) : frmOf (pre f ++ (ofN f.data.size 4 ++ (byB f.data ++ z))) = f := by
  have hn := need_full hf (byB f.data ++ z)
  rw [body_len] at hn
  obtain ⟨h1, h2, h3⟩ := hf
  have hl := pre_len f
  generalize hy : ofN f.data.size 4 ++ (byB f.data ++ z) = y at *
  have hd : (pre f ++ y).drop (thr f) = byB f.data ++ z := by
    have := drop_pre f y
    have e : thr f = (thr f - 4) + 4 := by omega
    rw [e, ← List.drop_drop, this, ← hy, List.drop_left' (ofN_len _ _)]
  have hb : ((pre f ++ y).drop (thr f)).take (thr f + 8 * f.data.size - thr f) = byB f.data := by
    rw [hd, show thr f + 8 * f.data.size - thr f = 8 * f.data.size by omega, List.take_left' (byB_len _)]
  unfold frmOf
  rw [hn]
  cases h : f.ext
  · obtain ⟨g1, g2⟩ := gb_pre_std h y
    have t : thr f = 19 := by unfold thr; rw [h]; rfl
    rw [t] at hb
    rw [h] at h3
    rw [g1, g2, if_neg (by simp), t]
    show Frm.mk false _ _ (bytes (List.take (19 + 8 * f.data.size - 19) (List.drop 19 (pre f ++ y)))) = f
    rw [hb, bytes_by]
    have e : ((pre f ++ y).drop 1).take 11 = ofN f.id 11 := by
      rw [pre_std h]
      show ((ofN f.id 11 ++ [f.rtr, false, false]) ++ y).take 11 = _
      rw [List.append_assoc, List.take_left' (ofN_len _ _)]
    rw [e, num_ofN, Nat.mod_eq_of_lt (by simpa using h3)]
    cases f; simp at h; subst h; rfl
  · obtain ⟨g1, g2, g3⟩ := gb_pre_ext h y
    have t : thr f = 39 := by unfold thr; rw [h]; rfl
    rw [t] at hb
    rw [h] at h3
    rw [g2, g3, if_pos rfl, t]
    show Frm.mk true _ _ (bytes (List.take (39 + 8 * f.data.size - 39) (List.drop 39 (pre f ++ y)))) = f
    rw [hb, bytes_by]
    have e : ((pre f ++ y).drop 1).take 11 = ofN (f.id / 262144) 11 := by
      rw [pre_ext h]
      show ((ofN (f.id / 262144) 11 ++ _) ++ y).take 11 = _
      rw [List.append_assoc, List.take_left' (ofN_len _ _)]
    have e2 : ((pre f ++ y).drop 14).take 18 = ofN f.id 18 := by
      rw [pre_ext h]
      show (((ofN (f.id / 262144) 11 ++ (true :: true :: (ofN f.id 18 ++ [f.rtr, false, false]))) ++ y).drop 13).take 18 = _
      rw [List.append_assoc, show (13 : Nat) = 11 + 2 from rfl, ← List.drop_drop, List.drop_left' (ofN_len _ _)]
      show ((ofN f.id 18 ++ [f.rtr, false, false]) ++ y).take 18 = _
      rw [List.append_assoc, List.take_left' (ofN_len _ _)]
    have h3 : f.id < 536870912 := by simpa using h3
    rw [e, e2, num_ofN, num_ofN]
    have e3 : f.id / 262144 % 2 ^ 11 * 262144 + f.id % 2 ^ 18 = f.id := by
      rw [Nat.mod_eq_of_lt (show f.id / 262144 < 2 ^ 11 by omega)]
      omega
    rw [e3]
    cases f; simp at h; subst h; rfl
/-! ### The reader on its way -/
def whole (f : Frm) : List Bool := body f ++ ofN (crc (body f)) 15
theorem whole_eq (f : Frm) : whole f = pre f ++ (ofN f.data.size 4 ++ (byB f.data ++ ofN (crc (body f)) 15)) := by
  unfold whole
  rw [body_eq]
  simp only [List.append_assoc]
theorem whole_len (f : Frm) : (whole f).length = (body f).length + 15 := by unfold whole; rw [List.length_append, ofN_len]
theorem whole_crc (f : Frm) : crc (whole f) = 0 := by
  unfold whole
  rw [crc_app]
  exact (crc_zero (crc_lt _) (crc_lt _)).2 rfl
def rdAt (f : Frm) (p : List Bool) (r : Run) (lb : Bool) (n : Nat) : Rd := ⟨r, p, if p.length < thr f then 0 else (body f).length, crc p, n, lb⟩
theorem thr_le (f : Frm) : thr f ≤ (body f).length ∧ 19 ≤ thr f := by
  rw [body_len]; unfold thr; split <;> omega
theorem at_inB {f : Frm} {p q : List Bool} {c : Bool} {r : Run} {lb : Bool} {n : Nat} (h : p ++ c :: q = whole f) : (rdAt f p r lb n).inB = true := by
  have hl := congrArg List.length h
  rw [List.length_append, whole_len, List.length_cons] at hl
  unfold Rd.inB rdAt
  apply decide_eq_true
  show (if p.length < thr f then 0 else (body f).length) = 0 ∨ p.length < (if p.length < thr f then 0 else (body f).length) + 15
  split <;> omega
theorem at_add {f : Frm} (hf : f.ok) {p q : List Bool} {c : Bool} {r : Run} (h : p ++ c :: q = whole f) : (rdAt f p r false 0).add c = (rdAt f (p ++ [c]) r false 0, 0) := by
  have ht := thr_le f
  have hl := congrArg List.length h
  rw [List.length_append, whole_len, List.length_cons] at hl
  unfold Rd.add
  have e : crcAdd (crc p) c = crc (p ++ [c]) := (crc_snoc p c).symm
  by_cases c1 : p.length < thr f
  · have en : (rdAt f p r false 0).need = 0 := if_pos c1
    rw [if_neg (by omega)]
    show (if (need (p ++ [c])).2 ≠ 0 then _ else _) = _
    by_cases c2 : p.length + 1 < thr f
    · have hn := need_part (f := f) (p := p ++ [c]) (q := q) (by rw [List.append_assoc, ← whole_eq, ← h]; rfl) (by rw [List.length_append]; exact c2)
      rw [hn, if_neg (by simp)]
      unfold rdAt
      simp only [Prod.mk.injEq, and_true]
      rw [if_pos (show (p ++ [c]).length < thr f by rw [List.length_append]; exact c2), e, hn]
    · have hn : need (p ++ [c]) = ((body f).length, 0) := by
        have hk : (p ++ [c]).length = thr f := by rw [List.length_append]; show p.length + 1 = _; omega
        have hx : p ++ [c] = pre f ++ (ofN f.data.size 4 ++ []) := by
          have h3 : (whole f).take (thr f) = p ++ [c] := by rw [← h, show p ++ c :: q = (p ++ [c]) ++ q by simp, List.take_left' hk]
          rw [← h3, whole_eq]
          rw [show pre f ++ (ofN f.data.size 4 ++ (byB f.data ++ ofN (crc (body f)) 15)) = (pre f ++ (ofN f.data.size 4 ++ [])) ++ (byB f.data ++ ofN (crc (body f)) 15) by simp]
          rw [List.take_left' (by rw [List.length_append, List.length_append, ofN_len]; exact pre_len f)]
        rw [hx]; exact need_full hf []
      rw [hn, if_neg (by simp)]
      unfold rdAt
      simp only [Prod.mk.injEq, and_true]
      rw [if_neg (show ¬ (p ++ [c]).length < thr f by rw [List.length_append]; exact c2), e, hn]
  · have en : (rdAt f p r false 0).need = (body f).length := if_neg c1
    rw [if_pos (by omega)]
    unfold rdAt
    simp only [Prod.mk.injEq, and_true]
    rw [if_neg c1, if_neg (show ¬ (p ++ [c]).length < thr f by rw [List.length_append]; show ¬ p.length + 1 < _; omega), e]
theorem at_push {f : Frm} (hf : f.ok) {p q : List Bool} {c : Bool} {r : Run} (hr : r.n ≠ 5) (h : p ++ c :: q = whole f) : (rdAt f p r false 0).push c = (rdAt f (p ++ [c]) (r.add c) false 0, 0) := by
  unfold Rd.push
  rw [if_pos (.inl (at_inB h)), if_neg (fun h => hr h.1), if_neg (show ¬ (rdAt f p r false 0).run.n = 5 from hr)]
  exact at_add hf h
theorem at_laid {f : Frm} {p : List Bool} {c : Bool} : (rdAt f p ⟨c, 5⟩ false 0).push (!c) = ({ rdAt f p ⟨!c, 1⟩ false 0 with laid := !(rdAt f p ⟨c, 5⟩ false 0).inB }, 0) := by
  unfold Rd.push
  rw [if_pos (.inr ⟨rfl, rfl, rfl⟩), if_neg (by intro h; have h := h.2; cases c <;> cases h), if_pos (show (rdAt f p ⟨c, 5⟩ false 0).run.n = 5 from rfl)]
  have e : Run.add ⟨c, 5⟩ (!c) = ⟨!c, 1⟩ := by unfold Run.add; rw [if_neg (by cases c <;> simp)]
  show (({ rdAt f p ⟨c, 5⟩ false 0 with run := Run.add ⟨c, 5⟩ (!c), laid := _ } : Rd), 0) = _
  rw [e]; rfl
theorem add_n (r : Run) (c : Bool) : (r.add c).n = 5 → r.add c = ⟨c, 5⟩ := fun h => by
  unfold Run.add at h ⊢
  split
  · rename_i g
    rw [if_pos g] at h
    rw [g.2]; simp at h ⊢; exact h
  · rename_i g
    rw [if_neg g] at h; simp at h
/-- All bits of the row, with those laid between. -/
theorem dec_row {f : Frm} (hf : f.ok) (T : List Bool) : ∀ (q p : List Bool) (r : Run) (i : Nat), p ++ q = whole f → r.n ≠ 5 → ∃ r' lb, r'.n ≠ 5 ∧ decGo (rdAt f p r false 0) i (stuffGo r q ++ T) = decGo (rdAt f (whole f) r' lb 0) (i + (stuffGo r q).length) T
  | [], p, r, i, h, hr => by
    rw [List.append_nil] at h
    subst h
    exact ⟨r, false, hr, rfl⟩
  | c :: q, p, r, i, h, hr => by
    have hp := at_push hf hr h
    have h' : (p ++ [c]) ++ q = whole f := by rw [← h]; simp
    unfold stuffGo
    by_cases c5 : (r.add c).n = 5
    · rw [if_pos c5]
      rw [add_n r c c5] at hp
      show ∃ (r' : Run) (lb : Bool), r'.n ≠ 5 ∧ decGo (rdAt f p r false 0) i (c :: (!c) :: (stuffGo ⟨!c, 1⟩ q ++ T)) = _
      have st : decGo (rdAt f p r false 0) i (c :: (!c) :: (stuffGo ⟨!c, 1⟩ q ++ T)) = decGo { rdAt f (p ++ [c]) ⟨!c, 1⟩ false 0 with laid := !(rdAt f (p ++ [c]) ⟨c, 5⟩ false 0).inB } (i + 1 + 1) (stuffGo ⟨!c, 1⟩ q ++ T) := by
        rw [decGo, hp, if_neg (by simp), if_neg (by show ¬ (0 - 3 = 7); decide)]
        show decGo (rdAt f (p ++ [c]) ⟨c, 5⟩ false 0) (i + 1) _ = _
        rw [decGo, at_laid, if_neg (by simp), if_neg (by show ¬ (0 - 3 = 7); decide)]
      rw [st]
      cases q with
      | nil =>
        rw [List.append_nil] at h'
        rw [h']
        refine ⟨⟨!c, 1⟩, !(rdAt f (whole f) ⟨c, 5⟩ false 0).inB, by simp, ?_⟩
        rfl
      | cons d q =>
        rw [at_inB h']
        obtain ⟨r', lb, g1, g2⟩ := dec_row hf T (d :: q) (p ++ [c]) ⟨!c, 1⟩ (i + 1 + 1) h' (by simp)
        refine ⟨r', lb, g1, ?_⟩
        refine Eq.trans g2 ?_
        congr 1
        simp only [List.length_cons]; omega
    · rw [if_neg c5]
      obtain ⟨r', lb, g1, g2⟩ := dec_row hf T q (p ++ [c]) (r.add c) (i + 1) h' c5
      refine ⟨r', lb, g1, ?_⟩
      show decGo (rdAt f p r false 0) i (c :: (stuffGo (r.add c) q ++ T)) = _
      rw [decGo, hp, if_neg (by simp), if_neg (by show ¬ (0 - 3 = 7); decide), g2]
      congr 1
      simp only [List.length_cons]; omega
theorem end_push {f : Frm} {r : Run} {lb : Bool} {n : Nat} (hr : r.n ≠ 5) : (rdAt f (whole f) r lb n).push true = (rdAt f (whole f) r lb (n + 1), 0) := by
  have hi : (rdAt f (whole f) r lb n).inB = false := by
    have ht := thr_le f
    have hw := whole_len f
    unfold Rd.inB rdAt
    apply decide_eq_false
    show ¬ ((if (whole f).length < thr f then 0 else (body f).length) = 0 ∨ (whole f).length < (if (whole f).length < thr f then 0 else (body f).length) + 15)
    rw [if_neg (by omega)]; omega
  have hq : (rdAt f (whole f) r lb n).right = true := by
    unfold Rd.right
    rw [hi]
    exact decide_eq_true (whole_crc f)
  unfold Rd.push
  rw [if_neg (by rw [hi]; intro h; rcases h with h | h; cases h; exact hr h.1)]
  unfold Rd.tail
  rw [hq]
  have e : (if (rdAt f (whole f) r lb n).fin + 1 = 2 then 0 else if true = false then 12 else if (rdAt f (whole f) r lb n).fin + 1 = 3 ∧ true = false then 40 else 0) = 0 := by
    split
    · rfl
    · rw [if_neg (by simp), if_neg (by simp)]
  rw [e]; rfl
theorem parse_whole {f : Frm} (hf : f.ok) : (parse (whole f)).1 = f := by
  have hn := need_full hf (byB f.data ++ ofN (crc (body f)) 15)
  rw [← whole_eq] at hn
  have hw := whole_len f
  have ht := thr_le f
  unfold parse
  rw [hn, if_neg (by simp), if_neg (show ¬ ((body f).length = 0 ∨ (whole f).length < (body f).length) by omega)]
  show frmOf (whole f) = f
  rw [whole_eq]
  exact frmOf_full hf _
/-- A frame's bits, read, are the frame, whatever is behind. -/
theorem dec_enc {f : Frm} (hf : f.ok) (rest : List Bool) : dec (encB f ++ rest) = (f, (encB f).length, 0) := by
  unfold dec encB
  rw [List.append_assoc]
  have h0 : rd0 = rdAt f [] run0 false 0 := by
    unfold rdAt rd0
    rw [if_pos (show ([] : List Bool).length < thr f by have := thr_le f; show 0 < _; omega)]; rfl
  rw [h0]
  obtain ⟨r', lb, g1, g2⟩ := dec_row hf (List.replicate 10 true ++ rest) (whole f) [] run0 0 rfl (by decide)
  show decGo (rdAt f [] run0 false 0) 0 (stuffGo run0 (whole f) ++ (List.replicate 10 true ++ rest)) = _
  rw [g2]
  have st : ∀ n i T, n + 1 < 10 → decGo (rdAt f (whole f) r' lb n) i (true :: T) = decGo (rdAt f (whole f) r' lb (n + 1)) (i + 1) T := fun n i T hn => by
    rw [decGo, end_push g1, if_neg (by simp), if_neg (by show ¬ (n + 1 - 3 = 7); omega)]
  have sl : ∀ i T, decGo (rdAt f (whole f) r' lb 9) i (true :: T) = (f, i + 1, 0) := fun i T => by
    rw [decGo, end_push g1, if_neg (by simp), if_pos (by show 9 + 1 - 3 = 7; rfl)]
    show ((parse (whole f)).1, i + 1, 0) = _
    rw [parse_whole hf]
  have e : List.replicate 10 true ++ rest = true :: true :: true :: true :: true :: true :: true :: true :: true :: true :: rest := rfl
  rw [e, st 0 _ _ (by decide), st 1 _ _ (by decide), st 2 _ _ (by decide), st 3 _ _ (by decide), st 4 _ _ (by decide), st 5 _ _ (by decide), st 6 _ _ (by decide), st 7 _ _ (by decide), st 8 _ _ (by decide), sl]
  simp only [Prod.mk.injEq, true_and, and_true]
  rw [List.length_append, List.length_replicate]
  show 0 + (stuffGo run0 (whole f)).length + 1 + 1 + 1 + 1 + 1 + 1 + 1 + 1 + 1 + 1 = (stuffGo run0 (whole f)).length + 10
  omega
end Go.Pu
