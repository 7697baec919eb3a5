/- Plain words, on: prefixes of rows that are stuffed; bytes of rows; texts out of rows. No program in sight. -/
import Derived.Test.YtdeaigaafdnehaaDoorPuP
import Derived.Test.YtdeaigaafdnehaaDoorPuN
namespace Go.Eng
open Go Go.Pu
theorem take_gb {l : List Bool} {j : Nat} (h : j < l.length) : l.take (j + 1) = l.take j ++ [gb l j] := by
  rw [List.take_succ_eq_append_getElem h]
  unfold gb
  rw [List.getD_eq_getElem?_getD, List.getElem?_eq_getElem h]; rfl
theorem num_take {l : List Bool} {j : Nat} (h : j < l.length) : numB (l.take (j + 1)) = 2 * numB (l.take j) + (gb l j).toNat := by
  rw [take_gb h, numB_app]
theorem num_takeT {l : List Bool} {j : Nat} (h : j < l.length) (hb : gb l j = true) : numB (l.take (j + 1)) = 2 * numB (l.take j) + 1 := by
  rw [num_take h, hb]; rfl
theorem num_takeF {l : List Bool} {j : Nat} (h : j < l.length) (hb : gb l j = false) : numB (l.take (j + 1)) = 2 * numB (l.take j) := by
  rw [num_take h, hb]; rfl
theorem num_bd {l : List Bool} {j w : Nat} (h : l.length ≤ w) : numB (l.take j) < 2 ^ w := by
  refine Nat.lt_of_lt_of_le (numB_lt _) (Nat.pow_le_pow_right (by decide) ?_)
  rw [List.length_take]; omega
theorem num_le {l : List Bool} {w : Nat} (h : l.length ≤ w) : numB l < 2 ^ w := Nat.lt_of_lt_of_le (numB_lt _) (Nat.pow_le_pow_right (by decide) h)
/-! ### Bytes of rows -/
theorem bytesL_step : ∀ {l : List Bool}, 8 ≤ l.length → bytesL l = UInt8.ofNat (numB (l.take 8)) :: bytesL (l.drop 8)
  | _ :: _ :: _ :: _ :: _ :: _ :: _ :: _ :: _, _ => rfl
theorem bytesL_short : ∀ {l : List Bool}, l.length < 8 → bytesL l = []
  | [], _ => rfl
  | [_], _ => rfl
  | [_, _], _ => rfl
  | [_, _, _], _ => rfl
  | [_, _, _, _], _ => rfl
  | [_, _, _, _, _], _ => rfl
  | [_, _, _, _, _, _], _ => rfl
  | [_, _, _, _, _, _, _], _ => rfl
  | _ :: _ :: _ :: _ :: _ :: _ :: _ :: _ :: _, h => by simp at h; omega
theorem bytesL_eq : ∀ (n : Nat) {l : List Bool}, l.length / 8 = n → bytesL l = (List.range n).map fun i => UInt8.ofNat (numB ((l.drop (8 * i)).take 8))
  | 0, l, h => by rw [bytesL_short (by omega)]; rfl
  | n + 1, l, h => by
    rw [bytesL_step (by omega), bytesL_eq n (l := l.drop 8) (by rw [List.length_drop]; omega), List.range_succ_eq_map, List.map_cons, List.map_map]
    congr 1
    apply List.map_congr_left
    intro i _
    show UInt8.ofNat (numB (((l.drop 8).drop (8 * i)).take 8)) = UInt8.ofNat (numB ((l.drop (8 * (i + 1))).take 8))
    rw [List.drop_drop, show 8 + 8 * i = 8 * (i + 1) by omega]
theorem mkStr_map {L : Nat} {f : Nat → List C} {x : Nat → UInt8} (h : ∀ i, i < L → f i = [.v (.int .u8 (x i).toNat)]) : mkStr L f = ⟨((List.range L).map x).toArray⟩ := by
  unfold mkStr
  congr 2
  apply List.map_congr_left
  intro i hi
  rw [h i (by simpa using hi)]
  show UInt8.ofNat ((x i).toNat : Int).toNat = x i
  rw [Int.toNat_natCast]
  exact UInt8.ofNat_toNat
theorem cI_bsg (b : Bool) : cI b = ((bsg b).toNat : Int) := by cases b <;> rfl
theorem mkStr_bs {L : Nat} {l : List Bool} (hl : l.length = L) {f : Nat → List C} (h : ∀ i, i < L → f i = [.v (.int .u8 (cI (gb l i)))]) : mkStr L f = bs l := by
  rw [mkStr_map (x := fun i => bsg (gb l i)) fun i hi => by rw [h i hi, cI_bsg]]
  unfold bs
  congr 2
  apply List.ext_getElem
  · simp [hl]
  · intro i h1 h2
    have h3 : i < l.length := by simpa [hl] using h1
    simp [gb, h3]
/-! ### Stuffing, by prefixes -/
def runGo (r : Run) : List Bool → Run
  | [] => r
  | c :: l => if (r.add c).n = 5 then runGo ⟨!c, 1⟩ l else runGo (r.add c) l
theorem stuffGo_c (r : Run) (c : Bool) (l : List Bool) : stuffGo r (c :: l) = if (r.add c).n = 5 then c :: (!c) :: stuffGo ⟨!c, 1⟩ l else c :: stuffGo (r.add c) l := rfl
theorem runGo_c (r : Run) (c : Bool) (l : List Bool) : runGo r (c :: l) = if (r.add c).n = 5 then runGo ⟨!c, 1⟩ l else runGo (r.add c) l := rfl
theorem stuffGo_app (r : Run) (a b : List Bool) : stuffGo r (a ++ b) = stuffGo r a ++ stuffGo (runGo r a) b := by
  induction a generalizing r with
  | nil => rfl
  | cons c l ih =>
    rw [List.cons_append, stuffGo_c, stuffGo_c, runGo_c]
    split
    · rw [ih]; rfl
    · rw [ih]; rfl
theorem runGo_app (r : Run) (a b : List Bool) : runGo r (a ++ b) = runGo (runGo r a) b := by
  induction a generalizing r with
  | nil => rfl
  | cons c l ih =>
    rw [List.cons_append, runGo_c, runGo_c]
    split
    · rw [ih]
    · rw [ih]
def stO (l : List Bool) (j : Nat) : List Bool := stuffGo run0 (l.take j)
def stR (l : List Bool) (j : Nat) : Run := runGo run0 (l.take j)
theorem stO_5 {l : List Bool} {j : Nat} (h : j < l.length) (h5 : ((stR l j).add (gb l j)).n = 5) : stO l (j + 1) = stO l j ++ [gb l j, !gb l j] ∧ stR l (j + 1) = ⟨!gb l j, 1⟩ := by
  unfold stO stR at *
  rw [take_gb h, stuffGo_app, runGo_app, stuffGo_c, runGo_c, if_pos h5, if_pos h5]
  exact ⟨rfl, rfl⟩
theorem stO_n {l : List Bool} {j : Nat} (h : j < l.length) (h5 : ¬ ((stR l j).add (gb l j)).n = 5) : stO l (j + 1) = stO l j ++ [gb l j] ∧ stR l (j + 1) = (stR l j).add (gb l j) := by
  unfold stO stR at *
  rw [take_gb h, stuffGo_app, runGo_app, stuffGo_c, runGo_c, if_neg h5, if_neg h5]
  exact ⟨rfl, rfl⟩
theorem runGo_bd (l : List Bool) : ∀ r : Run, r.n ≤ 4 → (runGo r l).n ≤ 4 := by
  induction l with
  | nil => intro r h; exact h
  | cons c l ih =>
    intro r h
    unfold runGo
    split
    · exact ih _ (by show 1 ≤ 4; decide)
    · rename_i h5
      refine ih _ ?_
      unfold Run.add at h5 ⊢
      split
      · rename_i g; rw [if_pos g] at h5; simp at h5 ⊢; omega
      · show 1 ≤ 4; decide
theorem stR_bd (l : List Bool) (j : Nat) : (stR l j).n ≤ 4 := runGo_bd _ _ (by decide)
theorem stO_len (l : List Bool) (j : Nat) : (stO l j).length ≤ 2 * j := by
  have := stuffGo_len run0 (l.take j)
  rw [List.length_take] at this
  unfold stO; omega
theorem stuffGo_ge (l : List Bool) : ∀ r, l.length ≤ (stuffGo r l).length := by
  induction l with
  | nil => intro r; exact Nat.le_refl _
  | cons c l ih =>
    intro r
    rw [stuffGo_c]
    split
    · have := ih ⟨!c, 1⟩; simp only [List.length_cons]; omega
    · have := ih (r.add c); simp only [List.length_cons]; omega
theorem stO_ge {l : List Bool} {j : Nat} (h : j ≤ l.length) : j ≤ (stO l j).length := by
  have := stuffGo_ge (l.take j) run0
  rw [List.length_take] at this
  unfold stO; omega
theorem stO_all (l : List Bool) : stO l l.length = stuff l := by unfold stO; rw [List.take_length]; rfl
theorem gb_snoc {l : List Bool} {b : Bool} {q : Nat} (h : q < l.length + 1) : gb (l ++ [b]) q = if q < l.length then gb l q else b := by
  by_cases c : q < l.length
  · rw [gb_left c, if_pos c]
  · rw [gb_right (by omega), if_neg c, show q - l.length = 0 by omega]; rfl
theorem need_bd (L : List Bool) : (need L).1 = 0 ∨ ((need L).2 = 0 ∧ gb L 13 = true ∧ 39 ≤ (need L).1 ∧ (need L).1 ≤ 103 ∧ 39 ≤ L.length) ∨ ((need L).2 = 0 ∧ gb L 13 = false ∧ 19 ≤ (need L).1 ∧ (need L).1 ≤ 83 ∧ 19 ≤ L.length) := by
  unfold need
  split
  · exact .inl rfl
  · split
    · exact .inl rfl
    · split
      · rename_i h13
        split
        · exact .inl rfl
        · split
          · exact .inl rfl
          · split
            · exact .inr (.inl ⟨rfl, h13, Nat.le_refl _, by show 39 ≤ 103; decide, by omega⟩)
            · exact .inr (.inl ⟨rfl, h13, by show 39 ≤ 39 + 8 * _; omega, by show 39 + 8 * _ ≤ 103; omega, by omega⟩)
      · rename_i h13
        split
        · exact .inl rfl
        · split
          · exact .inr (.inr ⟨rfl, Bool.eq_false_iff.2 h13, Nat.le_refl _, by show 19 ≤ 83; decide, by omega⟩)
          · exact .inr (.inr ⟨rfl, Bool.eq_false_iff.2 h13, by show 19 ≤ 19 + 8 * _; omega, by show 19 + 8 * _ ≤ 83; omega, by omega⟩)
theorem or18 {a b : Nat} (ha : a < 2048) (hb : b < 262144) : orI .u32 ((a * 262144 : Nat) : Int) (b : Nat) = ((a * 262144 + b : Nat) : Int) := by
  rw [orI_u (k := .u32) rfl (show a * 262144 < 2 ^ 32 by omega) (show b < 2 ^ 32 by omega)]
  congr 1
  have := Nat.two_pow_add_eq_or_of_lt (i := 18) (b := b) hb a
  rw [show 2 ^ 18 * a = a * 262144 by omega] at this
  exact this.symm
theorem shl32 (c : Nat) : (c : Int) * 2 ^ min (Int.toNat 18) IntKind.u32.bits = ((c * 262144 : Nat) : Int) := by
  rw [show min (Int.toNat 18) IntKind.u32.bits = 18 from rfl]; omega
end Go.Eng
