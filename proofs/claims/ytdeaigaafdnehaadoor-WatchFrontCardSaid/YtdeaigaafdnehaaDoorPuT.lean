/- Plain words, on: rows of bits where eleven ones follow an error. No program in sight. -/
import Derived.Test.YtdeaigaafdnehaaDoorPuR
namespace Go.Pu
/-- Where eleven ones begin; -1. -/
def idx11 : List Bool → Int
  | [] => -1
  | b :: l => if (List.replicate 11 true).isPrefixOf (b :: l) then 0 else if idx11 l == -1 then -1 else idx11 l + 1
theorem idx11_ge : ∀ l, -1 ≤ idx11 l
  | [] => by decide
  | b :: l => by
    have := idx11_ge l
    unfold idx11
    split
    · omega
    · split
      · omega
      · rename_i h; simp only [beq_iff_eq] at h; omega
theorem ipre_len {a l : List Bool} (h : a.isPrefixOf l = true) : a.length ≤ l.length := (List.isPrefixOf_iff_prefix.1 h).length_le
theorem idx11_le : ∀ l, idx11 l ≠ -1 → idx11 l + 11 ≤ l.length
  | [], h => absurd rfl h
  | b :: l, h => by
    have ih := idx11_le l
    unfold idx11 at h ⊢
    split
    · rename_i hp
      have := ipre_len hp
      rw [List.length_replicate] at this
      omega
    · rename_i hp
      rw [if_neg hp] at h
      split
      · rename_i h2; rw [if_pos h2] at h; exact absurd rfl h
      · rename_i h2; simp only [beq_iff_eq] at h2
        have := ih h2
        rw [List.length_cons]; omega
theorem ipre_app {a : List Bool} {l m : List Bool} (h : a.isPrefixOf l = true) : a.isPrefixOf (l ++ m) = true := List.isPrefixOf_iff_prefix.2 ((List.isPrefixOf_iff_prefix.1 h).trans (List.prefix_append l m))
/-- What begins within the row begins there whatever follows. -/
theorem idx11_app : ∀ (l m : List Bool), idx11 l ≠ -1 → idx11 (l ++ m) = idx11 l
  | [], _, h => absurd rfl h
  | b :: l, m, h => by
    have ih := idx11_app l m
    unfold idx11 at h
    by_cases hp : (List.replicate 11 true).isPrefixOf (b :: l) = true
    · have hp' : (List.replicate 11 true).isPrefixOf (b :: (l ++ m)) = true := ipre_app (l := b :: l) hp
      show (if (List.replicate 11 true).isPrefixOf (b :: (l ++ m)) then (0 : Int) else _) = if _ then (0 : Int) else _
      rw [if_pos hp, if_pos hp']
    · rw [if_neg hp] at h
      have h2 : idx11 l ≠ -1 := fun e => by rw [e] at h; exact h rfl
      have h3 := idx11_le l h2
      have hp2 : ¬ (List.replicate 11 true).isPrefixOf (b :: (l ++ m)) = true := fun hq => hp (by
        have h4 := List.isPrefixOf_iff_prefix.1 hq
        have h5 : b :: l <+: b :: (l ++ m) := List.prefix_append (b :: l) m
        refine List.isPrefixOf_iff_prefix.2 (List.prefix_of_prefix_length_le h4 h5 ?_)
        rw [List.length_replicate, List.length_cons]
        have := idx11_ge l
        omega)
      show (if (List.replicate 11 true).isPrefixOf (b :: (l ++ m)) then (0 : Int) else if idx11 (l ++ m) == -1 then -1 else idx11 (l ++ m) + 1) = if _ then (0 : Int) else if idx11 l == -1 then -1 else idx11 l + 1
      rw [if_neg hp, if_neg hp2, ih h2]
/-! ### Reading on -/
theorem decGo_app : ∀ (l m : List Bool) (r : Rd) (i : Nat), (decGo r i l).2.2 ≠ 10 → decGo r i (l ++ m) = decGo r i l
  | [], _, _, _, h => absurd rfl h
  | c :: l, m, r, i, h => by
    show (if (r.push c).2 ≠ 0 then (frm0, i, (r.push c).2) else if (r.push c).1.end_ = 7 then ((parse (r.push c).1.b).1, i + 1, 0) else decGo (r.push c).1 (i + 1) (l ++ m)) = if (r.push c).2 ≠ 0 then (frm0, i, (r.push c).2) else if (r.push c).1.end_ = 7 then ((parse (r.push c).1.b).1, i + 1, 0) else decGo (r.push c).1 (i + 1) l
    have h : (if (r.push c).2 ≠ 0 then (frm0, i, (r.push c).2) else if (r.push c).1.end_ = 7 then ((parse (r.push c).1.b).1, i + 1, 0) else decGo (r.push c).1 (i + 1) l).2.2 ≠ 10 := h
    by_cases h1 : (r.push c).2 ≠ 0
    · rw [if_pos h1, if_pos h1]
    · rw [if_neg h1] at h ⊢
      rw [if_neg h1]
      by_cases h2 : (r.push c).1.end_ = 7
      · rw [if_pos h2, if_pos h2]
      · rw [if_neg h2] at h ⊢
        rw [if_neg h2]
        exact decGo_app l m _ _ h
theorem decGo_len : ∀ (l : List Bool) (r : Rd) (i : Nat), i ≤ (decGo r i l).2.1 ∧ (decGo r i l).2.1 ≤ i + l.length ∧ ((decGo r i l).2.2 ≠ 10 → (decGo r i l).2.2 ≠ 0 → (decGo r i l).2.1 < i + l.length) ∧ ((decGo r i l).2.2 = 0 → i < (decGo r i l).2.1)
  | [], r, i => ⟨Nat.le_refl _, Nat.le_refl _, fun h => absurd rfl h, fun h => by cases h⟩
  | c :: l, r, i => by
    have e : decGo r i (c :: l) = (if (r.push c).2 ≠ 0 then (frm0, i, (r.push c).2) else if (r.push c).1.end_ = 7 then ((parse (r.push c).1.b).1, i + 1, 0) else decGo (r.push c).1 (i + 1) l) := rfl
    rw [e]
    by_cases h1 : (r.push c).2 ≠ 0
    · rw [if_pos h1]
      refine ⟨Nat.le_refl _, Nat.le_add_right _ _, fun _ _ => ?_, fun h => absurd h h1⟩
      show i < i + (l.length + 1)
      omega
    · rw [if_neg h1]
      by_cases h2 : (r.push c).1.end_ = 7
      · rw [if_pos h2]
        refine ⟨Nat.le_succ _, ?_, fun _ h => absurd rfl h, fun _ => Nat.lt_succ_self _⟩
        show i + 1 ≤ i + (l.length + 1)
        omega
      · rw [if_neg h2]
        obtain ⟨q1, q2, q3, q4⟩ := decGo_len l (r.push c).1 (i + 1)
        have el : (c :: l).length = l.length + 1 := rfl
        rw [el]
        refine ⟨by omega, by omega, fun a b => ?_, fun a => ?_⟩
        · have := q3 a b; omega
        · have := q4 a; omega
end Go.Pu
