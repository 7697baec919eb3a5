/- What writes: stores. -/
import Derived.Test.YtakcnoggkdfgfaaEngP
namespace Go.Eng
open Go
variable {d : Nat}
section
variable {P : Program} {tt : TT} {ρ : Env} {h : Heap} {w : World} {nt : Nat} {r : Tr d} {a : Act}
/-- All is as it was, but for block b. -/
structure But (b : Nat) (w w' : World) : Prop where
  os : w'.os = w.os
  tape : w'.tape = w.tape
  output : w'.output = w.output
  frozen : ∀ a, w'.frozen? a = w.frozen? a
  size : w'.heap.size = w.heap.size
  keep : ∀ c, c ≠ b → w'.heap[c]? = w.heap[c]?
theorem But.refl (b : Nat) (w : World) : But b w w := ⟨rfl, rfl, rfl, fun _ => rfl, rfl, fun _ _ => rfl⟩
theorem But.trans {b : Nat} {w w1 w2 : World} (x : But b w w1) (y : But b w1 w2) : But b w w2 :=
  ⟨y.os.trans x.os, y.tape.trans x.tape, y.output.trans x.output, fun a => (y.frozen a).trans (x.frozen a), y.size.trans x.size, fun c hc => (y.keep c hc).trans (x.keep c hc)⟩
theorem solid_one {v : Value} (h : solid v) : v.oneCell' = true := by cases v <;> first | rfl | exact h.elim
theorem store_one {b o : Nat} {arr : Array Value} {E : TypeId} {fz : Nat × Nat} {v : Value} (hb : w.heap[b]? = some (.cells arr E fz)) (hf : free fz arr.size) (ho : o < arr.size) (hv : solid v) :
    (store ⟨b, o, none⟩ v).run P w = .ok () (w.setCell ⟨b, o, none⟩ v) ∧ But b w (w.setCell ⟨b, o, none⟩ v) ∧ (w.setCell ⟨b, o, none⟩ v).heap[b]? = some (.cells (arr.setIfInBounds o v) E fz) := by
  have hc : ∃ u, w.cell? ⟨b, o, none⟩ = some u := by simp [World.cell?, hb, ho]
  obtain ⟨u, hu⟩ := hc
  have hz : w.frozen? ⟨b, o, none⟩ = false := by
    simp only [World.frozen?, hb]
    have := hf o ho
    obtain ⟨lo, hi⟩ := fz
    simp only at this ⊢
    simp only [Bool.and_eq_false_iff, decide_eq_false_iff_not]
    omega
  refine ⟨?_, ⟨rfl, rfl, rfl, fun _ => World.frozen?_setCell .., World.size_setCell _ _ _, fun c hc => RowKit.Below.heap_setCell _ _ _ _ hc⟩, ?_⟩
  · rw [run_store P w _ v _ (solid_one hv)]
    simp [hu, hz]
  · simp only [World.setCell, Array.getElem?_modify, ↓reduceIte, hb, Option.map_some]
    rfl
theorem store_block {b o : Nat} {E : TypeId} {fz : Nat × Nat} : ∀ (vs : List Value) (i : Nat) (w : World) (arr : Array Value), w.heap[b]? = some (.cells arr E fz) → free fz arr.size →
    o + i + vs.length ≤ arr.size → (∀ v ∈ vs, solid v) → ∃ w' arr', (storeCells ⟨b, o, none⟩ vs i).run P w = .ok () w' ∧ But b w w' ∧ w'.heap[b]? = some (.cells arr' E fz) ∧ arr'.size = arr.size ∧
      ∀ k, arr'[k]? = if o + i ≤ k ∧ k < o + i + vs.length then vs[k - (o + i)]? else arr[k]?
  | [], i, w, arr, hb, _, _, _ => ⟨w, arr, rfl, But.refl _ _, hb, rfl, fun k => by rw [if_neg (by simp)]⟩
  | v :: vs, i, w, arr, hb, hf, hl, hs => by
    simp only [List.length_cons] at hl
    obtain ⟨s1, s2, s3⟩ := store_one (P := P) (o := o + i) (v := v) hb hf (by omega) (hs v (by simp))
    obtain ⟨w', arr', q1, q2, q3, q4, q5⟩   := store_block (o := o) vs (i + 1) (w.setCell ⟨b, o + i, none⟩ v) (arr.setIfInBounds (o + i) v) s3 (by simpa using hf) (by simp; omega) (fun u hu => hs u (by simp [hu]))
    refine ⟨w', arr', ?_, s2.trans q2, q3, by rw [q4]; simp, fun k => ?_⟩
    · simp only [storeCells, Sem.run_bind, add_at, s1, Result.andThen_ok]
      exact q1
    · rw [q5 k]
      simp only [List.length_cons]
      by_cases c1 : k = o + i
      · subst c1
        rw [if_neg (by omega), if_pos ⟨by omega, by omega⟩]
        have : o + i < arr.size := by omega
        simp [this]
      · by_cases c2 : o + (i + 1) ≤ k ∧ k < o + (i + 1) + vs.length
        · rw [if_pos c2, if_pos ⟨by omega, by omega⟩, show k - (o + i) = (k - (o + (i + 1))) + 1 by omega, List.getElem?_cons_succ]
        · rw [if_neg c2, if_neg (by omega), Array.getElem?_setIfInBounds_ne (by omega)]
/-- What follows an operation that acts. -/
def Post (ρ : Env) (h : Heap) (w : World) (K : R → Heap → Prop) (v : Value) (w' : World) : Prop :=
  ∃ x ρ' h', K x h' ∧ Rel ρ' h' w' ∧ Grow ρ h w ρ' h' w' ∧ DenR ρ' x v
theorem grow_put {n b : Nat} {ob' : Ob} {w' : World} (ho : Owns ρ h n b) (hb : But b w w') : Grow ρ h w ρ (h.set n (.ob ob')) w' where
  sub := Sub.refl _
  os := hb.os
  tape := hb.tape
  output := hb.output
  frozen := hb.frozen
  size := Nat.le_of_eq hb.size.symm
  keep := fun c _ hn => hb.keep c (by rintro rfl; exact hn n ho)
  made := fun m c ⟨ob, o, g1, g2, g3⟩ => by
    left
    rw [List.getElem?_set] at g1
    obtain ⟨ob0, o0, p1, p2, p3⟩ := ho
    split at g1
    · rename_i e; subst e
      rw [p3] at g3; injection g3 with g3; injection g3 with g3 _; subst g3
      exact ⟨n, ob0, o0, p1, p2, p3⟩
    · exact ⟨m, ob, o, g1, g2, g3⟩
/-- A store into a block that a name owns. -/
theorem put_own (hh : Rel ρ h w) {n b : Nat} {l : List Seg} {E : TypeId} {fz : Nat × Nat} {arr arr' : Array Value} {l' : List Seg} {w' : World} (hn : h[n]? = some (.ob (.own l))) (hb : ρ n = some (b, 0))
    (hbut : But b w w') (hfz : free fz arr.size) (hw : w'.heap[b]? = some (.cells arr' E fz)) (hsz : arr'.size = arr.size) (ha : All2 (Den ρ) (cells l') arr'.toList) :
    Rel ρ (h.set n (.ob (.own l'))) w' ∧ Grow ρ h w ρ (h.set n (.ob (.own l'))) w' := by
  have ho : Owns ρ h n b := ⟨_, _, hn, trivial, hb⟩
  exact ⟨hh.put ho trivial (Nat.le_of_eq hbut.size.symm) (fun c _ hc => hbut.keep c hc) ⟨b, E, fz, arr', hb, hw, by rw [hsz]; exact hfz, ha⟩, grow_put ho hbut⟩
theorem splice_den {p q : List C} {us : List Value} {arr arr' : Array Value} {off : Nat} {ys : List C} (ha : All2 (Den ρ) p arr.toList) (hy : All2 (Den ρ) ys us) (hq : q = p.take off ++ (ys ++ p.drop (off + ys.length)))
    (hle : off + ys.length ≤ p.length) (hsz : arr'.size = arr.size) (hget : ∀ k, arr'[k]? = if off ≤ k ∧ k < off + us.length then us[k - off]? else arr[k]?) : All2 (Den ρ) q arr'.toList := by
  have h1 := ha.length
  have h2 := hy.length
  simp only [Array.length_toList] at h1
  refine All2.of_get (by rw [hq]; simp; omega) fun k c u hc hu => ?_
  have hu' : arr'[k]? = some u := by simpa using hu
  rw [hget k] at hu'
  rw [hq] at hc
  by_cases c1 : k < off
  · rw [if_neg (by omega)] at hu'
    rw [List.getElem?_append_left (by simp; omega), List.getElem?_take, if_pos c1] at hc
    obtain ⟨u', q1, q2⟩ := ha.get hc
    rw [show arr.toList[k]? = some u by simpa using hu'] at q1
    exact (Option.some.inj q1) ▸ q2
  · rw [List.getElem?_append_right (by simp; omega)] at hc
    simp only [List.length_take, show min off p.length = off by omega] at hc
    by_cases c2 : k < off + us.length
    · rw [if_pos ⟨by omega, c2⟩] at hu'
      rw [List.getElem?_append_left (by omega)] at hc
      obtain ⟨u', q1, q2⟩ := hy.get hc
      rw [hu'] at q1
      exact (Option.some.inj q1) ▸ q2
    · rw [if_neg (by omega)] at hu'
      rw [List.getElem?_append_right (by omega), List.getElem?_drop, show off + ys.length + (k - off - ys.length) = k by omega] at hc
      obtain ⟨u', q1, q2⟩ := ha.get hc
      rw [show arr.toList[k]? = some u by simpa using hu'] at q1
      exact (Option.some.inj q1) ▸ q2
theorem den_solid {p : List C} {us : List Value} (h : All2 (Den ρ) p us) : ∀ v ∈ us, solid v := fun v hv => by
  obtain ⟨i, hi⟩ := List.getElem?_of_mem hv
  obtain ⟨c, _, hc⟩ := h.get' hi
  exact Den.solid hc
end
end Go.Eng
