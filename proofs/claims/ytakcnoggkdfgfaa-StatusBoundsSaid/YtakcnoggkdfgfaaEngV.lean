/- Copying, clearing. -/
import Derived.Test.YtakcnoggkdfgfaaEngU
namespace Go.Eng
open Go
variable {d : Nat}
section
variable {P : Program} {tt : TT} {ρ : Env} {h : Heap} {w : World} {nt : Nat} {r : Tr d} {a : Act} {K : R → Heap → Prop}
/-- Elements that are laid into a row from element off on. -/
theorem row_lay (hh : Rel ρ h w) {n b o sz m tot off k : Nat} {f g : Nat → List C} {us : List Value} (e1 : h[n]? = some (.ob (.row sz m f tot))) (q1 : ρ n = some (b, o)) (ht : tot ≠ 0) (hoff : off + k ≤ m)
    (hl : us.length = k * sz) (hs : ∀ v ∈ us, solid v) (hg : ∀ i, i < k → ∃ vs, All2 (Den ρ) (g i) vs ∧ vs.length = sz ∧ ∀ j v, vs[j]? = some v → us[i * sz + j]? = some v) :
    ∃ w', (storeCells ⟨b, o + (0 + off * sz), none⟩ us).run P w = .ok () w' ∧ Rel ρ (h.set n (.ob (.row sz m (fun i => if off ≤ i ∧ i < off + k then g (i - off) else f i) tot))) w' ∧
      Grow ρ h w ρ (h.set n (.ob (.row sz m (fun i => if off ≤ i ∧ i < off + k then g (i - off) else f i) tot))) w' := by
  obtain ⟨hx, hmt, hr⟩ := hh.obs _ _ e1
  obtain ⟨b', o', E, fz, arr, r1, r2, r3, r4, r5⟩ := hr ht
  rw [q1] at r1; injection r1 with r1; injection r1 with r1 r0; subst r1; subst r0
  have ho : Owns ρ h n b := ⟨_, _, e1, ht, q1⟩
  have hA : off * sz + k * sz ≤ tot * sz := by rw [← Nat.add_mul]; exact Nat.mul_le_mul_right _ (by omega)
  obtain ⟨w', arr', s1, s2, s3, s4, s5⟩ := store_block (P := P) (b := b) (o := o + (0 + off * sz)) us 0 w arr r2 r3 (by omega) hs
  have cell : ∀ k, w'.cell? ⟨b, k, none⟩ = arr'[k]? := fun k => by simp [World.cell?, s3]
  have cell0 : ∀ k, w.cell? ⟨b, k, none⟩ = arr[k]? := fun k => by simp [World.cell?, r2]
  refine ⟨w', s1, hh.put ho trivial (Nat.le_of_eq s2.size.symm) (fun c _ hc => s2.keep c hc) ⟨hx, hmt, fun _ => ⟨b, o, E, fz, arr', q1, s3, by rw [s4]; exact r3, by rw [s4]; exact r4, fun i hi => ?_⟩⟩, grow_put ho s2⟩
  have hin : ∀ {vs : List Value} {j : Nat} {v : Value}, vs.length = sz → vs[j]? = some v → j < sz := fun {vs j v} hl hj => by
    rcases Nat.lt_or_ge j vs.length with c | c
    · omega
    · rw [List.getElem?_eq_none c] at hj; cases hj
  by_cases hil : off ≤ i ∧ i < off + k
  · simp only [if_pos hil]
    obtain ⟨vs, v1, v2, v3⟩ := hg (i - off) (by omega)
    refine ⟨vs, v1, v2, fun j v hj => ?_⟩
    have hj' := hin v2 hj
    have hge : off * sz ≤ i * sz := Nat.mul_le_mul_right _ hil.1
    have hsub : (i - off) * sz = i * sz - off * sz := Nat.sub_mul _ _ _
    have hi2 := inside hj' (show i - off < k by omega)
    rw [cell, s5, if_pos (by rw [hl]; omega), show o + (i * sz + j) - (o + (0 + off * sz) + 0) = (i - off) * sz + j by omega]
    exact v3 j v hj
  · simp only [if_neg hil]
    obtain ⟨vs, v1, v2, v3⟩ := r5 i hi
    refine ⟨vs, v1, v2, fun j v hj => ?_⟩
    have hj' := hin v2 hj
    have := v3 j v hj
    rw [cell0] at this
    rw [cell, s5, if_neg, this]
    rintro ⟨c1, c2⟩
    rw [hl] at c2
    rcases Nat.lt_or_ge i off with c | c
    · have := inside hj' c; omega
    · have hge : (off + k) * sz ≤ i * sz := Nat.mul_le_mul_right _ (by omega)
      rw [Nat.add_mul] at hge
      omega
/-- The same into an array in a struct. -/
theorem arr_lay (hh : Rel ρ h w) {n b base m off k : Nat} {l l' r0 : List Seg} {f : Nat → C} {g : Nat → List C} {us : List Value} (e1 : h[n]? = some (.ob (.own l))) (q1 : ρ n = some (b, 0)) (hd : cells (.arr m f :: r0) = (cells l).drop base)
    (hoff : off + k ≤ m) (hl : us.length = k) (hg : ∀ i, i < k → ∃ vs, All2 (Den ρ) (g i) vs ∧ vs.length = 1 ∧ ∀ j v, vs[j]? = some v → us[i * 1 + j]? = some v)
    (hl' : cells l' = (cells l).take base ++ (((List.range m).map fun i => if off ≤ i ∧ i < off + k then one1 (g (i - off)) else f i) ++ (cells l).drop (base + m))) (hbm : base + m ≤ (cells l).length) :
    ∃ w', (storeCells ⟨b, 0 + (base + off * 1), none⟩ us).run P w = .ok () w' ∧ Rel ρ (h.set n (.ob (.own l'))) w' ∧ Grow ρ h w ρ (h.set n (.ob (.own l'))) w' := by
  have hmid : ∀ q, q < m → (cells l)[base + q]? = some (f q) := fun q hq => by
    have : ((cells l).drop base)[q]? = some (f q) := by rw [← hd]; simp [cells, List.getElem?_append, hq]
    rwa [List.getElem?_drop] at this
  have hone : ∀ i, i < k → ∃ c u, g i = [c] ∧ us[i]? = some u ∧ Den ρ c u := fun i hi => by
    obtain ⟨vs, v1, v2, v3⟩ := hg i hi
    match vs, v2, v1 with
    | [u], _, v1 =>
      match e : g i, v1 with
      | [c], v1 => rw [e] at *; exact ⟨c, u, rfl, by simpa using v3 0 u rfl, v1.1⟩
  generalize hyd : ((List.range k).map fun i => one1 (g i)) = ys
  have hyl : ys.length = k := by rw [← hyd]; simp
  have hyg : ∀ i, i < k → ys[i]? = some (one1 (g i)) := fun i hi => by rw [← hyd]; simp [hi]
  have hys : All2 (Den ρ) ys us := All2.of_get (by omega) fun i c u hc hu => by
    have hik : i < k := by
      rcases Nat.lt_or_ge i us.length with c | c
      · omega
      · rw [List.getElem?_eq_none c] at hu; cases hu
    obtain ⟨c', u', g1, g2, g3⟩ := hone i hik
    rw [hyg i hik, g1] at hc
    simp only [one1] at hc
    rw [g2] at hu
    injection hc with hc; injection hu with hu; subst hc hu; exact g3
  obtain ⟨w', k1, k2⟩ := own_put (P := P) (off := base + off) (l' := l') hh e1 q1 (ys := ys) hys (by
    rw [hl']
    apply List.ext_getElem?
    intro q
    by_cases c1 : q < base
    · rw [List.getElem?_append_left (by simp; omega), List.getElem?_append_left (by simp; omega), List.getElem?_take, List.getElem?_take, if_pos c1, if_pos (by omega)]
    · rw [List.getElem?_append_right (by simp; omega)]
      simp only [List.length_take, show min base (cells l).length = base by omega]
      by_cases c2 : q < base + m
      · rw [List.getElem?_append_left (by simp; omega)]
        simp only [List.getElem?_map, List.getElem?_range (show q - base < m by omega), Option.map_some]
        have hm := hmid (q - base) (by omega)
        rw [show base + (q - base) = q by omega] at hm
        by_cases c3 : off ≤ q - base ∧ q - base < off + k
        · rw [if_pos c3, List.getElem?_append_right (by simp; omega), List.getElem?_append_left (by simp; omega)]
          simp only [List.length_take, show min (base + off) (cells l).length = base + off by omega]
          rw [hyg _ (by omega), show q - (base + off) = q - base - off by omega]
        · rw [if_neg c3]
          by_cases c4 : q < base + off
          · rw [List.getElem?_append_left (by simp; omega), List.getElem?_take, if_pos c4, hm]
          · rw [List.getElem?_append_right (by simp; omega), List.getElem?_append_right (by simp; omega), List.getElem?_drop]
            simp only [List.length_take, show min (base + off) (cells l).length = base + off by omega, hyl]
            rw [show base + off + k + (q - (base + off) - k) = q by omega, hm]
      · rw [List.getElem?_append_right (by simp; omega), List.getElem?_drop, List.getElem?_append_right (by simp; omega), List.getElem?_append_right (by simp; omega), List.getElem?_drop]
        simp only [List.length_map, List.length_range, List.length_take, show min (base + off) (cells l).length = base + off by omega, hyl]
        congr 1; omega) (by omega)
  exact ⟨w', by rw [show 0 + (base + off * 1) = 0 + (base + off) by omega]; exact k1, k2⟩
end
end Go.Eng
