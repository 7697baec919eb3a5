/- What writes: stores, on. -/
import Derived.Test.YtakcnoggkdfgfaaEngQ
namespace Go.Eng
open Go
variable {d : Nat}
section
variable {P : Program} {tt : TT} {ρ : Env} {h : Heap} {w : World} {nt : Nat} {r : Tr d} {a : Act}
theorem beside {i q sz j k : Nat} (hj : j < sz) (hk : k < sz) (h : i ≠ q) : i * sz + j ≠ q * sz + k := by
  intro e
  rcases Nat.lt_or_ge i q with c | c
  · have := Nat.mul_le_mul_right sz c
    rw [Nat.succ_mul] at this
    omega
  · have c : q < i := by omega
    have := Nat.mul_le_mul_right sz c
    rw [Nat.succ_mul] at this
    omega
theorem inside {i n sz j : Nat} (hj : j < sz) (hi : i < n) : i * sz + j < n * sz := by
  have := Nat.mul_le_mul_right sz hi
  rw [Nat.succ_mul] at this
  omega
theorem own_put (hh : Rel ρ h w) {n b off : Nat} {l l' : List Seg} {ys : List C} {us : List Value} (hn : h[n]? = some (.ob (.own l))) (hb : ρ n = some (b, 0))
    (hy : All2 (Den ρ) ys us) (hq : cells l' = (cells l).take off ++ (ys ++ (cells l).drop (off + ys.length))) (hle : off + ys.length ≤ (cells l).length) :
    ∃ w', (storeCells ⟨b, 0 + off, none⟩ us).run P w = .ok () w' ∧ Rel ρ (h.set n (.ob (.own l'))) w' ∧ Grow ρ h w ρ (h.set n (.ob (.own l'))) w' := by
  obtain ⟨b', E, fz, arr, h1, h2, h3, h4⟩ := hh.obs _ _ hn
  rw [hb] at h1; injection h1 with h1; injection h1 with h1 _; subst h1
  have e1 := h4.length
  have e2 := hy.length
  simp only [Array.length_toList] at e1
  obtain ⟨w', arr', q1, q2, q3, q4, q5⟩ := store_block (P := P) (o := 0 + off) us 0 w arr h2 h3 (by omega) (den_solid hy)
  refine ⟨w', q1, put_own hh hn hb q2 h3 q3 q4 (splice_den (off := off) h4 hy hq hle q4 fun k => ?_)⟩
  rw [q5 k]
  simp only [Nat.zero_add, Nat.add_zero]
theorem row_put (hh : Rel ρ h w) {n b o sz m tot i j : Nat} {f : Nat → List C} {cs ys : List C} {us : List Value} (hn : h[n]? = some (.ob (.row sz m f tot))) (hb : ρ n = some (b, o))
    (hi : i < m) (hy : All2 (Den ρ) ys us) (hq : cs = (f i).take j ++ (ys ++ (f i).drop (j + ys.length))) (hle : j + ys.length ≤ (f i).length) :
    ∃ w', (storeCells ⟨b, o + (0 + i * sz + j), none⟩ us).run P w = .ok () w' ∧ Rel ρ (h.set n (.ob (.row sz m (fun q => if q = i then cs else f q) tot))) w' ∧
      Grow ρ h w ρ (h.set n (.ob (.row sz m (fun q => if q = i then cs else f q) tot))) w' := by
  obtain ⟨hx, hmt, hr⟩ := hh.obs _ _ hn
  have ht : tot ≠ 0 := by omega
  obtain ⟨b', o', E, fz, arr, h1, h2, h3, h4, h5⟩ := hr ht
  rw [hb] at h1; injection h1 with h1; injection h1 with h1 h1'; subst h1; subst h1'
  have ho : Owns ρ h n b := ⟨_, _, hn, ht, hb⟩
  obtain ⟨vi, g1, g2, g3⟩ := h5 i hi
  have e1 := g1.length
  have e2 := hy.length
  have hin : ∀ q, q < m → ∀ k, k < sz → o + (q * sz + k) < arr.size := fun q hq k hk => by
    have := inside hk (Nat.lt_of_lt_of_le hq hmt); omega
  have hfit : o + (i * sz + j) + us.length ≤ arr.size := by
    rcases Nat.eq_zero_or_pos us.length with z | z
    · have : i * sz ≤ tot * sz := Nat.mul_le_mul_right _ (by omega)
      have : i * sz + sz ≤ tot * sz := by have := Nat.mul_le_mul_right sz (show i + 1 ≤ tot by omega); rwa [Nat.succ_mul] at this
      omega
    · have := hin i hi (j + us.length - 1) (by omega)
      omega
  obtain ⟨w', arr', q1, q2, q3, q4, q5⟩ := store_block (P := P) (o := o + (0 + i * sz + j)) us 0 w arr h2 h3 (by omega) (den_solid hy)
  refine ⟨w', q1, hh.put ho trivial (Nat.le_of_eq q2.size.symm) (fun c _ hc => q2.keep c hc) ⟨hx, hmt, fun _ => ⟨b, o, E, fz, arr', hb, q3, by rw [q4]; exact h3, by rw [q4]; exact h4, fun q hq' => ?_⟩⟩, grow_put ho q2⟩
  have cell : ∀ k, w'.cell? ⟨b, k, none⟩ = arr'[k]? := fun k => by simp [World.cell?, q3]
  have cell0 : ∀ k, w.cell? ⟨b, k, none⟩ = arr[k]? := fun k => by simp [World.cell?, h2]
  by_cases e : q = i
  · subst e
    simp only [if_true]
    refine ⟨vi.take j ++ (us ++ vi.drop (j + us.length)), ?_, by simp; omega, fun k v hk => ?_⟩
    · rw [hq]
      refine (g1.take j).append (hy.append ?_)
      rw [e2]; exact g1.drop _
    · rw [cell, q5]
      by_cases c1 : k < j
      · rw [List.getElem?_append_left (by simp; omega), List.getElem?_take, if_pos c1] at hk
        rw [if_neg (by omega), ← cell0]
        exact g3 _ _ hk
      · rw [List.getElem?_append_right (by simp; omega)] at hk
        simp only [List.length_take, show min j vi.length = j by omega] at hk
        by_cases c2 : k < j + us.length
        · rw [List.getElem?_append_left (by omega)] at hk
          rw [if_pos ⟨by omega, by omega⟩, show o + (q * sz + k) - (o + (0 + q * sz + j) + 0) = k - j by omega]
          exact hk
        · rw [List.getElem?_append_right (by omega), List.getElem?_drop, show j + us.length + (k - j - us.length) = k by omega] at hk
          rw [if_neg (by omega), ← cell0]
          exact g3 _ _ hk
  · simp only [if_neg e]
    obtain ⟨vq, k1, k2, k3⟩ := h5 q hq'
    refine ⟨vq, k1, k2, fun k v hk => ?_⟩
    have hks : k < sz := by
      rcases Nat.lt_or_ge k vq.length with c | c
      · omega
      · rw [List.getElem?_eq_none c] at hk; cases hk
    rw [cell, q5]
    rw [if_neg, ← cell0]
    · exact k3 _ _ hk
    · rintro ⟨c1, c2⟩
      rcases Nat.lt_or_ge q i with c | c
      · have := Nat.mul_le_mul_right sz c
        rw [Nat.succ_mul] at this
        omega
      · have c : i < q := by omega
        have := Nat.mul_le_mul_right sz c
        rw [Nat.succ_mul] at this
        omega
theorem storeK_ok (hT : TTok P tt) (hh : Rel ρ h w) {t : TypeId} {p : C} {x : T} {k : Heap → Prop} (hk : storeK tt h t p x k) {v u : Value} (hp : Den ρ p v) (hx : DenT ρ x u) :
    ∃ h' w', k h' ∧ (Instr.storeAt t v u).run P w = .ok () w' ∧ Rel ρ h' w' ∧ Grow ρ h w ρ h' w' := by
  unfold storeK at hk
  replace ⟨ti, ht, hk⟩ := tiK_ok hT hk
  split at hk
  · exact hk.elim
  rename_i hn
  replace hn := Nat.eq_of_beq_eq_true hn
  rw [nseg_cells] at hn
  have hc := hx.cells
  have hlen := hc.length
  have fin : ∀ {b o : Nat}, v = .pointer (some ⟨b, o, none⟩) → (∃ h' w', k h' ∧ (storeCells ⟨b, o, none⟩ u.cells.toList).run P w = .ok () w' ∧ Rel ρ h' w' ∧ Grow ρ h w ρ h' w') →
      ∃ h' w', k h' ∧ (Instr.storeAt t v u).run P w = .ok () w' ∧ Rel ρ h' w' ∧ Grow ρ h w ρ h' w' := by
    rintro b o rfl ⟨h', w', g1, g2, g3⟩
    refine ⟨h', w', g1, ?_, g3⟩
    simp only [Instr.storeAt, Instr.sureAddr, pure_bind, storeVar, Sem.run_bind, ht.size, Result.andThen_ok]
    rw [if_neg (by simp at hlen; omega)]
    exact g2
  split at hk
  · obtain ⟨b, o, h1, h2⟩ := hp
    obtain ⟨ob, e1, e2⟩ := hgetK_ok hk
    split at e2
    · rename_i l
      obtain ⟨l', q1, q2, q3⟩ := putK_ok e2
      have q1 := (hsetK_ok q1).1
      obtain ⟨b', E, fz, arr, r1, _⟩ := hh.obs _ _ e1
      rw [h1] at r1; injection r1 with r1; injection r1 with r1 r0; subst r1; subst r0
      obtain ⟨w', g1, g2⟩ := own_put (P := P) hh e1 h1 hc q2 q3
      exact fin h2 ⟨_, w', q1, g1, g2⟩
    · exact e2.elim
  · rename_i n base sz i j
    obtain ⟨b, o, h1, h2⟩ := hp
    obtain ⟨ob, e1, e2⟩ := hgetK_ok hk
    split at e2
    · rename_i l
      split at e2
      · rename_i c
        obtain ⟨l1, q1, q2, q3⟩ := dropK_ok e2
        split at q1
        · rename_i m f r'
          obtain ⟨hlt, q1⟩ := Chk_ok q1
          replace hlt := of_decide_eq_true hlt
          obtain ⟨l', g1, g2, g3⟩ := putK_ok q1
          have g1 := (hsetK_ok g1).1
          obtain ⟨b', E, fz, arr, r1, _⟩ := hh.obs _ _ e1
          rw [h1] at r1; injection r1 with r1; injection r1 with r1 r0; subst r1; subst r0
          have hcl : cells [Seg.arr m fun q => if q = i then c else f q] = (List.range m).map fun q => if q = i then c else f q := by simp [cells]
          rw [hcl] at g2 g3
          simp only [List.length_map, List.length_range] at g2 g3
          have hmid : ∀ q, q < m → (cells l)[base + q]? = some (f q) := fun q hq => by
            have : ((cells l).drop base)[q]? = some (f q) := by rw [← q2]; simp [cells, List.getElem?_append, hq]
            rwa [List.getElem?_drop] at this
          obtain ⟨w', k1, k2⟩ := own_put (P := P) (off := base + i) (l' := l') hh e1 h1 (ys := [c]) (us := u.cells.toList) hc (by
            rw [g2]
            apply List.ext_getElem?
            intro q
            simp only [List.length_singleton]
            by_cases c1 : q < base
            · rw [List.getElem?_append_left (by simp; omega), List.getElem?_append_left (by simp; omega), List.getElem?_take, List.getElem?_take, if_pos c1, if_pos (by omega)]
            · rw [List.getElem?_append_right (by simp; omega)]
              simp only [List.length_take, show min base (cells l).length = base by omega]
              by_cases c2 : q < base + m
              · rw [List.getElem?_append_left (by simp; omega)]
                simp only [List.getElem?_map, List.getElem?_range (show q - base < m by omega), Option.map_some]
                by_cases c3 : q = base + i
                · rw [if_pos (by omega), List.getElem?_append_right (by simp; omega)]
                  simp only [List.length_take, show min (base + i) (cells l).length = base + i by omega, c3, Nat.sub_self]
                  rfl
                · rw [if_neg (by omega)]
                  have := hmid (q - base) (by omega)
                  rw [show base + (q - base) = q by omega] at this
                  by_cases c4 : q < base + i
                  · rw [List.getElem?_append_left (by simp; omega), List.getElem?_take, if_pos c4, this]
                  · rw [List.getElem?_append_right (by simp; omega), List.getElem?_append_right (by simp; omega), List.getElem?_drop]
                    simp only [List.length_take, show min (base + i) (cells l).length = base + i by omega, List.length_singleton]
                    rw [show base + i + 1 + (q - (base + i) - 1) = q by omega, this]
              · rw [List.getElem?_append_right (by simp; omega), List.getElem?_drop, List.getElem?_append_right (by simp; omega), List.getElem?_append_right (by simp; omega), List.getElem?_drop]
                simp only [List.length_map, List.length_range, List.length_take, show min (base + i) (cells l).length = base + i by omega, List.length_singleton]
                congr 1; omega) (by rw [List.length_singleton]; omega)
          exact fin (o := 0 + (base + i)) (by rw [h2, show 0 + (base + i * 1 + 0) = 0 + (base + i) by omega]) ⟨_, w', g1, k1, k2⟩
        · exact q1.elim
      · exact e2.elim
    · rename_i sz' m f tot
      split at e2
      · have hs : Nat.beq sz sz' = true := by assumption
        have hs := Nat.eq_of_beq_eq_true hs
        subst hs
        obtain ⟨hlt, e2⟩ := Chk_ok e2
        replace hlt := of_decide_eq_true hlt
        have e2 := cellsK_ok e2
        obtain ⟨e2, hle⟩ := setK_ok e2
        have e2 := (hsetK_ok e2).1
        obtain ⟨w', k1, k2⟩ := row_put (P := P) (j := j) hh e1 h1 hlt hc rfl hle
        exact fin h2 ⟨_, w', e2, k1, k2⟩
      · exact e2.elim
    · exact e2.elim
  · exact hk.elim
end
end Go.Eng
