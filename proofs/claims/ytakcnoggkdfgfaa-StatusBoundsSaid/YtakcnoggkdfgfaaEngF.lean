/- Loads and stores. -/
import Derived.Test.YtakcnoggkdfgfaaEngE
namespace Go.Eng
open Go
variable {d : Nat}

theorem ble_le {a b : Nat} (h : Nat.ble a b = true) : a ≤ b := Nat.le_of_ble_eq_true h
theorem dropK_ok : ∀ {l : List Seg} {n : Nat} {k : List Seg → Prop}, dropK l n k → ∃ l', k l' ∧ cells l' = (cells l).drop n ∧ n ≤ (cells l).length
  | l, 0, k, h => ⟨l, by cases l <;> simpa [dropK] using h, by simp, by simp⟩
  | .c _ :: r, n + 1, k, h => by
    obtain ⟨l', h1, h2, h3⟩ := dropK_ok (l := r) (n := n) (k := k) (by simpa [dropK] using h)
    exact ⟨l', h1, by simpa [cells] using h2, by simp [cells]; omega⟩
  | .arr m f :: r, n + 1, k, h => by
    unfold dropK at h
    split at h
    · rename_i hb
      have hb := ble_le hb
      obtain ⟨l', h1, h2, h3⟩ := dropK_ok h
      refine ⟨l', h1, ?_, by simp [cells]; omega⟩
      rw [h2, cells, List.drop_append]
      simp
      exact hb
    · exact h.elim
  | [], n + 1, k, h => by simp [dropK] at h
theorem takeK_ok : ∀ {l : List Seg} {n : Nat} {k : List Seg → Prop}, takeK l n k → ∃ l', k l' ∧ cells l' = (cells l).take n ∧ n ≤ (cells l).length
  | l, 0, k, h => ⟨[], by cases l <;> simpa [takeK] using h, by simp [cells], by simp⟩
  | .c x :: r, n + 1, k, h => by
    obtain ⟨l', h1, h2, h3⟩ := takeK_ok (l := r) (n := n) (by simpa [takeK] using h)
    exact ⟨_, h1, by simp [cells, h2], by simp [cells]; omega⟩
  | .arr m f :: r, n + 1, k, h => by
    unfold takeK at h
    split at h
    · rename_i hb
      have hb := ble_le hb
      obtain ⟨l', h1, h2, h3⟩ := takeK_ok h
      refine ⟨_, h1, ?_, by simp [cells]; omega⟩
      simp only [cells]
      rw [h2, List.take_append]
      rw [List.take_of_length_le (l := List.map f (List.range m)) (by simp; omega)]; simp
    · exact h.elim
  | [], n + 1, k, h => by simp [takeK] at h
theorem overK_ok : ∀ {ys l : List Seg} {k : List Seg → Prop}, overK l ys k → ∃ l', k l' ∧ cells l' = cells ys ++ (cells l).drop (cells ys).length ∧ (cells ys).length ≤ (cells l).length
  | [], l, k, h => ⟨l, by cases l <;> simpa [overK] using h, by simp [cells], by simp [cells]⟩
  | .c y :: ys, .c _ :: r, k, h => by
    obtain ⟨l', h1, h2, h3⟩ := overK_ok (by simpa [overK] using h)
    exact ⟨_, h1, by simp [cells, h2], by simp [cells]; omega⟩
  | .arr n g :: ys, .arr m f :: r, k, h => by
    unfold overK at h
    split at h
    · rename_i hb
      have hb := Nat.eq_of_beq_eq_true hb
      subst hb
      obtain ⟨l', h1, h2, h3⟩ := overK_ok h
      refine ⟨_, h1, ?_, by simp [cells]; omega⟩
      have e : ∀ n : Nat, List.drop (m + n) (List.map f (List.range m) ++ cells r) = List.drop n (cells r) := fun n => by
        rw [List.drop_append, List.drop_eq_nil_of_le (by simp)]; simp
      simp only [cells, h2, List.append_assoc, List.length_append, List.length_map, List.length_range, e]
    · exact h.elim
  | .c _ :: _, [], _, h => by simp [overK] at h
  | .c _ :: _, .arr _ _ :: _, _, h => by simp [overK] at h
  | .arr _ _ :: _, [], _, h => by simp [overK] at h
  | .arr _ _ :: _, .c _ :: _, _, h => by simp [overK] at h
theorem putK_ok : ∀ {l : List Seg} {n : Nat} {ys : List Seg} {k : List Seg → Prop}, putK l n ys k →
    ∃ l', k l' ∧ cells l' = (cells l).take n ++ (cells ys ++ (cells l).drop (n + (cells ys).length)) ∧ n + (cells ys).length ≤ (cells l).length
  | l, 0, ys, k, h => by
    obtain ⟨l', h1, h2, h3⟩ := overK_ok (l := l) (ys := ys) (k := k) (by cases l <;> simpa [putK] using h)
    exact ⟨l', h1, by simpa using h2, by simpa using h3⟩
  | .c x :: r, n + 1, ys, k, h => by
    obtain ⟨l', h1, h2, h3⟩ := putK_ok (l := r) (n := n) (ys := ys) (by simpa [putK] using h)
    refine ⟨_, h1, ?_, by simp [cells]; omega⟩
    simp [cells, h2, show n + 1 + (cells ys).length = n + (cells ys).length + 1 by omega]
  | .arr m f :: r, n + 1, ys, k, h => by
    unfold putK at h
    split at h
    · rename_i hb
      have hb := ble_le hb
      obtain ⟨l', h1, h2, h3⟩ := putK_ok h
      refine ⟨_, h1, ?_, by simp [cells]; omega⟩
      simp only [cells, h2, List.take_append, List.drop_append, List.length_map, List.length_range]
      rw [List.take_of_length_le (l := List.map f (List.range m)) (by simp; omega), List.drop_eq_nil_of_le (as := List.map f (List.range m)) (by simp; omega)]
      simp [show n + 1 + (cells ys).length - m = n + 1 - m + (cells ys).length by omega]
    · exact h.elim
  | [], n + 1, ys, k, h => by simp [putK] at h
theorem cells_segs : ∀ l : List C, cells (segs l) = l
  | [] => rfl
  | c :: l => by simp only [segs, List.map_cons, cells]; rw [show List.map Seg.c l = segs l from rfl, cells_segs l]
theorem cellsK_ok : ∀ {l : List Seg} {k : List C → Prop}, cellsK l k → k (cells l)
  | [], _, h => h
  | .c _ :: r, _, h => cellsK_ok (l := r) h
  | .arr _ _ :: _, _, h => h.elim
theorem goK_ok : ∀ {ys l : List C} {k : List C → Prop}, setK.go l ys k → k (ys ++ l.drop ys.length) ∧ ys.length ≤ l.length
  | [], l, k, h => by cases l <;> simpa [setK.go] using h
  | y :: ys, _ :: r, k, h => by
    have := goK_ok (ys := ys) (l := r) h
    exact ⟨by simpa using this.1, by simp; omega⟩
  | _ :: _, [], _, h => h.elim
theorem setK_ok : ∀ {l : List C} {n : Nat} {ys : List C} {k : List C → Prop}, setK l n ys k → k (l.take n ++ (ys ++ l.drop (n + ys.length))) ∧ n + ys.length ≤ l.length
  | l, 0, ys, k, h => by
    have := goK_ok (ys := ys) (l := l) (k := k) (by cases l <;> simpa [setK] using h)
    simpa using this
  | x :: r, n + 1, ys, k, h => by
    have := setK_ok (l := r) (n := n) (ys := ys) (by simpa [setK] using h)
    refine ⟨?_, by simp; omega⟩
    simpa [show n + 1 + ys.length = n + ys.length + 1 by omega] using this.1
  | [], n + 1, ys, k, h => by simp [setK] at h
theorem mkK_ok {ti : TI} {l : List Seg} {k : T → Prop} (h : mkK ti l k) :
    (isAgg ti.desc = true ∧ k (.agg l)) ∨ (isAgg ti.desc = false ∧ ∃ c, l = [.c c] ∧ k (.one c)) := by
  unfold mkK at h
  split at h
  · exact .inl ⟨‹_›, h⟩
  · exact .inr ⟨‹_›, _, rfl, h⟩
  · exact h.elim

/-! ### The heap's list -/
theorem hgetK_ok : ∀ {h : Heap} {n : Nat} {k : Ob → Prop}, hgetK h n k → ∃ o, h[n]? = some (.ob o) ∧ k o
  | .ob o :: _, 0, k, hk => ⟨o, rfl, hk⟩
  | .fresh :: _, 0, k, hk => by simp [hgetK] at hk
  | .dead :: _, 0, k, hk => by simp [hgetK] at hk
  | _ :: r, n + 1, k, hk => by simpa using hgetK_ok (h := r) (n := n) (k := k) (by simpa [hgetK] using hk)
  | [], 0, k, hk => by simp [hgetK] at hk
  | [], _ + 1, k, hk => by simp [hgetK] at hk
theorem hsetK_ok : ∀ {h : Heap} {n : Nat} {e : HE} {k : Heap → Prop}, hsetK h n e k → k (h.set n e) ∧ n < h.length
  | _ :: r, 0, e, k, hk => ⟨hk, by simp⟩
  | x :: r, n + 1, e, k, hk => by
    have := hsetK_ok (h := r) (n := n) (e := e) hk
    exact ⟨by simpa using this.1, by simp; omega⟩
  | [], _, _, _, hk => hk.elim
theorem hlenK_ok : ∀ {h : Heap} {m : Nat} {k : Nat → Prop}, hlenK h m k → k (m + h.length)
  | [], _, _, hk => hk
  | _ :: r, m, k, hk => by have := hlenK_ok (h := r) (m := m + 1) hk; rwa [List.length_cons, show m + (r.length + 1) = m + 1 + r.length by omega]
theorem happK_ok : ∀ {h : Heap} {e : HE} {k : Heap → Prop}, happK h e k → k (h ++ [e])
  | [], _, _, hk => hk
  | _ :: r, _, _, hk => happK_ok (h := r) hk

/-! ### Loading -/
theorem add_at (b o n : Nat) : (⟨b, o, none⟩ : Addr).add n = ⟨b, o + n, none⟩ := by unfold Addr.add; split <;> simp_all
section
variable {P : Program} {tt : TT} {ρ : Env} {h : Heap} {w : World}
theorem loadVar_ok {t : TypeId} {ti : TI} (ht : TIok P t ti) {k : T → Prop} {l : List Seg} (hm : mkK ti l k) {vs : List Value} (hv : All2 (Den ρ) (cells l) vs)
    (hn : vs.length = ti.size) {b o : Nat} (hc : ∀ j v, vs[j]? = some v → w.cell? ⟨b, o + j, none⟩ = some v) :
    ∃ x u, k x ∧ (loadVar t ⟨b, o, none⟩).run P w = .ok u w ∧ DenT ρ x u := by
  have ha := ht.agg (w := w)
  rcases mkK_ok hm with ⟨h1, h2⟩ | ⟨h1, c, rfl, h2⟩
  · refine ⟨_, .agg vs.toArray, h2, ?_, vs.toArray, rfl, by simpa using hv⟩
    have hs := ht.size (w := w)
    have hl := run_loadCells_list (P := P) w ⟨b, o, none⟩ vs (fun j v hj => by rw [add_at]; exact hc j v hj)
    simp only [loadVar, Sem.run_bind, ha, Result.andThen_ok, h1, if_true, hs]
    rw [← hn, hl]; rfl
  · obtain ⟨u, rfl⟩ : ∃ u, vs = [u] := by
      match vs, hv with
      | [u], _ => exact ⟨u, rfl⟩
      | [], hv => exact hv.elim
      | _ :: _ :: _, hv => exact hv.2.elim
    refine ⟨_, u, h2, ?_, hv.1⟩
    have hu := hc 0 u rfl
    simp only [loadVar, Sem.run_bind, ha, Result.andThen_ok, h1]
    simp only [Nat.add_zero] at hu
    simp [load, Sem.run, hu]
theorem own_cells {n : Nat} {l : List Seg} (hr : RelOb ρ w n (.own l)) : ∃ b vs, ρ n = some (b, 0) ∧ All2 (Den ρ) (cells l) vs ∧ ∀ j v, vs[j]? = some v → w.cell? ⟨b, j, none⟩ = some v := by
  obtain ⟨b, E, fz, arr, h1, h2, h3, h4⟩ := hr
  refine ⟨b, arr.toList, h1, h4, fun j v hj => ?_⟩
  simp only [World.cell?, h2]
  simpa using hj
theorem elems_load {t : TypeId} {ti : TI} (ht : TIok P t ti) {b o sz m : Nat} {f : Nat → List C} (he : Elems ρ w b o sz m f) {i j : Nat} (hi : i < m)
    {k : T → Prop} (hk : dropK (segs (f i)) j fun l => takeK l ti.size fun l => mkK ti l k) :
    ∃ x u, k x ∧ (loadVar t ⟨b, o + (0 + i * sz + j), none⟩).run P w = .ok u w ∧ DenT ρ x u := by
  obtain ⟨l1, h1, e1, q1⟩ := dropK_ok hk
  obtain ⟨l2, h2, e2, q2⟩ := takeK_ok h1
  obtain ⟨vs, g1, g2, g3⟩ := he i hi
  rw [cells_segs] at e1 q1
  refine loadVar_ok ht h2 (vs := (vs.drop j).take ti.size) (by rw [e2, e1]; exact (g1.drop j).take _) ?_ fun q v hq => ?_
  · have := g1.length
    simp only [List.length_take, List.length_drop]
    rw [e1] at q2
    simp only [List.length_drop] at q2
    omega
  · rw [List.getElem?_take] at hq
    split at hq
    · rw [List.getElem?_drop] at hq
      have := g3 _ _ hq
      rwa [show o + (0 + i * sz + j) + q = o + (i * sz + (j + q)) by omega]
    · simp at hq
theorem loadK_ok (hT : TTok P tt) (hh : Rel ρ h w) {t : TypeId} {p : C} {k : T → Prop} (hk : loadK tt h t p k) {v : Value} (hp : Den ρ p v) :
    ∃ x u, k x ∧ (Instr.loadAt t v).run P w = .ok u w ∧ DenT ρ x u := by
  unfold loadK at hk
  replace ⟨ti, ht, hk⟩ := tiK_ok hT hk
  have base : ∀ {b o : Nat}, v = .pointer (some ⟨b, o, none⟩) → (∃ x u, k x ∧ (loadVar t ⟨b, o, none⟩).run P w = .ok u w ∧ DenT ρ x u) →
      ∃ x u, k x ∧ (Instr.loadAt t v).run P w = .ok u w ∧ DenT ρ x u := by
    rintro b o rfl ⟨x, u, h1, h2, h3⟩
    exact ⟨x, u, h1, by simp only [Instr.loadAt, Instr.sureAddr, pure_bind, h2], h3⟩
  split at hk
  · rename_i n off
    obtain ⟨b, o, h1, h2⟩ := hp
    obtain ⟨ob, e1, e2⟩ := hgetK_ok hk
    have hr := hh.obs _ _ e1
    split at e2
    · obtain ⟨l1, q1, q2, q3⟩ := dropK_ok e2
      obtain ⟨l2, q4, q5, q6⟩ := takeK_ok q1
      obtain ⟨b', vs, r1, r2, r3⟩ := own_cells hr
      rw [h1] at r1; injection r1 with r1; injection r1 with r1 r0; subst r1; subst r0
      refine base (o := 0 + off) h2 (loadVar_ok ht q4 (vs := (vs.drop off).take ti.size) (by rw [q5, q2]; exact (r2.drop _).take _) ?_ fun q v hq => ?_)
      · have := r2.length
        simp only [List.length_take, List.length_drop]
        rw [q2] at q6
        simp only [List.length_drop] at q6
        omega
      · rw [List.getElem?_take] at hq
        split at hq
        · rw [List.getElem?_drop] at hq
          have := r3 _ _ hq
          rwa [show 0 + off + q = off + q by omega]
        · simp at hq
    · exact e2.elim
  · rename_i n base' sz i j
    obtain ⟨b, o, h1, h2⟩ := hp
    obtain ⟨ob, e1, e2⟩ := hgetK_ok hk
    have hr := hh.obs _ _ e1
    split at e2
    · rename_i l
      split at e2
      · rename_i hs hj hsz
        obtain ⟨l1, q1, q2, q3⟩ := dropK_ok e2
        split at q1
        · rename_i m f r'
          obtain ⟨hlt, q1⟩ := Chk_ok q1
          simp only [decide_eq_true_eq] at hlt
          obtain ⟨b', vs, r1, r2, r3⟩ := own_cells hr
          rw [h1] at r1; injection r1 with r1; injection r1 with r1 r0; subst r1; subst r0
          have hget : (cells l)[base' + i]? = some (f i) := by
            have : ((cells l).drop base')[i]? = some (f i) := by
              rw [← q2]; simp [cells, List.getElem?_append, hlt]
            rwa [List.getElem?_drop] at this
          obtain ⟨u, hu, hden⟩ := r2.get hget
          refine base (o := 0 + (base' + i * 1 + 0)) h2 (loadVar_ok ht q1 (vs := [u]) ⟨hden, trivial⟩ (by simp [hsz]) fun q v hq => ?_)
          cases q with
          | zero =>
            simp at hq; subst hq
            have := r3 _ _ hu
            rwa [show 0 + (base' + i * 1 + 0) + 0 = base' + i by omega]
          | succ q => simp at hq
        · exact q1.elim
      · exact e2.elim
    · rename_i sz' m f tot
      split at e2
      · have hs : Nat.beq sz sz' = true := by assumption
        have hs := Nat.eq_of_beq_eq_true hs
        subst hs
        obtain ⟨hlt, e2⟩ := Chk_ok e2
        simp only [decide_eq_true_eq] at hlt
        obtain ⟨_, hmt, hr⟩ := hr
        obtain ⟨b', o', E, fz, arr, r1, r2, r3, r4, r5⟩ := hr (by omega)
        rw [h1] at r1; injection r1 with r1; injection r1 with r1 r0; subst r1; subst r0
        exact base h2 (elems_load ht r5 hlt e2)
      · exact e2.elim
    · rename_i sz' m f
      split at e2
      · have hs : Nat.beq sz sz' = true := by assumption
        have hs := Nat.eq_of_beq_eq_true hs
        subst hs
        obtain ⟨hlt, e2⟩ := Chk_ok e2
        simp only [decide_eq_true_eq] at hlt
        obtain ⟨b', o', r1, r5, _⟩ := hr
        rw [h1] at r1; injection r1 with r1; injection r1 with r1 r0; subst r1; subst r0
        exact base h2 (elems_load ht r5 hlt e2)
      · exact e2.elim
  · exact hk.elim
end
end Go.Eng
