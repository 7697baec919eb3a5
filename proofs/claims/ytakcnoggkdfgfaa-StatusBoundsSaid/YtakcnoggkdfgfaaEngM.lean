/- What is read of a row; the quiet operations, all. -/
import Derived.Test.YtakcnoggkdfgfaaEngL
namespace Go.Eng
open Go
variable {d : Nat}
section
variable {P : Program} {tt : TT} {ρ : Env} {h : Heap} {w : World} {nt nm : Nat} {r : Tr d} {a : Act} {K : R → Option Ob → Prop}
/-- v holds len elements, which read as f. -/
def Src (P : Program) (ρ : Env) (w : World) (v : Value) (len sz : Nat) (f : Nat → List C) : Prop :=
  (Builtin.lenOf v).run P w = .ok len w ∧ ∃ us : Nat → List Value, (∀ i, i < len → All2 (Den ρ) (f i) (us i) ∧ (us i).length = sz) ∧
    ∀ n, n ≤ len → (Builtin.firstCells sz n v).run P w = .ok ((List.range n).flatMap us).toArray w
theorem flat_get {us : Nat → List Value} {size : Nat} : ∀ {n : Nat}, (∀ i, i < n → (us i).length = size) → ∀ {k : Nat} {v : Value}, ((List.range n).flatMap us)[k]? = some v →
    k / size < n ∧ (us (k / size))[k % size]? = some v
  | 0, _, k, v, hv => by simp at hv
  | n + 1, hl, k, v, hv => by
    have hlen : ((List.range n).flatMap us).length = n * size := by
      have : ∀ n, (∀ i, i < n → (us i).length = size) → ((List.range n).flatMap us).length = n * size := by
        intro n
        induction n with
        | zero => intro _; simp
        | succ n ih => intro hl; rw [List.range_succ, List.flatMap_append, List.length_append, ih fun i hi => hl i (by omega)]; simp [hl n (by omega), Nat.add_mul]
      exact this n fun i hi => hl i (by omega)
    rw [List.range_succ, List.flatMap_append] at hv
    by_cases hk : k < n * size
    · rw [List.getElem?_append_left (by omega)] at hv
      obtain ⟨q1, q2⟩ := flat_get (n := n) (fun i hi => hl i (by omega)) hv
      exact ⟨by omega, q2⟩
    · rw [List.getElem?_append_right (by omega), hlen] at hv
      simp only [List.flatMap_cons, List.flatMap_nil, List.append_nil] at hv
      have hlt : k - n * size < size := by
        rcases Nat.lt_or_ge (k - n * size) (us n).length with q | q
        · rw [hl n (by omega)] at q; exact q
        · rw [List.getElem?_eq_none q] at hv; cases hv
      have hs : 0 < size := by omega
      have hk2 : k = size * n + (k - n * size) := by rw [Nat.mul_comm]; omega
      have hd1 : k / size = n := by rw [hk2, Nat.mul_add_div hs, Nat.div_eq_of_lt hlt]; rfl
      have hd2 : k % size = k - n * size := by
        conv => lhs; rw [hk2]
        rw [Nat.mul_add_mod, Nat.mod_eq_of_lt hlt]
      rw [hd1, hd2]
      exact ⟨by omega, hv⟩
theorem flat_len {us : Nat → List Value} {size : Nat} : ∀ {n : Nat}, (∀ i, i < n → (us i).length = size) → ((List.range n).flatMap us).length = n * size
  | 0, _ => by simp
  | n + 1, hl => by rw [List.range_succ, List.flatMap_append, List.length_append, flat_len fun i hi => hl i (by omega)]; simp [hl n (by omega), Nat.add_mul]
theorem flat_at {us : Nat → List Value} {size : Nat} : ∀ {n : Nat}, (∀ i, i < n → (us i).length = size) → ∀ {i j : Nat}, i < n → j < size → ((List.range n).flatMap us)[i * size + j]? = (us i)[j]?
  | 0, _, _, _, hi, _ => by omega
  | n + 1, hl, i, j, hi, hj => by
    have hlen := flat_len (n := n) (us := us) (size := size) fun i hi => hl i (by omega)
    rw [List.range_succ, List.flatMap_append]
    by_cases hk : i < n
    · have : i * size + j < n * size := by
        have := Nat.mul_le_mul_right size hk
        rw [Nat.succ_mul] at this
        omega
      rw [List.getElem?_append_left (by omega)]
      exact flat_at (fun i hi => hl i (by omega)) hk hj
    · have : i = n := by omega
      subst this
      rw [List.getElem?_append_right (by omega), hlen]
      simp
/-- The cells of a row, read. -/
theorem src_cells {b o len cap sz m off base : Nat} {f : Nat → List C} {ad : Option Addr} (he : Elems ρ w b o sz m f) (ha : 0 < cap → ad = some ⟨b, o + (base + off * sz), none⟩) (hb : base = 0) (hl : off + len ≤ m) (hc : len ≤ cap) :
    Src P ρ w (.slice ad len cap) len sz fun i => f (off + i) := by
  subst hb
  have hex : ∀ i, ∃ vs, i < len → All2 (Den ρ) (f (off + i)) vs ∧ vs.length = sz ∧ ∀ j v, vs[j]? = some v → w.cell? ⟨b, o + ((off + i) * sz + j), none⟩ = some v := fun i => by
    by_cases hi : i < len
    · obtain ⟨vs, h1⟩ := he (off + i) (by omega); exact ⟨vs, fun _ => h1⟩
    · exact ⟨[], fun h => absurd h hi⟩
  let us : Nat → List Value := fun i => Classical.choose (hex i)
  have hus : ∀ i, i < len → All2 (Den ρ) (f (off + i)) (us i) ∧ (us i).length = sz ∧ ∀ j v, (us i)[j]? = some v → w.cell? ⟨b, o + ((off + i) * sz + j), none⟩ = some v := fun i hi => Classical.choose_spec (hex i) hi
  refine ⟨rfl, us, fun i hi => ⟨(hus i hi).1, (hus i hi).2.1⟩, fun n hn => ?_⟩
  by_cases h0 : n = 0
  · subst h0
    cases ad with
    | none => simp [Builtin.firstCells]
    | some ad => simp [Builtin.firstCells, loadCells, loadCellsFrom]
  · rw [ha (by omega)]
    have hfl := flat_len (n := n) (us := us) (size := sz) fun i hi => (hus i (by omega)).2.1
    simp only [Builtin.firstCells]
    rw [← hfl]
    refine run_loadCells_list (P := P) w _ _ fun j v hj => ?_
    obtain ⟨q1, q2⟩ := flat_get (fun i hi => (hus i (by omega)).2.1) hj
    have := (hus (j / sz) (by omega)).2.2 _ _ q2
    rw [add_at]
    rw [show o + (0 + off * sz) + j = o + ((off + j / sz) * sz + j % sz) by
      have := Nat.div_add_mod j sz
      rw [Nat.add_mul, Nat.mul_comm (j / sz) sz]; omega]
    exact this
theorem own_elems {n b o base : Nat} {l r : List Seg} {m : Nat} {f : Nat → C} (hr : RelOb ρ w n (.own l)) (hn : ρ n = some (b, o)) (hd : cells (.arr m f :: r) = (cells l).drop base) :
    Elems ρ w b (o + base) 1 m fun i => [f i] := by
  obtain ⟨b', vs, r1, r2, r3⟩ := own_cells hr
  rw [hn] at r1; injection r1 with r1; injection r1 with r1 r0; subst r1; subst r0
  intro i hi
  have hget : (cells l)[base + i]? = some (f i) := by
    have : ((cells l).drop base)[i]? = some (f i) := by rw [← hd]; simp [cells, List.getElem?_append, hi]
    rwa [List.getElem?_drop] at this
  obtain ⟨u, hu, hden⟩ := r2.get hget
  refine ⟨[u], ⟨hden, trivial⟩, rfl, fun j v hj => ?_⟩
  cases j with
  | zero => simp at hj; subst hj; have := r3 _ _ hu; rwa [show 0 + base + (i * 1 + 0) = base + i by omega]
  | succ j => simp at hj
theorem srcK_ok {x : R} {v : Value} {k : Nat → (Nat → List C) → Prop} (hk : srcK h x k) (hx : DenR ρ x v) :
    ∃ len f, k len f ∧ ∀ w, Rel ρ h w → ∀ sz, szB x sz = true → Src P ρ w v len sz f := by
  unfold srcK at hk
  split at hk
  · obtain ⟨rfl, _⟩ := hx
    refine ⟨_, _, hk, fun w _ sz _ => ⟨rfl, fun _ => [], fun i hi => by omega, fun n hn => ?_⟩⟩
    have : n = 0 := by omega
    subst this
    simp [Builtin.firstCells]
  · rename_i s
    obtain ⟨rfl, _⟩ := hx
    refine ⟨_, _, hk, fun w _ sz hsz => ⟨rfl, fun i => [.int .u8 (bt s i)], fun i hi => ⟨⟨⟨rfl, trivial⟩, trivial⟩, Nat.eq_of_beq_eq_true hsz⟩, fun n hn => ?_⟩⟩
    simp only [Builtin.firstCells]
    have e : ((s.extract 0 n).data.map fun b => Value.int .u8 b.toNat) = ((List.range n).flatMap fun i => [Value.int .u8 (bt s i)]).toArray := by
      have e1 : (s.extract 0 n).data.toList = s.data.toList.take n := by simp [ByteArray.data_extract]
      rw [← Array.toList_inj, Array.toList_map, e1, ← List.map_eq_flatMap]
      apply List.ext_getElem?
      intro i
      by_cases hi : i < n
      · have h1 : i < s.data.toList.length := by simp; exact Nat.lt_of_lt_of_le hi hn
        have h2 : i < s.data.size := by simpa using h1
        simp [hi, bt]
        exact ⟨s.data[i], Array.getElem?_eq_getElem h2, by rw [Array.getElem?_eq_getElem h2]; rfl⟩
      · rw [List.getElem?_eq_none (by simp; omega), List.getElem?_eq_none (by simp; omega)]
    rw [e]; rfl
  · rename_i n base sz off len cap nl
    obtain ⟨b, o, ad, q1, rfl, q3, q4, q5⟩ := hx
    obtain ⟨ob, e1, e2⟩ := hgetK_ok hk
    split at e2
    · rename_i sz' m f tot
      split at e2
      · have hs : Nat.beq sz sz' = true := by assumption
        have hs := Nat.eq_of_beq_eq_true hs
        subst hs
        obtain ⟨hlt, e2⟩ := Chk_ok e2
        replace hlt := of_decide_eq_true hlt
        refine ⟨_, _, e2, fun w hh sz' hsz => ?_⟩
        obtain ⟨_, hmt, hr⟩ := hh.obs _ _ e1
        by_cases ht : tot = 0
        · have : len = 0 := by omega
          subst this
          refine ⟨rfl, fun _ => [], fun i hi => by omega, fun n hn => ?_⟩
          have : n = 0 := by omega
          subst this
          cases ad with
          | none => simp [Builtin.firstCells]
          | some ad => simp [Builtin.firstCells, loadCells, loadCellsFrom]
        · obtain ⟨b', o', E, fz, arr, r1, r2, r3, r4, r5⟩ := hr ht
          rw [q1] at r1; injection r1 with r1; injection r1 with r1 r0; subst r1; subst r0
          exact Nat.eq_of_beq_eq_true hsz ▸ src_cells r5 q3 rfl hlt q5
      · exact e2.elim
    · rename_i sz' m f
      split at e2
      · have hs : Nat.beq sz sz' = true := by assumption
        have hs := Nat.eq_of_beq_eq_true hs
        subst hs
        obtain ⟨hlt, e2⟩ := Chk_ok e2
        replace hlt := of_decide_eq_true hlt
        refine ⟨_, _, e2, fun w hh sz' hsz => ?_⟩
        obtain ⟨b', o', r1, r5, _⟩ := hh.obs _ _ e1
        rw [q1] at r1; injection r1 with r1; injection r1 with r1 r0; subst r1; subst r0
        exact Nat.eq_of_beq_eq_true hsz ▸ src_cells r5 q3 rfl hlt q5
      · exact e2.elim
    · obtain ⟨l1, g1, g2, g3⟩ := dropK_ok e2
      split at g1
      · obtain ⟨hlt, e2⟩ := Chk_ok g1
        replace hlt := of_decide_eq_true hlt
        refine ⟨_, _, e2, fun w hh sz' hsz => ?_⟩
        have he := own_elems (hh.obs _ _ e1) q1 g2
        exact Nat.eq_of_beq_eq_true hsz ▸ src_cells (base := 0) he (fun hc => by rw [q3 hc]; simp only [Option.some.injEq, Addr.mk.injEq, true_and, and_true]; omega) rfl hlt q5
      · exact g1.elim
  · exact hk.elim
end
end Go.Eng
