/- What acts: all. -/
import Derived.Test.YtakcnoggkdfgfaaEngV
namespace Go.Eng
open Go
variable {d : Nat}
section
variable {P : Program} {tt : TT} {ρ : Env} {h : Heap} {w : World} {nt : Nat} {r : Tr d} {a : Act} {K : R → Heap → Prop}
/-- A row without a block may be said anew. -/
theorem Rel.reset (hr : Rel ρ h w) {n sz m : Nat} {f f' : Nat → List C} (hn : h[n]? = some (.ob (.row sz m f 0))) : Rel ρ (h.set n (.ob (.row sz m f' 0))) w ∧ Grow ρ h w ρ (h.set n (.ob (.row sz m f' 0))) w := by
  have hlt : n < h.length := (List.getElem?_eq_some_iff.1 hn).1
  have at_n : ∀ e : HE, (h.set n e)[n]? = some e := fun e => by simp [hlt]
  have at_m : ∀ (e : HE) m, m ≠ n → (h.set n e)[m]? = h[m]? := fun e m hm => by rw [List.getElem?_set, if_neg (Ne.symm hm)]
  have own : ∀ m' c, Owns ρ (h.set n (.ob (.row sz m f' 0))) m' c → Owns ρ h m' c := fun m' c ⟨ob, o, g1, g2, g3⟩ => by
    by_cases e : m' = n
    · subst e; rw [at_n] at g1; injection g1 with g1; injection g1 with g1; subst g1; exact absurd rfl g2
    · exact ⟨ob, o, by rw [← at_m _ m' e]; exact g1, g2, g3⟩
  refine ⟨⟨fun m' hm => ?_, fun m' ob hm => ?_, fun a b c h1 h2 => hr.inj a b c (own _ _ h1) (own _ _ h2), fun a m' c o sz' k g h1 h2 h3 => ?_⟩, Sub.refl _, rfl, rfl, rfl, fun _ => rfl, Nat.le_refl _, fun _ _ _ => rfl, fun a b hb => .inl ⟨a, own a b hb⟩⟩
  · refine hr.fresh m' ?_
    rcases hm with e | e
    · by_cases en : m' = n
      · subst en; rw [at_n] at e; cases e
      · exact .inl (by rw [← at_m _ m' en]; exact e)
    · exact .inr (by simpa using e)
  · by_cases en : m' = n
    · subst en; rw [at_n] at hm; injection hm with hm; injection hm with hm; subst hm
      obtain ⟨q1, q2, _⟩ := hr.obs _ _ hn
      exact ⟨q1, q2, fun h => absurd rfl h⟩
    · rw [at_m _ m' en] at hm; exact hr.obs _ _ hm
  · by_cases en : m' = n
    · subst en; rw [at_n] at h2; injection h2 with h2; injection h2 with h2; cases h2
    · rw [at_m _ m' en] at h2; exact hr.apart a m' c o sz' k g (own _ _ h1) h2 h3
theorem copyK_ok (hT : TTok P tt) (hh : Rel ρ h w) {av : List Nat} {t : TypeId} {x y : R} {v yv : Value} (hk : copyK tt av h t x y K) (hx : DenR ρ x v) (hy : DenR ρ y yv) {tys : Array TypeId} {more : List TypeId}
    (htys : tys.toList = t :: more) {args : Array Value} (ha : args.toList = [v, yv]) (type : TypeId) : ∃ v' w', (Builtin.copy_ tys type args).run P w = .ok v' w' ∧ Post ρ h w K v' w' := by
  unfold copyK at hk
  replace ⟨ti, ht, hk⟩ := tiK_ok hT hk
  split at hk
  case h_2 => exact hk.elim
  rename_i e hd
  replace ⟨ei, hei, hk⟩ := tiK_ok hT hk
  obtain ⟨dt, p1, p2⟩ := ht.under (w := w)
  rw [hd] at p1
  cases dt <;> try exact p1.elim
  have p1 := p1; subst p1
  have ha0 : args[0]? = some v := by rw [← Array.getElem?_toList, ha]; rfl
  have ha1 : args[1]? = some yv := by rw [← Array.getElem?_toList, ha]; rfl
  have hq0 : tys[0]? = some t := by rw [← Array.getElem?_toList, htys]; rfl
  obtain ⟨l2, g, g1, g2⟩ := srcK_ok (P := P) hk hy
  split at g1
  · split at g1
    case h_2 => exact g1.elim
    rename_i hsz
    obtain ⟨s1, uy, s2, s3⟩ := g2 w hh _ hsz
    obtain ⟨rfl, _⟩ := hx
    have f2 := s3 0 (Nat.zero_le _)
    refine ⟨_, w, ?_, _, ρ, h, g1, hh, Grow.refl _ _ _, rfl, trivial⟩
    simp only [Builtin.copy_, hq0, ha0, ha1, Sem.run_bind, p2, Result.andThen_ok, s1, hei.size, Nat.min_eq_min, Nat.min_zero, f2]
    rfl
  · rename_i n base sz off len cap nl
    split at g1
    case h_2 => exact g1.elim
    rename_i hsz
    simp only [Bool.and_eq_true] at hsz
    have hsz' := Nat.eq_of_beq_eq_true hsz.1
    subst hsz'
    obtain ⟨s1, uy, s2, s3⟩ := g2 w hh _ hsz.2
    obtain ⟨b, o, ad, q1, q2, q3, q4, q5⟩ := hx
    subst q2
    have f2 := s3 (min l2 len) (Nat.min_le_left _ _)
    have n2 := flat_len (n := min l2 len) (us := uy) (size := ei.size) fun i hi => (s2 i (by omega)).2
    have hsol : ∀ v ∈ (List.range (min l2 len)).flatMap uy, solid v := fun v hv => by
      obtain ⟨i, hi, hv⟩ := List.mem_flatMap.1 hv
      simp only [List.mem_range] at hi
      exact den_solid (s2 i (by omega)).1 v hv
    have hel : ∀ i, i < min l2 len → ∃ vs, All2 (Den ρ) (g i) vs ∧ vs.length = ei.size ∧ ∀ j v, vs[j]? = some v → ((List.range (min l2 len)).flatMap uy)[i * ei.size + j]? = some v := fun i hi => by
      refine ⟨uy i, (s2 i (by omega)).1, (s2 i (by omega)).2, fun j v hj => ?_⟩
      have hj' : j < ei.size := by
        rcases Nat.lt_or_ge j (uy i).length with c | c
        · have := (s2 i (by omega)).2; omega
        · rw [List.getElem?_eq_none c] at hj; cases hj
      rw [flat_at (fun i hi => (s2 i (by omega)).2) hi hj']; exact hj
    have run : ∀ {w'}, (match ad with
        | none => (.ok () w : Result Unit)
        | some a => (storeCells a ((List.range (min l2 len)).flatMap uy)).run P w) = .ok () w' → (Builtin.copy_ tys type args).run P w = .ok (.int .i64 (min l2 len : Nat)) w' := fun {w'} hw => by
      simp only [Builtin.copy_, hq0, ha0, ha1, Sem.run_bind, p2, Result.andThen_ok, s1, hei.size, Nat.min_eq_min, f2]
      cases ad with
      | none => simp only at hw; injection hw with _ hw; subst hw; rfl
      | some ad =>
        have hw : (storeCells ad ((List.range (min l2 len)).flatMap uy)).run P w = .ok () w' := hw
        simp only [Sem.run_bind, hw, Result.andThen_ok]; rfl
    have empty : cap = 0 → (List.range (min l2 len)).flatMap uy = [] := fun hc => by
      have : min l2 len = 0 := by omega
      rw [this]; rfl
    have store : ∀ {w'} {A : Addr}, (0 < cap → ad = some A) → (storeCells A ((List.range (min l2 len)).flatMap uy)).run P w = .ok () w' → (match ad with
        | none => (.ok () w : Result Unit)
        | some a => (storeCells a ((List.range (min l2 len)).flatMap uy)).run P w) = .ok () w' := fun {w' A} hA hw => by
      rcases Nat.eq_zero_or_pos cap with c | c
      · rw [empty c] at hw ⊢
        cases ad <;> exact hw
      · rw [hA c]; exact hw
    unfold copyTo at g1
    replace ⟨hav, g1⟩ := away_ok g1
    replace ⟨ob, e1, g1⟩ := hgetK_ok g1
    have e2 := g1; clear g1
    split at e2
    · rename_i sz' m f tot
      split at e2
      case h_2 => exact e2.elim
      rename_i hs
      have hs := Nat.eq_of_beq_eq_true hs
      subst hs
      obtain ⟨hbd, e2⟩ := Chk_ok e2
      replace hbd := of_decide_eq_true hbd
      replace e2 := (hsetK_ok e2).1
      by_cases htot : tot = 0
      · subst htot
        obtain ⟨_, hm0, _⟩ := hh.obs _ _ e1
        have hc : min l2 len = 0 := by omega
        obtain ⟨j1, j2⟩ := hh.reset (f' := fun i => if off ≤ i ∧ i < off + min l2 len then g (i - off) else f i) e1
        refine ⟨_, w, run ?_, _, ρ, _, e2, j1, j2, rfl, trivial⟩
        rw [hc]; cases ad <;> rfl
      · obtain ⟨w', k1, k2, k3⟩ := row_lay (P := P) (m := m) (f := f) (g := g) (off := off) hh e1 q1 htot (k := min l2 len) (by omega) n2 hsol hel
        exact ⟨_, w', run (store (fun hc => q3 hc) k1), _, ρ, _, e2, k2, k3, rfl, trivial⟩
    · rename_i l
      obtain ⟨l1, k1, k2, k3⟩ := dropK_ok e2
      split at k1
      · rename_i m f r0 hsz1
        obtain ⟨hbd, k1⟩ := Chk_ok k1
        replace hbd := of_decide_eq_true hbd
        obtain ⟨l', j1, j2, j3⟩ := putK_ok k1
        replace j1 := (hsetK_ok j1).1
        have hcl : cells [Seg.arr m fun i => if off ≤ i ∧ i < off + min l2 len then one1 (g (i - off)) else f i] = (List.range m).map fun i => if off ≤ i ∧ i < off + min l2 len then one1 (g (i - off)) else f i := by simp [cells]
        rw [hcl] at j2 j3
        simp only [List.length_map, List.length_range] at j2 j3
        obtain ⟨b', E, fz, arr, r1, _⟩ := hh.obs _ _ e1
        rw [q1] at r1; injection r1 with r1; injection r1 with r1 r0; subst r1; subst r0
        rw [hsz1] at n2 hel q3
        obtain ⟨w', m1, m2, m3⟩ := arr_lay (P := P) (m := m) (f := f) (g := g) (off := off) (l' := l') hh e1 q1 k2 (k := min l2 len) (by omega) (by simpa using n2) hel j2 j3
        exact ⟨_, w', run (store (fun hc => q3 hc) m1), _, ρ, _, j1, m2, m3, rfl, trivial⟩
      · exact k1.elim
    · exact e2.elim
  · exact g1.elim
theorem clearK_ok (hT : TTok P tt) (hh : Rel ρ h w) {av : List Nat} {t : TypeId} {x : R} {v : Value} (hk : clearK tt av h t x K) (hx : DenR ρ x v) {tys : Array TypeId} {more : List TypeId}
    (htys : tys.toList = t :: more) {args : Array Value} (ha : args.toList = [v]) (type : TypeId) : ∃ v' w', (Builtin.clear_ tys type args).run P w = .ok v' w' ∧ Post ρ h w K v' w' := by
  unfold clearK at hk
  replace ⟨ti, ht, hk⟩ := tiK_ok hT hk
  split at hk
  case h_2 => exact hk.elim
  rename_i e hd
  replace ⟨ei, hei, hk⟩ := tiK_ok hT hk
  replace hk := cellsK_ok hk
  split at hk
  case h_1 => exact hk.elim
  rename_i hz
  have hz := Nat.eq_of_beq_eq_true hz
  obtain ⟨dt, p1, p2⟩ := ht.under (w := w)
  rw [hd] at p1
  cases dt <;> try exact p1.elim
  have p1 := p1; subst p1
  have ha0 : args[0]? = some v := by rw [← Array.getElem?_toList, ha]; rfl
  have hq0 : tys[0]? = some t := by rw [← Array.getElem?_toList, htys]; rfl
  obtain ⟨zv, z1, z2⟩ := hei.zero (w := w)
  have zc := (z2 ρ).cells
  have hzs : zv.cells.size = ei.size := by have := zc.length; rw [hz] at this; simpa using this.symm
  split at hk
  · rename_i n sz off len cap nl
    obtain ⟨hav, g1⟩ := away_ok hk
    obtain ⟨ob, e1, e2⟩ := hgetK_ok g1
    obtain ⟨b, o, ad, q1, q2, q3, q4, q5⟩ := hx
    subst q2
    split at e2
    case h_2 => exact e2.elim
    rename_i sz' m f tot
    split at e2
    case h_2 => exact e2.elim
    rename_i hs1 hs2
    have hs1 := Nat.eq_of_beq_eq_true hs1
    have hs2 := Nat.eq_of_beq_eq_true hs2
    subst hs1 hs2
    obtain ⟨hbd, e2⟩ := Chk_ok e2
    replace hbd := of_decide_eq_true hbd
    replace e2 := (hsetK_ok e2).1
    have run : ∀ {w'}, (match ad with
        | none => (.ok () w : Result Unit)
        | some a => if len = 0 then (.ok () w : Result Unit) else (storeCells a (Builtin.zeroCells zv.cells len).toList).run P w) = .ok () w' → (Builtin.clear_ tys type args).run P w = .ok (.tuple #[]) w' := fun {w'} hw => by
      simp only [Builtin.clear_, hq0, ha0, Sem.run_bind, p2, Result.andThen_ok]
      cases ad with
      | none => simp only at hw; injection hw with _ hw; subst hw; rfl
      | some ad =>
        cases len with
        | zero => simp only [if_true] at hw; injection hw with _ hw; subst hw; rfl
        | succ len =>
          simp only [Nat.succ_ne_zero, if_false] at hw
          simp only [Sem.run_bind, z1, Result.andThen_ok, hw]
          rfl
    by_cases htot : tot = 0
    · subst htot
      obtain ⟨_, hm0, _⟩ := hh.obs _ _ e1
      have hc : len = 0 := by omega
      subst hc
      obtain ⟨j1, j2⟩ := hh.reset (f' := fun i => if off ≤ i ∧ i < off + 0 then cells (segsOf ei.zero) else f i) e1
      refine ⟨_, w, run ?_, _, ρ, _, e2, j1, j2, trivial⟩
      cases ad <;> rfl
    · have n2 : (Builtin.zeroCells zv.cells len).toList.length = len * ei.size := by simp [zeroCells_size, hzs]
      have zat : ∀ i j v, i < len → zv.cells.toList[j]? = some v → (Builtin.zeroCells zv.cells len).toList[i * ei.size + j]? = some v := fun i j v hi hj => by
        have hj' : j < ei.size := by
          rcases Nat.lt_or_ge j zv.cells.toList.length with c | c
          · simpa [hzs] using c
          · rw [List.getElem?_eq_none c] at hj; cases hj
        have hlt := inside hj' hi
        have hd2 : (i * ei.size + j) % ei.size = j := by rw [Nat.mul_comm, Nat.mul_add_mod, Nat.mod_eq_of_lt hj']
        have hq2 : zv.cells[j]? = some v := by simpa using hj
        rw [Array.getElem?_toList]
        simp only [Builtin.zeroCells, Array.getElem?_map, hzs, Array.getElem?_range, if_pos hlt, Option.map_some, hd2]
        rw [getElem!_def, hq2]
      obtain ⟨w', k1, k2, k3⟩ := row_lay (P := P) (m := m) (f := f) (off := off) (g := fun _ => cells (segsOf ei.zero)) hh e1 q1 htot (k := len) (by omega) n2 (fun v hv => by
          obtain ⟨i, hi⟩ := List.getElem?_of_mem hv
          rw [Array.getElem?_toList] at hi
          simp only [Builtin.zeroCells, Array.getElem?_map] at hi
          have hlt : i < len * zv.cells.size := by
            rcases Nat.lt_or_ge i (len * zv.cells.size) with c | c
            · exact c
            · rw [Array.getElem?_range, if_neg (by omega)] at hi; cases hi
          rw [Array.getElem?_range, if_pos hlt] at hi
          simp only [Option.map_some, Option.some.injEq] at hi
          have hpos : 0 < zv.cells.size := by rcases Nat.eq_zero_or_pos zv.cells.size with c | c; rw [c] at hlt; omega; exact c
          have hm := Nat.mod_lt i hpos
          have : zv.cells[i % zv.cells.size]? = some v := by rw [Array.getElem?_eq_getElem hm]; rw [getElem!_def, Array.getElem?_eq_getElem hm] at hi; simpa using hi
          exact den_solid zc v (List.mem_of_getElem? (i := i % zv.cells.size) (by simpa using this)))
        fun i hi => ⟨_, zc, by simpa using hzs, fun j v hj => zat i j v hi hj⟩
      refine ⟨_, w', run ?_, _, ρ, _, e2, k2, k3, trivial⟩
      by_cases h0 : len = 0
      · subst h0
        have : (Builtin.zeroCells zv.cells 0).toList = [] := List.length_eq_zero_iff.1 (by simpa using n2)
        rw [this] at k1
        injection k1 with _ k1
        subst k1
        cases ad <;> rfl
      · rw [q3 (by omega)]
        simp only [if_neg h0]
        exact k1
  · exact hk.elim
end
end Go.Eng
