/- Appending, on. -/
import Derived.Test.YtakcnoggkdfgfaaEngS
namespace Go.Eng
open Go
variable {d : Nat}
section
variable {P : Program} {tt : TT} {ρ : Env} {h : Heap} {w : World} {nt : Nat} {r : Tr d} {a : Act} {K : R → Heap → Prop}
/-- append, where there is room. -/
theorem append_room {e : TypeId} {ei : TI} {tys : Array TypeId} (hty : Tys P tys e ei) {s y : Value} {ad : Option Addr} {len cap l2 : Nat} (hs : s = .slice ad len cap) {g : Nat → List C}
    (h2 : Src P ρ w y l2 ei.size g) (hle : len + l2 ≤ cap) {args : Array Value} (ha : args.toList = [s, y]) (type : TypeId) :
    ∃ us : List Value, us.length = l2 * ei.size ∧ (∀ i, i < l2 → ∃ vs, All2 (Den ρ) (g i) vs ∧ vs.length = ei.size ∧ ∀ j v, vs[j]? = some v → us[i * ei.size + j]? = some v) ∧ (∀ v ∈ us, solid v) ∧
      (Builtin.append_ tys type args).run P w = (match ad with
        | none => (.ok () w : Result Unit)
        | some a => (storeCells (a.add (len * ei.size)) us).run P w).andThen fun _ w' => .ok (.slice ad (len + l2) cap) w' := by
  obtain ⟨t, u, du, q1, q2, q3, q4, q5⟩ := tys_facts hty
  obtain ⟨y1, uy, y2, y3⟩ := h2
  have ha0 : args[0]? = some s := by rw [← Array.getElem?_toList, ha]; rfl
  have ha1 : args[1]? = some y := by rw [← Array.getElem?_toList, ha]; rfl
  have n2 := flat_len (n := l2) (us := uy) (size := ei.size) fun i hi => (y2 i hi).2
  have f2 := y3 l2 (Nat.le_refl _)
  refine ⟨(List.range l2).flatMap uy, n2, fun i hi => ⟨uy i, (y2 i hi).1, (y2 i hi).2, fun j v hj => ?_⟩, fun v hv => ?_, ?_⟩
  · have hj' : j < ei.size := by
      rcases Nat.lt_or_ge j (uy i).length with c | c
      · have := (y2 i hi).2; omega
      · rw [List.getElem?_eq_none c] at hj; cases hj
    rw [flat_at (fun i hi => (y2 i hi).2) hi hj']; exact hj
  · obtain ⟨i, hi, hv⟩ := List.mem_flatMap.1 hv
    exact den_solid (y2 i (by simpa using hi)).1 v hv
  · subst hs
    simp only [Builtin.append_, q1, ha0, ha1, Sem.run_bind, q3, Result.andThen_ok, hty.el.size, q2, q4, Sem.run_pure, Bool.false_eq_true, if_false, y1, if_pos hle]
    cases ad with
    | none =>
      simp only [Sem.run_bind, f2, Result.andThen_ok, Bool.not_false, if_true]
      rfl
    | some ad =>
      simp only [Sem.run_bind, f2, Result.andThen_ok, Bool.not_false, if_true]
      rfl
theorem away_ok {av : List Nat} {n : Nat} {p : Prop} (h : away av n p) : n ∉ av ∧ p := by
  unfold away at h
  split at h
  · exact h.elim
  · rename_i e; exact ⟨fun hm => by simp [List.elem_eq_mem, hm] at e, h⟩
theorem denT_size {ei : TI} {z : Value} (h : nseg (segsOf ei.zero) = ei.size) (hz : DenT ρ ei.zero z) : z.cells.size = ei.size := by
  have := hz.cells.length; rw [← nseg_cells, h] at this; simpa using this.symm
/-- A row without room has no block. -/
theorem no_row (hh : Rel ρ h w) {sz : Nat} {f : Nat → List C} :
    Rel (upd ρ h.length (w.heap.size, 0)) (h ++ [.ob (.row sz 0 f 0)]) w ∧ Grow ρ h w (upd ρ h.length (w.heap.size, 0)) (h ++ [.ob (.row sz 0 f 0)]) w := by
  have hsub : Sub ρ (upd ρ h.length (w.heap.size, 0)) := upd_sub (hh.fresh _ (.inr (Nat.le_refl _)))
  refine ⟨add_end hh trivial hh.free_new (Nat.le_refl _) (fun _ _ _ => rfl) ⟨⟨_, upd_same _ _ _⟩, Nat.le_refl _, fun h => absurd rfl h⟩, ?_⟩
  exact grow_alloc (n := 0) (nm := h.length) (c := w.heap.size) hsub rfl rfl rfl (fun _ => rfl) (Nat.le_refl _) (fun b hb _ => rfl) owns_end.1 owns_end.2 (.inr (Nat.le_refl _))
theorem grow_kill (n : Nat) : Grow ρ h w ρ (h.set n .dead) w where
  sub := Sub.refl _
  os := rfl
  tape := rfl
  output := rfl
  frozen := fun _ => rfl
  size := Nat.le_refl _
  keep := fun _ _ _ => rfl
  made := fun m b ⟨ob, o, g1, g2, g3⟩ => by
    left
    rw [List.getElem?_set] at g1
    split at g1
    · split at g1 <;> cases g1
    · exact ⟨m, ob, o, g1, g2, g3⟩
theorem src_row (hh : Rel ρ h w) {n b o sz m tot off len cap : Nat} {f : Nat → List C} {ad : Option Addr} (e1 : h[n]? = some (.ob (.row sz m f tot))) (q1 : ρ n = some (b, o))
    (q3 : 0 < cap → ad = some ⟨b, o + (0 + off * sz), none⟩) (hlt : off + len ≤ m) (q5 : len ≤ cap) : Src P ρ w (.slice ad len cap) len sz fun i => f (off + i) := by
  obtain ⟨_, hmt, hr⟩ := hh.obs _ _ e1
  by_cases ht : tot = 0
  · have : len = 0 := by omega
    subst this
    refine ⟨rfl, fun _ => [], fun i hi => by omega, fun n hn => ?_⟩
    have : n = 0 := by omega
    subst this
    cases ad with
    | none => simp [Builtin.firstCells]
    | some ad => simp [Builtin.firstCells, loadCells, loadCellsFrom]
  · obtain ⟨b', o', E, fz, arr, r1, r2, r3, r4, r5⟩ := hr ht
    rw [q1] at r1; injection r1 with r1; injection r1 with r1 r0; subst r1; subst r0
    exact src_cells r5 q3 rfl hlt q5
/-- A row takes the place of another one, in its block. -/
theorem take_over (hh : Rel ρ h w) {n b o o' sz m tot tot' m' : Nat} {f f' : Nat → List C} {w' : World} {arr' : Array Value} {E : TypeId} {fz : Nat × Nat} (e1 : h[n]? = some (.ob (.row sz m f tot))) (q1 : ρ n = some (b, o)) (ht : tot ≠ 0)
    (hb : But b w w') (hw : w'.heap[b]? = some (.cells arr' E fz)) (hfz : free fz arr'.size) (h1 : m' ≤ tot') (h2 : o' + tot' * sz ≤ arr'.size) (h3 : Elems ρ w' b o' sz m' f') :
    Rel (upd ρ h.length (b, o')) (h.set n .dead ++ [.ob (.row sz m' f' tot')]) w' ∧ Grow ρ h w (upd ρ h.length (b, o')) (h.set n .dead ++ [.ob (.row sz m' f' tot')]) w' := by
  have ho : Owns ρ h n b := ⟨_, _, e1, ht, q1⟩
  have hk := hh.kill n
  have hl : (h.set n .dead).length = h.length := by simp
  have hnone := hh.fresh h.length (.inr (Nat.le_refl _))
  have hsub : Sub ρ (upd ρ h.length (b, o')) := upd_sub hnone
  have hsz : w.heap.size ≤ w'.heap.size := Nat.le_of_eq hb.size.symm
  rw [← hl] at hsub ⊢
  refine ⟨add_end hk trivial (hh.kill_free ho) hsz (fun c _ hc => hb.keep c hc) ⟨⟨_, upd_same _ _ _⟩, h1, fun _ => ⟨b, o', E, fz, arr', upd_same _ _ _, hw, hfz, h2, h3.keep hsub fun _ => rfl⟩⟩, ?_⟩
  refine grow_alloc (n := n) (nm := (h.set n .dead).length) (c := b) hsub hb.os hb.tape hb.output hb.frozen hsz (fun c hc hn => hb.keep c (by rintro rfl; exact hn n ho)) (fun m c hm hc => ?_) owns_end.2 (.inl ho)
  obtain ⟨ob, o2, g1, g2, g3⟩ := owns_end.1 m c hm hc
  rw [List.getElem?_set] at g1
  split at g1
  · split at g1 <;> cases g1
  · exact ⟨ob, o2, g1, g2, g3⟩
theorem appendK_ok (hT : TTok P tt) (hh : Rel ρ h w) {av : List Nat} {t u : TypeId} {x y : R} {v yv : Value} (hk : appendK tt av h t x y K) (hx : DenR ρ x v) (hy : DenR ρ y yv) {tys : Array TypeId} {more : List TypeId}
    (htys : tys.toList = t :: u :: more) {ui : TI} (hu : TIok P u ui) (hnu : (∃ e, ui.desc = .slice e) ∨ ui.desc = .str) {args : Array Value} (ha : args.toList = [v, yv]) (type : TypeId) :
    ∃ v' w', (Builtin.append_ tys type args).run P w = .ok v' w' ∧ Post ρ h w K v' w' := by
  unfold appendK at hk
  replace ⟨ti, ht, hk⟩ := tiK_ok hT hk
  split at hk
  case h_2 => exact hk.elim
  rename_i e hd
  replace ⟨ei, hei, hk⟩ := tiK_ok hT hk
  split at hk
  case h_1 => exact hk.elim
  rename_i hb
  simp only [Bool.and_eq_true] at hb
  have hb1 : 0 < ei.bytes := Nat.le_of_ble_eq_true hb.1
  have hb2 : nseg (segsOf ei.zero) = ei.size := Nat.eq_of_beq_eq_true hb.2
  have hzz : (cells (segsOf ei.zero)).length = ei.size := by rw [← nseg_cells]; exact hb2
  have hty : Tys P tys e ei := by
    obtain ⟨i, dt, z, p1, p2, p3, _⟩ := ht
    rw [hd] at p3
    cases dt <;> try exact p3.elim
    have p3 := p3; subst p3
    obtain ⟨i', du, z', p1', p2', p3', _⟩ := hu
    refine ⟨⟨t, u, more, htys, run_underlying p2, du, run_underlying p2', fun k hk => ?_⟩, hei⟩
    subst hk
    rcases hnu with ⟨e', h⟩ | h <;> rw [h] at p3' <;> exact p3'.elim
  have hdh : w.drew.heap = w.heap := rfl
  have hhd : Rel ρ h w.drew := hh.of_heap hdh
  obtain ⟨l2, g, g1, g2⟩ := srcK_ok (P := P) hk hy
  split at g1
  case h_1 => exact g1.elim
  rename_i hsz
  have hsrc := g2 _ hh _ hsz
  have hsrcd := g2 _ hhd _ hsz
  have hnone : ρ h.length = none := hh.fresh _ (.inr (Nat.le_refl _))
  split at g1
  · obtain ⟨hroom, g1⟩ := Chk_ok g1
    obtain ⟨rfl, _⟩ := hx
    by_cases h0 : l2 = 0
    · subst h0
      obtain ⟨us, k1, k2, k3, k4⟩ := append_room hty (s := .slice none 0 0) rfl hsrc (Nat.le_refl _) ha type
      replace g1 := happK_ok (hlenK_ok (g1 0 (Nat.le_refl _)))
      simp only [Nat.zero_add, decide_true] at g1
      obtain ⟨j1, j2⟩ := no_row (sz := ei.size) (f := g) hh
      exact ⟨_, w, k4, _, _, _, g1, j1, j2, _, 0, none, upd_same _ _ _, rfl, fun hc => by omega, rfl, Nat.le_refl _⟩
    · have hs0 : Src P ρ w.drew (.slice none 0 0) 0 ei.size (fun _ => []) := ⟨rfl, fun _ => [], fun i hi => by omega, fun n hn => by
        have : n = 0 := by omega
        subst this; simp [Builtin.firstCells]⟩
      obtain ⟨c, arr, k1, k2, k3, k4⟩ := append_grow (ρ := ρ) hty (s := .slice none 0 0) rfl hsrc.1 hs0 hsrcd (by omega) (by simpa using hroom) hb1 ha type hzz
      simp only [Nat.zero_add] at k1 k2 k3 k4
      replace g1 := happK_ok (hlenK_ok (g1 c k1))
      simp only [Nat.zero_add, h0, decide_false] at g1
      obtain ⟨j1, j2⟩ := new_row (tot := c) (sz := ei.size) (f := g) hh hdh rfl rfl rfl rfl k1 k3 fun i hi => by
        have := k4 i hi
        simpa using this
      exact ⟨_, _, k2, _, _, _, g1, j1, j2, _, _, some ⟨w.heap.size, 0, none⟩, upd_same _ _ _, rfl, fun _ => by simp, rfl, k1⟩
  · rename_i n sz off len cap nl
    split at g1
    case h_2 => exact g1.elim
    rename_i hsz'
    have hsz' := Nat.eq_of_beq_eq_true hsz'
    subst hsz'
    obtain ⟨hav, g1⟩ := away_ok g1
    obtain ⟨ob, e1, e2⟩ := hgetK_ok g1
    obtain ⟨b, o, ad, q1, q2, q3, q4, q5⟩ := hx
    subst q2
    split at e2
    case h_2 => exact e2.elim
    rename_i sz' m f tot
    split at e2
    case h_2 => exact e2.elim
    rename_i hs
    have hs := Nat.eq_of_beq_eq_true hs
    subst hs
    obtain ⟨hroom, e2⟩ := Chk_ok e2
    obtain ⟨hbd, e2⟩ := Chk_ok e2
    replace hbd := of_decide_eq_true hbd
    by_cases hfit : len + l2 ≤ cap
    · obtain ⟨us, k1, k2, k3, k4⟩ := append_room hty (ad := ad) rfl hsrc hfit ha type
      replace e2 := e2 cap hfit
      obtain ⟨e2, hn⟩ := hsetK_ok e2
      replace e2 := happK_ok (hlenK_ok e2)
      simp only [Nat.zero_add, List.length_set] at e2
      by_cases hc0 : cap = 0
      · have hl2 : l2 = 0 := by omega
        have hlen : len = 0 := by omega
        subst hc0 hl2 hlen
        have hus : us = [] := List.length_eq_zero_iff.1 (by simpa using k1)
        subst hus
        have k5 : (Builtin.append_ tys type args).run P w = .ok (.slice ad (0 + 0) 0) w := by
          rw [k4]
          cases ad <;> rfl
        obtain ⟨j1, j2⟩ := no_row (sz := ei.size) (f := fun i => if i < 0 then f (off + i) else g (i - 0)) (hh.kill n)
        rw [List.length_set] at j1 j2
        refine ⟨_, w, k5, _, _, _, e2, j1, (grow_kill n).trans j2, _, 0, ad, upd_same _ _ _, rfl, fun hc => by omega, ?_, Nat.le_refl _⟩
        rw [q4]; simp
      · rw [q3 (by omega)] at k4
        have hnl : nl = false := by rw [← q4, q3 (by omega)]; rfl
        obtain ⟨hx, hmt, hr⟩ := hh.obs _ _ e1
        have ht : tot ≠ 0 := by omega
        obtain ⟨b', o', E, fz, arr, r1, r2, r3, r4, r5⟩ := hr ht
        rw [q1] at r1; injection r1 with r1; injection r1 with r1 r0; subst r1; subst r0
        have hA : off * ei.size + cap * ei.size ≤ tot * ei.size := by rw [← Nat.add_mul]; exact Nat.mul_le_mul_right _ hbd.2
        have hB : len * ei.size + l2 * ei.size ≤ cap * ei.size := by rw [← Nat.add_mul]; exact Nat.mul_le_mul_right _ hfit
        simp only [add_at] at k4
        obtain ⟨w', arr', s1, s2, s3, s4, s5⟩ := store_block (P := P) (b := b) (o := o + (0 + off * ei.size) + len * ei.size) us 0 w arr r2 r3 (by omega) k3
        rw [s1] at k4
        have cell : ∀ k, w'.cell? ⟨b, k, none⟩ = arr'[k]? := fun k => by simp [World.cell?, s3]
        have cell0 : ∀ k, w.cell? ⟨b, k, none⟩ = arr[k]? := fun k => by simp [World.cell?, r2]
        obtain ⟨j1, j2⟩ := take_over (o' := o + off * ei.size) (m' := len + l2) (tot' := cap) (f' := fun i => if i < len then f (off + i) else g (i - len)) hh e1 q1 ht s2 s3 (by rw [s4]; exact r3) hfit (by rw [s4]; omega) fun i hi => by
          by_cases hil : i < len
          · simp only [if_pos hil]
            obtain ⟨vs, v1, v2, v3⟩ := r5 (off + i) (by omega)
            refine ⟨vs, v1, v2, fun j v hj => ?_⟩
            have hj' : j < ei.size := by
              rcases Nat.lt_or_ge j vs.length with c | c
              · omega
              · rw [List.getElem?_eq_none c] at hj; cases hj
            have := v3 j v hj
            rw [cell0] at this
            rw [cell, s5, if_neg (by have := inside hj' hil; omega), show o + off * ei.size + (i * ei.size + j) = o + ((off + i) * ei.size + j) by rw [Nat.add_mul]; omega]
            exact this
          · simp only [if_neg hil]
            obtain ⟨vs, v1, v2, v3⟩ := k2 (i - len) (by omega)
            refine ⟨vs, v1, v2, fun j v hj => ?_⟩
            have hj' : j < ei.size := by
              rcases Nat.lt_or_ge j vs.length with c | c
              · omega
              · rw [List.getElem?_eq_none c] at hj; cases hj
            have hge : len * ei.size ≤ i * ei.size := Nat.mul_le_mul_right _ (by omega)
            have hsub : (i - len) * ei.size = i * ei.size - len * ei.size := Nat.sub_mul _ _ _
            have hin := inside hj' (show i - len < l2 by omega)
            rw [cell, s5, if_pos (by rw [k1]; omega), show o + off * ei.size + (i * ei.size + j) - (o + (0 + off * ei.size) + len * ei.size + 0) = (i - len) * ei.size + j by omega]
            exact v3 j v hj
        refine ⟨_, w', k4, _, _, _, e2, j1, j2, _, _, some ⟨b, o + (0 + off * ei.size), none⟩, upd_same _ _ _, rfl, fun _ => by simp only [Option.some.injEq, Addr.mk.injEq, true_and, and_true]; omega, ?_, hfit⟩
        rw [hnl]; rfl
    · obtain ⟨c, arr, k1, k2, k3, k4⟩ := append_grow (ρ := ρ) hty (ad := ad) rfl hsrc.1 (src_row hhd e1 q1 q3 hbd.1 q5) hsrcd (by omega) hroom hb1 ha type hzz
      obtain ⟨e2, hn⟩ := hsetK_ok (e2 c k1)
      replace e2 := happK_ok (hlenK_ok e2)
      simp only [Nat.zero_add] at e2
      obtain ⟨j1, j2⟩ := new_row (tot := c) (sz := ei.size) (f := fun i => if i < len then f (off + i) else g (i - len)) (hh.kill n) hdh rfl rfl rfl rfl k1 k3 k4
      refine ⟨_, _, k2, _, _, _, e2, j1, (grow_kill n).trans j2, _, _, some ⟨w.heap.size, 0, none⟩, upd_same _ _ _, rfl, fun _ => by simp, ?_, k1⟩
      cases ad with
      | none =>
        have : cap = 0 := by
          rcases Nat.eq_zero_or_pos cap with c | c
          · exact c
          · have := q3 c; cases this
        have : l2 ≠ 0 := by omega
        simp [this]
      | some ad => rw [← q4]; rfl
  · exact g1.elim
end
end Go.Eng
