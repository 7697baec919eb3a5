/- Appending. -/
import Derived.Test.YtakcnoggkdfgfaaEngR
namespace Go.Eng
open Go
variable {d : Nat}
section
variable {P : Program} {tt : TT} {ρ : Env} {h : Heap} {w : World} {nt : Nat} {r : Tr d} {a : Act} {K : R → Heap → Prop}
theorem growBy_le (m : Nat) : ∀ (k c : Nat), c ≤ m + (m + 768) / 4 → Builtin.growBy m k c ≤ m + (m + 768) / 4
  | 0, c, h => h
  | k + 1, c, h => by
    unfold Builtin.growBy
    split
    · exact h
    · exact growBy_le m k _ (by omega)
theorem nextcap_le {m c : Nat} (h : c < m) : Builtin.nextslicecap m c ≤ 2 * m + 192 := by
  unfold Builtin.nextslicecap
  split
  · omega
  · split
    · omega
    · have := growBy_le m 4 c (by omega)
      omega
theorem roomy_ok {need bytes c : Nat} (h : roomy need bytes = true) (hb : 0 < bytes) (hc : c < need) : ¬ Builtin.nextslicecap need c * bytes > 2 ^ 48 ∧ ¬ ((need : Int) > IntKind.i64.max) := by
  have h := of_decide_eq_true h
  have h1 := nextcap_le hc
  have h2 : Builtin.nextslicecap need c * bytes ≤ (2 * need + 192) * bytes := Nat.mul_le_mul_right _ h1
  have h3 : need ≤ need * bytes := Nat.le_mul_of_pos_right _ hb
  have h4 : bytes ≤ need * bytes := Nat.le_mul_of_pos_left _ (by omega)
  have h5 : (2 * need + 192) * bytes = 2 * (need * bytes) + 192 * bytes := by rw [Nat.add_mul, Nat.mul_assoc]
  refine ⟨by omega, ?_⟩
  simp [IntKind.max, IntKind.signed, IntKind.bits]
  omega
theorem grow_alloc {n : Nat} {ρ' : Env} {h' : Heap} {w' : World} {nm c : Nat} (hs : Sub ρ ρ') (h1 : w'.os = w.os) (h2 : w'.tape = w.tape) (h3 : w'.output = w.output) (hfz : ∀ a, w'.frozen? a = w.frozen? a) (h4 : w.heap.size ≤ w'.heap.size)
    (hk : ∀ b, b < w.heap.size → (∀ n, ¬ Owns ρ h n b) → w'.heap[b]? = w.heap[b]?)
    (hm : ∀ m b, m ≠ nm → Owns ρ' h' m b → Owns ρ h m b) (hn : ∀ b, Owns ρ' h' nm b → b = c) (hc : Owns ρ h n c ∨ w.heap.size ≤ c) : Grow ρ h w ρ' h' w' :=
  ⟨hs, h1, h2, h3, hfz, h4, hk, fun m b ho => by
    by_cases e : m = nm
    · subst e
      have := hn b ho
      subst this
      rcases hc with hc | hc
      · exact .inl ⟨n, hc⟩
      · exact .inr hc
    · exact .inl ⟨m, hm m b e ho⟩⟩
theorem get_app {nm : Nat} {e : HE} (hnm : nm = h.length) : (h ++ [e])[nm]? = some e ∧ ∀ m, m ≠ nm → (h ++ [e])[m]? = h[m]? := by
  subst hnm
  refine ⟨by simp, fun m hm => ?_⟩
  rcases Nat.lt_or_ge m h.length with c | c
  · rw [List.getElem?_append_left c]
  · rw [List.getElem?_append_right c, List.getElem?_eq_none c]
    have : m - h.length ≠ 0 := by omega
    simp [List.getElem?_singleton, this]
/-- The end of a list of names gets a new one: a fresh block. -/
theorem add_end (hr : Rel ρ h w) {ob : Ob} {c o : Nat} {w' : World} (hme : ob.mine) (hf : Free ρ h c) (hsz : w.heap.size ≤ w'.heap.size) (hk : ∀ b, b < w.heap.size → b ≠ c → w'.heap[b]? = w.heap[b]?)
    (ho : RelOb (upd ρ h.length (c, o)) w' h.length ob) : Rel (upd ρ h.length (c, o)) (h ++ [.ob ob]) w' := by
  have hg := get_app (h := h) (e := .ob ob) rfl
  exact hr.add (hr.fresh _ (.inr (Nat.le_refl _))) hme hg.1 hg.2 hf hsz hk ho
theorem owns_end {ρ : Env} {h : Heap} {ob : Ob} {c o : Nat} : (∀ m b, m ≠ h.length → Owns (upd ρ h.length (c, o)) (h ++ [.ob ob]) m b → Owns ρ h m b) ∧ ∀ b, Owns (upd ρ h.length (c, o)) (h ++ [.ob ob]) h.length b → b = c := by
  have hg := get_app (h := h) (e := .ob ob) rfl
  refine ⟨fun m b hm ⟨ob', o', g1, g2, g3⟩ => ⟨ob', o', by rw [← hg.2 m hm]; exact g1, g2, by simpa [upd, hm] using g3⟩, fun b ⟨ob', o', g1, g2, g3⟩ => ?_⟩
  rw [upd_same] at g3; injection g3 with g3; injection g3 with g3; exact g3.symm
/-- A new row at the end of the names, its block new. -/
theorem new_row (hr : Rel ρ h w) {w0 w' : World} {sz n tot : Nat} {f : Nat → List C} {arr : Array Value} {E : TypeId} (h0 : w0.heap = w.heap) (h1 : w0.os = w.os) (h2 : w0.tape = w.tape) (h3 : w0.output = w.output)
    (hw : w' = w0.alloc (.cells arr E)) (hnt : n ≤ tot) (hs : tot * sz ≤ arr.size) (hf : ∀ i, i < n → ∃ vs, All2 (Den ρ) (f i) vs ∧ vs.length = sz ∧ ∀ j v, vs[j]? = some v → arr[i * sz + j]? = some v) :
    Rel (upd ρ h.length (w.heap.size, 0)) (h ++ [.ob (.row sz n f tot)]) w' ∧ Grow ρ h w (upd ρ h.length (w.heap.size, 0)) (h ++ [.ob (.row sz n f tot)]) w' := by
  subst hw
  have hsub : Sub ρ (upd ρ h.length (w.heap.size, 0)) := upd_sub (hr.fresh _ (.inr (Nat.le_refl _)))
  have hkeep : ∀ b, b < w.heap.size → (w0.alloc (.cells arr E)).heap[b]? = w.heap[b]? := fun b hb => by
    show (w0.heap.push _)[b]? = _
    rw [h0, Array.getElem?_push, if_neg (by omega)]
  have hsize : w.heap.size ≤ (w0.alloc (.cells arr E)).heap.size := by rw [World.size_alloc, h0]; omega
  have hob : RelOb (upd ρ h.length (w.heap.size, 0)) (w0.alloc (.cells arr E)) h.length (.row sz n f tot) :=
    relOb_row (w := w0) (by rw [h0]; exact upd_same _ _ _) hnt hs fun i hi => by
      obtain ⟨vs, g1, g2⟩ := hf i hi
      exact ⟨vs, g1.imp fun _ _ => Den.mono hsub, g2⟩
  refine ⟨add_end hr trivial hr.free_new hsize (fun b hb _ => hkeep b hb) hob, ?_⟩
  exact grow_alloc (n := 0) (nm := h.length) (c := w.heap.size) hsub h1 h2 h3 (fun a => by rw [RowKit.frozen?_alloc_cells]; unfold World.frozen?; rw [h0]) hsize (fun b hb _ => hkeep b hb) owns_end.1 owns_end.2 (.inr (Nat.le_refl _))
theorem zeroCells_size (z : Array Value) (n : Nat) : (Builtin.zeroCells z n).size = n * z.size := by simp [Builtin.zeroCells]
theorem Rel.of_heap (hr : Rel ρ h w) {w' : World} (e : w'.heap = w.heap) : Rel ρ h w' :=
  ⟨hr.fresh, fun n ob hn => (hr.obs n ob hn).keep (Sub.refl _) (by rw [e]; exact Nat.le_refl _) (fun _ _ _ _ => by rw [e]), hr.inj, hr.apart⟩
/-- What 'append' asks of its types. -/
structure Tys (P : Program) (tys : Array TypeId) (e : TypeId) (ei : TI) : Prop where
  ex : ∃ t u more, tys.toList = t :: u :: more ∧ (∀ w, (underlying t).run P w = .ok (.slice e) w) ∧ ∃ du, (∀ w, (underlying u).run P w = .ok du w) ∧ ∀ k, du ≠ .int k
  el : TIok P e ei
theorem tys_facts {tys : Array TypeId} {e : TypeId} {ei : TI} (h : Tys P tys e ei) : ∃ t u du, tys[0]? = some t ∧ tys[1]? = some u ∧ (∀ w, (underlying t).run P w = .ok (.slice e) w) ∧ (∀ w, (underlying u).run P w = .ok du w) ∧ ∀ k, du ≠ .int k := by
  obtain ⟨⟨t, u, more, h1, h2, du, h3, h4⟩, _⟩ := h
  exact ⟨t, u, du, by rw [← Array.getElem?_toList, h1]; rfl, by rw [← Array.getElem?_toList, h1]; rfl, h2, h3, h4⟩
theorem not_int {du : TypeDesc} (h : ∀ k, du ≠ .int k) : (match du with | .int _ => true | _ => false) = false := by cases du <;> first | rfl | exact absurd rfl (h _)
/-- append, where it asks for a new array. -/
theorem append_grow {e : TypeId} {ei : TI} {tys : Array TypeId} (hty : Tys P tys e ei) {s y : Value} {ad : Option Addr} {len cap l2 : Nat} (hs : s = .slice ad len cap) {f g : Nat → List C}
    (hy : (Builtin.lenOf y).run P w = .ok l2 w) (h1 : Src P ρ w.drew s len ei.size f) (h2 : Src P ρ w.drew y l2 ei.size g)
    (hlt : cap < len + l2) (hroom : roomy (len + l2) ei.bytes = true) (hb : 0 < ei.bytes) {args : Array Value} (ha : args.toList = [s, y]) (type : TypeId) (hzz : (cells (segsOf ei.zero)).length = ei.size) :
    ∃ c arr, len + l2 ≤ c ∧ (Builtin.append_ tys type args).run P w = .ok (.slice (some ⟨w.heap.size, 0, none⟩) (len + l2) c) (w.drew.alloc (.cells arr e)) ∧ c * ei.size ≤ arr.size ∧
      ∀ i, i < len + l2 → ∃ vs, All2 (Den ρ) (if i < len then f i else g (i - len)) vs ∧ vs.length = ei.size ∧ ∀ j v, vs[j]? = some v → arr[i * ei.size + j]? = some v := by
  obtain ⟨t, u, du, q1, q2, q3, q4, q5⟩ := tys_facts hty
  obtain ⟨z, z1, z2⟩ := hty.el.zero (w := w.drew)
  obtain ⟨i, i1, i2, i3⟩ := hty.el.info (w := w)
  obtain ⟨i', i1', i2', i3'⟩ := hty.el.info (w := w.drew)
  obtain ⟨s1, us, s2, s3⟩ := h1
  obtain ⟨y1, uy, y2, y3⟩ := h2
  have ha0 : args[0]? = some s := by rw [← Array.getElem?_toList, ha]; rfl
  have ha1 : args[1]? = some y := by rw [← Array.getElem?_toList, ha]; rfl
  obtain ⟨r1, r2⟩ := roomy_ok hroom hb hlt
  have r1' : ¬ Builtin.nextslicecap (len + l2) cap * i.bytes > 2 ^ 48 := by rw [i3]; exact r1
  have hzs : z.cells.size = ei.size := by have := (z2 ρ).cells.length; rw [hzz] at this; simpa using this.symm
  let c := (Question.appendCap (len + l2) cap e).cut (w.tape w.drawn (.appendCap (len + l2) cap e))
  have hc : len + l2 ≤ c := Nat.le_add_right _ _
  have hch : (choose (.appendCap (len + l2) cap e)).run P w = .ok c w.drew := rfl
  have hask : ∀ n w, (askRoom n).run P w = .ok () w := fun n w => by unfold askRoom; split <;> rfl
  have f1 := s3 len (Nat.le_refl _)
  have f2 := y3 l2 (Nat.le_refl _)
  have n1 := flat_len (n := len) (us := us) (size := ei.size) fun i hi => (s2 i hi).2
  have n2 := flat_len (n := l2) (us := uy) (size := ei.size) fun i hi => (y2 i hi).2
  refine ⟨c, ((List.range len).flatMap us).toArray ++ ((List.range l2).flatMap uy).toArray ++ Builtin.zeroCells z.cells (c - (len + l2)), hc, ?_, ?_, fun i hi => ?_⟩
  · subst hs
    simp only [Builtin.append_, q1, ha0, ha1, Sem.run_bind, q3, Result.andThen_ok, hty.el.size, q2, q4, Sem.run_pure, not_int q5, Bool.false_eq_true, if_false, hy, if_neg (show ¬ len + l2 ≤ cap by omega), i1]
    rw [if_neg (by rintro ⟨h, _⟩; exact r2 h)]
    simp only [Sem.run_bind, i1, Result.andThen_ok]
    rw [if_neg r1']
    simp only [Sem.run_bind, hch, Result.andThen_ok, i1', hask, f1, f2, z1, Bool.not_false, if_true]
    rfl
  · simp only [Array.size_append, List.size_toArray, n1, n2, zeroCells_size, hzs]
    rw [← Nat.add_mul, ← Nat.add_mul]
    exact Nat.mul_le_mul_right _ (by omega)
  · have key : ∀ (l1 l2' l3 : List Value) (k : Nat) (v : Value), (l1 ++ l2')[k]? = some v → (l1.toArray ++ l2'.toArray ++ l3.toArray)[k]? = some v := fun l1 l2' l3 k v hk => by
      have hlt : k < (l1 ++ l2').length := by
        rcases Nat.lt_or_ge k (l1 ++ l2').length with c | c
        · exact c
        · rw [List.getElem?_eq_none c] at hk; cases hk
      rw [← Array.getElem?_toList]
      simp only [Array.toList_append, List.toList_toArray]
      rw [List.getElem?_append_left hlt]
      exact hk
    have hin : ∀ {vs : List Value} {j : Nat} {v : Value}, vs.length = ei.size → vs[j]? = some v → j < ei.size := fun {vs j v} hl hj => by
      rcases Nat.lt_or_ge j vs.length with c | c
      · omega
      · rw [List.getElem?_eq_none c] at hj; cases hj
    by_cases hil : i < len
    · rw [if_pos hil]
      refine ⟨us i, (s2 i hil).1, (s2 i hil).2, fun j v hj => ?_⟩
      have hj' := hin (s2 i hil).2 hj
      have := key ((List.range len).flatMap us) ((List.range l2).flatMap uy) (Builtin.zeroCells z.cells (c - (len + l2))).toList (i * ei.size + j) v (by
        rw [List.getElem?_append_left (by have := inside hj' hil; omega), flat_at (fun i hi => (s2 i hi).2) hil hj']
        exact hj)
      simpa using this
    · rw [if_neg hil]
      have hi2 : i - len < l2 := by omega
      refine ⟨uy (i - len), (y2 _ hi2).1, (y2 _ hi2).2, fun j v hj => ?_⟩
      have hj' := hin (y2 _ hi2).2 hj
      have hge : len * ei.size ≤ i * ei.size := Nat.mul_le_mul_right _ (by omega)
      have hsub : i * ei.size + j - len * ei.size = (i - len) * ei.size + j := by rw [Nat.sub_mul]; omega
      have := key ((List.range len).flatMap us) ((List.range l2).flatMap uy) (Builtin.zeroCells z.cells (c - (len + l2))).toList (i * ei.size + j) v (by
        rw [List.getElem?_append_right (by omega), n1, hsub, flat_at (fun i hi => (y2 i hi).2) hi2 hj']
        exact hj)
      simpa using this
end
end Go.Eng
