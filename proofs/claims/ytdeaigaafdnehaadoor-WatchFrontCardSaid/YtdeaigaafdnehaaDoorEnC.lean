/- The engine, part C: an evaluator over the model's own code, and its soundness. Nothing is claimed of a program here. -/
import Derived.Test.YtdeaigaafdnehaaDoorEnB
import Derived.Scope
/- How the abstract heap follows the world. -/
namespace Go.Eng
open Go
section
variable {ρ ρ' : Env} {h h' : Heap} {w w' : World}
def upd (ρ : Env) (n : Nat) (x : Nat × Nat) : Env := fun m => if m = n then some x else ρ m
theorem upd_same (ρ : Env) (n : Nat) (x : Nat × Nat) : upd ρ n x n = some x := by simp [upd]
theorem upd_sub {n : Nat} {x : Nat × Nat} (h : ρ n = none) : Sub ρ (upd ρ n x) := fun m y hm => by
  unfold upd
  split
  · rename_i e; subst e; rw [h] at hm; cases hm
  · exact hm
/-- Does a reading of it look at its block? -/
def Ob.looks : Ob → Prop
  | .raw _ => True
  | .own _ => True
  | .row _ _ _ tot => tot ≠ 0
  | .ro _ k _ => k ≠ 0
theorem Elems.keep {b o sz n : Nat} {f : Nat → List C} (hs : Sub ρ ρ') (h : Elems ρ w b o sz n f) (hk : n ≠ 0 → w'.heap[b]? = w.heap[b]?) : Elems ρ' w' b o sz n f := fun i hi => by
  obtain ⟨vs, h1, h2, h3⟩ := h i hi
  refine ⟨vs, h1.imp fun _ _ => Den.mono hs, h2, fun j v hj => ?_⟩
  have := h3 j v hj
  simp only [World.cell?] at this ⊢
  rw [hk (by omega)]; exact this
theorem RelOb.keep {m : Nat} {ob : Ob} (hs : Sub ρ ρ') (h : RelOb ρ w m ob) (hsz : w.heap.size ≤ w'.heap.size) (hk : ∀ b o, ρ m = some (b, o) → ob.looks → w'.heap[b]? = w.heap[b]?) : RelOb ρ' w' m ob := by
  cases ob with
  | raw x =>
    obtain ⟨b, o, h1, h2, h3⟩ := h
    exact ⟨b, o, hs _ _ h1, by rw [hk _ _ h1 trivial]; exact h2, h3⟩
  | own l =>
    obtain ⟨b, E, fz, arr, h1, h2, h3, h4⟩ := h
    exact ⟨b, E, fz, arr, hs _ _ h1, by rw [hk _ _ h1 trivial]; exact h2, h3, h4.imp fun _ _ => Den.mono hs⟩
  | row sz k f tot =>
    obtain ⟨⟨x, hx⟩, h0, h⟩ := h
    refine ⟨⟨x, hs _ _ hx⟩, h0, fun ht => ?_⟩
    obtain ⟨b, o, E, fz, arr, h1, h2, h3, h4, h5⟩ := h ht
    have e := hk _ _ h1 ht
    exact ⟨b, o, E, fz, arr, hs _ _ h1, by rw [e]; exact h2, h3, h4, h5.keep hs fun _ => e⟩
  | ro sz k f =>
    obtain ⟨b, o, h1, h2, h3⟩ := h
    exact ⟨b, o, hs _ _ h1, h2.keep hs fun hk' => hk _ _ h1 hk', fun hk' => Nat.lt_of_lt_of_le (h3 hk') hsz⟩
theorem Ob.look_cases {ob : Ob} (h : ob.looks) : ob.owned ∨ ob.still := by
  cases ob with
  | raw x => cases x <;> first | exact .inl trivial | exact .inr (fun h => h)
  | own l => exact .inl trivial
  | row sz k f tot => exact .inl h
  | ro sz k f => exact .inr h
theorem Ob.owned_looks {ob : Ob} (h : ob.owned) : ob.looks := by cases ob <;> first | trivial | exact h | exact h.elim
theorem Ob.still_looks {ob : Ob} (h : ob.still) : ob.looks := by cases ob <;> first | trivial | exact h | exact h.elim
theorem Ob.owned_still {ob : Ob} (h : ob.owned) (h' : ob.still) : False := by cases ob <;> first | exact h' h | exact h.elim | exact h'.elim
theorem Ob.mine_still {ob : Ob} (h : ob.mine) (h' : ob.still) : False := by cases ob <;> first | exact h.elim | exact h'.elim | exact h' h
/-- Nobody in the heap leads to block c. -/
def Free (ρ : Env) (h : Heap) (c : Nat) : Prop := ∀ m ob o, h[m]? = some (.ob ob) → ob.looks → ρ m ≠ some (c, o)
theorem Rel.looks_lt (hr : Rel ρ h w) {m : Nat} {ob : Ob} {b o : Nat} (hm : h[m]? = some (.ob ob)) (hl : ob.looks) (hb : ρ m = some (b, o)) : b < w.heap.size := by
  have := hr.obs m ob hm
  cases ob with
  | raw x =>
    obtain ⟨b', o', h1, h2, _⟩ := this
    rw [hb] at h1; injection h1 with h1; injection h1 with h1 _; subst h1
    rcases Nat.lt_or_ge b w.heap.size with c | c
    · exact c
    · rw [Array.getElem?_eq_none c] at h2; cases h2
  | own l => exact hr.owns_lt ⟨_, _, hm, trivial, hb⟩
  | row sz k f tot => exact hr.owns_lt ⟨_, _, hm, hl, hb⟩
  | ro sz k f => obtain ⟨b', o', h1, h2, h3⟩ := this; rw [hb] at h1; injection h1 with h1; injection h1 with h1 _; subst h1; exact h3 hl
theorem Rel.free_new (hr : Rel ρ h w) : Free ρ h w.heap.size := fun m ob o hm hl he => by
  have := hr.looks_lt hm hl he; omega
/-- A new name, for a block that nobody leads to. -/
theorem Rel.add (hr : Rel ρ h w) {nm c o : Nat} {ob : Ob} (hn : ρ nm = none) (hme : ob.mine) (h1 : h'[nm]? = some (.ob ob)) (h2 : ∀ m, m ≠ nm → h'[m]? = h[m]?) (hf : Free ρ h c)
    (hsz : w.heap.size ≤ w'.heap.size) (hk : ∀ b, b < w.heap.size → b ≠ c → w'.heap[b]? = w.heap[b]?) (ho : RelOb (upd ρ nm (c, o)) w' nm ob) : Rel (upd ρ nm (c, o)) h' w' := by
  have hs : Sub ρ (upd ρ nm (c, o)) := upd_sub hn
  have hne : ∀ m, m ≠ nm → upd ρ nm (c, o) m = ρ m := fun m hm => by simp [upd, hm]
  have own : ∀ m b, m ≠ nm → Owns (upd ρ nm (c, o)) h' m b → Owns ρ h m b := fun m b hm ⟨ob', o', g1, g2, g3⟩ => ⟨ob', o', by rw [← h2 m hm]; exact g1, g2, by rw [← hne m hm]; exact g3⟩
  have ownn : ∀ b, Owns (upd ρ nm (c, o)) h' nm b → b = c := fun b ⟨ob', o', g1, g2, g3⟩ => by rw [upd_same] at g3; injection g3 with g3; injection g3 with g3; exact g3.symm
  have notc : ∀ m, ¬ Owns ρ h m c := fun m ⟨ob', o', g1, g2, g3⟩ => hf m ob' o' g1 (Ob.owned_looks g2) g3
  constructor
  · intro n hnf
    have hnn : n ≠ nm := by
      rintro rfl
      rcases hnf with e | e
      · rw [h1] at e; cases e
      · rw [List.getElem?_eq_none e] at h1; cases h1
    rw [hne n hnn]
    refine hr.fresh n ?_
    rcases hnf with e | e
    · exact .inl (by rw [← h2 n hnn]; exact e)
    · right
      have := h2 n hnn
      rw [List.getElem?_eq_none e] at this
      exact List.getElem?_eq_none_iff.1 this.symm
  · intro m ob' hm
    by_cases e : m = nm
    · subst e; rw [h1] at hm; injection hm with hm; injection hm with hm; subst hm; exact ho
    · rw [h2 m e] at hm
      exact (hr.obs m ob' hm).keep hs hsz fun b o' hb hl => hk b (hr.looks_lt hm hl hb) (by rintro rfl; exact hf m ob' o' hm hl hb)
  · intro n m b hn' hm'
    by_cases e1 : n = nm <;> by_cases e2 : m = nm
    · rw [e1, e2]
    · subst e1; have := ownn b hn'; subst this; exact (notc m (own m _ e2 hm')).elim
    · subst e2; have := ownn b hm'; subst this; exact (notc n (own n _ e1 hn')).elim
    · exact hr.inj n m b (own n b e1 hn') (own m b e2 hm')
  · intro n m b o' ob2 hn' hm' hk' hb
    have e2 : m ≠ nm := by rintro rfl; rw [h1] at hm'; injection hm' with hm'; injection hm' with hm'; subst hm'; exact Ob.mine_still hme hk'
    rw [h2 m e2] at hm'
    rw [hne m e2] at hb
    by_cases e1 : n = nm
    · subst e1
      have := ownn b hn'; subst this
      exact hf m _ o' hm' (Ob.still_looks hk') hb
    · exact hr.apart n m b o' ob2 (own n b e1 hn') hm' hk' hb
theorem Rel.kill (hr : Rel ρ h w) (n : Nat) : Rel ρ (h.set n .dead) w := by
  have key : ∀ {m : Nat} {ob : Ob}, (h.set n .dead)[m]? = some (.ob ob) → m ≠ n ∧ h[m]? = some (.ob ob) := fun {m ob} hm => by
    rw [List.getElem?_set] at hm
    split at hm
    · split at hm <;> cases hm
    · exact ⟨fun e => by simp_all, hm⟩
  have own : ∀ m b, Owns ρ (h.set n .dead) m b → Owns ρ h m b := fun m b ⟨ob, o, g1, g2, g3⟩ => ⟨ob, o, (key g1).2, g2, g3⟩
  constructor
  · intro m hm
    refine hr.fresh m ?_
    rcases hm with e | e
    · rw [List.getElem?_set] at e
      split at e
      · split at e <;> cases e
      · exact .inl e
    · exact .inr (by simpa using e)
  · exact fun m ob hm => hr.obs m ob (key hm).2
  · exact fun a b c h1 h2 => hr.inj a b c (own _ _ h1) (own _ _ h2)
  · exact fun a b c o ob h1 h2 h3 => hr.apart a b c o ob (own _ _ h1) (key h2).2 h3
theorem Rel.kill_free (hr : Rel ρ h w) {n b : Nat} (ho : Owns ρ h n b) : Free ρ (h.set n .dead) b := fun m ob o hm hl hb => by
  rw [List.getElem?_set] at hm
  split at hm
  · split at hm <;> cases hm
  · rename_i hne
    rcases Ob.look_cases hl with hl | hl
    · exact hne (hr.inj n m b ho ⟨_, _, hm, hl, hb⟩)
    · exact hr.apart n m b o _ ho hm hl hb
/-- A block that is written. -/
theorem Rel.put (hr : Rel ρ h w) {n b : Nat} {ob' : Ob} (ho : Owns ρ h n b) (hme : ob'.mine) (hsz : w.heap.size ≤ w'.heap.size) (hk : ∀ c, c < w.heap.size → c ≠ b → w'.heap[c]? = w.heap[c]?)
    (hob : RelOb ρ w' n ob') : Rel ρ (h.set n (.ob ob')) w' := by
  obtain ⟨ob0, o0, p1, p2, p3⟩ := ho
  have hlt : n < h.length := (List.getElem?_eq_some_iff.1 p1).1
  have ho : Owns ρ h n b := ⟨ob0, o0, p1, p2, p3⟩
  have at_n : (h.set n (.ob ob'))[n]? = some (.ob ob') := by simp [hlt]
  have at_m : ∀ m, m ≠ n → (h.set n (.ob ob'))[m]? = h[m]? := fun m hm => by rw [List.getElem?_set, if_neg (Ne.symm hm)]
  have own : ∀ m c, Owns ρ (h.set n (.ob ob')) m c → Owns ρ h m c := fun m c ⟨ob, o, g1, g2, g3⟩ => by
    by_cases e : m = n
    · subst e; rw [p3] at g3; injection g3 with g3; injection g3 with g3 _; subst g3; exact ho
    · exact ⟨ob, o, by rw [← at_m m e]; exact g1, g2, g3⟩
  constructor
  · intro m hm
    refine hr.fresh m ?_
    rcases hm with e | e
    · by_cases en : m = n
      · subst en; rw [at_n] at e; cases e
      · exact .inl (by rw [← at_m m en]; exact e)
    · exact .inr (by simpa using e)
  · intro m ob hm
    by_cases en : m = n
    · subst en; rw [at_n] at hm; injection hm with hm; injection hm with hm; subst hm; exact hob
    · rw [at_m m en] at hm
      refine (hr.obs m ob hm).keep (Sub.refl _) hsz fun c o hb hl => hk c (hr.looks_lt hm hl hb) ?_
      rintro rfl
      rcases Ob.look_cases hl with hl | hl
      · exact en (hr.inj m n c ⟨_, _, hm, hl, hb⟩ ho)
      · exact hr.apart n m c o _ ho hm hl hb
  · exact fun a b c h1 h2 => hr.inj a b c (own _ _ h1) (own _ _ h2)
  · intro a m c o ob h1 h2 h3
    by_cases en : m = n
    · subst en; rw [at_n] at h2; injection h2 with h2; injection h2 with h2; subst h2; exact (Ob.mine_still hme h3).elim
    · rw [at_m m en] at h2
      exact hr.apart a m c o ob (own _ _ h1) h2 h3
end
end Go.Eng

/- What writes: stores. -/
namespace Go.Eng
open Go
variable {d : Nat}
section
variable {P : Program} {tt : TT} {ρ : Env} {h : Heap} {w : World} {nt : Nat} {r : Tr d} {a : Act}
/-- All is as it was, but for block b. -/
structure But (b : Nat) (w w' : World) : Prop where
  os : w'.os = w.os
  tape : w'.tape = w.tape
  output : w'.output = w.output
  frozen : ∀ a, w'.frozen? a = w.frozen? a
  size : w'.heap.size = w.heap.size
  keep : ∀ c, c ≠ b → w'.heap[c]? = w.heap[c]?
theorem But.refl (b : Nat) (w : World) : But b w w := ⟨rfl, rfl, rfl, fun _ => rfl, rfl, fun _ _ => rfl⟩
theorem But.trans {b : Nat} {w w1 w2 : World} (x : But b w w1) (y : But b w1 w2) : But b w w2 :=
  ⟨y.os.trans x.os, y.tape.trans x.tape, y.output.trans x.output, fun a => (y.frozen a).trans (x.frozen a), y.size.trans x.size, fun c hc => (y.keep c hc).trans (x.keep c hc)⟩
theorem solid_one {v : Value} (h : solid v) : v.oneCell' = true := by cases v <;> first | rfl | exact h.elim
theorem store_one {b o : Nat} {arr : Array Value} {E : TypeId} {fz : Nat × Nat} {v : Value} (hb : w.heap[b]? = some (.cells arr E fz)) (hf : free fz arr.size) (ho : o < arr.size) (hv : solid v) :
    (store ⟨b, o, none⟩ v).run P w = .ok () (w.setCell ⟨b, o, none⟩ v) ∧ But b w (w.setCell ⟨b, o, none⟩ v) ∧ (w.setCell ⟨b, o, none⟩ v).heap[b]? = some (.cells (arr.setIfInBounds o v) E fz) := by
  have hc : ∃ u, w.cell? ⟨b, o, none⟩ = some u := by simp [World.cell?, hb, ho]
  obtain ⟨u, hu⟩ := hc
  have hz : w.frozen? ⟨b, o, none⟩ = false := by
    simp only [World.frozen?, hb]
    have := hf o ho
    obtain ⟨lo, hi⟩ := fz
    simp only at this ⊢
    simp only [Bool.and_eq_false_iff, decide_eq_false_iff_not]
    omega
  refine ⟨?_, ⟨rfl, rfl, rfl, fun _ => World.frozen?_setCell .., World.size_setCell _ _ _, fun c hc => RowKit.Below.heap_setCell _ _ _ _ hc⟩, ?_⟩
  · rw [run_store P w _ v _ (solid_one hv)]
    simp [hu, hz]
  · simp only [World.setCell, Array.getElem?_modify, ↓reduceIte, hb, Option.map_some]
    rfl
theorem store_block {b o : Nat} {E : TypeId} {fz : Nat × Nat} : ∀ (vs : List Value) (i : Nat) (w : World) (arr : Array Value), w.heap[b]? = some (.cells arr E fz) → free fz arr.size →
    o + i + vs.length ≤ arr.size → (∀ v ∈ vs, solid v) → ∃ w' arr', (storeCells ⟨b, o, none⟩ vs i).run P w = .ok () w' ∧ But b w w' ∧ w'.heap[b]? = some (.cells arr' E fz) ∧ arr'.size = arr.size ∧
      ∀ k, arr'[k]? = if o + i ≤ k ∧ k < o + i + vs.length then vs[k - (o + i)]? else arr[k]?
  | [], i, w, arr, hb, _, _, _ => ⟨w, arr, rfl, But.refl _ _, hb, rfl, fun k => by rw [if_neg (by simp)]⟩
  | v :: vs, i, w, arr, hb, hf, hl, hs => by
    simp only [List.length_cons] at hl
    obtain ⟨s1, s2, s3⟩ := store_one (P := P) (o := o + i) (v := v) hb hf (by omega) (hs v (by simp))
    obtain ⟨w', arr', q1, q2, q3, q4, q5⟩   := store_block (o := o) vs (i + 1) (w.setCell ⟨b, o + i, none⟩ v) (arr.setIfInBounds (o + i) v) s3 (by simpa using hf) (by simp; omega) (fun u hu => hs u (by simp [hu]))
    refine ⟨w', arr', ?_, s2.trans q2, q3, by rw [q4]; simp, fun k => ?_⟩
    · simp only [storeCells, Sem.run_bind, add_at, s1, Result.andThen_ok]
      exact q1
    · rw [q5 k]
      simp only [List.length_cons]
      by_cases c1 : k = o + i
      · subst c1
        rw [if_neg (by omega), if_pos ⟨by omega, by omega⟩]
        have : o + i < arr.size := by omega
        simp [this]
      · by_cases c2 : o + (i + 1) ≤ k ∧ k < o + (i + 1) + vs.length
        · rw [if_pos c2, if_pos ⟨by omega, by omega⟩, show k - (o + i) = (k - (o + (i + 1))) + 1 by omega, List.getElem?_cons_succ]
        · rw [if_neg c2, if_neg (by omega), Array.getElem?_setIfInBounds_ne (by omega)]
/-- What follows an operation that acts. -/
def Post (ρ : Env) (h : Heap) (w : World) (K : R → Heap → Prop) (v : Value) (w' : World) : Prop :=
  ∃ x ρ' h', K x h' ∧ Rel ρ' h' w' ∧ Grow ρ h w ρ' h' w' ∧ DenR ρ' x v
theorem grow_put {n b : Nat} {ob' : Ob} {w' : World} (ho : Owns ρ h n b) (hb : But b w w') : Grow ρ h w ρ (h.set n (.ob ob')) w' where
  sub := Sub.refl _
  os := hb.os
  tape := hb.tape
  output := hb.output
  frozen := fun a _ => hb.frozen a
  size := Nat.le_of_eq hb.size.symm
  keep := fun c _ hn => hb.keep c (by rintro rfl; exact hn n ho)
  made := fun m c ⟨ob, o, g1, g2, g3⟩ => by
    left
    rw [List.getElem?_set] at g1
    obtain ⟨ob0, o0, p1, p2, p3⟩ := ho
    split at g1
    · rename_i e; subst e
      rw [p3] at g3; injection g3 with g3; injection g3 with g3 _; subst g3
      exact ⟨n, ob0, o0, p1, p2, p3⟩
    · exact ⟨m, ob, o, g1, g2, g3⟩
/-- A store into a block that a name owns. -/
theorem put_own (hh : Rel ρ h w) {n b : Nat} {l : List Seg} {E : TypeId} {fz : Nat × Nat} {arr arr' : Array Value} {l' : List Seg} {w' : World} (hn : h[n]? = some (.ob (.own l))) (hb : ρ n = some (b, 0))
    (hbut : But b w w') (hfz : free fz arr.size) (hw : w'.heap[b]? = some (.cells arr' E fz)) (hsz : arr'.size = arr.size) (ha : All2 (Den ρ) (cells l') arr'.toList) :
    Rel ρ (h.set n (.ob (.own l'))) w' ∧ Grow ρ h w ρ (h.set n (.ob (.own l'))) w' := by
  have ho : Owns ρ h n b := ⟨_, _, hn, trivial, hb⟩
  exact ⟨hh.put ho trivial (Nat.le_of_eq hbut.size.symm) (fun c _ hc => hbut.keep c hc) ⟨b, E, fz, arr', hb, hw, by rw [hsz]; exact hfz, ha⟩, grow_put ho hbut⟩
theorem splice_den {p q : List C} {us : List Value} {arr arr' : Array Value} {off : Nat} {ys : List C} (ha : All2 (Den ρ) p arr.toList) (hy : All2 (Den ρ) ys us) (hq : q = p.take off ++ (ys ++ p.drop (off + ys.length)))
    (hle : off + ys.length ≤ p.length) (hsz : arr'.size = arr.size) (hget : ∀ k, arr'[k]? = if off ≤ k ∧ k < off + us.length then us[k - off]? else arr[k]?) : All2 (Den ρ) q arr'.toList := by
  have h1 := ha.length
  have h2 := hy.length
  simp only [Array.length_toList] at h1
  refine All2.of_get (by rw [hq]; simp; omega) fun k c u hc hu => ?_
  have hu' : arr'[k]? = some u := by simpa using hu
  rw [hget k] at hu'
  rw [hq] at hc
  by_cases c1 : k < off
  · rw [if_neg (by omega)] at hu'
    rw [List.getElem?_append_left (by simp; omega), List.getElem?_take, if_pos c1] at hc
    obtain ⟨u', q1, q2⟩ := ha.get hc
    rw [show arr.toList[k]? = some u by simpa using hu'] at q1
    exact (Option.some.inj q1) ▸ q2
  · rw [List.getElem?_append_right (by simp; omega)] at hc
    simp only [List.length_take, show min off p.length = off by omega] at hc
    by_cases c2 : k < off + us.length
    · rw [if_pos ⟨by omega, c2⟩] at hu'
      rw [List.getElem?_append_left (by omega)] at hc
      obtain ⟨u', q1, q2⟩ := hy.get hc
      rw [hu'] at q1
      exact (Option.some.inj q1) ▸ q2
    · rw [if_neg (by omega)] at hu'
      rw [List.getElem?_append_right (by omega), List.getElem?_drop, show off + ys.length + (k - off - ys.length) = k by omega] at hc
      obtain ⟨u', q1, q2⟩ := ha.get hc
      rw [show arr.toList[k]? = some u by simpa using hu'] at q1
      exact (Option.some.inj q1) ▸ q2
theorem den_solid {p : List C} {us : List Value} (h : All2 (Den ρ) p us) : ∀ v ∈ us, solid v := fun v hv => by
  obtain ⟨i, hi⟩ := List.getElem?_of_mem hv
  obtain ⟨c, _, hc⟩ := h.get' hi
  exact Den.solid hc
end
end Go.Eng

/- What writes: stores, on. -/
namespace Go.Eng
open Go
variable {d : Nat}
section
variable {P : Program} {tt : TT} {ρ : Env} {h : Heap} {w : World} {nt : Nat} {r : Tr d} {a : Act}
theorem beside {i q sz j k : Nat} (hj : j < sz) (hk : k < sz) (h : i ≠ q) : i * sz + j ≠ q * sz + k := by
  intro e
  rcases Nat.lt_or_ge i q with c | c
  · have := Nat.mul_le_mul_right sz c
    rw [Nat.succ_mul] at this
    omega
  · have c : q < i := by omega
    have := Nat.mul_le_mul_right sz c
    rw [Nat.succ_mul] at this
    omega
theorem inside {i n sz j : Nat} (hj : j < sz) (hi : i < n) : i * sz + j < n * sz := by
  have := Nat.mul_le_mul_right sz hi
  rw [Nat.succ_mul] at this
  omega
theorem own_put (hh : Rel ρ h w) {n b off : Nat} {l l' : List Seg} {ys : List C} {us : List Value} (hn : h[n]? = some (.ob (.own l))) (hb : ρ n = some (b, 0))
    (hy : All2 (Den ρ) ys us) (hq : cells l' = (cells l).take off ++ (ys ++ (cells l).drop (off + ys.length))) (hle : off + ys.length ≤ (cells l).length) :
    ∃ w', (storeCells ⟨b, 0 + off, none⟩ us).run P w = .ok () w' ∧ Rel ρ (h.set n (.ob (.own l'))) w' ∧ Grow ρ h w ρ (h.set n (.ob (.own l'))) w' := by
  obtain ⟨b', E, fz, arr, h1, h2, h3, h4⟩ := hh.obs _ _ hn
  rw [hb] at h1; injection h1 with h1; injection h1 with h1 _; subst h1
  have e1 := h4.length
  have e2 := hy.length
  simp only [Array.length_toList] at e1
  obtain ⟨w', arr', q1, q2, q3, q4, q5⟩ := store_block (P := P) (o := 0 + off) us 0 w arr h2 h3 (by omega) (den_solid hy)
  refine ⟨w', q1, put_own hh hn hb q2 h3 q3 q4 (splice_den (off := off) h4 hy hq hle q4 fun k => ?_)⟩
  rw [q5 k]
  simp only [Nat.zero_add, Nat.add_zero]
theorem row_put (hh : Rel ρ h w) {n b o sz m tot i j : Nat} {f : Nat → List C} {cs ys : List C} {us : List Value} (hn : h[n]? = some (.ob (.row sz m f tot))) (hb : ρ n = some (b, o))
    (hi : i < m) (hy : All2 (Den ρ) ys us) (hq : cs = (f i).take j ++ (ys ++ (f i).drop (j + ys.length))) (hle : j + ys.length ≤ (f i).length) :
    ∃ w', (storeCells ⟨b, o + (0 + i * sz + j), none⟩ us).run P w = .ok () w' ∧ Rel ρ (h.set n (.ob (.row sz m (fun q => if q = i then cs else f q) tot))) w' ∧
      Grow ρ h w ρ (h.set n (.ob (.row sz m (fun q => if q = i then cs else f q) tot))) w' := by
  obtain ⟨hx, hmt, hr⟩ := hh.obs _ _ hn
  have ht : tot ≠ 0 := by omega
  obtain ⟨b', o', E, fz, arr, h1, h2, h3, h4, h5⟩ := hr ht
  rw [hb] at h1; injection h1 with h1; injection h1 with h1 h1'; subst h1; subst h1'
  have ho : Owns ρ h n b := ⟨_, _, hn, ht, hb⟩
  obtain ⟨vi, g1, g2, g3⟩ := h5 i hi
  have e1 := g1.length
  have e2 := hy.length
  have hin : ∀ q, q < m → ∀ k, k < sz → o + (q * sz + k) < arr.size := fun q hq k hk => by
    have := inside hk (Nat.lt_of_lt_of_le hq hmt); omega
  have hfit : o + (i * sz + j) + us.length ≤ arr.size := by
    rcases Nat.eq_zero_or_pos us.length with z | z
    · have : i * sz ≤ tot * sz := Nat.mul_le_mul_right _ (by omega)
      have : i * sz + sz ≤ tot * sz := by have := Nat.mul_le_mul_right sz (show i + 1 ≤ tot by omega); rwa [Nat.succ_mul] at this
      omega
    · have := hin i hi (j + us.length - 1) (by omega)
      omega
  obtain ⟨w', arr', q1, q2, q3, q4, q5⟩ := store_block (P := P) (o := o + (0 + i * sz + j)) us 0 w arr h2 h3 (by omega) (den_solid hy)
  refine ⟨w', q1, hh.put ho trivial (Nat.le_of_eq q2.size.symm) (fun c _ hc => q2.keep c hc) ⟨hx, hmt, fun _ => ⟨b, o, E, fz, arr', hb, q3, by rw [q4]; exact h3, by rw [q4]; exact h4, fun q hq' => ?_⟩⟩, grow_put ho q2⟩
  have cell : ∀ k, w'.cell? ⟨b, k, none⟩ = arr'[k]? := fun k => by simp [World.cell?, q3]
  have cell0 : ∀ k, w.cell? ⟨b, k, none⟩ = arr[k]? := fun k => by simp [World.cell?, h2]
  by_cases e : q = i
  · subst e
    simp only [if_true]
    refine ⟨vi.take j ++ (us ++ vi.drop (j + us.length)), ?_, by simp; omega, fun k v hk => ?_⟩
    · rw [hq]
      refine (g1.take j).append (hy.append ?_)
      rw [e2]; exact g1.drop _
    · rw [cell, q5]
      by_cases c1 : k < j
      · rw [List.getElem?_append_left (by simp; omega), List.getElem?_take, if_pos c1] at hk
        rw [if_neg (by omega), ← cell0]
        exact g3 _ _ hk
      · rw [List.getElem?_append_right (by simp; omega)] at hk
        simp only [List.length_take, show min j vi.length = j by omega] at hk
        by_cases c2 : k < j + us.length
        · rw [List.getElem?_append_left (by omega)] at hk
          rw [if_pos ⟨by omega, by omega⟩, show o + (q * sz + k) - (o + (0 + q * sz + j) + 0) = k - j by omega]
          exact hk
        · rw [List.getElem?_append_right (by omega), List.getElem?_drop, show j + us.length + (k - j - us.length) = k by omega] at hk
          rw [if_neg (by omega), ← cell0]
          exact g3 _ _ hk
  · simp only [if_neg e]
    obtain ⟨vq, k1, k2, k3⟩ := h5 q hq'
    refine ⟨vq, k1, k2, fun k v hk => ?_⟩
    have hks : k < sz := by
      rcases Nat.lt_or_ge k vq.length with c | c
      · omega
      · rw [List.getElem?_eq_none c] at hk; cases hk
    rw [cell, q5]
    rw [if_neg, ← cell0]
    · exact k3 _ _ hk
    · rintro ⟨c1, c2⟩
      rcases Nat.lt_or_ge q i with c | c
      · have := Nat.mul_le_mul_right sz c
        rw [Nat.succ_mul] at this
        omega
      · have c : i < q := by omega
        have := Nat.mul_le_mul_right sz c
        rw [Nat.succ_mul] at this
        omega
theorem storeK_ok (hT : TTok P tt) (hh : Rel ρ h w) {t : TypeId} {p : C} {x : T} {k : Heap → Prop} (hk : storeK tt h t p x k) {v u : Value} (hp : Den ρ p v) (hx : DenT ρ x u) :
    ∃ h' w', k h' ∧ (Instr.storeAt t v u).run P w = .ok () w' ∧ Rel ρ h' w' ∧ Grow ρ h w ρ h' w' := by
  unfold storeK at hk
  replace ⟨ti, ht, hk⟩ := tiK_ok hT hk
  split at hk
  · exact hk.elim
  rename_i hn
  replace hn := Nat.eq_of_beq_eq_true hn
  rw [nseg_cells] at hn
  have hc := hx.cells
  have hlen := hc.length
  have fin : ∀ {b o : Nat}, v = .pointer (some ⟨b, o, none⟩) → (∃ h' w', k h' ∧ (storeCells ⟨b, o, none⟩ u.cells.toList).run P w = .ok () w' ∧ Rel ρ h' w' ∧ Grow ρ h w ρ h' w') →
      ∃ h' w', k h' ∧ (Instr.storeAt t v u).run P w = .ok () w' ∧ Rel ρ h' w' ∧ Grow ρ h w ρ h' w' := by
    rintro b o rfl ⟨h', w', g1, g2, g3⟩
    refine ⟨h', w', g1, ?_, g3⟩
    simp only [Instr.storeAt, Instr.sureAddr, pure_bind, storeVar, Sem.run_bind, ht.size, Result.andThen_ok]
    rw [if_neg (by simp at hlen; omega)]
    exact g2
  split at hk
  · obtain ⟨b, o, h1, h2⟩ := hp
    obtain ⟨ob, e1, e2⟩ := hgetK_ok hk
    split at e2
    · rename_i l
      obtain ⟨l', q1, q2, q3⟩ := putK_ok e2
      have q1 := (hsetK_ok q1).1
      obtain ⟨b', E, fz, arr, r1, _⟩ := hh.obs _ _ e1
      rw [h1] at r1; injection r1 with r1; injection r1 with r1 r0; subst r1; subst r0
      obtain ⟨w', g1, g2⟩ := own_put (P := P) hh e1 h1 hc q2 q3
      exact fin h2 ⟨_, w', q1, g1, g2⟩
    · exact e2.elim
  · rename_i n base sz i j
    obtain ⟨b, o, h1, h2⟩ := hp
    obtain ⟨ob, e1, e2⟩ := hgetK_ok hk
    split at e2
    · rename_i l
      split at e2
      · rename_i c
        obtain ⟨l1, q1, q2, q3⟩ := dropK_ok e2
        split at q1
        · rename_i m f r'
          obtain ⟨hlt, q1⟩ := Chk_ok q1
          replace hlt := of_decide_eq_true hlt
          obtain ⟨l', g1, g2, g3⟩ := putK_ok q1
          have g1 := (hsetK_ok g1).1
          obtain ⟨b', E, fz, arr, r1, _⟩ := hh.obs _ _ e1
          rw [h1] at r1; injection r1 with r1; injection r1 with r1 r0; subst r1; subst r0
          have hcl : cells [Seg.arr m fun q => if q = i then c else f q] = (List.range m).map fun q => if q = i then c else f q := by simp [cells]
          rw [hcl] at g2 g3
          simp only [List.length_map, List.length_range] at g2 g3
          have hmid : ∀ q, q < m → (cells l)[base + q]? = some (f q) := fun q hq => by
            have : ((cells l).drop base)[q]? = some (f q) := by rw [← q2]; simp [cells, List.getElem?_append, hq]
            rwa [List.getElem?_drop] at this
          obtain ⟨w', k1, k2⟩ := own_put (P := P) (off := base + i) (l' := l') hh e1 h1 (ys := [c]) (us := u.cells.toList) hc (by
            rw [g2]
            apply List.ext_getElem?
            intro q
            simp only [List.length_singleton]
            by_cases c1 : q < base
            · rw [List.getElem?_append_left (by simp; omega), List.getElem?_append_left (by simp; omega), List.getElem?_take, List.getElem?_take, if_pos c1, if_pos (by omega)]
            · rw [List.getElem?_append_right (by simp; omega)]
              simp only [List.length_take, show min base (cells l).length = base by omega]
              by_cases c2 : q < base + m
              · rw [List.getElem?_append_left (by simp; omega)]
                simp only [List.getElem?_map, List.getElem?_range (show q - base < m by omega), Option.map_some]
                by_cases c3 : q = base + i
                · rw [if_pos (by omega), List.getElem?_append_right (by simp; omega)]
                  simp only [List.length_take, show min (base + i) (cells l).length = base + i by omega, c3, Nat.sub_self]
                  rfl
                · rw [if_neg (by omega)]
                  have := hmid (q - base) (by omega)
                  rw [show base + (q - base) = q by omega] at this
                  by_cases c4 : q < base + i
                  · rw [List.getElem?_append_left (by simp; omega), List.getElem?_take, if_pos c4, this]
                  · rw [List.getElem?_append_right (by simp; omega), List.getElem?_append_right (by simp; omega), List.getElem?_drop]
                    simp only [List.length_take, show min (base + i) (cells l).length = base + i by omega, List.length_singleton]
                    rw [show base + i + 1 + (q - (base + i) - 1) = q by omega, this]
              · rw [List.getElem?_append_right (by simp; omega), List.getElem?_drop, List.getElem?_append_right (by simp; omega), List.getElem?_append_right (by simp; omega), List.getElem?_drop]
                simp only [List.length_map, List.length_range, List.length_take, show min (base + i) (cells l).length = base + i by omega, List.length_singleton]
                congr 1; omega) (by rw [List.length_singleton]; omega)
          exact fin (o := 0 + (base + i)) (by rw [h2, show 0 + (base + i * 1 + 0) = 0 + (base + i) by omega]) ⟨_, w', g1, k1, k2⟩
        · exact q1.elim
      · exact e2.elim
    · rename_i sz' m f tot
      split at e2
      · have hs : Nat.beq sz sz' = true := by assumption
        have hs := Nat.eq_of_beq_eq_true hs
        subst hs
        obtain ⟨hlt, e2⟩ := Chk_ok e2
        replace hlt := of_decide_eq_true hlt
        have e2 := cellsK_ok e2
        obtain ⟨e2, hle⟩ := setK_ok e2
        have e2 := (hsetK_ok e2).1
        obtain ⟨w', k1, k2⟩ := row_put (P := P) (j := j) hh e1 h1 hlt hc rfl hle
        exact fin h2 ⟨_, w', e2, k1, k2⟩
      · exact e2.elim
    · exact e2.elim
  · exact hk.elim
end
end Go.Eng

/- Appending. -/
namespace Go.Eng
open Go
variable {d : Nat}
section
variable {P : Program} {tt : TT} {ρ : Env} {h : Heap} {w : World} {nt : Nat} {r : Tr d} {a : Act} {K : R → Heap → Prop}
theorem growBy_le (m : Nat) : ∀ (k c : Nat), c ≤ m + (m + 768) / 4 → Builtin.growBy m k c ≤ m + (m + 768) / 4
  | 0, c, h => h
  | k + 1, c, h => by
    unfold Builtin.growBy
    split
    · exact h
    · exact growBy_le m k _ (by omega)
theorem nextcap_le {m c : Nat} (h : c < m) : Builtin.nextslicecap m c ≤ 2 * m + 192 := by
  unfold Builtin.nextslicecap
  split
  · omega
  · split
    · omega
    · have := growBy_le m 4 c (by omega)
      omega
theorem roomy_ok {need bytes c : Nat} (h : roomy need bytes = true) (hb : 0 < bytes) (hc : c < need) : ¬ Builtin.nextslicecap need c * bytes > 2 ^ 48 ∧ ¬ ((need : Int) > IntKind.i64.max) := by
  have h := of_decide_eq_true h
  have h1 := nextcap_le hc
  have h2 : Builtin.nextslicecap need c * bytes ≤ (2 * need + 192) * bytes := Nat.mul_le_mul_right _ h1
  have h3 : need ≤ need * bytes := Nat.le_mul_of_pos_right _ hb
  have h4 : bytes ≤ need * bytes := Nat.le_mul_of_pos_left _ (by omega)
  have h5 : (2 * need + 192) * bytes = 2 * (need * bytes) + 192 * bytes := by rw [Nat.add_mul, Nat.mul_assoc]
  refine ⟨by omega, ?_⟩
  simp [IntKind.max, IntKind.signed, IntKind.bits]
  omega
theorem grow_alloc {n : Nat} {ρ' : Env} {h' : Heap} {w' : World} {nm c : Nat} (hs : Sub ρ ρ') (h1 : w'.os = w.os) (h2 : w'.tape = w.tape) (h3 : w'.output = w.output) (hfz : ∀ a, w'.frozen? a = w.frozen? a) (h4 : w.heap.size ≤ w'.heap.size)
    (hk : ∀ b, b < w.heap.size → (∀ n, ¬ Owns ρ h n b) → w'.heap[b]? = w.heap[b]?)
    (hm : ∀ m b, m ≠ nm → Owns ρ' h' m b → Owns ρ h m b) (hn : ∀ b, Owns ρ' h' nm b → b = c) (hc : Owns ρ h n c ∨ w.heap.size ≤ c) : Grow ρ h w ρ' h' w' :=
  ⟨hs, h1, h2, h3, fun a _ => hfz a, h4, hk, fun m b ho => by
    by_cases e : m = nm
    · subst e
      have := hn b ho
      subst this
      rcases hc with hc | hc
      · exact .inl ⟨n, hc⟩
      · exact .inr hc
    · exact .inl ⟨m, hm m b e ho⟩⟩
theorem get_app {nm : Nat} {e : HE} (hnm : nm = h.length) : (h ++ [e])[nm]? = some e ∧ ∀ m, m ≠ nm → (h ++ [e])[m]? = h[m]? := by
  subst hnm
  refine ⟨by simp, fun m hm => ?_⟩
  rcases Nat.lt_or_ge m h.length with c | c
  · rw [List.getElem?_append_left c]
  · rw [List.getElem?_append_right c, List.getElem?_eq_none c]
    have : m - h.length ≠ 0 := by omega
    simp [List.getElem?_singleton, this]
/-- The end of a list of names gets a new one: a fresh block. -/
theorem add_end (hr : Rel ρ h w) {ob : Ob} {c o : Nat} {w' : World} (hme : ob.mine) (hf : Free ρ h c) (hsz : w.heap.size ≤ w'.heap.size) (hk : ∀ b, b < w.heap.size → b ≠ c → w'.heap[b]? = w.heap[b]?)
    (ho : RelOb (upd ρ h.length (c, o)) w' h.length ob) : Rel (upd ρ h.length (c, o)) (h ++ [.ob ob]) w' := by
  have hg := get_app (h := h) (e := .ob ob) rfl
  exact hr.add (hr.fresh _ (.inr (Nat.le_refl _))) hme hg.1 hg.2 hf hsz hk ho
theorem owns_end {ρ : Env} {h : Heap} {ob : Ob} {c o : Nat} : (∀ m b, m ≠ h.length → Owns (upd ρ h.length (c, o)) (h ++ [.ob ob]) m b → Owns ρ h m b) ∧ ∀ b, Owns (upd ρ h.length (c, o)) (h ++ [.ob ob]) h.length b → b = c := by
  have hg := get_app (h := h) (e := .ob ob) rfl
  refine ⟨fun m b hm ⟨ob', o', g1, g2, g3⟩ => ⟨ob', o', by rw [← hg.2 m hm]; exact g1, g2, by simpa [upd, hm] using g3⟩, fun b ⟨ob', o', g1, g2, g3⟩ => ?_⟩
  rw [upd_same] at g3; injection g3 with g3; injection g3 with g3; exact g3.symm
/-- A new row at the end of the names, its block new. -/
theorem new_row (hr : Rel ρ h w) {w0 w' : World} {sz n tot : Nat} {f : Nat → List C} {arr : Array Value} {E : TypeId} (h0 : w0.heap = w.heap) (h1 : w0.os = w.os) (h2 : w0.tape = w.tape) (h3 : w0.output = w.output)
    (hw : w' = w0.alloc (.cells arr E)) (hnt : n ≤ tot) (hs : tot * sz ≤ arr.size) (hf : ∀ i, i < n → ∃ vs, All2 (Den ρ) (f i) vs ∧ vs.length = sz ∧ ∀ j v, vs[j]? = some v → arr[i * sz + j]? = some v) :
    Rel (upd ρ h.length (w.heap.size, 0)) (h ++ [.ob (.row sz n f tot)]) w' ∧ Grow ρ h w (upd ρ h.length (w.heap.size, 0)) (h ++ [.ob (.row sz n f tot)]) w' := by
  subst hw
  have hsub : Sub ρ (upd ρ h.length (w.heap.size, 0)) := upd_sub (hr.fresh _ (.inr (Nat.le_refl _)))
  have hkeep : ∀ b, b < w.heap.size → (w0.alloc (.cells arr E)).heap[b]? = w.heap[b]? := fun b hb => by
    show (w0.heap.push _)[b]? = _
    rw [h0, Array.getElem?_push, if_neg (by omega)]
  have hsize : w.heap.size ≤ (w0.alloc (.cells arr E)).heap.size := by rw [World.size_alloc, h0]; omega
  have hob : RelOb (upd ρ h.length (w.heap.size, 0)) (w0.alloc (.cells arr E)) h.length (.row sz n f tot) :=
    relOb_row (w := w0) (by rw [h0]; exact upd_same _ _ _) hnt hs fun i hi => by
      obtain ⟨vs, g1, g2⟩ := hf i hi
      exact ⟨vs, g1.imp fun _ _ => Den.mono hsub, g2⟩
  refine ⟨add_end hr trivial hr.free_new hsize (fun b hb _ => hkeep b hb) hob, ?_⟩
  exact grow_alloc (n := 0) (nm := h.length) (c := w.heap.size) hsub h1 h2 h3 (fun a => by rw [RowKit.frozen?_alloc_cells]; unfold World.frozen?; rw [h0]) hsize (fun b hb _ => hkeep b hb) owns_end.1 owns_end.2 (.inr (Nat.le_refl _))
theorem zeroCells_size (z : Array Value) (n : Nat) : (Builtin.zeroCells z n).size = n * z.size := by simp [Builtin.zeroCells]
theorem Rel.of_heap (hr : Rel ρ h w) {w' : World} (e : w'.heap = w.heap) : Rel ρ h w' :=
  ⟨hr.fresh, fun n ob hn => (hr.obs n ob hn).keep (Sub.refl _) (by rw [e]; exact Nat.le_refl _) (fun _ _ _ _ => by rw [e]), hr.inj, hr.apart⟩
/-- What 'append' asks of its types. -/
structure Tys (P : Program) (tys : Array TypeId) (e : TypeId) (ei : TI) : Prop where
  ex : ∃ t u more, tys.toList = t :: u :: more ∧ (∀ w, (underlying t).run P w = .ok (.slice e) w) ∧ ∃ du, (∀ w, (underlying u).run P w = .ok du w) ∧ ∀ k, du ≠ .int k
  el : TIok P e ei
theorem tys_facts {tys : Array TypeId} {e : TypeId} {ei : TI} (h : Tys P tys e ei) : ∃ t u du, tys[0]? = some t ∧ tys[1]? = some u ∧ (∀ w, (underlying t).run P w = .ok (.slice e) w) ∧ (∀ w, (underlying u).run P w = .ok du w) ∧ ∀ k, du ≠ .int k := by
  obtain ⟨⟨t, u, more, h1, h2, du, h3, h4⟩, _⟩ := h
  exact ⟨t, u, du, by rw [← Array.getElem?_toList, h1]; rfl, by rw [← Array.getElem?_toList, h1]; rfl, h2, h3, h4⟩
theorem not_int {du : TypeDesc} (h : ∀ k, du ≠ .int k) : (match du with | .int _ => true | _ => false) = false := by cases du <;> first | rfl | exact absurd rfl (h _)
/-- append, where it asks for a new array. -/
theorem append_grow {e : TypeId} {ei : TI} {tys : Array TypeId} (hty : Tys P tys e ei) {s y : Value} {ad : Option Addr} {len cap l2 : Nat} (hs : s = .slice ad len cap) {f g : Nat → List C}
    (hy : (Builtin.lenOf y).run P w = .ok l2 w) (h1 : Src P ρ w.drew s len ei.size f) (h2 : Src P ρ w.drew y l2 ei.size g)
    (hlt : cap < len + l2) (hroom : roomy (len + l2) ei.bytes = true) (hb : 0 < ei.bytes) {args : Array Value} (ha : args.toList = [s, y]) (type : TypeId) (hzz : (cells (segsOf ei.zero)).length = ei.size) :
    ∃ c arr, len + l2 ≤ c ∧ (Builtin.append_ tys type args).run P w = .ok (.slice (some ⟨w.heap.size, 0, none⟩) (len + l2) c) (w.drew.alloc (.cells arr e)) ∧ c * ei.size ≤ arr.size ∧
      ∀ i, i < len + l2 → ∃ vs, All2 (Den ρ) (if i < len then f i else g (i - len)) vs ∧ vs.length = ei.size ∧ ∀ j v, vs[j]? = some v → arr[i * ei.size + j]? = some v := by
  obtain ⟨t, u, du, q1, q2, q3, q4, q5⟩ := tys_facts hty
  obtain ⟨z, z1, z2⟩ := hty.el.zero (w := w.drew)
  obtain ⟨i, i1, i2, i3⟩ := hty.el.info (w := w)
  obtain ⟨i', i1', i2', i3'⟩ := hty.el.info (w := w.drew)
  obtain ⟨s1, us, s2, s3⟩ := h1
  obtain ⟨y1, uy, y2, y3⟩ := h2
  have ha0 : args[0]? = some s := by rw [← Array.getElem?_toList, ha]; rfl
  have ha1 : args[1]? = some y := by rw [← Array.getElem?_toList, ha]; rfl
  obtain ⟨r1, r2⟩ := roomy_ok hroom hb hlt
  have r1' : ¬ Builtin.nextslicecap (len + l2) cap * i.bytes > 2 ^ 48 := by rw [i3]; exact r1
  have hzs : z.cells.size = ei.size := by have := (z2 ρ).cells.length; rw [hzz] at this; simpa using this.symm
  let c := (Question.appendCap (len + l2) cap e).cut (w.tape w.drawn (.appendCap (len + l2) cap e))
  have hc : len + l2 ≤ c := Nat.le_add_right _ _
  have hch : (choose (.appendCap (len + l2) cap e)).run P w = .ok c w.drew := rfl
  have hask : ∀ n w, (askRoom n).run P w = .ok () w := fun n w => by unfold askRoom; split <;> rfl
  have f1 := s3 len (Nat.le_refl _)
  have f2 := y3 l2 (Nat.le_refl _)
  have n1 := flat_len (n := len) (us := us) (size := ei.size) fun i hi => (s2 i hi).2
  have n2 := flat_len (n := l2) (us := uy) (size := ei.size) fun i hi => (y2 i hi).2
  refine ⟨c, ((List.range len).flatMap us).toArray ++ ((List.range l2).flatMap uy).toArray ++ Builtin.zeroCells z.cells (c - (len + l2)), hc, ?_, ?_, fun i hi => ?_⟩
  · subst hs
    simp only [Builtin.append_, q1, ha0, ha1, Sem.run_bind, q3, Result.andThen_ok, hty.el.size, q2, q4, Sem.run_pure, not_int q5, Bool.false_eq_true, if_false, hy, if_neg (show ¬ len + l2 ≤ cap by omega), i1]
    rw [if_neg (by rintro ⟨h, _⟩; exact r2 h)]
    simp only [Sem.run_bind, i1, Result.andThen_ok]
    rw [if_neg r1']
    simp only [Sem.run_bind, hch, Result.andThen_ok, i1', hask, f1, f2, z1, Bool.not_false, if_true]
    rfl
  · simp only [Array.size_append, List.size_toArray, n1, n2, zeroCells_size, hzs]
    rw [← Nat.add_mul, ← Nat.add_mul]
    exact Nat.mul_le_mul_right _ (by omega)
  · have key : ∀ (l1 l2' l3 : List Value) (k : Nat) (v : Value), (l1 ++ l2')[k]? = some v → (l1.toArray ++ l2'.toArray ++ l3.toArray)[k]? = some v := fun l1 l2' l3 k v hk => by
      have hlt : k < (l1 ++ l2').length := by
        rcases Nat.lt_or_ge k (l1 ++ l2').length with c | c
        · exact c
        · rw [List.getElem?_eq_none c] at hk; cases hk
      rw [← Array.getElem?_toList]
      simp only [Array.toList_append, List.toList_toArray]
      rw [List.getElem?_append_left hlt]
      exact hk
    have hin : ∀ {vs : List Value} {j : Nat} {v : Value}, vs.length = ei.size → vs[j]? = some v → j < ei.size := fun {vs j v} hl hj => by
      rcases Nat.lt_or_ge j vs.length with c | c
      · omega
      · rw [List.getElem?_eq_none c] at hj; cases hj
    by_cases hil : i < len
    · rw [if_pos hil]
      refine ⟨us i, (s2 i hil).1, (s2 i hil).2, fun j v hj => ?_⟩
      have hj' := hin (s2 i hil).2 hj
      have := key ((List.range len).flatMap us) ((List.range l2).flatMap uy) (Builtin.zeroCells z.cells (c - (len + l2))).toList (i * ei.size + j) v (by
        rw [List.getElem?_append_left (by have := inside hj' hil; omega), flat_at (fun i hi => (s2 i hi).2) hil hj']
        exact hj)
      simpa using this
    · rw [if_neg hil]
      have hi2 : i - len < l2 := by omega
      refine ⟨uy (i - len), (y2 _ hi2).1, (y2 _ hi2).2, fun j v hj => ?_⟩
      have hj' := hin (y2 _ hi2).2 hj
      have hge : len * ei.size ≤ i * ei.size := Nat.mul_le_mul_right _ (by omega)
      have hsub : i * ei.size + j - len * ei.size = (i - len) * ei.size + j := by rw [Nat.sub_mul]; omega
      have := key ((List.range len).flatMap us) ((List.range l2).flatMap uy) (Builtin.zeroCells z.cells (c - (len + l2))).toList (i * ei.size + j) v (by
        rw [List.getElem?_append_right (by omega), n1, hsub, flat_at (fun i hi => (y2 i hi).2) hi2 hj']
        exact hj)
      simpa using this
end
end Go.Eng

/- Appending, on. -/
namespace Go.Eng
open Go
variable {d : Nat}
section
variable {P : Program} {tt : TT} {ρ : Env} {h : Heap} {w : World} {nt : Nat} {r : Tr d} {a : Act} {K : R → Heap → Prop}
/-- append, where there is room. -/
theorem append_room {e : TypeId} {ei : TI} {tys : Array TypeId} (hty : Tys P tys e ei) {s y : Value} {ad : Option Addr} {len cap l2 : Nat} (hs : s = .slice ad len cap) {g : Nat → List C}
    (h2 : Src P ρ w y l2 ei.size g) (hle : len + l2 ≤ cap) {args : Array Value} (ha : args.toList = [s, y]) (type : TypeId) :
    ∃ us : List Value, us.length = l2 * ei.size ∧ (∀ i, i < l2 → ∃ vs, All2 (Den ρ) (g i) vs ∧ vs.length = ei.size ∧ ∀ j v, vs[j]? = some v → us[i * ei.size + j]? = some v) ∧ (∀ v ∈ us, solid v) ∧
      (Builtin.append_ tys type args).run P w = (match ad with
        | none => (.ok () w : Result Unit)
        | some a => (storeCells (a.add (len * ei.size)) us).run P w).andThen fun _ w' => .ok (.slice ad (len + l2) cap) w' := by
  obtain ⟨t, u, du, q1, q2, q3, q4, q5⟩ := tys_facts hty
  obtain ⟨y1, uy, y2, y3⟩ := h2
  have ha0 : args[0]? = some s := by rw [← Array.getElem?_toList, ha]; rfl
  have ha1 : args[1]? = some y := by rw [← Array.getElem?_toList, ha]; rfl
  have n2 := flat_len (n := l2) (us := uy) (size := ei.size) fun i hi => (y2 i hi).2
  have f2 := y3 l2 (Nat.le_refl _)
  refine ⟨(List.range l2).flatMap uy, n2, fun i hi => ⟨uy i, (y2 i hi).1, (y2 i hi).2, fun j v hj => ?_⟩, fun v hv => ?_, ?_⟩
  · have hj' : j < ei.size := by
      rcases Nat.lt_or_ge j (uy i).length with c | c
      · have := (y2 i hi).2; omega
      · rw [List.getElem?_eq_none c] at hj; cases hj
    rw [flat_at (fun i hi => (y2 i hi).2) hi hj']; exact hj
  · obtain ⟨i, hi, hv⟩ := List.mem_flatMap.1 hv
    exact den_solid (y2 i (by simpa using hi)).1 v hv
  · subst hs
    simp only [Builtin.append_, q1, ha0, ha1, Sem.run_bind, q3, Result.andThen_ok, hty.el.size, q2, q4, Sem.run_pure, Bool.false_eq_true, if_false, y1, if_pos hle]
    cases ad with
    | none =>
      simp only [Sem.run_bind, f2, Result.andThen_ok, Bool.not_false, if_true]
      rfl
    | some ad =>
      simp only [Sem.run_bind, f2, Result.andThen_ok, Bool.not_false, if_true]
      rfl
theorem away_ok {av : List Nat} {n : Nat} {p : Prop} (h : away av n p) : n ∉ av ∧ p := by
  unfold away at h
  split at h
  · exact h.elim
  · rename_i e; exact ⟨fun hm => by simp [List.elem_eq_mem, hm] at e, h⟩
theorem denT_size {ei : TI} {z : Value} (h : nseg (segsOf ei.zero) = ei.size) (hz : DenT ρ ei.zero z) : z.cells.size = ei.size := by
  have := hz.cells.length; rw [← nseg_cells, h] at this; simpa using this.symm
/-- A row without room has no block. -/
theorem no_row (hh : Rel ρ h w) {sz : Nat} {f : Nat → List C} :
    Rel (upd ρ h.length (w.heap.size, 0)) (h ++ [.ob (.row sz 0 f 0)]) w ∧ Grow ρ h w (upd ρ h.length (w.heap.size, 0)) (h ++ [.ob (.row sz 0 f 0)]) w := by
  have hsub : Sub ρ (upd ρ h.length (w.heap.size, 0)) := upd_sub (hh.fresh _ (.inr (Nat.le_refl _)))
  refine ⟨add_end hh trivial hh.free_new (Nat.le_refl _) (fun _ _ _ => rfl) ⟨⟨_, upd_same _ _ _⟩, Nat.le_refl _, fun h => absurd rfl h⟩, ?_⟩
  exact grow_alloc (n := 0) (nm := h.length) (c := w.heap.size) hsub rfl rfl rfl (fun _ => rfl) (Nat.le_refl _) (fun b hb _ => rfl) owns_end.1 owns_end.2 (.inr (Nat.le_refl _))
theorem grow_kill (n : Nat) : Grow ρ h w ρ (h.set n .dead) w where
  sub := Sub.refl _
  os := rfl
  tape := rfl
  output := rfl
  frozen := fun _ _ => rfl
  size := Nat.le_refl _
  keep := fun _ _ _ => rfl
  made := fun m b ⟨ob, o, g1, g2, g3⟩ => by
    left
    rw [List.getElem?_set] at g1
    split at g1
    · split at g1 <;> cases g1
    · exact ⟨m, ob, o, g1, g2, g3⟩
theorem src_row (hh : Rel ρ h w) {n b o sz m tot off len cap : Nat} {f : Nat → List C} {ad : Option Addr} (e1 : h[n]? = some (.ob (.row sz m f tot))) (q1 : ρ n = some (b, o))
    (q3 : 0 < cap → ad = some ⟨b, o + (0 + off * sz), none⟩) (hlt : off + len ≤ m) (q5 : len ≤ cap) : Src P ρ w (.slice ad len cap) len sz fun i => f (off + i) := by
  obtain ⟨_, hmt, hr⟩ := hh.obs _ _ e1
  by_cases ht : tot = 0
  · have : len = 0 := by omega
    subst this
    refine ⟨rfl, fun _ => [], fun i hi => by omega, fun n hn => ?_⟩
    have : n = 0 := by omega
    subst this
    cases ad with
    | none => simp [Builtin.firstCells]
    | some ad => simp [Builtin.firstCells, loadCells, loadCellsFrom]
  · obtain ⟨b', o', E, fz, arr, r1, r2, r3, r4, r5⟩ := hr ht
    rw [q1] at r1; injection r1 with r1; injection r1 with r1 r0; subst r1; subst r0
    exact src_cells r5 q3 rfl hlt q5
/-- A row takes the place of another one, in its block. -/
theorem take_over (hh : Rel ρ h w) {n b o o' sz m tot tot' m' : Nat} {f f' : Nat → List C} {w' : World} {arr' : Array Value} {E : TypeId} {fz : Nat × Nat} (e1 : h[n]? = some (.ob (.row sz m f tot))) (q1 : ρ n = some (b, o)) (ht : tot ≠ 0)
    (hb : But b w w') (hw : w'.heap[b]? = some (.cells arr' E fz)) (hfz : free fz arr'.size) (h1 : m' ≤ tot') (h2 : o' + tot' * sz ≤ arr'.size) (h3 : Elems ρ w' b o' sz m' f') :
    Rel (upd ρ h.length (b, o')) (h.set n .dead ++ [.ob (.row sz m' f' tot')]) w' ∧ Grow ρ h w (upd ρ h.length (b, o')) (h.set n .dead ++ [.ob (.row sz m' f' tot')]) w' := by
  have ho : Owns ρ h n b := ⟨_, _, e1, ht, q1⟩
  have hk := hh.kill n
  have hl : (h.set n .dead).length = h.length := by simp
  have hnone := hh.fresh h.length (.inr (Nat.le_refl _))
  have hsub : Sub ρ (upd ρ h.length (b, o')) := upd_sub hnone
  have hsz : w.heap.size ≤ w'.heap.size := Nat.le_of_eq hb.size.symm
  rw [← hl] at hsub ⊢
  refine ⟨add_end hk trivial (hh.kill_free ho) hsz (fun c _ hc => hb.keep c hc) ⟨⟨_, upd_same _ _ _⟩, h1, fun _ => ⟨b, o', E, fz, arr', upd_same _ _ _, hw, hfz, h2, h3.keep hsub fun _ => rfl⟩⟩, ?_⟩
  refine grow_alloc (n := n) (nm := (h.set n .dead).length) (c := b) hsub hb.os hb.tape hb.output hb.frozen hsz (fun c hc hn => hb.keep c (by rintro rfl; exact hn n ho)) (fun m c hm hc => ?_) owns_end.2 (.inl ho)
  obtain ⟨ob, o2, g1, g2, g3⟩ := owns_end.1 m c hm hc
  rw [List.getElem?_set] at g1
  split at g1
  · split at g1 <;> cases g1
  · exact ⟨ob, o2, g1, g2, g3⟩
theorem appendK_ok (hT : TTok P tt) (hh : Rel ρ h w) {av : List Nat} {t u : TypeId} {x y : R} {v yv : Value} (hk : appendK tt av h t x y K) (hx : DenR ρ x v) (hy : DenR ρ y yv) {tys : Array TypeId} {more : List TypeId}
    (htys : tys.toList = t :: u :: more) {ui : TI} (hu : TIok P u ui) (hnu : (∃ e, ui.desc = .slice e) ∨ ui.desc = .str) {args : Array Value} (ha : args.toList = [v, yv]) (type : TypeId) :
    ∃ v' w', (Builtin.append_ tys type args).run P w = .ok v' w' ∧ Post ρ h w K v' w' := by
  unfold appendK at hk
  replace ⟨ti, ht, hk⟩ := tiK_ok hT hk
  split at hk
  case h_2 => exact hk.elim
  rename_i e hd
  replace ⟨ei, hei, hk⟩ := tiK_ok hT hk
  split at hk
  case h_1 => exact hk.elim
  rename_i hb
  simp only [Bool.and_eq_true] at hb
  have hb1 : 0 < ei.bytes := Nat.le_of_ble_eq_true hb.1
  have hb2 : nseg (segsOf ei.zero) = ei.size := Nat.eq_of_beq_eq_true hb.2
  have hzz : (cells (segsOf ei.zero)).length = ei.size := by rw [← nseg_cells]; exact hb2
  have hty : Tys P tys e ei := by
    obtain ⟨i, dt, z, p1, p2, p3, _⟩ := ht
    rw [hd] at p3
    cases dt <;> try exact p3.elim
    have p3 := p3; subst p3
    obtain ⟨i', du, z', p1', p2', p3', _⟩ := hu
    refine ⟨⟨t, u, more, htys, run_underlying p2, du, run_underlying p2', fun k hk => ?_⟩, hei⟩
    subst hk
    rcases hnu with ⟨e', h⟩ | h <;> rw [h] at p3' <;> exact p3'.elim
  have hdh : w.drew.heap = w.heap := rfl
  have hhd : Rel ρ h w.drew := hh.of_heap hdh
  obtain ⟨l2, g, g1, g2⟩ := srcK_ok (P := P) hk hy
  split at g1
  case h_1 => exact g1.elim
  rename_i hsz
  have hsrc := g2 _ hh _ hsz
  have hsrcd := g2 _ hhd _ hsz
  have hnone : ρ h.length = none := hh.fresh _ (.inr (Nat.le_refl _))
  split at g1
  · obtain ⟨hroom, g1⟩ := Chk_ok g1
    obtain ⟨rfl, _⟩ := hx
    by_cases h0 : l2 = 0
    · subst h0
      obtain ⟨us, k1, k2, k3, k4⟩ := append_room hty (s := .slice none 0 0) rfl hsrc (Nat.le_refl _) ha type
      replace g1 := happK_ok (hlenK_ok (g1 0 (Nat.le_refl _)))
      simp only [Nat.zero_add, decide_true] at g1
      obtain ⟨j1, j2⟩ := no_row (sz := ei.size) (f := g) hh
      exact ⟨_, w, k4, _, _, _, g1, j1, j2, _, 0, none, upd_same _ _ _, rfl, fun hc => by omega, rfl, Nat.le_refl _⟩
    · have hs0 : Src P ρ w.drew (.slice none 0 0) 0 ei.size (fun _ => []) := ⟨rfl, fun _ => [], fun i hi => by omega, fun n hn => by
        have : n = 0 := by omega
        subst this; simp [Builtin.firstCells]⟩
      obtain ⟨c, arr, k1, k2, k3, k4⟩ := append_grow (ρ := ρ) hty (s := .slice none 0 0) rfl hsrc.1 hs0 hsrcd (by omega) (by simpa using hroom) hb1 ha type hzz
      simp only [Nat.zero_add] at k1 k2 k3 k4
      replace g1 := happK_ok (hlenK_ok (g1 c k1))
      simp only [Nat.zero_add, h0, decide_false] at g1
      obtain ⟨j1, j2⟩ := new_row (tot := c) (sz := ei.size) (f := g) hh hdh rfl rfl rfl rfl k1 k3 fun i hi => by
        have := k4 i hi
        simpa using this
      exact ⟨_, _, k2, _, _, _, g1, j1, j2, _, _, some ⟨w.heap.size, 0, none⟩, upd_same _ _ _, rfl, fun _ => by simp, rfl, k1⟩
  · rename_i n sz off len cap nl
    split at g1
    case h_2 => exact g1.elim
    rename_i hsz'
    have hsz' := Nat.eq_of_beq_eq_true hsz'
    subst hsz'
    obtain ⟨hav, g1⟩ := away_ok g1
    obtain ⟨ob, e1, e2⟩ := hgetK_ok g1
    obtain ⟨b, o, ad, q1, q2, q3, q4, q5⟩ := hx
    subst q2
    split at e2
    case h_2 => exact e2.elim
    rename_i sz' m f tot
    split at e2
    case h_2 => exact e2.elim
    rename_i hs
    have hs := Nat.eq_of_beq_eq_true hs
    subst hs
    obtain ⟨hroom, e2⟩ := Chk_ok e2
    obtain ⟨hbd, e2⟩ := Chk_ok e2
    replace hbd := of_decide_eq_true hbd
    by_cases hfit : len + l2 ≤ cap
    · obtain ⟨us, k1, k2, k3, k4⟩ := append_room hty (ad := ad) rfl hsrc hfit ha type
      replace e2 := e2 cap hfit
      obtain ⟨e2, hn⟩ := hsetK_ok e2
      replace e2 := happK_ok (hlenK_ok e2)
      simp only [Nat.zero_add, List.length_set] at e2
      by_cases hc0 : cap = 0
      · have hl2 : l2 = 0 := by omega
        have hlen : len = 0 := by omega
        subst hc0 hl2 hlen
        have hus : us = [] := List.length_eq_zero_iff.1 (by simpa using k1)
        subst hus
        have k5 : (Builtin.append_ tys type args).run P w = .ok (.slice ad (0 + 0) 0) w := by
          rw [k4]
          cases ad <;> rfl
        obtain ⟨j1, j2⟩ := no_row (sz := ei.size) (f := fun i => if i < 0 then f (off + i) else g (i - 0)) (hh.kill n)
        rw [List.length_set] at j1 j2
        refine ⟨_, w, k5, _, _, _, e2, j1, (grow_kill n).trans j2, _, 0, ad, upd_same _ _ _, rfl, fun hc => by omega, ?_, Nat.le_refl _⟩
        rw [q4]; simp
      · rw [q3 (by omega)] at k4
        have hnl : nl = false := by rw [← q4, q3 (by omega)]; rfl
        obtain ⟨hx, hmt, hr⟩ := hh.obs _ _ e1
        have ht : tot ≠ 0 := by omega
        obtain ⟨b', o', E, fz, arr, r1, r2, r3, r4, r5⟩ := hr ht
        rw [q1] at r1; injection r1 with r1; injection r1 with r1 r0; subst r1; subst r0
        have hA : off * ei.size + cap * ei.size ≤ tot * ei.size := by rw [← Nat.add_mul]; exact Nat.mul_le_mul_right _ hbd.2
        have hB : len * ei.size + l2 * ei.size ≤ cap * ei.size := by rw [← Nat.add_mul]; exact Nat.mul_le_mul_right _ hfit
        simp only [add_at] at k4
        obtain ⟨w', arr', s1, s2, s3, s4, s5⟩ := store_block (P := P) (b := b) (o := o + (0 + off * ei.size) + len * ei.size) us 0 w arr r2 r3 (by omega) k3
        rw [s1] at k4
        have cell : ∀ k, w'.cell? ⟨b, k, none⟩ = arr'[k]? := fun k => by simp [World.cell?, s3]
        have cell0 : ∀ k, w.cell? ⟨b, k, none⟩ = arr[k]? := fun k => by simp [World.cell?, r2]
        obtain ⟨j1, j2⟩ := take_over (o' := o + off * ei.size) (m' := len + l2) (tot' := cap) (f' := fun i => if i < len then f (off + i) else g (i - len)) hh e1 q1 ht s2 s3 (by rw [s4]; exact r3) hfit (by rw [s4]; omega) fun i hi => by
          by_cases hil : i < len
          · simp only [if_pos hil]
            obtain ⟨vs, v1, v2, v3⟩ := r5 (off + i) (by omega)
            refine ⟨vs, v1, v2, fun j v hj => ?_⟩
            have hj' : j < ei.size := by
              rcases Nat.lt_or_ge j vs.length with c | c
              · omega
              · rw [List.getElem?_eq_none c] at hj; cases hj
            have := v3 j v hj
            rw [cell0] at this
            rw [cell, s5, if_neg (by have := inside hj' hil; omega), show o + off * ei.size + (i * ei.size + j) = o + ((off + i) * ei.size + j) by rw [Nat.add_mul]; omega]
            exact this
          · simp only [if_neg hil]
            obtain ⟨vs, v1, v2, v3⟩ := k2 (i - len) (by omega)
            refine ⟨vs, v1, v2, fun j v hj => ?_⟩
            have hj' : j < ei.size := by
              rcases Nat.lt_or_ge j vs.length with c | c
              · omega
              · rw [List.getElem?_eq_none c] at hj; cases hj
            have hge : len * ei.size ≤ i * ei.size := Nat.mul_le_mul_right _ (by omega)
            have hsub : (i - len) * ei.size = i * ei.size - len * ei.size := Nat.sub_mul _ _ _
            have hin := inside hj' (show i - len < l2 by omega)
            rw [cell, s5, if_pos (by rw [k1]; omega), show o + off * ei.size + (i * ei.size + j) - (o + (0 + off * ei.size) + len * ei.size + 0) = (i - len) * ei.size + j by omega]
            exact v3 j v hj
        refine ⟨_, w', k4, _, _, _, e2, j1, j2, _, _, some ⟨b, o + (0 + off * ei.size), none⟩, upd_same _ _ _, rfl, fun _ => by simp only [Option.some.injEq, Addr.mk.injEq, true_and, and_true]; omega, ?_, hfit⟩
        rw [hnl]; rfl
    · obtain ⟨c, arr, k1, k2, k3, k4⟩ := append_grow (ρ := ρ) hty (ad := ad) rfl hsrc.1 (src_row hhd e1 q1 q3 hbd.1 q5) hsrcd (by omega) hroom hb1 ha type hzz
      obtain ⟨e2, hn⟩ := hsetK_ok (e2 c k1)
      replace e2 := happK_ok (hlenK_ok e2)
      simp only [Nat.zero_add] at e2
      obtain ⟨j1, j2⟩ := new_row (tot := c) (sz := ei.size) (f := fun i => if i < len then f (off + i) else g (i - len)) (hh.kill n) hdh rfl rfl rfl rfl k1 k3 k4
      refine ⟨_, _, k2, _, _, _, e2, j1, (grow_kill n).trans j2, _, _, some ⟨w.heap.size, 0, none⟩, upd_same _ _ _, rfl, fun _ => by simp, ?_, k1⟩
      cases ad with
      | none =>
        have : cap = 0 := by
          rcases Nat.eq_zero_or_pos cap with c | c
          · exact c
          · have := q3 c; cases this
        have : l2 ≠ 0 := by omega
        simp [this]
      | some ad => rw [← q4]; rfl
  · exact g1.elim
end
end Go.Eng

/- Copying, clearing. -/
namespace Go.Eng
open Go
variable {d : Nat}
section
variable {P : Program} {tt : TT} {ρ : Env} {h : Heap} {w : World} {nt : Nat} {r : Tr d} {a : Act} {K : R → Heap → Prop}
/-- Elements that are laid into a row from element off on. -/
theorem row_lay (hh : Rel ρ h w) {n b o sz m tot off k : Nat} {f g : Nat → List C} {us : List Value} (e1 : h[n]? = some (.ob (.row sz m f tot))) (q1 : ρ n = some (b, o)) (ht : tot ≠ 0) (hoff : off + k ≤ m)
    (hl : us.length = k * sz) (hs : ∀ v ∈ us, solid v) (hg : ∀ i, i < k → ∃ vs, All2 (Den ρ) (g i) vs ∧ vs.length = sz ∧ ∀ j v, vs[j]? = some v → us[i * sz + j]? = some v) :
    ∃ w', (storeCells ⟨b, o + (0 + off * sz), none⟩ us).run P w = .ok () w' ∧ Rel ρ (h.set n (.ob (.row sz m (fun i => if off ≤ i ∧ i < off + k then g (i - off) else f i) tot))) w' ∧
      Grow ρ h w ρ (h.set n (.ob (.row sz m (fun i => if off ≤ i ∧ i < off + k then g (i - off) else f i) tot))) w' := by
  obtain ⟨hx, hmt, hr⟩ := hh.obs _ _ e1
  obtain ⟨b', o', E, fz, arr, r1, r2, r3, r4, r5⟩ := hr ht
  rw [q1] at r1; injection r1 with r1; injection r1 with r1 r0; subst r1; subst r0
  have ho : Owns ρ h n b := ⟨_, _, e1, ht, q1⟩
  have hA : off * sz + k * sz ≤ tot * sz := by rw [← Nat.add_mul]; exact Nat.mul_le_mul_right _ (by omega)
  obtain ⟨w', arr', s1, s2, s3, s4, s5⟩ := store_block (P := P) (b := b) (o := o + (0 + off * sz)) us 0 w arr r2 r3 (by omega) hs
  have cell : ∀ k, w'.cell? ⟨b, k, none⟩ = arr'[k]? := fun k => by simp [World.cell?, s3]
  have cell0 : ∀ k, w.cell? ⟨b, k, none⟩ = arr[k]? := fun k => by simp [World.cell?, r2]
  refine ⟨w', s1, hh.put ho trivial (Nat.le_of_eq s2.size.symm) (fun c _ hc => s2.keep c hc) ⟨hx, hmt, fun _ => ⟨b, o, E, fz, arr', q1, s3, by rw [s4]; exact r3, by rw [s4]; exact r4, fun i hi => ?_⟩⟩, grow_put ho s2⟩
  have hin : ∀ {vs : List Value} {j : Nat} {v : Value}, vs.length = sz → vs[j]? = some v → j < sz := fun {vs j v} hl hj => by
    rcases Nat.lt_or_ge j vs.length with c | c
    · omega
    · rw [List.getElem?_eq_none c] at hj; cases hj
  by_cases hil : off ≤ i ∧ i < off + k
  · simp only [if_pos hil]
    obtain ⟨vs, v1, v2, v3⟩ := hg (i - off) (by omega)
    refine ⟨vs, v1, v2, fun j v hj => ?_⟩
    have hj' := hin v2 hj
    have hge : off * sz ≤ i * sz := Nat.mul_le_mul_right _ hil.1
    have hsub : (i - off) * sz = i * sz - off * sz := Nat.sub_mul _ _ _
    have hi2 := inside hj' (show i - off < k by omega)
    rw [cell, s5, if_pos (by rw [hl]; omega), show o + (i * sz + j) - (o + (0 + off * sz) + 0) = (i - off) * sz + j by omega]
    exact v3 j v hj
  · simp only [if_neg hil]
    obtain ⟨vs, v1, v2, v3⟩ := r5 i hi
    refine ⟨vs, v1, v2, fun j v hj => ?_⟩
    have hj' := hin v2 hj
    have := v3 j v hj
    rw [cell0] at this
    rw [cell, s5, if_neg, this]
    rintro ⟨c1, c2⟩
    rw [hl] at c2
    rcases Nat.lt_or_ge i off with c | c
    · have := inside hj' c; omega
    · have hge : (off + k) * sz ≤ i * sz := Nat.mul_le_mul_right _ (by omega)
      rw [Nat.add_mul] at hge
      omega
/-- The same into an array in a struct. -/
theorem arr_lay (hh : Rel ρ h w) {n b base m off k : Nat} {l l' r0 : List Seg} {f : Nat → C} {g : Nat → List C} {us : List Value} (e1 : h[n]? = some (.ob (.own l))) (q1 : ρ n = some (b, 0)) (hd : cells (.arr m f :: r0) = (cells l).drop base)
    (hoff : off + k ≤ m) (hl : us.length = k) (hg : ∀ i, i < k → ∃ vs, All2 (Den ρ) (g i) vs ∧ vs.length = 1 ∧ ∀ j v, vs[j]? = some v → us[i * 1 + j]? = some v)
    (hl' : cells l' = (cells l).take base ++ (((List.range m).map fun i => if off ≤ i ∧ i < off + k then one1 (g (i - off)) else f i) ++ (cells l).drop (base + m))) (hbm : base + m ≤ (cells l).length) :
    ∃ w', (storeCells ⟨b, 0 + (base + off * 1), none⟩ us).run P w = .ok () w' ∧ Rel ρ (h.set n (.ob (.own l'))) w' ∧ Grow ρ h w ρ (h.set n (.ob (.own l'))) w' := by
  have hmid : ∀ q, q < m → (cells l)[base + q]? = some (f q) := fun q hq => by
    have : ((cells l).drop base)[q]? = some (f q) := by rw [← hd]; simp [cells, List.getElem?_append, hq]
    rwa [List.getElem?_drop] at this
  have hone : ∀ i, i < k → ∃ c u, g i = [c] ∧ us[i]? = some u ∧ Den ρ c u := fun i hi => by
    obtain ⟨vs, v1, v2, v3⟩ := hg i hi
    match vs, v2, v1 with
    | [u], _, v1 =>
      match e : g i, v1 with
      | [c], v1 => rw [e] at *; exact ⟨c, u, rfl, by simpa using v3 0 u rfl, v1.1⟩
  generalize hyd : ((List.range k).map fun i => one1 (g i)) = ys
  have hyl : ys.length = k := by rw [← hyd]; simp
  have hyg : ∀ i, i < k → ys[i]? = some (one1 (g i)) := fun i hi => by rw [← hyd]; simp [hi]
  have hys : All2 (Den ρ) ys us := All2.of_get (by omega) fun i c u hc hu => by
    have hik : i < k := by
      rcases Nat.lt_or_ge i us.length with c | c
      · omega
      · rw [List.getElem?_eq_none c] at hu; cases hu
    obtain ⟨c', u', g1, g2, g3⟩ := hone i hik
    rw [hyg i hik, g1] at hc
    simp only [one1] at hc
    rw [g2] at hu
    injection hc with hc; injection hu with hu; subst hc hu; exact g3
  obtain ⟨w', k1, k2⟩ := own_put (P := P) (off := base + off) (l' := l') hh e1 q1 (ys := ys) hys (by
    rw [hl']
    apply List.ext_getElem?
    intro q
    by_cases c1 : q < base
    · rw [List.getElem?_append_left (by simp; omega), List.getElem?_append_left (by simp; omega), List.getElem?_take, List.getElem?_take, if_pos c1, if_pos (by omega)]
    · rw [List.getElem?_append_right (by simp; omega)]
      simp only [List.length_take, show min base (cells l).length = base by omega]
      by_cases c2 : q < base + m
      · rw [List.getElem?_append_left (by simp; omega)]
        simp only [List.getElem?_map, List.getElem?_range (show q - base < m by omega), Option.map_some]
        have hm := hmid (q - base) (by omega)
        rw [show base + (q - base) = q by omega] at hm
        by_cases c3 : off ≤ q - base ∧ q - base < off + k
        · rw [if_pos c3, List.getElem?_append_right (by simp; omega), List.getElem?_append_left (by simp; omega)]
          simp only [List.length_take, show min (base + off) (cells l).length = base + off by omega]
          rw [hyg _ (by omega), show q - (base + off) = q - base - off by omega]
        · rw [if_neg c3]
          by_cases c4 : q < base + off
          · rw [List.getElem?_append_left (by simp; omega), List.getElem?_take, if_pos c4, hm]
          · rw [List.getElem?_append_right (by simp; omega), List.getElem?_append_right (by simp; omega), List.getElem?_drop]
            simp only [List.length_take, show min (base + off) (cells l).length = base + off by omega, hyl]
            rw [show base + off + k + (q - (base + off) - k) = q by omega, hm]
      · rw [List.getElem?_append_right (by simp; omega), List.getElem?_drop, List.getElem?_append_right (by simp; omega), List.getElem?_append_right (by simp; omega), List.getElem?_drop]
        simp only [List.length_map, List.length_range, List.length_take, show min (base + off) (cells l).length = base + off by omega, hyl]
        congr 1; omega) (by omega)
  exact ⟨w', by rw [show 0 + (base + off * 1) = 0 + (base + off) by omega]; exact k1, k2⟩
end
end Go.Eng

/- What acts: all. -/
namespace Go.Eng
open Go
variable {d : Nat}
section
variable {P : Program} {tt : TT} {ρ : Env} {h : Heap} {w : World} {nt : Nat} {r : Tr d} {a : Act} {K : R → Heap → Prop}
/-- A row without a block may be said anew. -/
theorem Rel.reset (hr : Rel ρ h w) {n sz m : Nat} {f f' : Nat → List C} (hn : h[n]? = some (.ob (.row sz m f 0))) : Rel ρ (h.set n (.ob (.row sz m f' 0))) w ∧ Grow ρ h w ρ (h.set n (.ob (.row sz m f' 0))) w := by
  have hlt : n < h.length := (List.getElem?_eq_some_iff.1 hn).1
  have at_n : ∀ e : HE, (h.set n e)[n]? = some e := fun e => by simp [hlt]
  have at_m : ∀ (e : HE) m, m ≠ n → (h.set n e)[m]? = h[m]? := fun e m hm => by rw [List.getElem?_set, if_neg (Ne.symm hm)]
  have own : ∀ m' c, Owns ρ (h.set n (.ob (.row sz m f' 0))) m' c → Owns ρ h m' c := fun m' c ⟨ob, o, g1, g2, g3⟩ => by
    by_cases e : m' = n
    · subst e; rw [at_n] at g1; injection g1 with g1; injection g1 with g1; subst g1; exact absurd rfl g2
    · exact ⟨ob, o, by rw [← at_m _ m' e]; exact g1, g2, g3⟩
  refine ⟨⟨fun m' hm => ?_, fun m' ob hm => ?_, fun a b c h1 h2 => hr.inj a b c (own _ _ h1) (own _ _ h2), fun a m' c o ob h1 h2 h3 => ?_⟩, Sub.refl _, rfl, rfl, rfl, fun _ _ => rfl, Nat.le_refl _, fun _ _ _ => rfl, fun a b hb => .inl ⟨a, own a b hb⟩⟩
  · refine hr.fresh m' ?_
    rcases hm with e | e
    · by_cases en : m' = n
      · subst en; rw [at_n] at e; cases e
      · exact .inl (by rw [← at_m _ m' en]; exact e)
    · exact .inr (by simpa using e)
  · by_cases en : m' = n
    · subst en; rw [at_n] at hm; injection hm with hm; injection hm with hm; subst hm
      obtain ⟨q1, q2, _⟩ := hr.obs _ _ hn
      exact ⟨q1, q2, fun h => absurd rfl h⟩
    · rw [at_m _ m' en] at hm; exact hr.obs _ _ hm
  · by_cases en : m' = n
    · subst en; rw [at_n] at h2; injection h2 with h2; injection h2 with h2; subst h2; exact h3.elim
    · rw [at_m _ m' en] at h2; exact hr.apart a m' c o ob (own _ _ h1) h2 h3
theorem copyK_ok (hT : TTok P tt) (hh : Rel ρ h w) {av : List Nat} {t : TypeId} {x y : R} {v yv : Value} (hk : copyK tt av h t x y K) (hx : DenR ρ x v) (hy : DenR ρ y yv) {tys : Array TypeId} {more : List TypeId}
    (htys : tys.toList = t :: more) {args : Array Value} (ha : args.toList = [v, yv]) (type : TypeId) : ∃ v' w', (Builtin.copy_ tys type args).run P w = .ok v' w' ∧ Post ρ h w K v' w' := by
  unfold copyK at hk
  replace ⟨ti, ht, hk⟩ := tiK_ok hT hk
  split at hk
  case h_2 => exact hk.elim
  rename_i e hd
  replace ⟨ei, hei, hk⟩ := tiK_ok hT hk
  obtain ⟨dt, p1, p2⟩ := ht.under (w := w)
  rw [hd] at p1
  cases dt <;> try exact p1.elim
  have p1 := p1; subst p1
  have ha0 : args[0]? = some v := by rw [← Array.getElem?_toList, ha]; rfl
  have ha1 : args[1]? = some yv := by rw [← Array.getElem?_toList, ha]; rfl
  have hq0 : tys[0]? = some t := by rw [← Array.getElem?_toList, htys]; rfl
  obtain ⟨l2, g, g1, g2⟩ := srcK_ok (P := P) hk hy
  split at g1
  · split at g1
    case h_2 => exact g1.elim
    rename_i hsz
    obtain ⟨s1, uy, s2, s3⟩ := g2 w hh _ hsz
    obtain ⟨rfl, _⟩ := hx
    have f2 := s3 0 (Nat.zero_le _)
    refine ⟨_, w, ?_, _, ρ, h, g1, hh, Grow.refl _ _ _, rfl, trivial⟩
    simp only [Builtin.copy_, hq0, ha0, ha1, Sem.run_bind, p2, Result.andThen_ok, s1, hei.size, Nat.min_eq_min, Nat.min_zero, f2]
    rfl
  · rename_i n base sz off len cap nl
    split at g1
    case h_2 => exact g1.elim
    rename_i hsz
    simp only [Bool.and_eq_true] at hsz
    have hsz' := Nat.eq_of_beq_eq_true hsz.1
    subst hsz'
    obtain ⟨s1, uy, s2, s3⟩ := g2 w hh _ hsz.2
    obtain ⟨b, o, ad, q1, q2, q3, q4, q5⟩ := hx
    subst q2
    have f2 := s3 (min l2 len) (Nat.min_le_left _ _)
    have n2 := flat_len (n := min l2 len) (us := uy) (size := ei.size) fun i hi => (s2 i (by omega)).2
    have hsol : ∀ v ∈ (List.range (min l2 len)).flatMap uy, solid v := fun v hv => by
      obtain ⟨i, hi, hv⟩ := List.mem_flatMap.1 hv
      simp only [List.mem_range] at hi
      exact den_solid (s2 i (by omega)).1 v hv
    have hel : ∀ i, i < min l2 len → ∃ vs, All2 (Den ρ) (g i) vs ∧ vs.length = ei.size ∧ ∀ j v, vs[j]? = some v → ((List.range (min l2 len)).flatMap uy)[i * ei.size + j]? = some v := fun i hi => by
      refine ⟨uy i, (s2 i (by omega)).1, (s2 i (by omega)).2, fun j v hj => ?_⟩
      have hj' : j < ei.size := by
        rcases Nat.lt_or_ge j (uy i).length with c | c
        · have := (s2 i (by omega)).2; omega
        · rw [List.getElem?_eq_none c] at hj; cases hj
      rw [flat_at (fun i hi => (s2 i (by omega)).2) hi hj']; exact hj
    have run : ∀ {w'}, (match ad with
        | none => (.ok () w : Result Unit)
        | some a => (storeCells a ((List.range (min l2 len)).flatMap uy)).run P w) = .ok () w' → (Builtin.copy_ tys type args).run P w = .ok (.int .i64 (min l2 len : Nat)) w' := fun {w'} hw => by
      simp only [Builtin.copy_, hq0, ha0, ha1, Sem.run_bind, p2, Result.andThen_ok, s1, hei.size, Nat.min_eq_min, f2]
      cases ad with
      | none => simp only at hw; injection hw with _ hw; subst hw; rfl
      | some ad =>
        have hw : (storeCells ad ((List.range (min l2 len)).flatMap uy)).run P w = .ok () w' := hw
        simp only [Sem.run_bind, hw, Result.andThen_ok]; rfl
    have empty : cap = 0 → (List.range (min l2 len)).flatMap uy = [] := fun hc => by
      have : min l2 len = 0 := by omega
      rw [this]; rfl
    have store : ∀ {w'} {A : Addr}, (0 < cap → ad = some A) → (storeCells A ((List.range (min l2 len)).flatMap uy)).run P w = .ok () w' → (match ad with
        | none => (.ok () w : Result Unit)
        | some a => (storeCells a ((List.range (min l2 len)).flatMap uy)).run P w) = .ok () w' := fun {w' A} hA hw => by
      rcases Nat.eq_zero_or_pos cap with c | c
      · rw [empty c] at hw ⊢
        cases ad <;> exact hw
      · rw [hA c]; exact hw
    unfold copyTo at g1
    replace ⟨hav, g1⟩ := away_ok g1
    replace ⟨ob, e1, g1⟩ := hgetK_ok g1
    have e2 := g1; clear g1
    split at e2
    · rename_i sz' m f tot
      split at e2
      case h_2 => exact e2.elim
      rename_i hs
      have hs := Nat.eq_of_beq_eq_true hs
      subst hs
      obtain ⟨hbd, e2⟩ := Chk_ok e2
      replace hbd := of_decide_eq_true hbd
      replace e2 := (hsetK_ok e2).1
      by_cases htot : tot = 0
      · subst htot
        obtain ⟨_, hm0, _⟩ := hh.obs _ _ e1
        have hc : min l2 len = 0 := by omega
        obtain ⟨j1, j2⟩ := hh.reset (f' := fun i => if off ≤ i ∧ i < off + min l2 len then g (i - off) else f i) e1
        refine ⟨_, w, run ?_, _, ρ, _, e2, j1, j2, rfl, trivial⟩
        rw [hc]; cases ad <;> rfl
      · obtain ⟨w', k1, k2, k3⟩ := row_lay (P := P) (m := m) (f := f) (g := g) (off := off) hh e1 q1 htot (k := min l2 len) (by omega) n2 hsol hel
        exact ⟨_, w', run (store (fun hc => q3 hc) k1), _, ρ, _, e2, k2, k3, rfl, trivial⟩
    · rename_i l
      obtain ⟨l1, k1, k2, k3⟩ := dropK_ok e2
      split at k1
      · rename_i m f r0 hsz1
        obtain ⟨hbd, k1⟩ := Chk_ok k1
        replace hbd := of_decide_eq_true hbd
        obtain ⟨l', j1, j2, j3⟩ := putK_ok k1
        replace j1 := (hsetK_ok j1).1
        have hcl : cells [Seg.arr m fun i => if off ≤ i ∧ i < off + min l2 len then one1 (g (i - off)) else f i] = (List.range m).map fun i => if off ≤ i ∧ i < off + min l2 len then one1 (g (i - off)) else f i := by simp [cells]
        rw [hcl] at j2 j3
        simp only [List.length_map, List.length_range] at j2 j3
        obtain ⟨b', E, fz, arr, r1, _⟩ := hh.obs _ _ e1
        rw [q1] at r1; injection r1 with r1; injection r1 with r1 r0; subst r1; subst r0
        rw [hsz1] at n2 hel q3
        obtain ⟨w', m1, m2, m3⟩ := arr_lay (P := P) (m := m) (f := f) (g := g) (off := off) (l' := l') hh e1 q1 k2 (k := min l2 len) (by omega) (by simpa using n2) hel j2 j3
        exact ⟨_, w', run (store (fun hc => q3 hc) m1), _, ρ, _, j1, m2, m3, rfl, trivial⟩
      · exact k1.elim
    · exact e2.elim
  · exact g1.elim
theorem clearK_ok (hT : TTok P tt) (hh : Rel ρ h w) {av : List Nat} {t : TypeId} {x : R} {v : Value} (hk : clearK tt av h t x K) (hx : DenR ρ x v) {tys : Array TypeId} {more : List TypeId}
    (htys : tys.toList = t :: more) {args : Array Value} (ha : args.toList = [v]) (type : TypeId) : ∃ v' w', (Builtin.clear_ tys type args).run P w = .ok v' w' ∧ Post ρ h w K v' w' := by
  unfold clearK at hk
  replace ⟨ti, ht, hk⟩ := tiK_ok hT hk
  split at hk
  case h_2 => exact hk.elim
  rename_i e hd
  replace ⟨ei, hei, hk⟩ := tiK_ok hT hk
  replace hk := cellsK_ok hk
  split at hk
  case h_1 => exact hk.elim
  rename_i hz
  have hz := Nat.eq_of_beq_eq_true hz
  obtain ⟨dt, p1, p2⟩ := ht.under (w := w)
  rw [hd] at p1
  cases dt <;> try exact p1.elim
  have p1 := p1; subst p1
  have ha0 : args[0]? = some v := by rw [← Array.getElem?_toList, ha]; rfl
  have hq0 : tys[0]? = some t := by rw [← Array.getElem?_toList, htys]; rfl
  obtain ⟨zv, z1, z2⟩ := hei.zero (w := w)
  have zc := (z2 ρ).cells
  have hzs : zv.cells.size = ei.size := by have := zc.length; rw [hz] at this; simpa using this.symm
  split at hk
  · rename_i n sz off len cap nl
    obtain ⟨hav, g1⟩ := away_ok hk
    obtain ⟨ob, e1, e2⟩ := hgetK_ok g1
    obtain ⟨b, o, ad, q1, q2, q3, q4, q5⟩ := hx
    subst q2
    split at e2
    case h_2 => exact e2.elim
    rename_i sz' m f tot
    split at e2
    case h_2 => exact e2.elim
    rename_i hs1 hs2
    have hs1 := Nat.eq_of_beq_eq_true hs1
    have hs2 := Nat.eq_of_beq_eq_true hs2
    subst hs1 hs2
    obtain ⟨hbd, e2⟩ := Chk_ok e2
    replace hbd := of_decide_eq_true hbd
    replace e2 := (hsetK_ok e2).1
    have run : ∀ {w'}, (match ad with
        | none => (.ok () w : Result Unit)
        | some a => if len = 0 then (.ok () w : Result Unit) else (storeCells a (Builtin.zeroCells zv.cells len).toList).run P w) = .ok () w' → (Builtin.clear_ tys type args).run P w = .ok (.tuple #[]) w' := fun {w'} hw => by
      simp only [Builtin.clear_, hq0, ha0, Sem.run_bind, p2, Result.andThen_ok]
      cases ad with
      | none => simp only at hw; injection hw with _ hw; subst hw; rfl
      | some ad =>
        cases len with
        | zero => simp only [if_true] at hw; injection hw with _ hw; subst hw; rfl
        | succ len =>
          simp only [Nat.succ_ne_zero, if_false] at hw
          simp only [Sem.run_bind, z1, Result.andThen_ok, hw]
          rfl
    by_cases htot : tot = 0
    · subst htot
      obtain ⟨_, hm0, _⟩ := hh.obs _ _ e1
      have hc : len = 0 := by omega
      subst hc
      obtain ⟨j1, j2⟩ := hh.reset (f' := fun i => if off ≤ i ∧ i < off + 0 then cells (segsOf ei.zero) else f i) e1
      refine ⟨_, w, run ?_, _, ρ, _, e2, j1, j2, trivial⟩
      cases ad <;> rfl
    · have n2 : (Builtin.zeroCells zv.cells len).toList.length = len * ei.size := by simp [zeroCells_size, hzs]
      have zat : ∀ i j v, i < len → zv.cells.toList[j]? = some v → (Builtin.zeroCells zv.cells len).toList[i * ei.size + j]? = some v := fun i j v hi hj => by
        have hj' : j < ei.size := by
          rcases Nat.lt_or_ge j zv.cells.toList.length with c | c
          · simpa [hzs] using c
          · rw [List.getElem?_eq_none c] at hj; cases hj
        have hlt := inside hj' hi
        have hd2 : (i * ei.size + j) % ei.size = j := by rw [Nat.mul_comm, Nat.mul_add_mod, Nat.mod_eq_of_lt hj']
        have hq2 : zv.cells[j]? = some v := by simpa using hj
        rw [Array.getElem?_toList]
        simp only [Builtin.zeroCells, Array.getElem?_map, hzs, Array.getElem?_range, if_pos hlt, Option.map_some, hd2]
        rw [getElem!_def, hq2]
      obtain ⟨w', k1, k2, k3⟩ := row_lay (P := P) (m := m) (f := f) (off := off) (g := fun _ => cells (segsOf ei.zero)) hh e1 q1 htot (k := len) (by omega) n2 (fun v hv => by
          obtain ⟨i, hi⟩ := List.getElem?_of_mem hv
          rw [Array.getElem?_toList] at hi
          simp only [Builtin.zeroCells, Array.getElem?_map] at hi
          have hlt : i < len * zv.cells.size := by
            rcases Nat.lt_or_ge i (len * zv.cells.size) with c | c
            · exact c
            · rw [Array.getElem?_range, if_neg (by omega)] at hi; cases hi
          rw [Array.getElem?_range, if_pos hlt] at hi
          simp only [Option.map_some, Option.some.injEq] at hi
          have hpos : 0 < zv.cells.size := by rcases Nat.eq_zero_or_pos zv.cells.size with c | c; rw [c] at hlt; omega; exact c
          have hm := Nat.mod_lt i hpos
          have : zv.cells[i % zv.cells.size]? = some v := by rw [Array.getElem?_eq_getElem hm]; rw [getElem!_def, Array.getElem?_eq_getElem hm] at hi; simpa using hi
          exact den_solid zc v (List.mem_of_getElem? (i := i % zv.cells.size) (by simpa using this)))
        fun i hi => ⟨_, zc, by simpa using hzs, fun j v hj => zat i j v hi hj⟩
      refine ⟨_, w', run ?_, _, ρ, _, e2, k2, k3, trivial⟩
      by_cases h0 : len = 0
      · subst h0
        have : (Builtin.zeroCells zv.cells 0).toList = [] := List.length_eq_zero_iff.1 (by simpa using n2)
        rw [this] at k1
        injection k1 with _ k1
        subst k1
        cases ad <;> rfl
      · rw [q3 (by omega)]
        simp only [if_neg h0]
        exact k1
  · exact hk.elim
end
end Go.Eng

/- What acts, and calls; one operation's turn. -/
namespace Go.Eng
open Go
variable {d : Nat}
section
variable {P : Program} {tt : TT} {ρ : Env} {h : Heap} {w : World} {nt : Nat} {r : Tr d} {a : Act} {K : R → Heap → Prop}
def Enters (P : Program) (f : FuncId) : Prop := ∃ fn, P.funcs[f]? = some fn ∧ fn.body.isNone = false ∧ (fn.name == "runtime.NumGoroutine") = false
/-- A call's meaning holds of the model's calls. -/
def ClOk (P : Program) (cl : Cl) : Prop := ∀ f av xs h K, cl f av xs h K → Enters P f ∧ ∀ ρ w vs, Rel ρ h w → All2 (DenR ρ) xs vs →
  Calls P f vs.toArray w fun e w' => ∃ v, e = .returned v ∧ Post ρ h w K v w'
theorem Enters.run {f : FuncId} (h : Enters P f) (args : Array Value) : (callFunc f args).run P w = .ok (.enter f args) w := by
  obtain ⟨fn, h1, h2, h3⟩ := h
  simp only [callFunc, program, bind, Sem.bind, Sem.run, h1, h3, h2, Bool.false_eq_true, if_false]
  rfl
/-- What an operation that acts does. -/
def Acts (P : Program) (ρ : Env) (h : Heap) (w : World) (K : R → Heap → Prop) (res : Result Next) : Prop :=
  (∃ v w', res = .ok (.value v) w' ∧ Post ρ h w K v w') ∨ (∃ w', res = .ok .skip w' ∧ Post ρ h w K undef w') ∨
    ∃ f args, res = .ok (.enter f args) w ∧ Calls P f args w fun e w' => ∃ v, e = .returned v ∧ Post ρ h w K v w'
theorem nameK_ok {c : C} {k : Nat → Prop} (h : nameK c k) : ∃ n, k n := by
  unfold nameK at h
  split at h <;> first | exact ⟨_, h⟩ | exact h.elim
theorem one_arg {args : Array Operand} {x : R} (h2 : All2 (DenR ρ) [x] (args.toList.map a.eval)) : ∃ u, (args.map a.eval).toList = [u] ∧ DenR ρ x u := by
  match e : args.toList.map a.eval, h2 with
  | [u], h => exact ⟨u, by simpa using e, h.1⟩
  | [], h => exact h.elim
  | _ :: _ :: _, h => exact h.2.elim
theorem run_getObj_raw {o : Obj} {b : Nat} (hb : w.heap[b]? = some o) (hn : ∀ c e f, o ≠ .cells c e f) : (getObj b).run P w = .ok o w := by
  cases o <;> first | (exact absurd rfl (hn _ _ _)) | (simp [getObj, Sem.run, hb, pure])
theorem run_setObj_raw {o o' : Obj} {b : Nat} (hb : w.heap[b]? = some o) (hn : ∀ c e f, o ≠ .cells c e f) : (setObj b o').run P w = .ok () { w with heap := w.heap.setIfInBounds b o' } := by
  cases o <;> first | (exact absurd rfl (hn _ _ _)) | (simp [setObj, Sem.run, hb, pure])
theorem but_set {o o' : Obj} {b : Nat} (hb : w.heap[b]? = some o) (hn : ∀ c e f, o ≠ .cells c e f) (hn' : ∀ c e f, o' ≠ .cells c e f) : But b w { w with heap := w.heap.setIfInBounds b o' } := by
  have hlt : b < w.heap.size := by
    rcases Nat.lt_or_ge b w.heap.size with c | c
    · exact c
    · rw [Array.getElem?_eq_none c] at hb; cases hb
  refine ⟨rfl, rfl, rfl, fun a => ?_, by simp, fun c hc => by simp only []; rw [Array.getElem?_setIfInBounds_ne (Ne.symm hc)]⟩
  unfold World.frozen?
  by_cases e : a.block = b
  · rw [e, hb]
    have : (w.heap.setIfInBounds b o')[b]? = some o' := by simp [hlt]
    simp only [this]
    cases o <;> cases o' <;> first | rfl | exact absurd rfl (hn _ _ _) | exact absurd rfl (hn' _ _ _)
  · simp only []
    rw [Array.getElem?_setIfInBounds_ne (fun h => e h.symm)]
theorem put_raw (hh : Rel ρ h w) {n b : Nat} {x x' : Rw} {o o' : Obj} (hn : h[n]? = some (.ob (.raw x))) (hb : ρ n = some (b, 0)) (ho : w.heap[b]? = some o) (hx : x.holds o) (hx' : x'.holds o') (hm : x.mut) (hm' : x'.mut) :
    Rel ρ (h.set n (.ob (.raw x'))) { w with heap := w.heap.setIfInBounds b o' } ∧ Grow ρ h w ρ (h.set n (.ob (.raw x'))) { w with heap := w.heap.setIfInBounds b o' } := by
  have hbut := but_set (w := w) (o' := o') ho (Rw.not_cells hm hx) (Rw.not_cells hm' hx')
  have hown : Owns ρ h n b := ⟨_, _, hn, hm, hb⟩
  have hlt := hh.owns_lt hown
  exact ⟨hh.put hown hm' (Nat.le_of_eq hbut.size.symm) (fun c _ hc => hbut.keep c hc) ⟨b, o', hb, by simp [hlt], hx', Rw.pin_of hm' b⟩, grow_put hown hbut⟩
theorem decode_one {s : ByteArray} {pos : Nat} (hp : pos < s.size) (hb : bt s pos < 128) : Utf8.decode s pos = ((bt s pos).toNat, 1) := by
  have e : (s.get! (pos + 0)).toNat = (bt s pos).toNat := by
    simp only [Nat.add_zero, bt, Int.toNat_natCast]
    congr 1
    have h1 : s[pos]? = some (s.data.toList.getD pos 0) := bt_get hp
    have h2 : pos < s.data.size := hp
    simp only [ByteArray.get!, getElem!_def]
    rw [show s.data[pos]? = some s.data[pos] from Array.getElem?_eq_getElem h2]
    simp [h2]
    rw [Array.getElem?_eq_getElem h2]; rfl
  have h0 : 0 ≤ bt s pos := Int.natCast_nonneg _
  unfold Utf8.decode
  simp only [e]
  rw [if_pos (by omega)]
theorem nextK_ok (hh : Rel ρ h w) {av : List Nat} {c : C} {v : Value} (hk : nextK av h c K) (hc : Den ρ c v) (t : TypeId) : ∃ v' w', (Instr.next v true t).run P w = .ok v' w' ∧ Post ρ h w K v' w' := by
  unfold nextK at hk
  split at hk
  · rename_i n
    obtain ⟨_, hk⟩ := away_ok hk
    obtain ⟨ob, e1, hk⟩ := hgetK_ok hk
    split at hk
    · rename_i s pos
      obtain ⟨b, o, q1, q2, q3, _⟩ := hh.obs n _ e1
      have q3 : o = .stringIter s pos := q3
      subst q3
      obtain ⟨b', o', r1, rfl⟩ := hc
      rw [q1] at r1; injection r1 with r1; injection r1 with r1 r2; subst r1; subst r2
      have hg : (getObj b).run P w = .ok (.stringIter s pos) w := run_getObj_raw q2 (by simp)
      cases Cnd_ok hk with
      | inl h0 =>
        have hp := of_decide_eq_true h0.1
        have hb : bt s pos < 128 := h0.2.1
        have h2 := hsetK_ok h0.2.2
        clear h0 hk
        have hk := h2.1
        have hd := decode_one hp hb
        obtain ⟨k1, k2⟩ := put_raw hh (x' := .sit s (pos + 1)) (o' := .stringIter s (pos + 1)) e1 q1 q2 rfl rfl trivial trivial
        refine ⟨.tuple #[.bool true, goInt pos, .int .i32 ((bt s pos).toNat : Nat)], { w with heap := w.heap.setIfInBounds b (.stringIter s (pos + 1)) }, ?_, .tup [.one (.v (.bool true)), .one (.v (.int .i64 pos)), .one (.v (.int .i32 (bt s pos)))], ρ, h.set n (.ob (.raw (.sit s (pos + 1)))), hk, k1, k2, ⟨_, rfl, ⟨rfl, trivial⟩, ⟨rfl, trivial⟩, ?_, trivial⟩⟩
        · simp only [Instr.next, Sem.run_bind, hg, Result.andThen_ok]
          rw [if_pos hp]
          simp only [hd, Sem.run_bind, run_setObj_raw (o' := .stringIter s (pos + 1)) q2 (by simp), Result.andThen_ok]
          rfl
        · have h0 : 0 ≤ bt s pos := Int.natCast_nonneg _
          exact ⟨by rw [Int.toNat_of_nonneg h0], trivial⟩
      | inr h0 =>
        have hp := of_decide_eq_false h0.1
        have hk := h0.2
        refine ⟨.tuple #[.bool false], w, ?_, _, ρ, h, hk, hh, Grow.refl _ _ _, ⟨_, rfl, ⟨rfl, trivial⟩, trivial⟩⟩
        simp only [Instr.next, Sem.run_bind, hg, Result.andThen_ok]
        rw [if_neg hp]
        rfl
    · exact hk.elim
  · exact hk.elim
theorem evW_ok {cl : Cl} (hc : ClOk P cl) (hT : TTok P tt) (hr : RelR ρ nt r a.tmps) (hh : Rel ρ h w) {av : List Nat} {o : Oper} (hk : evW cl tt av r h o.op K) : Acts P ρ h w K ((execOp a.eval o).run P w) := by
  obtain ⟨dst, op, type, pos, after, guard⟩ := o
  simp only at hk
  cases op <;> simp only [evW] at hk <;> (try exact hk.elim) <;> simp only [execOp]
  case store t ad x =>
    obtain ⟨y, h1, h2⟩ := opK_ok hk hr
    obtain ⟨c, h3, h4⟩ := cK_ok h1 h2
    obtain ⟨z, h5, h6⟩ := opK_ok h3 hr
    obtain ⟨q, h7, h8⟩ := tK_ok h5 h6
    obtain ⟨n, h9⟩ := nameK_ok h7
    obtain ⟨_, h9⟩ := away_ok h9
    obtain ⟨h', w', k1, k2, k3, k4⟩ := storeK_ok (P := P) hT hh h9 h4 h8
    refine .inr (.inl ⟨w', ?_, _, ρ, h', k1, k3, k4, trivial⟩)
    simp only [Sem.run_bind, k2, Result.andThen_ok]; rfl
  case next it str =>
    cases str with
    | false => exact hk.elim
    | true =>
      obtain ⟨y, h1, h2⟩ := opK_ok hk hr
      obtain ⟨c, h3, h4⟩ := cK_ok h1 h2
      obtain ⟨v', w', k1, k2⟩ := nextK_ok (P := P) hh h3 h4 type
      exact .inl ⟨v', w', run_v k1, k2⟩
  case call c =>
    obtain ⟨callee, args, argTypes⟩ := c
    simp only at hk
    split at hk
    · obtain ⟨xs, h1, h2⟩ := opsK_ok hk hr
      split at h1
      · rename_i x y t u more heq
        obtain ⟨p, q, e, hx, hy⟩ := two_args h2
        obtain ⟨ui, hu, h1⟩ := tiK_ok hT h1
        have fin : appendK tt av h t x y K → ((∃ e, ui.desc = .slice e) ∨ ui.desc = .str) → Acts P ρ h w K ((do let d ← resolve a.eval { callee := .builtin .append, args, argTypes } type; invoke d.target d.args : Sem Next).run P w) := fun hk hnu => by
          obtain ⟨v', w', k1, k2⟩ := appendK_ok (P := P) hT hh hk hx hy heq hu hnu e type
          exact .inl ⟨v', w', by simp only [resolve, pure_bind, invoke, builtin]; exact run_v k1, k2⟩
        split at h1
        · exact fin h1 (.inl ⟨_, by assumption⟩)
        · exact fin h1 (.inr (by assumption))
        · exact h1.elim
      · exact h1.elim
    · obtain ⟨xs, h1, h2⟩ := opsK_ok hk hr
      split at h1
      · rename_i x y t more heq
        obtain ⟨p, q, e, hx, hy⟩ := two_args h2
        obtain ⟨v', w', k1, k2⟩ := copyK_ok (P := P) hT hh h1 hx hy heq e type
        exact .inl ⟨v', w', by simp only [resolve, pure_bind, invoke, builtin]; exact run_v k1, k2⟩
      · exact h1.elim
    · obtain ⟨xs, h1, h2⟩ := opsK_ok hk hr
      split at h1
      · rename_i x t more heq
        obtain ⟨p, e, hx⟩ := one_arg h2
        obtain ⟨v', w', k1, k2⟩ := clearK_ok (P := P) hT hh h1 hx heq e type
        exact .inl ⟨v', w', by simp only [resolve, pure_bind, invoke, builtin]; exact run_v k1, k2⟩
      · exact h1.elim
    · rename_i f
      obtain ⟨y, h1, h2⟩ := opK_ok hk hr
      obtain ⟨c, h3, h4⟩ := cK_ok h1 h2
      obtain ⟨xs, h5, h6⟩ := opsK_ok h3 hr
      clear h3 h1 hk h2
      split at h5
      · rename_i g caps
        obtain ⟨as, e, hcap⟩ := h4
        obtain ⟨k1, k2⟩ := hc _ _ _ _ _ h5
        have hcap' : All2 (DenR ρ) (caps.map fun p => R.t (T.one (C.ptr p.1 p.2))) (as.map fun a => Value.pointer (some a)) := by
          clear h5 k2 e
          induction caps generalizing as with
          | nil => cases as with
            | nil => trivial
            | cons _ _ => exact hcap.elim
          | cons p caps ih => cases as with
            | nil => exact hcap.elim
            | cons ad as =>
              obtain ⟨⟨b, o, q1, q2⟩, hcap⟩ := hcap
              exact ⟨⟨b, o, q1, by rw [q2]⟩, ih as hcap⟩
        have hcalls := k2 ρ w _ hh (h6.append hcap')
        refine .inr (.inr ⟨g, (args.toList.map a.eval ++ as.map fun a => Value.pointer (some a)).toArray, ?_, hcalls⟩)
        simp only [resolve, e, Deferred.ofValue, pure_bind, invoke]
        rw [k1.run]
        congr 2
        simp
      · exact h5.elim
    · exact hk.elim
end
end Go.Eng

/- One operation's turn; regions in the text's order. -/
namespace Go.Eng
open Go
variable {d : Nat}
section
variable {P : Program} {tt : TT} {ρ : Env} {h : Heap} {w : World} {nt : Nat} {r : Tr d} {a : Act}
theorem frozen_alloc (w : World) (o : Obj) (h : ∀ c e f, o = .cells c e f → f = (0, 0)) (x : Addr) : (w.alloc o).frozen? x = w.frozen? x := by
  unfold World.frozen? World.alloc
  simp only [Array.getElem?_push]
  by_cases e : x.block = w.heap.size
  · rw [if_pos e, e, Array.getElem?_eq_none (Nat.le_refl _)]
    cases o <;> try rfl
    rename_i c el f
    rw [h c el f rfl]; simp
  · rw [if_neg e]
/-- A new block, as a quiet operation makes it. -/
theorem Rel.made (hr : Rel ρ h w) {ob : Ob} (hme : ob.mine) {o1 : Obj} (hz : ∀ c e f, o1 = .cells c e f → f = (0, 0)) (ho : RelOb (upd ρ h.length (w.heap.size, 0)) (w.alloc o1) h.length ob) :
    Rel (upd ρ h.length (w.heap.size, 0)) (h ++ [.ob ob]) (w.alloc o1) ∧ Grow ρ h w (upd ρ h.length (w.heap.size, 0)) (h ++ [.ob ob]) (w.alloc o1) := by
  have hn : ρ h.length = none := hr.fresh _ (.inr (Nat.le_refl _))
  have h1 : (h ++ [HE.ob ob])[h.length]? = some (.ob ob) := by simp
  have h2 : ∀ m, m ≠ h.length → (h ++ [HE.ob ob])[m]? = h[m]? := fun m hm => by
    rcases Nat.lt_or_ge m h.length with c | c
    · simp [List.getElem?_append_left c]
    · rw [List.getElem?_eq_none (by simp; omega), List.getElem?_eq_none c]
  have hsz : w.heap.size ≤ (w.alloc o1).heap.size := by rw [World.size_alloc]; omega
  have hk : ∀ b, b < w.heap.size → (w.alloc o1).heap[b]? = w.heap[b]? := fun b hb => by
    show (w.heap.push _)[b]? = _
    rw [Array.getElem?_push, if_neg (by omega)]
  refine ⟨hr.add hn hme h1 h2 hr.free_new hsz (fun b hb _ => hk b hb) ho, upd_sub hn, rfl, rfl, rfl, fun x _ => frozen_alloc _ _ hz x, hsz, fun b hb _ => hk b hb, fun n b ⟨ob', o', g1, g2, g3⟩ => ?_⟩
  by_cases e : n = h.length
  · subst e
    rw [upd_same] at g3; injection g3 with g3; injection g3 with g3 _
    exact .inr (Nat.le_of_eq g3)
  · rw [h2 n e] at g1
    exact .inl ⟨n, ob', o', g1, g2, by simpa [upd, e] using g3⟩
theorem bodyK_ok {cl : Cl} {K : R → Heap → Prop} (hc : ClOk P cl) (hT : TTok P tt) (hr : RelR ρ nt r a.tmps) (hh : Rel ρ h w) {o : Oper} (hk : bodyK cl tt r h o.op K) : Acts P ρ h w K ((execOp a.eval o).run P w) := by
  unfold bodyK at hk
  split at hk
  · exact evW_ok hc hT hr hh hk
  · split at hk
    · obtain ⟨x, b, v, w', h1, h2, h3⟩ := evX_ok (P := P) hT hr hh (hlenK_ok hk)
      simp only [Nat.zero_add] at h3
      split at h2
      · rename_i ob
        obtain ⟨hme, o1, hz, rfl, h4⟩ := h3
        obtain ⟨h5, h6⟩ := h4 (upd ρ h.length (w.heap.size, 0)) (upd_sub (hh.fresh _ (.inr (Nat.le_refl _)))) (upd_same _ _ _)
        obtain ⟨h7, h8⟩ := hh.made hme hz h6
        exact .inl ⟨v, _, h1, x, _, _, happK_ok h2, h7, h8, h5⟩
      · exact h2.elim
    · obtain ⟨x, b, v, w', h1, h2, h3⟩ := evX_ok (P := P) hT hr hh hk
      split at h2
      · obtain ⟨rfl, h3⟩ := h3
        exact .inl ⟨v, _, h1, x, ρ, h, h2, hh, Grow.refl _ _ _, h3⟩
      · exact h2.elim
/-- The guard says so. -/
def Says (ops : List Oper) (r : Tr d) (o : Oper) (c : Bool) : Prop :=
  match o.guard with
  | none => c = true
  | some (j, want) => ∃ g t, ops[j]? = some g ∧ g.dst = some t ∧ ((∃ b, r.get d t = bv b ∧ (b == want) = c) ∨ (r.get d t = .tup [] ∧ c = false))
def Same (r r' : Tr d) : Prop := ∀ t, r'.get d t = r.get d t
theorem Same.rel {r r' : Tr d} (h : Same r r') {tm : Array Value} (hr : RelR ρ nt r tm) : RelR ρ nt r' tm := ⟨hr.1, fun i => by rw [h i]; exact hr.2 i⟩
theorem guardK_ok {ops : List Oper} {o : Oper} {yes no : Tr d → Prop} (hk : guardK ops r o yes no) : ∃ r' c, Same r r' ∧ Says ops r o c ∧ (match c with | true => yes r' | false => no r') := by
  unfold guardK at hk
  split at hk
  · rename_i e
    exact ⟨r, true, fun _ => rfl, by simp [Says, e], hk⟩
  · rename_i j want e
    obtain ⟨g, hg, hk⟩ := nthK_ok hk
    split at hk
    · exact hk.elim
    · rename_i t ht
      rw [Tr.getK_eq] at hk
      unfold isU at hk
      split at hk
      · rename_i hu
        exact ⟨r, false, fun _ => rfl, by simp only [Says, e]; exact ⟨g, t, hg, ht, .inr ⟨hu, trivial⟩⟩, hk⟩
      unfold boolK at hk
      split at hk
      · rename_i b hb
        have key : ∀ {c : Bool} {p : Tr d → Prop}, b = c → r.setK d t (bv c) p → ∃ r', Same r r' ∧ p r' := fun {c p} hbc hs => by
          obtain ⟨h1, h2⟩ := (Tr.setK_iff d r t _ _).1 hs
          refine ⟨_, fun u => ?_, h2⟩
          rw [Tr.get_set d r t _ u h1]
          split
          · rename_i e; subst e; rw [hb, hbc]; rfl
          · rfl
        rcases Cnd_ok hk with ⟨hc, hk⟩ | ⟨hc, hk⟩ <;> obtain ⟨r', h1, h2⟩ := key hc hk <;> refine ⟨r', b == want, h1, ?_, ?_⟩
        · simp only [Says, e]; exact ⟨g, t, hg, ht, .inl ⟨b, hb, rfl⟩⟩
        · subst hc; cases want <;> exact h2
        · simp only [Says, e]; exact ⟨g, t, hg, ht, .inl ⟨b, hb, rfl⟩⟩
        · subst hc; cases want <;> exact h2
      · exact hk.elim
/-- What the guard says holds of the model's. -/
theorem Says.wanted {ops : Array Oper} {o : Oper} {c : Bool} {tm : Array Value} (hs : Says ops.toList r o c) (hr : RelR ρ nt r tm) : Region.wanted o (yielded ops tm) = c := by
  unfold Says at hs
  unfold Region.wanted
  split at hs
  · rename_i e; simp [e, hs]
  · rename_i j want e
    obtain ⟨g, t, h1, h2, h3 | ⟨h3, rfl⟩⟩ := hs
    rotate_left
    · have h5 := hr.2 t
      rw [h3] at h5
      obtain ⟨vs, h6, _⟩ := h5
      have h8 : yielded ops tm j = none := by
        unfold yielded
        have : ops[j]? = some g := by simpa using h1
        simp only [this, h2, Option.bind_some]
        cases e : tm[t]? with
        | none => rfl
        | some v =>
          have : tm.getD t undef = v := by simp [e]
          rw [this] at h6; subst h6; rfl
      rw [e]
      simp only [h8]
      rfl
    obtain ⟨b, h3, h4⟩ := h3
    have h5 := hr.2 t
    rw [h3] at h5
    have h6 : tm.getD t undef = .bool b := h5.1
    have h7 : tm[t]? = some (.bool b) := by
      cases e : tm[t]? with
      | none =>
        rw [show tm.getD t undef = undef by simp [e]] at h6
        cases h6
      | some v => rw [show tm.getD t undef = v by simp [e]] at h6; rw [h6]
    have h8 : yielded ops tm j = some b := by
      unfold yielded
      have : ops[j]? = some g := by simpa using h1
      simp [this, h2, h7]
    rw [e]
    simp only [h8]
    rw [← h4]
    cases b <;> cases want <;> rfl
theorem putR_ok {dst : Option Tmp} {x : R} {k : Tr d → Prop} {v : Value} {ρ' : Env} (hk : putR nt r dst x k) (hr : RelR ρ' nt r a.tmps) (hx : DenR ρ' x v) : ∃ r', k r' ∧ RelR ρ' nt r' (a.put dst v).tmps := by
  unfold putR at hk
  split at hk
  · exact ⟨r, hk, hr⟩
  · rename_i t
    split at hk
    · rename_i hb
      obtain ⟨h1, h2⟩ := (Tr.setK_iff d r t _ _).1 hk
      exact ⟨_, h2, hr.set h1 (Nat.le_of_ble_eq_true hb) hx⟩
    · exact hk.elim
/-- The state that the model's frame and world are in, as the walk sees it. -/
structure At (ρ : Env) (nt : Nat) (r : Tr d) (h : Heap) (a : Act) (w : World) : Prop where
  regs : RelR ρ nt r a.tmps
  heap : Rel ρ h w
  calm : a.defers = []
theorem Acts.wp {o : Oper} {K : R → Heap → Prop} {Kc : Act → World → Prop} {Q : Exit → Act → World → Prop} (hA : Acts P ρ h w K ((execOp a.eval o).run P w)) (hK : ∀ x ρ' h' v w', K x h' → Rel ρ' h' w' → Grow ρ h w ρ' h' w' → DenR ρ' x v → Kc (a.put o.dst v) w') : o.wp P a w Kc Q := by
  unfold Oper.wp
  rcases hA with ⟨v, w', e, x, ρ', h', h1, h2, h3, h4⟩ | ⟨w', e, x, ρ', h', h1, h2, h3, h4⟩ | ⟨f, args, e, hc⟩
  · rw [e]; exact hK x ρ' h' v w' h1 h2 h3 h4
  · rw [e]; exact hK x ρ' h' undef w' h1 h2 h3 h4
  · rw [e]
    refine hc.mono fun e w'' ⟨v, he, x, ρ', h', h1, h2, h3, h4⟩ => ?_
    subst he
    exact hK x ρ' h' v w'' h1 h2 h3 h4
theorem stepK_ok {cl : Cl} {ops : Array Oper} {o : Oper} {k : Tr d → Heap → Prop} {Kc : Act → World → Prop} {Q : Exit → Act → World → Prop} {i : Nat} (hc : ClOk P cl) (hT : TTok P tt) (ho : ops[i]? = some o) (hA : At ρ nt r h a w) (hk : stepK cl tt nt ops.toList o r h k)
    (hK : ∀ ρ' r' h' a' w', k r' h' → At ρ' nt r' h' a' w' → Grow ρ h w ρ' h' w' → Kc a' w') : wpOp P ops Q i Kc a w := by
  obtain ⟨r', c, h1, h2, h3⟩ := guardK_ok hk
  unfold wpOp
  rw [ho]
  simp only [h2.wanted hA.regs]
  cases c with
  | true =>
    rw [if_pos rfl]
    refine .inl ((bodyK_ok hc hT (h1.rel hA.regs) hA.heap h3).wp fun x ρ' h' v w' g1 g2 g3 g4 => ?_)
    obtain ⟨r2, e1, e2⟩ := putR_ok g1 ((h1.rel hA.regs).mono g3.sub) g4
    exact hK ρ' r2 h' _ w' e1 ⟨e2, g2, by cases o.dst <;> exact hA.calm⟩ g3
  | false =>
    rw [if_neg (by simp)]
    obtain ⟨r2, e1, e2⟩ := putR_ok (v := undef) h3 (h1.rel hA.regs) ⟨#[], rfl, trivial⟩
    exact hK ρ r2 h _ w e1 ⟨e2, hA.heap, by cases o.dst <;> exact hA.calm⟩ (Grow.refl _ _ _)
theorem evOps_ok {cl : Cl} {ops : Array Oper} {k : Tr d → Heap → Prop} {Q : Exit → Act → World → Prop} (hc : ClOk P cl) (hT : TTok P tt) {w0 : World} {ρ0 : Env} {h0 : Heap} : ∀ (l : List Oper) (i : Nat) (r : Tr d) (ρ : Env) (h : Heap) (a : Act) (w : World), (∀ j, l[j]? = ops[i + j]?) → At ρ nt r h a w → Grow ρ0 h0 w0 ρ h w →
    evOps cl tt nt ops.toList l r h k → (∀ ρ' r' h' a' w', k r' h' → At ρ' nt r' h' a' w' → Grow ρ0 h0 w0 ρ' h' w' → Q .normal a' w') → wpOps P ops Q (List.range' i l.length) a w
  | [], i, r, ρ, h, a, w, _, hA, hG, hk, hK => hK ρ r h a w hk hA hG
  | o :: l, i, r, ρ, h, a, w, hl, hA, hG, hk, hK => by
    rw [List.length_cons, List.range'_succ, wpOps_cons]
    have h0 : ops[i]? = some o := by simpa using (hl 0).symm
    refine stepK_ok hc hT h0 hA hk fun ρ' r' h' a' w' g1 g2 g3 => ?_
    exact evOps_ok hc hT l (i + 1) r' ρ' h' a' w' (fun j => by have := hl (j + 1); simpa [Nat.add_assoc, Nat.add_comm 1 j] using this) g2 (hG.trans g3) g1 hK
end
end Go.Eng

/- Code: what the evaluator says holds of the model's. -/
namespace Go.Eng
open Go
variable {d : Nat}
section
variable {P : Program} {tt : TT} {nt : Nat}
def Ex.to : Ex → Exit
  | .normal => .normal
  | .exit id => .exit id
  | .ret => .ret
/-- A meaning pt holds of what S says must hold. -/
def PtOk (nt n0 : Nat) (S : (Exit → Act → World → Prop) → Act → World → Prop) (pt : Pt d) : Prop := ∀ ρ0 h0 w0 ρ r h a w k Q, (∀ n x, ρ0 n = some x → n < n0) → Grow ρ0 h0 w0 ρ h w → At ρ nt r h a w → pt r h k →
  (∀ e ρ' r' h' a' w', k e r' h' → At ρ' nt r' h' a' w' → Grow ρ0 h0 w0 ρ' h' w' → Q (Ex.to e) a' w') → S Q a w
/-- In a loop, at a round's start. -/
def LoopIn (P : Program) (c : Code) (Q : Exit → Act → World → Prop) (a : Act) (w : World) : Prop := ∀ (b : Frame) (k : List Item) (cs : List Frame),
  ∃ e a' w', Q e a' w' ∧ Arrives P (lone (b.at a (.code c :: .inLoop c :: k)) cs w) b k cs e a' w'
section
variable {c : Code} {Q : Exit → Act → World → Prop} {a : Act} {w : World}
theorem loop_of_in (h : LoopIn P c Q a w) : (Code.loop c).wp P Q a w := fun b k cs =>
  let ⟨e, a', w', q, s⟩ := h b k cs
  ⟨e, a', w', q, .of_steps (.one step_loop) s⟩
theorem in_round (h : c.wp P (Exit.then (LoopIn P c Q) Q) a w) : LoopIn P c Q a w := by
  intro b k cs
  obtain ⟨e, a1, w1, hq, harr⟩ := h b (.inLoop c :: k) cs
  cases e with
  | normal =>
    obtain ⟨e2, a2, w2, hq2, harr2⟩ := hq b k cs
    exact ⟨e2, a2, w2, hq2, .of_steps (Steps.trans harr (.one step_inLoop)) harr2⟩
  | _ => exact ⟨_, a1, w1, hq, .pass (x := .inLoop c) rfl (fun _ _ => .inl (by simp)) harr⟩
theorem in_inv (I : Nat → Act → World → Prop) (round : ∀ n a w, I n a w → c.wp P (Exit.then (fun a' w' => ∃ m, m < n ∧ I m a' w') Q) a w) : ∀ n a w, I n a w → LoopIn P c Q a w := by
  intro n
  induction n using Nat.strongRecOn with
  | _ n ih =>
    intro a w hI
    refine in_round (wp_mono (round n a w hI) fun e a' w' hq => ?_)
    cases e with
    | normal => obtain ⟨m, h1, h2⟩ := hq; exact ih m h1 a' w' h2
    | _ => exact hq
end
def LpOk (P : Program) (nt n0 : Nat) (lp : Lp d) : Prop := ∀ c pt, PtOk nt n0 (c.wp P) pt → PtOk nt n0 (LoopIn P c) (lp pt)
theorem unroll_ok {n0 : Nat} {lp : Lp d} (hl : LpOk P nt n0 lp) {c : Code} {pt : Pt d} (hp : PtOk nt n0 (c.wp P) pt) : ∀ n, PtOk nt n0 (LoopIn P c) (unroll lp pt n)
  | 0 => hl c pt hp
  | n + 1 => fun ρ0 h0 w0 ρ r h a w k Q hb hG hA hk hK => in_round (hp ρ0 h0 w0 ρ r h a w _ _ hb hG hA hk fun e ρ' r' h' a' w' g1 g2 g3 => by
      cases e with
      | normal => exact unroll_ok hl hp n ρ0 h0 w0 ρ' r' h' a' w' k Q hb g3 g2 g1 hK
      | exit id => exact hK _ ρ' r' h' a' w' g1 g2 g3
      | ret => exact hK _ ρ' r' h' a' w' g1 g2 g3)
/-- The regions that draw their order: their plans hold. -/
def PlansOk (P : Program) (cl : Cl) (tt : TT) (nt d : Nat) (pl : Pl) : Code → Prop
  | .region id ops draw => draw = true → ∀ n0, PtOk (d := d) nt n0 ((Code.region id ops true).wp P) fun r h k => plK pl id fun p => evPlan cl tt nt ops.toList p r h fun r h => k .normal r h
  | .seq a b | .cond _ a b => PlansOk P cl tt nt d pl a ∧ PlansOk P cl tt nt d pl b
  | .block _ b | .loop b | .scope b => PlansOk P cl tt nt d pl b
  | _ => True
theorem evC_ok {n0 : Nat} {cl : Cl} {lp : List Nat → Lp d} {un : Nat → Nat} {pl : Pl} (hc : ClOk P cl) (hT : TTok P tt) (hl : ∀ a, LpOk P nt n0 (lp a)) : ∀ (c : Code) (n : Nat), PlansOk P cl tt nt d pl c → PtOk nt n0 (c.wp P) (evC cl tt nt lp un pl c n)
  | .skip, n, _ => fun ρ0 h0 w0 ρ r h a w k Q hb hG hA hk hK => wp_skip (hK _ ρ r h a w hk hA hG)
  | .label _, n, _ => fun ρ0 h0 w0 ρ r h a w k Q hb hG hA hk hK => wp_label (hK _ ρ r h a w hk hA hG)
  | .exit id, n, _ => fun ρ0 h0 w0 ρ r h a w k Q hb hG hA hk hK => wp_exit (hK _ ρ r h a w hk hA hG)
  | .ret, n, _ => fun ρ0 h0 w0 ρ r h a w k Q hb hG hA hk hK => wp_ret (hK _ ρ r h a w hk hA hG)
  | .region id ops draw, n, hp => fun ρ0 h0 w0 ρ r h a w k Q hb hG hA hk hK => by
    cases draw with
    | true => exact hp rfl n0 ρ0 h0 w0 ρ r h a w k Q hb hG hA hk hK
    | false =>
      refine wp_region ?_
      have := evOps_ok (P := P) (Q := Q) hc hT ops.toList 0 r ρ h a w (fun j => by simp) hA hG hk fun ρ' r' h' a' w' g1 g2 g3 => hK .normal ρ' r' h' a' w' g1 g2 g3
      simpa [List.range_eq_range'] using this
  | .seq x y, n, hp => fun ρ0 h0 w0 ρ r h a w k Q hb hG hA hk hK => wp_seq (evC_ok hc hT hl x n hp.1 ρ0 h0 w0 ρ r h a w _ _ hb hG hA hk fun e ρ' r' h' a' w' g1 g2 g3 => by
      cases e with
      | normal => exact evC_ok hc hT hl y n hp.2 ρ0 h0 w0 ρ' r' h' a' w' k Q hb g3 g2 g1 hK
      | exit id => exact hK _ ρ' r' h' a' w' g1 g2 g3
      | ret => exact hK _ ρ' r' h' a' w' g1 g2 g3)
  | .cond c x y, n, hp => fun ρ0 h0 w0 ρ r h a w k Q hb hG hA hk hK => by
    obtain ⟨z, h1, h2⟩ := opK_ok hk hA.regs
    obtain ⟨b, h3, h4⟩ := boolK_ok h1 h2
    rcases Cnd_ok h3 with ⟨rfl, h5⟩ | ⟨rfl, h5⟩
    · exact wp_cond_true h4 (evC_ok hc hT hl x n hp.1 ρ0 h0 w0 ρ r h a w k Q hb hG hA h5 hK)
    · exact wp_cond_false h4 (evC_ok hc hT hl y n hp.2 ρ0 h0 w0 ρ r h a w k Q hb hG hA h5 hK)
  | .block id b, n, hp => fun ρ0 h0 w0 ρ r h a w k Q hb hG hA hk hK => wp_block (evC_ok hc hT hl b (un id) hp ρ0 h0 w0 ρ r h a w _ _ hb hG hA hk fun e ρ' r' h' a' w' g1 g2 g3 => by
      cases e with
      | normal => exact hK _ ρ' r' h' a' w' g1 g2 g3
      | ret => exact hK _ ρ' r' h' a' w' g1 g2 g3
      | exit j =>
        simp only at g1
        split at g1
        · rename_i e
          have e := Nat.eq_of_beq_eq_true e
          show Exit.inBlock id Q (.exit j) a' w'
          simp only [Exit.inBlock, e, if_true]
          exact hK .normal ρ' r' h' a' w' g1 g2 g3
        · rename_i e
          have e : j ≠ id := fun h => by subst h; simp at e
          show Exit.inBlock id Q (.exit j) a' w'
          simp only [Exit.inBlock, e, if_false]
          exact hK (.exit j) ρ' r' h' a' w' g1 g2 g3)
  | .loop b, n, hp => fun ρ0 h0 w0 ρ r h a w k Q hb hG hA hk hK => loop_of_in (unroll_ok (hl _) (evC_ok hc hT hl b 0 hp) n ρ0 h0 w0 ρ r h a w k Q hb hG hA hk hK)
  | .scope b, n, hp => fun ρ0 h0 w0 ρ r h a w k Q hb hG hA hk hK => wp_scope_straight (evC_ok hc hT hl b n hp ρ0 h0 w0 ρ r h a w k _ hb hG hA hk fun e ρ' r' h' a' w' g1 g2 g3 => by
      have := hK e ρ' r' h' a' w' g1 g2 g3
      cases e <;> exact this)
  | .rangeFunc _ _ _ _, n, _ => fun _ _ _ _ _ _ _ _ _ _ _ _ _ hk _ => hk.elim
  | .goto _, n, _ => fun _ _ _ _ _ _ _ _ _ _ _ _ _ hk _ => hk.elim
  | .refuse _, n, _ => fun _ _ _ _ _ _ _ _ _ _ _ _ _ hk _ => hk.elim

/-! ### Loops -/
section
variable {ρ : Env} {g : Nat → Nat} {h h' : Heap} {w : World}
theorem den_ren {c : C} {v : Value} (hc : Den ρ (renC g c) v) : Den (fun i => ρ (g i)) c v := by
  cases c with
  | fn f caps =>
    obtain ⟨as, h1, h2⟩ := hc
    refine ⟨as, h1, ?_⟩
    clear h1
    induction caps generalizing as with
    | nil => cases as with
      | nil => trivial
      | cons _ _ => exact h2.elim
    | cons p l ih => cases as with
      | nil => exact h2.elim
      | cons a as => exact ⟨h2.1, ih as h2.2⟩
  | _ => exact hc
theorem all2_ren {α : Type} {p q : α → Value → Prop} {f : α → α} (hp : ∀ a v, p (f a) v → q a v) : ∀ {l : List α} {vs : List Value}, All2 p (l.map f) vs → All2 q l vs
  | [], [], _ => trivial
  | a :: l, v :: vs, h => ⟨hp _ _ h.1, all2_ren hp (l := l) h.2⟩
  | [], _ :: _, h => h.elim
  | _ :: _, [], h => h.elim
theorem cells_ren : ∀ l : List Seg, cells (l.map (renSeg g)) = (cells l).map (renC g)
  | [] => rfl
  | .c x :: l => by simp [cells, renSeg, cells_ren l]
  | .arr n f :: l => by simp [cells, renSeg, cells_ren l]
theorem denT_ren {x : T} {v : Value} (hx : DenT ρ (renT g x) v) : DenT (fun i => ρ (g i)) x v := by
  cases x with
  | one c => exact den_ren hx
  | agg l =>
    obtain ⟨vs, h1, h2⟩ := hx
    rw [cells_ren] at h2
    exact ⟨vs, h1, all2_ren (fun _ _ => den_ren) h2⟩
theorem leR_ok {x y : R} {v : Value} (hl : leR g x y) (hx : DenR ρ x v) : DenR (fun i => ρ (g i)) y v := by
  unfold leR at hl
  cases y with
  | junk => trivial
  | t y => subst hl; exact denT_ren hx
  | tup l =>
    subst hl
    obtain ⟨vs, h1, h2⟩ := hx
    exact ⟨vs, h1, all2_ren (fun _ _ => denT_ren) h2⟩
theorem leT_get : ∀ {d : Nat} {r r' : Tr d}, leT g d r r' → ∀ t, leR g (r.get d t) (r'.get d t)
  | 0, r, r', h, 0 => h
  | 0, r, r', h, _ + 1 => trivial
  | d + 1, (a, b), (a', b'), h, t => by
    rcases Nat.mod_two_eq_zero_or_one t with e | e
    · rw [Tr.get_even _ _ e, Tr.get_even _ _ e]; exact leT_get h.1 _
    · rw [Tr.get_odd _ _ e, Tr.get_odd _ _ e]; exact leT_get h.2 _
theorem leT_ok {r r' : Tr d} {tm : Array Value} (hl : leT g d r r') (hr : RelR ρ nt r tm) : RelR (fun i => ρ (g i)) nt r' tm := ⟨hr.1, fun t => leR_ok (leT_get hl t) (hr.2 t)⟩
theorem leSegs_ok : ∀ {l m : List Seg} {vs : List Value}, leSegs g l m → All2 (Den ρ) (cells l) vs → All2 (Den fun i => ρ (g i)) (cells m) vs
  | [], [], [], _, _ => trivial
  | [], [], _ :: _, _, h => h.elim
  | .c x :: l, .c y :: m, v :: vs, hl, h => ⟨den_ren (by rw [← hl.1]; exact h.1), leSegs_ok hl.2 h.2⟩
  | .c _ :: _, .c _ :: _, [], _, h => h.elim
  | .arr n f :: l, .arr k f' :: m, vs, hl, h => by
    obtain ⟨⟨rfl, hf⟩, hl⟩ := hl
    have e : (List.range n).map f = ((List.range n).map f').map (renC g) := by
      rw [List.map_map]
      exact List.map_congr_left fun i hi => hf i (by simpa using hi)
    simp only [cells] at h ⊢
    rw [e] at h
    have h1 := h.take n
    have h2 := h.drop n
    rw [List.take_left' (by simp)] at h1
    rw [List.drop_left' (by simp)] at h2
    rw [← List.take_append_drop n vs]
    exact (all2_ren (fun _ _ => den_ren) h1).append (leSegs_ok hl h2)
  | [], _ :: _, _, hl, _ => hl.elim
  | .c _ :: _, [], _, hl, _ => hl.elim
  | .arr _ _ :: _, [], _, hl, _ => hl.elim
  | .c _ :: _, .arr _ _ :: _, _, hl, _ => hl.1.elim
  | .arr _ _ :: _, .c _ :: _, _, hl, _ => hl.1.elim
theorem leH_get : ∀ {l : List Nat} {m : Heap}, leH g h l m → l.length = m.length ∧ ∀ (i : Nat) (e : HE), m[i]? = some e → e ≠ .dead → ∃ (j : Nat) (x : HE), l[i]? = some j ∧ h[j]? = some x ∧ leHE g x e
  | [], [], _ => ⟨rfl, fun i e he => by simp at he⟩
  | j :: l, e :: m, hl => by
    obtain ⟨h1, h2⟩ := leH_get hl.2
    refine ⟨by simp [h1], fun i e' he hd => ?_⟩
    cases i with
    | zero =>
      simp at he; subst he
      have key : ∀ {h : Heap} {j : Nat} {k : HE → Prop}, hentK h j k → ∃ x, h[j]? = some x ∧ k x := fun {h} => by
        induction h with
        | nil => intro j k hk; exact hk.elim
        | cons a h ih => intro j k hk; cases j with
          | zero => exact ⟨a, rfl, hk⟩
          | succ j => simpa using ih (j := j) hk
      have hl1 := hl.1
      cases e with
      | dead => exact absurd rfl hd
      | fresh => obtain ⟨x, k1, k2⟩ := key hl1; exact ⟨j, x, rfl, k1, k2⟩
      | ob o => obtain ⟨x, k1, k2⟩ := key hl1; exact ⟨j, x, rfl, k1, k2⟩
    | succ i => simpa using h2 i e' (by simpa using he) hd
  | [], _ :: _, hl => hl.elim
  | _ :: _, [], hl => hl.elim
theorem leHE_ob {x : HE} {ob : Ob} (hl : leHE g x (.ob ob)) : ∃ ob0, x = .ob ob0 ∧ (ob.owned → ob0.owned) ∧ (ob.still → ob0.still ∨ ∀ (ρ : Env) (w : World) (j : Nat), RelOb ρ w j ob0 → ob0.owned) ∧ ∀ {ρ : Env} {w : World} {n j : Nat} {ρ' : Env}, (∀ i, ρ' i = ρ (g i)) → ρ' n = ρ j → RelOb ρ w j ob0 → RelOb ρ' w n ob := by
  have el : ∀ {ρ ρ' : Env} {w : World} {b o sz n : Nat} {f f' : Nat → List C}, (∀ i, ρ' i = ρ (g i)) → (∀ i, i < n → f i = (f' i).map (renC g)) → Elems ρ w b o sz n f → Elems ρ' w b o sz n f' := fun {ρ ρ' w b o sz n f f'} hr hf he i hi => by
    obtain ⟨vs, h1, h2, h3⟩ := he i hi
    rw [hf i hi] at h1
    have : ρ' = fun i => ρ (g i) := funext hr
    subst this
    exact ⟨vs, all2_ren (fun _ _ => den_ren) h1, h2, h3⟩
  cases x with
  | fresh => cases ob <;> exact hl.elim
  | dead => cases ob <;> exact hl.elim
  | ob ob0 =>
    refine ⟨ob0, rfl, ?_⟩
    cases ob0 <;> cases ob <;> first | exact hl.elim | skip
    · simp only [leHE] at hl
      subst hl
      refine ⟨id, (fun h => .inl h), fun {ρ w n j ρ'} hr hn h => ?_⟩
      obtain ⟨b, o, h1, h2, h3⟩ := h
      exact ⟨b, o, hn.trans h1, h2, h3⟩
    · refine ⟨id, (fun h => h.elim), fun {ρ w n j ρ'} hr hn h => ?_⟩
      obtain ⟨b, E, fz, arr, h1, h2, h3, h4⟩ := h
      have : ρ' = fun i => ρ (g i) := funext hr
      refine ⟨b, E, fz, arr, hn.trans h1, h2, h3, ?_⟩
      rw [this]; exact leSegs_ok hl h4
    · simp only [leHE] at hl
      subst hl
      refine ⟨fun h => h.elim, (fun hk => (hk rfl).elim), fun {ρ w n j ρ'} hr hn h => ?_⟩
      obtain ⟨b, _, _, _, h1, _⟩ := h
      exact ⟨b, 0, hn.trans h1, fun i hi => absurd hi (by omega), fun hk => absurd rfl hk⟩
    · obtain ⟨rfl, rfl, rfl, hf⟩ := hl
      refine ⟨id, (fun h => h.elim), fun {ρ w n j ρ'} hr hn h => ?_⟩
      obtain ⟨⟨x, h1⟩, h2, h3⟩ := h
      refine ⟨⟨x, hn.trans h1⟩, h2, fun ht => ?_⟩
      obtain ⟨b, o, E, fz, arr, k1, k2, k3, k4, k5⟩ := h3 ht
      exact ⟨b, o, E, fz, arr, hn.trans k1, k2, k3, k4, el hr hf k5⟩
    · rename_i sz k f tot sz' k' f'
      obtain ⟨hsz, hle, hf⟩ := hl
      refine ⟨fun h => h.elim, (fun hk => .inr fun ρ w j h => by obtain ⟨_, h2, _⟩ := h; have hk : k' ≠ 0 := hk; exact fun e => hk (by omega)), fun {ρ w n j ρ'} hr hn h => ?_⟩
      obtain ⟨⟨x, h1⟩, h2, h3⟩ := h
      by_cases hk0 : k' = 0
      · exact ⟨x.1, x.2, hn.trans h1, fun i hi => absurd hi (by omega), fun hk => absurd hk0 hk⟩
      · obtain rfl : sz = sz' := hsz.resolve_right hk0
        obtain ⟨b, o, E, fz, arr, k1, k2, k3, k4, k5⟩ := h3 (by omega)
        refine ⟨b, o, hn.trans k1, el hr hf (fun i hi => k5 i (by omega)), fun _ => ?_⟩
        rcases Nat.lt_or_ge b w.heap.size with hlt | hge
        · exact hlt
        · rw [Array.getElem?_eq_none hge] at k2; cases k2
    · rename_i sz k f sz' k' f'
      obtain ⟨hsz, hle, hf⟩ := hl
      refine ⟨id, (fun hk => .inl (by have hk : k' ≠ 0 := hk; show k ≠ 0; omega)), fun {ρ w n j ρ'} hr hn h => ?_⟩
      obtain ⟨b, o, h1, h2, h3⟩ := h
      by_cases hk0 : k' = 0
      · exact ⟨b, o, hn.trans h1, fun i hi => absurd hi (by omega), fun hk => absurd hk0 hk⟩
      · obtain rfl : sz = sz' := hsz.resolve_right hk0
        exact ⟨b, o, hn.trans h1, el hr hf (fun i hi => h2 i (by omega)), fun _ => h3 (by omega)⟩
theorem firstB_get : ∀ {n i : Nat} {l : List Nat}, firstB n i l = true → ∀ j, j < n → l[j]? = some (i + j)
  | n + 1, i, x :: l, h, j, hj => by
    simp only [firstB, Bool.and_eq_true] at h
    cases j with
    | zero => simp [Nat.eq_of_beq_eq_true h.1]
    | succ j =>
      have := firstB_get (n := n) (i := i + 1) h.2 j (by omega)
      simpa [Nat.add_assoc, Nat.add_comm 1 j] using this
  | _ + 1, _, [], h, _, _ => by cases h
theorem nodupB_ok : ∀ {l : List Nat}, nodupB l = true → l.Nodup
  | [], _ => .nil
  | x :: l, h => by
    simp only [nodupB, Bool.and_eq_true, Bool.not_eq_true'] at h
    exact List.nodup_cons.2 ⟨by simpa using h.1, nodupB_ok h.2⟩
theorem le_ok {n0 : Nat} {r r' : Tr d} {ρ0 : Env} {h0 : Heap} {w0 : World} {a : Act} (hb : ∀ n x, ρ0 n = some x → n < n0) (hle : Le n0 r h r' h') (hA : At ρ nt r h a w) (hG : Grow ρ0 h0 w0 ρ h w) : ∃ ρ', At ρ' nt r' h' a w ∧ Grow ρ0 h0 w0 ρ' h' w := by
  obtain ⟨⟨l, hB, hH, hT⟩⟩ := hle
  simp only [Bool.and_eq_true] at hB
  obtain ⟨hlen, hget⟩ := leH_get hH
  have hr := hA.heap
  have at_ : ∀ {n j}, l[n]? = some j → sig h l n = j := fun {n j} e => by simp [sig, e]
  have own : ∀ n b, Owns (fun i => ρ (sig h l i)) h' n b → ∃ j, l[n]? = some j ∧ Owns ρ h j b := fun n b ⟨ob, o, h1, h2, h3⟩ => by
    obtain ⟨j, x, e1, e2, e3⟩ := hget n _ h1 (by simp)
    obtain ⟨ob0, rfl, k1, _⟩ := leHE_ob e3
    exact ⟨j, e1, ob0, o, e2, k1 h2, by simpa [at_ e1] using h3⟩
  refine ⟨fun i => ρ (sig h l i), ⟨leT_ok hT hA.regs, ⟨fun n hn => ?_, fun n ob hn => ?_, fun n m b hn hm => ?_, fun n m b o ob hn hm hk hc => ?_⟩, hA.calm⟩, ⟨fun n x hx => ?_, hG.os, hG.tape, hG.output, hG.frozen, hG.size, hG.keep, fun n b ho => ?_⟩⟩
  · rcases hn with hn | hn
    · obtain ⟨j, x, e1, e2, e3⟩ := hget n _ hn (by simp)
      show ρ (sig h l n) = none
      rw [at_ e1]
      refine hr.fresh j (.inl ?_)
      cases x with
      | fresh => exact e2
      | _ => exact e3.elim
    · show ρ (sig h l n) = none
      have : l[n]? = none := List.getElem?_eq_none (by omega)
      simp only [sig, this]
      exact hr.fresh _ (.inr (Nat.le_refl _))
  · obtain ⟨j, x, e1, e2, e3⟩ := hget n _ hn (by simp)
    obtain ⟨ob0, rfl, _, _, k3⟩ := leHE_ob e3
    exact k3 (fun _ => rfl) (by simp [at_ e1]) (hr.obs j ob0 e2)
  · obtain ⟨j1, e1, o1⟩ := own n b hn
    obtain ⟨j2, e2, o2⟩ := own m b hm
    have := hr.inj j1 j2 b o1 o2
    subst this
    have hnl : n < l.length := (List.getElem?_eq_some_iff.1 e1).1
    exact (List.getElem?_inj hnl (nodupB_ok hB.2)).1 (e1.trans e2.symm)
  · obtain ⟨j1, e1, o1⟩ := own n b hn
    obtain ⟨j, x, q1, q2, q3⟩ := hget m _ hm (by simp)
    obtain ⟨ob0, rfl, _, k2, _⟩ := leHE_ob q3
    rcases k2 hk with hs | hown
    · exact hr.apart j1 j b o _ o1 q2 hs (by simpa [at_ q1] using hc)
    · have o2 : Owns ρ h j b := ⟨ob0, o, q2, hown _ _ _ (hr.obs j ob0 q2), by simpa [at_ q1] using hc⟩
      have e := hr.inj j1 j b o1 o2
      subst e
      have hnl : n < l.length := (List.getElem?_eq_some_iff.1 e1).1
      have enm := (List.getElem?_inj hnl (nodupB_ok hB.2)).1 (e1.trans q1.symm)
      subst enm
      obtain ⟨ob1, _, w1, w2, _⟩ := hn
      rw [hm] at w1
      injection w1 with w1; injection w1 with w1
      subst w1
      exact Ob.owned_still w2 hk
  · have := firstB_get hB.1 n (hb n x hx)
    simp only [Nat.zero_add] at this
    show ρ (sig h l n) = some x
    rw [at_ this]
    exact hG.sub n x hx
  · obtain ⟨j, _, o1⟩ := own n b ho
    exact hG.made j b o1
end
theorem lpAsk_ok {n0 : Nat} : ∀ asg, LpOk P nt n0 ((lpAsk n0 : List Nat → Lp d) asg) := fun asg c pt hp ρ0 h0 w0 ρ r h a w k Q hb hG hA hk hK => by
  obtain ⟨⟨S, I, m, s, hle, hround⟩⟩ := hk
  obtain ⟨ρ1, hA1, hG1⟩ := le_ok hb hle hA hG
  refine in_inv (fun n a w => ∃ s ρ, m s = n ∧ At ρ nt (I s).1 (I s).2 a w ∧ Grow ρ0 h0 w0 ρ (I s).2 w) ?_ (m s) a w ⟨s, ρ1, rfl, hA1, hG1⟩
  rintro n a w ⟨s, ρ, rfl, hA, hG⟩
  refine hp ρ0 h0 w0 ρ _ _ a w _ _ hb hG hA (hround s) fun e ρ' r' h' a' w' g1 g2 g3 => ?_
  cases e with
  | normal =>
    obtain ⟨s', hlt, hle⟩ := g1
    obtain ⟨ρ2, hA2, hG2⟩ := le_ok hb hle g2 g3
    exact ⟨m s', hlt, s', ρ2, rfl, hA2, hG2⟩
  | exit id => exact hK (.exit id) ρ' r' h' a' w' g1 g2 g3
  | ret => exact hK .ret ρ' r' h' a' w' g1 g2 g3
/-! ### A function -/
theorem den_ptr {ρ : Env} {h : Heap} {t : TypeId} {c : C} {k : T → Prop} (hk : loadK tt h t c k) (hT : TTok P tt) {v : Value} (hc : Den ρ c v) : ∃ ad, v = .pointer (some ad) := by
  obtain ⟨ti, _, hk⟩ := tiK_ok hT hk
  split at hk
  · obtain ⟨b, o, _, rfl⟩ := hc; exact ⟨_, rfl⟩
  · obtain ⟨b, o, _, rfl⟩ := hc; exact ⟨_, rfl⟩
  · exact hk.elim
def resM (tm : Array Value) : ResultVar → Sem Value
  | .tmp t => pure (tm.getD t undef)
  | .cell a t => do loadVar t (← asAddr (tm.getD a undef))
theorem resK_ok {ρ : Env} {r : Tr d} {h : Heap} {tm : Array Value} {w : World} (hT : TTok P tt) (hr : RelR ρ nt r tm) (hh : Rel ρ h w) : ∀ {l : List ResultVar} {k : List R → Prop}, resK tt r h l k →
    ∃ xs vs, k xs ∧ All2 (DenR ρ) xs vs ∧ (l.mapM (resM tm)).run P w = .ok vs w
  | [], k, hk => ⟨[], [], hk, trivial, rfl⟩
  | .tmp t :: l, k, hk => by
    simp only [resK, Tr.getK_eq] at hk
    obtain ⟨xs, vs, h1, h2, h3⟩ := resK_ok hT hr hh hk
    refine ⟨_, _ :: vs, h1, ⟨hr.2 t, h2⟩, ?_⟩
    simp only [List.mapM_cons, resM, pure_bind, Sem.run_bind, h3, Result.andThen_ok]; rfl
  | .cell ad t :: l, k, hk => by
    simp only [resK, Tr.getK_eq] at hk
    obtain ⟨c, h1, h2⟩ := cK_ok hk (hr.2 ad)
    obtain ⟨p, e⟩ := den_ptr h1 hT h2
    obtain ⟨x, u, h3, h4, h5⟩ := loadK_ok (P := P) hT hh h1 h2
    obtain ⟨xs, vs, k1, k2, k3⟩ := resK_ok hT hr hh h3
    refine ⟨_, u :: vs, k1, ⟨h5, k2⟩, ?_⟩
    rw [e] at h4
    simp only [Instr.loadAt, Instr.sureAddr, pure_bind] at h4
    simp only [List.mapM_cons, resM, e, asAddr, pure_bind, Sem.run_bind, h4, k3, Result.andThen_ok]; rfl
theorem tupK_ok {ρ : Env} : ∀ {xs : List R} {k : List T → Prop} {vs : List Value}, tupK xs k → All2 (DenR ρ) xs vs → ∃ ts, k ts ∧ All2 (DenT ρ) ts vs
  | [], k, [], hk, _ => ⟨[], hk, trivial⟩
  | .t x :: l, k, v :: vs, hk, hv => by
    obtain ⟨ts, h1, h2⟩ := tupK_ok (xs := l) hk hv.2
    exact ⟨_, h1, hv.1, h2⟩
  | .junk :: _, _, _, hk, _ => hk.elim
  | .tup _ :: _, _, _, hk, _ => hk.elim
  | [], _, _ :: _, _, hv => hv.elim
  | .t _ :: _, _, [], _, hv => hv.elim
theorem resultK_ok {ρ : Env} {r : Tr d} {h : Heap} {tm : Array Value} {w : World} (hT : TTok P tt) (hr : RelR ρ nt r tm) (hh : Rel ρ h w) {fn : Func} {k : R → Prop} (hk : resultK tt r h fn.results.toList k) :
    ∃ x v, k x ∧ DenR ρ x v ∧ (results fn tm).run P w = .ok v w := by
  obtain ⟨xs, vs, h1, h2, h3⟩ := resK_ok (P := P) hT hr hh hk
  have h4 : (results fn tm).run P w = .ok (if h : vs.toArray.size = 1 then vs.toArray[0] else .tuple vs.toArray) w := by
    have e : results fn tm = (fn.results.mapM (resM tm) >>= fun vs => pure (if h : vs.size = 1 then vs[0] else Value.tuple vs)) := by
      unfold results
      congr 1
    rw [e]
    rw [Array.mapM_eq_mapM_toList]
    simp only [Sem.run_bind, map_eq_pure_bind, h3, Result.andThen_ok]
    rfl
  split at h1
  · match vs, h2, h4 with
    | [v], h2, h4 => exact ⟨_, v, h1, h2.1, h4⟩
    | [], h2, _ => exact h2.elim
    | _ :: _ :: _, h2, _ => exact h2.2.elim
  · rename_i hne
    obtain ⟨ts, k1, k2⟩ := tupK_ok h1 h2
    refine ⟨_, _, k1, ⟨_, rfl, by simpa using k2⟩, ?_⟩
    rw [h4, dif_neg]
    intro e
    have hl := h2.length
    match xs, hne, hl with
    | [x], hne, _ => exact hne x rfl
    | [], _, hl => simp at e hl; omega
    | _ :: _ :: _, _, hl => simp at e hl; omega
theorem argsK_ok {ρ : Env} : ∀ {xs : List R} {vs : List Value} {n : Nat} {r : Tr d} {tm : Array Value} {k : Tr d → Prop}, argsK xs n r k → All2 (DenR ρ) xs vs → n + xs.length ≤ nt → RelR ρ nt r tm →
    ∃ r', k r' ∧ RelR ρ nt r' ((List.range xs.length).foldl (fun tm i => tm.setIfInBounds (n + i) (vs.getD i undef)) tm)
  | [], [], n, r, tm, k, hk, _, _, hr => ⟨r, hk, hr⟩
  | x :: xs, v :: vs, n, r, tm, k, hk, hv, hn, hr => by
    obtain ⟨h1, h2⟩ := (Tr.setK_iff d r n x _).1 hk
    simp only [List.length_cons] at hn
    obtain ⟨r', k1, k2⟩ := argsK_ok (xs := xs) (vs := vs) h2 hv.2 (by omega) (hr.set h1 (by omega) hv.1)
    refine ⟨r', k1, ?_⟩
    rw [List.length_cons, List.range_succ_eq_map, List.foldl_cons, List.foldl_map]
    simpa [Nat.add_assoc, Nat.add_comm 1] using k2
  | [], _ :: _, _, _, _, _, _, hv, _, _ => hv.elim
  | _ :: _, [], _, _, _, _, _, hv, _, _ => hv.elim
theorem foldl_sets (vs : List Value) : ∀ (m : Nat) (tm : Array Value), ((List.range m).foldl (fun tm i => tm.setIfInBounds i (vs.getD i undef)) tm).size = tm.size ∧
    ∀ j, ((List.range m).foldl (fun tm i => tm.setIfInBounds i (vs.getD i undef)) tm)[j]? = if j < m ∧ j < tm.size then some (vs.getD j undef) else tm[j]?
  | 0, tm => ⟨rfl, fun j => by simp⟩
  | m + 1, tm => by
    obtain ⟨h1, h2⟩ := foldl_sets vs m tm
    rw [List.range_succ, List.foldl_append]
    simp only [List.foldl_cons, List.foldl_nil, Array.size_setIfInBounds]
    refine ⟨h1, fun j => ?_⟩
    rw [Array.getElem?_setIfInBounds]
    split
    · rename_i e; subst e
      rw [h1]
      split
      · rw [if_pos ⟨by omega, by assumption⟩]
      · rw [if_neg (by omega), Array.getElem?_eq_none (by omega)]
    · rename_i hne
      rw [h2 j]
      by_cases c : j < m ∧ j < tm.size
      · rw [if_pos c, if_pos ⟨by omega, c.2⟩]
      · rw [if_neg c, if_neg (by omega)]
theorem args_tmps {vs : List Value} (hle : vs.length ≤ nt) : (List.range vs.length).foldl (fun tm i => tm.setIfInBounds (0 + i) (vs.getD i undef)) (Array.replicate nt undef) = vs.toArray ++ Array.replicate (nt - vs.toArray.size) undef := by
  obtain ⟨h1, h2⟩ := foldl_sets vs vs.length (Array.replicate nt undef)
  simp only [Nat.zero_add]
  apply Array.ext
  · rw [h1]; simp; omega
  · intro j hj1 hj2
    have := h2 j
    rw [Array.getElem?_eq_getElem hj1] at this
    have hjn : j < nt := by rw [h1] at hj1; simpa using hj1
    apply Option.some.inj
    rw [this, ← Array.getElem?_eq_getElem hj2]
    by_cases c : j < vs.length
    · rw [if_pos ⟨c, by simpa using hjn⟩, Array.getElem?_append_left (by simpa using c)]
      simp [c]
    · rw [if_neg (by omega), Array.getElem?_append_right (by simpa using c)]
      rw [Array.getElem?_eq_getElem (by simpa using hjn), Array.getElem?_eq_getElem (by simp; omega)]
      simp
/-- A function of the program, as the walk takes it. -/
structure FnOk (P : Program) (cl : Cl) (tt : TT) (d : Nat) (f : FuncId) (fn : Fn) : Prop where
  at_ : ∃ F, P.funcs[f]? = some F ∧ F.body = some fn.code ∧ (F.name == "runtime.NumGoroutine") = false ∧ F.ntmps = fn.nt ∧ F.results.toList = fn.res
  plans : PlansOk P cl tt fn.nt d fn.pl fn.code
theorem evF_ok {cl : Cl} {f : FuncId} {fn : Fn} (hc : ClOk P cl) (hT : TTok P tt) (hf : FnOk P cl tt d f fn) {xs : List R} {h : Heap} {K : R → Heap → Prop} (hk : evF d cl tt fn xs h K) :
    Enters P f ∧ ∀ ρ w vs, Rel ρ h w → All2 (DenR ρ) xs vs → Calls P f vs.toArray w fun e w' => ∃ v, e = .returned v ∧ Post ρ h w K v w' := by
  obtain ⟨⟨F, f1, f2, f3, f4, f5⟩, hp⟩ := hf
  refine ⟨⟨F, f1, by rw [f2]; rfl, f3⟩, fun ρ w vs hh hv => ?_⟩
  unfold evF at hk
  split at hk
  · rename_i hle
    have hle : xs.length ≤ fn.nt := Nat.le_of_ble_eq_true hle
    have hlen := hv.length
    replace hk := hlenK_ok hk
    have hb : ∀ n x, ρ n = some x → n < 0 + h.length := fun n x hx => by
      rcases Nat.lt_or_ge n (0 + h.length) with c | c
      · exact c
      · rw [hh.fresh n (.inr (by omega))] at hx; cases hx
    obtain ⟨r, h1, h2⟩ := argsK_ok (ρ := ρ) (nt := fn.nt) (tm := Array.replicate fn.nt undef) hk hv (by omega) ⟨by simp, fun i => by rw [Tr.get_empty]; trivial⟩
    rw [hlen, args_tmps (by omega)] at h2
    refine calls_of_wp f1 f2 ?_
    refine evC_ok hc hT lpAsk_ok fn.code 0 hp ρ h w ρ r h _ w _ _ hb (Grow.refl _ _ _) ⟨by rw [f4]; exact h2, hh, rfl⟩ h1 fun e ρ' r' h' a' w' g1 g2 g3 => ?_
    have fin : resultK tt r' h' fn.res (fun x => K x h') → a'.defers = [] ∧ ∃ v, (results F a'.tmps).run P w' = .ok v w' ∧ ∃ u, (Ending.returned v) = .returned u ∧ Post ρ h w K u w' := fun g => by
      rw [← f5] at g
      obtain ⟨x, v, k1, k2, k3⟩ := resultK_ok (P := P) hT g2.regs g2.heap g
      exact ⟨g2.calm, v, k3, v, rfl, x, ρ', h', k1, g2.heap, g3, k2⟩
    cases e with
    | normal => exact fin g1
    | ret => exact fin g1
    | exit id => exact g1.elim
  · exact hk.elim
/-- The table of functions that are inlined. -/
theorem clGo_ok {cl : Cl} (hc : ClOk P cl) (hT : TTok P tt) {f : FuncId} {xs : List R} {h : Heap} {K : R → Heap → Prop} : ∀ {tab : List (FuncId × Fn)}, (∀ g fn, (g, fn) ∈ tab → FnOk P cl tt d g fn) → clGo d tt cl f xs h K tab →
    Enters P f ∧ ∀ ρ w vs, Rel ρ h w → All2 (DenR ρ) xs vs → Calls P f vs.toArray w fun e w' => ∃ v, e = .returned v ∧ Post ρ h w K v w'
  | [], _, hk => hk.elim
  | (g, fn) :: tab, ht, hk => by
    unfold clGo at hk
    split at hk
    · rename_i e
      have e := Nat.eq_of_beq_eq_true e
      subst e
      exact evF_ok hc hT (ht _ _ (by simp)) hk
    · exact clGo_ok hc hT (fun g fn hm => ht g fn (by simp [hm])) hk
theorem clRun_ok (hT : TTok P tt) {tab : List (FuncId × Fn)} (ht : ∀ cl, ClOk P cl → ∀ g fn, (g, fn) ∈ tab → FnOk P cl tt d g fn) : ∀ n, ClOk P (clRun d tt tab n)
  | 0 => fun _ _ _ _ _ h => h.elim
  | n + 1 => fun _ _ _ _ _ h => clGo_ok (clRun_ok hT ht n) hT (ht _ (clRun_ok hT ht n)) h
end
end Go.Eng
