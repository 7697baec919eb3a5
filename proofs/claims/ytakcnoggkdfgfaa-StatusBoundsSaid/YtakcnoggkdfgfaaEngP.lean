/- How the abstract heap follows the world. -/
import Derived.Test.YtakcnoggkdfgfaaEngO
namespace Go.Eng
open Go
section
variable {ρ ρ' : Env} {h h' : Heap} {w w' : World}
def upd (ρ : Env) (n : Nat) (x : Nat × Nat) : Env := fun m => if m = n then some x else ρ m
theorem upd_same (ρ : Env) (n : Nat) (x : Nat × Nat) : upd ρ n x n = some x := by simp [upd]
theorem upd_sub {n : Nat} {x : Nat × Nat} (h : ρ n = none) : Sub ρ (upd ρ n x) := fun m y hm => by
  unfold upd
  split
  · rename_i e; subst e; rw [h] at hm; cases hm
  · exact hm
/-- Does a reading of it look at its block? -/
def Ob.looks : Ob → Prop
  | .own _ => True
  | .row _ _ _ tot => tot ≠ 0
  | .ro _ k _ => k ≠ 0
theorem Elems.keep {b o sz n : Nat} {f : Nat → List C} (hs : Sub ρ ρ') (h : Elems ρ w b o sz n f) (hk : n ≠ 0 → w'.heap[b]? = w.heap[b]?) : Elems ρ' w' b o sz n f := fun i hi => by
  obtain ⟨vs, h1, h2, h3⟩ := h i hi
  refine ⟨vs, h1.imp fun _ _ => Den.mono hs, h2, fun j v hj => ?_⟩
  have := h3 j v hj
  simp only [World.cell?] at this ⊢
  rw [hk (by omega)]; exact this
theorem RelOb.keep {m : Nat} {ob : Ob} (hs : Sub ρ ρ') (h : RelOb ρ w m ob) (hsz : w.heap.size ≤ w'.heap.size) (hk : ∀ b o, ρ m = some (b, o) → ob.looks → w'.heap[b]? = w.heap[b]?) : RelOb ρ' w' m ob := by
  cases ob with
  | own l =>
    obtain ⟨b, E, fz, arr, h1, h2, h3, h4⟩ := h
    exact ⟨b, E, fz, arr, hs _ _ h1, by rw [hk _ _ h1 trivial]; exact h2, h3, h4.imp fun _ _ => Den.mono hs⟩
  | row sz k f tot =>
    obtain ⟨⟨x, hx⟩, h0, h⟩ := h
    refine ⟨⟨x, hs _ _ hx⟩, h0, fun ht => ?_⟩
    obtain ⟨b, o, E, fz, arr, h1, h2, h3, h4, h5⟩ := h ht
    have e := hk _ _ h1 ht
    exact ⟨b, o, E, fz, arr, hs _ _ h1, by rw [e]; exact h2, h3, h4, h5.keep hs fun _ => e⟩
  | ro sz k f =>
    obtain ⟨b, o, h1, h2, h3⟩ := h
    exact ⟨b, o, hs _ _ h1, h2.keep hs fun hk' => hk _ _ h1 hk', fun hk' => Nat.lt_of_lt_of_le (h3 hk') hsz⟩
/-- Nobody in the heap leads to block c. -/
def Free (ρ : Env) (h : Heap) (c : Nat) : Prop := ∀ m ob o, h[m]? = some (.ob ob) → ob.looks → ρ m ≠ some (c, o)
theorem Rel.looks_lt (hr : Rel ρ h w) {m : Nat} {ob : Ob} {b o : Nat} (hm : h[m]? = some (.ob ob)) (hl : ob.looks) (hb : ρ m = some (b, o)) : b < w.heap.size := by
  have := hr.obs m ob hm
  cases ob with
  | own l => exact hr.owns_lt ⟨_, _, hm, trivial, hb⟩
  | row sz k f tot => exact hr.owns_lt ⟨_, _, hm, hl, hb⟩
  | ro sz k f => obtain ⟨b', o', h1, h2, h3⟩ := this; rw [hb] at h1; injection h1 with h1; injection h1 with h1 _; subst h1; exact h3 hl
theorem Rel.free_new (hr : Rel ρ h w) : Free ρ h w.heap.size := fun m ob o hm hl he => by
  have := hr.looks_lt hm hl he; omega
/-- A new name, for a block that nobody leads to. -/
theorem Rel.add (hr : Rel ρ h w) {nm c o : Nat} {ob : Ob} (hn : ρ nm = none) (hme : ob.mine) (h1 : h'[nm]? = some (.ob ob)) (h2 : ∀ m, m ≠ nm → h'[m]? = h[m]?) (hf : Free ρ h c)
    (hsz : w.heap.size ≤ w'.heap.size) (hk : ∀ b, b < w.heap.size → b ≠ c → w'.heap[b]? = w.heap[b]?) (ho : RelOb (upd ρ nm (c, o)) w' nm ob) : Rel (upd ρ nm (c, o)) h' w' := by
  have hs : Sub ρ (upd ρ nm (c, o)) := upd_sub hn
  have hne : ∀ m, m ≠ nm → upd ρ nm (c, o) m = ρ m := fun m hm => by simp [upd, hm]
  have own : ∀ m b, m ≠ nm → Owns (upd ρ nm (c, o)) h' m b → Owns ρ h m b := fun m b hm ⟨ob', o', g1, g2, g3⟩ => ⟨ob', o', by rw [← h2 m hm]; exact g1, g2, by rw [← hne m hm]; exact g3⟩
  have ownn : ∀ b, Owns (upd ρ nm (c, o)) h' nm b → b = c := fun b ⟨ob', o', g1, g2, g3⟩ => by rw [upd_same] at g3; injection g3 with g3; injection g3 with g3; exact g3.symm
  have notc : ∀ m, ¬ Owns ρ h m c := fun m ⟨ob', o', g1, g2, g3⟩ => hf m ob' o' g1 (by cases ob' <;> first | exact g2 | exact g2.elim) g3
  constructor
  · intro n hnf
    have hnn : n ≠ nm := by
      rintro rfl
      rcases hnf with e | e
      · rw [h1] at e; cases e
      · rw [List.getElem?_eq_none e] at h1; cases h1
    rw [hne n hnn]
    refine hr.fresh n ?_
    rcases hnf with e | e
    · exact .inl (by rw [← h2 n hnn]; exact e)
    · right
      have := h2 n hnn
      rw [List.getElem?_eq_none e] at this
      exact List.getElem?_eq_none_iff.1 this.symm
  · intro m ob' hm
    by_cases e : m = nm
    · subst e; rw [h1] at hm; injection hm with hm; injection hm with hm; subst hm; exact ho
    · rw [h2 m e] at hm
      exact (hr.obs m ob' hm).keep hs hsz fun b o' hb hl => hk b (hr.looks_lt hm hl hb) (by rintro rfl; exact hf m ob' o' hm hl hb)
  · intro n m b hn' hm'
    by_cases e1 : n = nm <;> by_cases e2 : m = nm
    · rw [e1, e2]
    · subst e1; have := ownn b hn'; subst this; exact (notc m (own m _ e2 hm')).elim
    · subst e2; have := ownn b hm'; subst this; exact (notc n (own n _ e1 hn')).elim
    · exact hr.inj n m b (own n b e1 hn') (own m b e2 hm')
  · intro n m b o' sz k f hn' hm' hk' hb
    have e2 : m ≠ nm := by rintro rfl; rw [h1] at hm'; injection hm' with hm'; injection hm' with hm'; subst hm'; exact hme
    rw [h2 m e2] at hm'
    rw [hne m e2] at hb
    by_cases e1 : n = nm
    · subst e1
      have := ownn b hn'; subst this
      exact hf m _ o' hm' hk' hb
    · exact hr.apart n m b o' sz k f (own n b e1 hn') hm' hk' hb
theorem Rel.kill (hr : Rel ρ h w) (n : Nat) : Rel ρ (h.set n .dead) w := by
  have key : ∀ {m : Nat} {ob : Ob}, (h.set n .dead)[m]? = some (.ob ob) → m ≠ n ∧ h[m]? = some (.ob ob) := fun {m ob} hm => by
    rw [List.getElem?_set] at hm
    split at hm
    · split at hm <;> cases hm
    · exact ⟨fun e => by simp_all, hm⟩
  have own : ∀ m b, Owns ρ (h.set n .dead) m b → Owns ρ h m b := fun m b ⟨ob, o, g1, g2, g3⟩ => ⟨ob, o, (key g1).2, g2, g3⟩
  constructor
  · intro m hm
    refine hr.fresh m ?_
    rcases hm with e | e
    · rw [List.getElem?_set] at e
      split at e
      · split at e <;> cases e
      · exact .inl e
    · exact .inr (by simpa using e)
  · exact fun m ob hm => hr.obs m ob (key hm).2
  · exact fun a b c h1 h2 => hr.inj a b c (own _ _ h1) (own _ _ h2)
  · exact fun a b c o sz k f h1 h2 h3 => hr.apart a b c o sz k f (own _ _ h1) (key h2).2 h3
theorem Rel.kill_free (hr : Rel ρ h w) {n b : Nat} (ho : Owns ρ h n b) : Free ρ (h.set n .dead) b := fun m ob o hm hl hb => by
  rw [List.getElem?_set] at hm
  split at hm
  · split at hm <;> cases hm
  · rename_i hne
    cases ob with
    | own l => exact hne (hr.inj n m b ho ⟨_, _, hm, trivial, hb⟩)
    | row sz k f tot => exact hne (hr.inj n m b ho ⟨_, _, hm, hl, hb⟩)
    | ro sz k f => exact hr.apart n m b o sz k f ho hm hl hb
/-- A block that is written. -/
theorem Rel.put (hr : Rel ρ h w) {n b : Nat} {ob' : Ob} (ho : Owns ρ h n b) (hme : ob'.mine) (hsz : w.heap.size ≤ w'.heap.size) (hk : ∀ c, c < w.heap.size → c ≠ b → w'.heap[c]? = w.heap[c]?)
    (hob : RelOb ρ w' n ob') : Rel ρ (h.set n (.ob ob')) w' := by
  obtain ⟨ob0, o0, p1, p2, p3⟩ := ho
  have hlt : n < h.length := (List.getElem?_eq_some_iff.1 p1).1
  have ho : Owns ρ h n b := ⟨ob0, o0, p1, p2, p3⟩
  have at_n : (h.set n (.ob ob'))[n]? = some (.ob ob') := by simp [hlt]
  have at_m : ∀ m, m ≠ n → (h.set n (.ob ob'))[m]? = h[m]? := fun m hm => by rw [List.getElem?_set, if_neg (Ne.symm hm)]
  have own : ∀ m c, Owns ρ (h.set n (.ob ob')) m c → Owns ρ h m c := fun m c ⟨ob, o, g1, g2, g3⟩ => by
    by_cases e : m = n
    · subst e; rw [p3] at g3; injection g3 with g3; injection g3 with g3 _; subst g3; exact ho
    · exact ⟨ob, o, by rw [← at_m m e]; exact g1, g2, g3⟩
  constructor
  · intro m hm
    refine hr.fresh m ?_
    rcases hm with e | e
    · by_cases en : m = n
      · subst en; rw [at_n] at e; cases e
      · exact .inl (by rw [← at_m m en]; exact e)
    · exact .inr (by simpa using e)
  · intro m ob hm
    by_cases en : m = n
    · subst en; rw [at_n] at hm; injection hm with hm; injection hm with hm; subst hm; exact hob
    · rw [at_m m en] at hm
      refine (hr.obs m ob hm).keep (Sub.refl _) hsz fun c o hb hl => hk c (hr.looks_lt hm hl hb) ?_
      rintro rfl
      cases ob with
      | own l => exact en (hr.inj m n c ⟨_, _, hm, trivial, hb⟩ ho)
      | row sz k f tot => exact en (hr.inj m n c ⟨_, _, hm, hl, hb⟩ ho)
      | ro sz k f => exact hr.apart n m c o sz k f ho hm hl hb
  · exact fun a b c h1 h2 => hr.inj a b c (own _ _ h1) (own _ _ h2)
  · intro a m c o sz k f h1 h2 h3
    by_cases en : m = n
    · subst en; rw [at_n] at h2; injection h2 with h2; injection h2 with h2; subst h2; exact hme.elim
    · rw [at_m m en] at h2
      exact hr.apart a m c o sz k f (own _ _ h1) h2 h3
end
end Go.Eng
