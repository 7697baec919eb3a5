/- One operation's turn; regions in the text's order. -/
import Derived.Test.YtakcnoggkdfgfaaEngX
namespace Go.Eng
open Go
variable {d : Nat}
section
variable {P : Program} {tt : TT} {ρ : Env} {h : Heap} {w : World} {nt : Nat} {r : Tr d} {a : Act}
/-- A new block, as a quiet operation makes it. -/
theorem Rel.made (hr : Rel ρ h w) {ob : Ob} (hme : ob.mine) {arr : Array Value} {E : TypeId} (ho : RelOb (upd ρ h.length (w.heap.size, 0)) (w.alloc (.cells arr E)) h.length ob) :
    Rel (upd ρ h.length (w.heap.size, 0)) (h ++ [.ob ob]) (w.alloc (.cells arr E)) ∧ Grow ρ h w (upd ρ h.length (w.heap.size, 0)) (h ++ [.ob ob]) (w.alloc (.cells arr E)) := by
  have hn : ρ h.length = none := hr.fresh _ (.inr (Nat.le_refl _))
  have h1 : (h ++ [HE.ob ob])[h.length]? = some (.ob ob) := by simp
  have h2 : ∀ m, m ≠ h.length → (h ++ [HE.ob ob])[m]? = h[m]? := fun m hm => by
    rcases Nat.lt_or_ge m h.length with c | c
    · simp [List.getElem?_append_left c]
    · rw [List.getElem?_eq_none (by simp; omega), List.getElem?_eq_none c]
  have hsz : w.heap.size ≤ (w.alloc (.cells arr E)).heap.size := by rw [World.size_alloc]; omega
  have hk : ∀ b, b < w.heap.size → (w.alloc (.cells arr E)).heap[b]? = w.heap[b]? := fun b hb => by
    show (w.heap.push _)[b]? = _
    rw [Array.getElem?_push, if_neg (by omega)]
  refine ⟨hr.add hn hme h1 h2 hr.free_new hsz (fun b hb _ => hk b hb) ho, upd_sub hn, rfl, rfl, rfl, fun x => RowKit.frozen?_alloc_cells _ _ _ x, hsz, fun b hb _ => hk b hb, fun n b ⟨ob', o', g1, g2, g3⟩ => ?_⟩
  by_cases e : n = h.length
  · subst e
    rw [upd_same] at g3; injection g3 with g3; injection g3 with g3 _
    exact .inr (Nat.le_of_eq g3)
  · rw [h2 n e] at g1
    exact .inl ⟨n, ob', o', g1, g2, by simpa [upd, e] using g3⟩
theorem bodyK_ok {cl : Cl} {K : R → Heap → Prop} (hc : ClOk P cl) (hT : TTok P tt) (hr : RelR ρ nt r a.tmps) (hh : Rel ρ h w) {o : Oper} (hk : bodyK cl tt r h o.op K) : Acts P ρ h w K ((execOp a.eval o).run P w) := by
  unfold bodyK at hk
  split at hk
  · exact evW_ok hc hT hr hh hk
  · split at hk
    · obtain ⟨x, b, v, w', h1, h2, h3⟩ := evX_ok (P := P) hT hr hh (hlenK_ok hk)
      simp only [Nat.zero_add] at h3
      split at h2
      · rename_i ob
        obtain ⟨hme, arr, E, rfl, h4⟩ := h3
        obtain ⟨h5, h6⟩ := h4 (upd ρ h.length (w.heap.size, 0)) (upd_sub (hh.fresh _ (.inr (Nat.le_refl _)))) (upd_same _ _ _)
        obtain ⟨h7, h8⟩ := hh.made hme h6
        exact .inl ⟨v, _, h1, x, _, _, happK_ok h2, h7, h8, h5⟩
      · exact h2.elim
    · obtain ⟨x, b, v, w', h1, h2, h3⟩ := evX_ok (P := P) hT hr hh hk
      split at h2
      · obtain ⟨rfl, h3⟩ := h3
        exact .inl ⟨v, _, h1, x, ρ, h, h2, hh, Grow.refl _ _ _, h3⟩
      · exact h2.elim
/-- The guard says so. -/
def Says (ops : List Oper) (r : Tr d) (o : Oper) (c : Bool) : Prop :=
  match o.guard with
  | none => c = true
  | some (j, want) => ∃ g t b, ops[j]? = some g ∧ g.dst = some t ∧ r.get d t = bv b ∧ (b == want) = c
def Same (r r' : Tr d) : Prop := ∀ t, r'.get d t = r.get d t
theorem Same.rel {r r' : Tr d} (h : Same r r') {tm : Array Value} (hr : RelR ρ nt r tm) : RelR ρ nt r' tm := ⟨hr.1, fun i => by rw [h i]; exact hr.2 i⟩
theorem guardK_ok {ops : List Oper} {o : Oper} {yes no : Tr d → Prop} (hk : guardK ops r o yes no) : ∃ r' c, Same r r' ∧ Says ops r o c ∧ (match c with | true => yes r' | false => no r') := by
  unfold guardK at hk
  split at hk
  · rename_i e
    exact ⟨r, true, fun _ => rfl, by simp [Says, e], hk⟩
  · rename_i j want e
    obtain ⟨g, hg, hk⟩ := nthK_ok hk
    split at hk
    · exact hk.elim
    · rename_i t ht
      rw [Tr.getK_eq] at hk
      unfold boolK at hk
      split at hk
      · rename_i b hb
        have key : ∀ {c : Bool} {p : Tr d → Prop}, b = c → r.setK d t (bv c) p → ∃ r', Same r r' ∧ p r' := fun {c p} hbc hs => by
          obtain ⟨h1, h2⟩ := (Tr.setK_iff d r t _ _).1 hs
          refine ⟨_, fun u => ?_, h2⟩
          rw [Tr.get_set d r t _ u h1]
          split
          · rename_i e; subst e; rw [hb, hbc]; rfl
          · rfl
        rcases Cnd_ok hk with ⟨hc, hk⟩ | ⟨hc, hk⟩ <;> obtain ⟨r', h1, h2⟩ := key hc hk <;> refine ⟨r', b == want, h1, ?_, ?_⟩
        · simp only [Says, e]; exact ⟨g, t, b, hg, ht, hb, rfl⟩
        · subst hc; cases want <;> exact h2
        · simp only [Says, e]; exact ⟨g, t, b, hg, ht, hb, rfl⟩
        · subst hc; cases want <;> exact h2
      · exact hk.elim
/-- What the guard says holds of the model's. -/
theorem Says.wanted {ops : Array Oper} {o : Oper} {c : Bool} {tm : Array Value} (hs : Says ops.toList r o c) (hr : RelR ρ nt r tm) : Region.wanted o (yielded ops tm) = c := by
  unfold Says at hs
  unfold Region.wanted
  split at hs
  · rename_i e; simp [e, hs]
  · rename_i j want e
    obtain ⟨g, t, b, h1, h2, h3, h4⟩ := hs
    have h5 := hr.2 t
    rw [h3] at h5
    have h6 : tm.getD t undef = .bool b := h5.1
    have h7 : tm[t]? = some (.bool b) := by
      cases e : tm[t]? with
      | none =>
        rw [show tm.getD t undef = undef by simp [e]] at h6
        cases h6
      | some v => rw [show tm.getD t undef = v by simp [e]] at h6; rw [h6]
    have h8 : yielded ops tm j = some b := by
      unfold yielded
      have : ops[j]? = some g := by simpa using h1
      simp [this, h2, h7]
    rw [e]
    simp only [h8]
    rw [← h4]
    cases b <;> cases want <;> rfl
theorem putR_ok {dst : Option Tmp} {x : R} {k : Tr d → Prop} {v : Value} {ρ' : Env} (hk : putR nt r dst x k) (hr : RelR ρ' nt r a.tmps) (hx : DenR ρ' x v) : ∃ r', k r' ∧ RelR ρ' nt r' (a.put dst v).tmps := by
  unfold putR at hk
  split at hk
  · exact ⟨r, hk, hr⟩
  · rename_i t
    split at hk
    · rename_i hb
      obtain ⟨h1, h2⟩ := (Tr.setK_iff d r t _ _).1 hk
      exact ⟨_, h2, hr.set h1 (Nat.le_of_ble_eq_true hb) hx⟩
    · exact hk.elim
/-- The state that the model's frame and world are in, as the walk sees it. -/
structure At (ρ : Env) (nt : Nat) (r : Tr d) (h : Heap) (a : Act) (w : World) : Prop where
  regs : RelR ρ nt r a.tmps
  heap : Rel ρ h w
  calm : a.defers = []
theorem Acts.wp {o : Oper} {K : R → Heap → Prop} {Kc : Act → World → Prop} {Q : Exit → Act → World → Prop} (hA : Acts P ρ h w K ((execOp a.eval o).run P w)) (hK : ∀ x ρ' h' v w', K x h' → Rel ρ' h' w' → Grow ρ h w ρ' h' w' → DenR ρ' x v → Kc (a.put o.dst v) w') : o.wp P a w Kc Q := by
  unfold Oper.wp
  rcases hA with ⟨v, w', e, x, ρ', h', h1, h2, h3, h4⟩ | ⟨w', e, x, ρ', h', h1, h2, h3, h4⟩ | ⟨f, args, e, hc⟩
  · rw [e]; exact hK x ρ' h' v w' h1 h2 h3 h4
  · rw [e]; exact hK x ρ' h' undef w' h1 h2 h3 h4
  · rw [e]
    refine hc.mono fun e w'' ⟨v, he, x, ρ', h', h1, h2, h3, h4⟩ => ?_
    subst he
    exact hK x ρ' h' v w'' h1 h2 h3 h4
theorem stepK_ok {cl : Cl} {ops : Array Oper} {o : Oper} {k : Tr d → Heap → Prop} {Kc : Act → World → Prop} {Q : Exit → Act → World → Prop} {i : Nat} (hc : ClOk P cl) (hT : TTok P tt) (ho : ops[i]? = some o) (hA : At ρ nt r h a w) (hk : stepK cl tt nt ops.toList o r h k)
    (hK : ∀ ρ' r' h' a' w', k r' h' → At ρ' nt r' h' a' w' → Grow ρ h w ρ' h' w' → Kc a' w') : wpOp P ops Q i Kc a w := by
  obtain ⟨r', c, h1, h2, h3⟩ := guardK_ok hk
  unfold wpOp
  rw [ho]
  simp only [h2.wanted hA.regs]
  cases c with
  | true =>
    rw [if_pos rfl]
    refine .inl ((bodyK_ok hc hT (h1.rel hA.regs) hA.heap h3).wp fun x ρ' h' v w' g1 g2 g3 g4 => ?_)
    obtain ⟨r2, e1, e2⟩ := putR_ok g1 ((h1.rel hA.regs).mono g3.sub) g4
    exact hK ρ' r2 h' _ w' e1 ⟨e2, g2, by cases o.dst <;> exact hA.calm⟩ g3
  | false =>
    rw [if_neg (by simp)]
    obtain ⟨r2, e1, e2⟩ := putR_ok (v := undef) h3 (h1.rel hA.regs) trivial
    exact hK ρ r2 h _ w e1 ⟨e2, hA.heap, by cases o.dst <;> exact hA.calm⟩ (Grow.refl _ _ _)
theorem evOps_ok {cl : Cl} {ops : Array Oper} {k : Tr d → Heap → Prop} {Q : Exit → Act → World → Prop} (hc : ClOk P cl) (hT : TTok P tt) {w0 : World} {ρ0 : Env} {h0 : Heap} : ∀ (l : List Oper) (i : Nat) (r : Tr d) (ρ : Env) (h : Heap) (a : Act) (w : World), (∀ j, l[j]? = ops[i + j]?) → At ρ nt r h a w → Grow ρ0 h0 w0 ρ h w →
    evOps cl tt nt ops.toList l r h k → (∀ ρ' r' h' a' w', k r' h' → At ρ' nt r' h' a' w' → Grow ρ0 h0 w0 ρ' h' w' → Q .normal a' w') → wpOps P ops Q (List.range' i l.length) a w
  | [], i, r, ρ, h, a, w, _, hA, hG, hk, hK => hK ρ r h a w hk hA hG
  | o :: l, i, r, ρ, h, a, w, hl, hA, hG, hk, hK => by
    rw [List.length_cons, List.range'_succ, wpOps_cons]
    have h0 : ops[i]? = some o := by simpa using (hl 0).symm
    refine stepK_ok hc hT h0 hA hk fun ρ' r' h' a' w' g1 g2 g3 => ?_
    exact evOps_ok hc hT l (i + 1) r' ρ' h' a' w' (fun j => by have := hl (j + 1); simpa [Nat.add_assoc, Nat.add_comm 1 j] using this) g2 (hG.trans g3) g1 hK
end
end Go.Eng
