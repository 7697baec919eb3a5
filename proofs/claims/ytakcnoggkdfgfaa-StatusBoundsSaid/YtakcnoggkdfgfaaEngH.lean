/- Each quiet operation. -/
import Derived.Test.YtakcnoggkdfgfaaEngG
namespace Go.Eng
open Go
variable {d : Nat}
section
variable {P : Program} {tt : TT} {ρ : Env} {h : Heap} {w : World} {nt nm : Nat} {r : Tr d} {a : Act} {K : R → Option Ob → Prop}
theorem eqOp_ok {op : BinOp} {b : Bool} {K : R → Prop} (hk : eqOp op b K) : (op = .eql ∧ K (bv b)) ∨ (op = .neq ∧ K (bv (!b))) := by
  unfold eqOp at hk
  cases op <;> first | exact .inl ⟨rfl, hk⟩ | exact .inr ⟨rfl, hk⟩ | exact hk.elim
theorem guard_none (op : BinOp) (t : TypeId) (x y : Operand) (v u : Value) (h1 : v ≠ .nilIface) (h2 : ∀ l, v ≠ .agg l) : (eqGuard op t x y v u).run P w = .ok () w := by
  unfold eqGuard
  split
  · rw [if_neg (by simp)]
    cases v <;> cases u <;> first | rfl | (exact (h1 rfl).elim) | (exact (h2 _ rfl).elim)
  · rw [if_neg (by simp)]
    cases v <;> cases u <;> first | rfl | (exact (h1 rfl).elim) | (exact (h2 _ rfl).elim)
  · rw [if_pos (by simp)]; rfl
theorem binOp_eq {op : BinOp} {t : TypeId} {v u : Value} {b : Bool} (he : op = .eql ∨ op = .neq) (h1 : (∀ z, v ≠ .string z) ∧ (∀ k n, v ≠ .int k n) ∧ (∀ l, v ≠ .agg l) ∧ v ≠ .nilIface)
    (hf : ∀ k b, v ≠ .float k b) (hc : ∀ k b c, v ≠ .complex k b c) (h2 : (Op.equal t v u).run P w = .ok b w) : (Go.binOp op t v u).run P w = .ok (.bool (if op = .eql then b else !b)) w := by
  have e1 : (do pure (Value.bool (← Op.equal t v u)) : Sem Value).run P w = .ok (.bool b) w := by simp [h2, pure, Sem.run]
  have e2 : (do pure (Value.bool (!(← Op.equal t v u))) : Sem Value).run P w = .ok (.bool (!b)) w := by simp [h2, pure, Sem.run]
  rcases he with rfl | rfl
  · cases v <;> first | (exact (h1.1 _ rfl).elim) | (exact (h1.2.1 _ _ rfl).elim) | (exact (h1.2.2.1 _ rfl).elim) | (exact (h1.2.2.2 rfl).elim) | (exact (hf _ _ rfl).elim) | (exact (hc _ _ _ rfl).elim) | (unfold Go.binOp; exact e1)
  · cases v <;> first | (exact (h1.1 _ rfl).elim) | (exact (h1.2.1 _ _ rfl).elim) | (exact (h1.2.2.1 _ rfl).elim) | (exact (h1.2.2.2 rfl).elim) | (exact (hf _ _ rfl).elim) | (exact (hc _ _ _ rfl).elim) | (unfold Go.binOp; exact e2)
theorem binK_ok (hT : TTok P tt) {op : BinOp} {t : TypeId} {x y : R} {K : R → Prop} (hk : binK tt op t x y K) {v u : Value} (hx : DenR ρ x v) (hy : DenR ρ y u) :
    ∃ z q, K z ∧ (Go.binOp op t v u).run P w = .ok q w ∧ DenR ρ z q ∧ v ≠ .nilIface ∧ (∀ l, v ≠ .agg l) := by
  unfold binK at hk
  split at hk
  · obtain ⟨rfl, _⟩ := hx; obtain ⟨rfl, _⟩ := hy
    split at hk
    · obtain ⟨z, q, h1, h2, h3⟩ := shift_ok (P := P) (ρ := ρ) (w := w) hk (.inl rfl) t; exact ⟨z, q, h1, h2, h3, by simp, by simp⟩
    · obtain ⟨z, q, h1, h2, h3⟩ := shift_ok (P := P) (ρ := ρ) (w := w) hk (.inr rfl) t; exact ⟨z, q, h1, h2, h3, by simp, by simp⟩
    · split at hk
      · rename_i h1 h2 _ he
        have := kindEq_ok he; subst this
        obtain ⟨z, q, h1, h2, h3⟩ := intBin_ok (P := P) (ρ := ρ) (w := w) hk h1 h2 t; exact ⟨z, q, h1, h2, h3, by simp, by simp⟩
      · exact hk.elim
  · obtain ⟨rfl, _⟩ := hx; obtain ⟨rfl, _⟩ := hy
    split at hk
    · obtain ⟨h1, h2⟩ := Chk_ok hk
      have h1 := of_decide_eq_true h1
      refine ⟨_, _, h2, ?_, ⟨rfl, trivial⟩, by simp, by simp⟩
      unfold Go.binOp
      simp only [Op.stringOp]
      rw [if_neg (by simp [IntKind.max, IntKind.signed, IntKind.bits]; omega)]
      rfl
    · rcases eqOp_ok hk with ⟨rfl, h2⟩ | ⟨rfl, h2⟩
      · refine ⟨_, _, h2, ?_, ⟨rfl, trivial⟩, by simp, by simp⟩
        rw [← strEq_ok]; rfl
      · refine ⟨_, _, h2, ?_, ⟨rfl, trivial⟩, by simp, by simp⟩
        rw [← strEq_ok]; rfl
  · obtain ⟨ti, ht, hk⟩ := tiK_ok hT hk
    obtain ⟨b, h1, h2, h3, h4, h5⟩ := eqC_ok (w := w) ht hk hx hy
    rcases eqOp_ok h1 with ⟨rfl, h6⟩ | ⟨rfl, h6⟩
    · exact ⟨_, _, h6, by simpa using binOp_eq (.inl rfl) h3 h4 h5 h2, ⟨rfl, trivial⟩, h3.2.2.2, h3.2.2.1⟩
    · exact ⟨_, _, h6, by simpa using binOp_eq (.inr rfl) h3 h4 h5 h2, ⟨rfl, trivial⟩, h3.2.2.2, h3.2.2.1⟩
  · exact hk.elim
theorem nthK_ok {α : Type} : ∀ {l : List α} {n : Nat} {k : α → Prop}, nthK l n k → ∃ x, l[n]? = some x ∧ k x
  | x :: _, 0, _, h => ⟨x, rfl, h⟩
  | _ :: r, n + 1, k, h => by simpa using nthK_ok (l := r) (n := n) (k := k) h
  | [], _, _, h => h.elim
theorem struct_field {fs : List (Nat × TypeId)} {fields : Array Field} (h : fs = fields.toList.map fun f => (f.offset, f.type)) {f : Nat} {fd : Nat × TypeId} (hf : fs[f]? = some fd) :
    ∃ F, fields[f]? = some F ∧ F.offset = fd.1 ∧ F.type = fd.2 := by
  subst h
  rw [List.getElem?_map] at hf
  cases hF : fields.toList[f]? with
  | none => rw [hF] at hf; simp at hf
  | some F => rw [hF] at hf; simp at hf; subst hf; exact ⟨F, by simpa using hF, rfl, rfl⟩
/-- A part of a value. -/
theorem part_ok {t : TypeId} {ti : TI} (ht : TIok P t ti) {k : T → Prop} {l : List Seg} (hm : mkK ti l k) {arr : Array Value} {off : Nat}
    (hv : All2 (Den ρ) (cells l) ((arr.toList.drop off).take ti.size)) :
    ∃ x u, k x ∧ (part t arr off).run P w = .ok u w ∧ DenT ρ x u := by
  have ha := ht.agg (w := w)
  rcases mkK_ok hm with ⟨h1, h2⟩ | ⟨h1, c, rfl, h2⟩
  · refine ⟨_, .agg (arr.extract off (off + ti.size)), h2, ?_, _, rfl, ?_⟩
    · simp only [part, Sem.run_bind, ha, Result.andThen_ok, h1, if_true, ht.size]; rfl
    · simpa [List.take_drop, List.extract_eq_take_drop] using hv
  · obtain ⟨u, hu⟩ : ∃ u, (arr.toList.drop off).take ti.size = [u] := by
      match e : (arr.toList.drop off).take ti.size, hv with
      | [u], _ => exact ⟨u, rfl⟩
      | [], hv => exact hv.elim
      | _ :: _ :: _, hv => exact hv.2.elim
    rw [hu] at hv
    refine ⟨_, u, h2, ?_, hv.1⟩
    have : arr[off]? = some u := by
      have h0 : ((arr.toList.drop off).take ti.size)[0]? = some u := by rw [hu]; rfl
      rw [List.getElem?_take] at h0
      split at h0
      · simpa [List.getElem?_drop] using h0
      · simp at h0
    simp only [part, Sem.run_bind, ha, Result.andThen_ok, h1, this]; rfl
theorem segs_part {l : List Seg} {off sz : Nat} {k : List Seg → Prop} (hk : dropK l off fun l => takeK l sz fun l => k l) : ∃ l', k l' ∧ cells l' = ((cells l).drop off).take sz ∧ off + sz ≤ (cells l).length := by
  obtain ⟨l1, h1, h2, h3⟩ := dropK_ok hk
  obtain ⟨l2, h4, h5, h6⟩ := takeK_ok h1
  refine ⟨l2, h4, by rw [h5, h2], ?_⟩
  rw [h2] at h6
  simp only [List.length_drop] at h6
  omega
end
end Go.Eng
