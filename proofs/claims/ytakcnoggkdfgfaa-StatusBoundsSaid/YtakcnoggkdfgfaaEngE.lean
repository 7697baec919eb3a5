/- What the evaluator says of a quiet operation holds of the model's. -/
import Derived.Test.YtakcnoggkdfgfaaEngD
import Derived.Laws.Cells
import Derived.Laws.IdiomCopy
import Derived.Laws.Entries
import Derived.Laws.Sem
namespace Go.Eng
open Go
variable {d : Nat}

/-! ### Types -/
def descOk : K → TypeDesc → Prop
  | .int k, .int k' => k = k'
  | .bool, .bool | .str, .string => True
  | .ptr e, .pointer e' | .slice e, .slice e' | .chan e, .chan _ e' => e = e'
  | .arr n e, .array n' e' => n = n' ∧ e = e'
  | .map k e, .map k' e' => k = k' ∧ e = e'
  | .struct fs, .struct fields => fs = fields.toList.map fun f => (f.offset, f.type)
  | .other, .struct _ | .other, .array _ _ => False
  | .other, _ => True
  | _, _ => False
def TIok (P : Program) (t : TypeId) (ti : TI) : Prop :=
  ∃ i desc z, P.info? t = some i ∧ P.underlying t = some desc ∧ descOk ti.desc desc ∧ i.size = ti.size ∧ i.bytes = ti.bytes ∧ i.zero = some z ∧ (∀ ρ, DenT ρ ti.zero z) ∧
    ∀ fields, desc = .struct fields → ∃ places, fields.toList.mapM (fun f => (P.info? f.type).map fun i => (f.offset, i.size)) = some places
def TTok (P : Program) (tt : TT) : Prop := ∀ t ti, (t, ti) ∈ tt → TIok P t ti
theorem tiK_ok {P : Program} {k : TI → Prop} {t : TypeId} : ∀ {tt : TT}, TTok P tt → tiK tt t k → ∃ ti, TIok P t ti ∧ k ti
  | [], _, h => h.elim
  | (u, i) :: r, ht, h => by
    unfold tiK at h
    split at h
    · rename_i e
      have : t = u := Nat.eq_of_beq_eq_true e
      subst this
      exact ⟨i, ht _ _ (by simp), h⟩
    · exact tiK_ok (fun t ti hm => ht t ti (by simp [hm])) h
section
variable {P : Program} {t : TypeId} {ti : TI} {w : World}
theorem TIok.under (h : TIok P t ti) : ∃ desc, descOk ti.desc desc ∧ (underlying t).run P w = .ok desc w := by
  obtain ⟨i, desc, z, h1, h2, h3, _⟩ := h
  exact ⟨desc, h3, run_underlying h2 w⟩
theorem TIok.info (h : TIok P t ti) : ∃ i, (typeInfo t).run P w = .ok i w ∧ i.size = ti.size ∧ i.bytes = ti.bytes := by
  obtain ⟨i, desc, z, h1, h2, h3, h4, h5, _⟩ := h
  exact ⟨i, by simp [typeInfo, program, h1, Sem.run, bind, Sem.bind, pure], h4, h5⟩
theorem TIok.size (h : TIok P t ti) : (sizeOf t).run P w = .ok ti.size w := by
  obtain ⟨i, h1, h2, _⟩ := TIok.info (w := w) h
  simp only [sizeOf, Sem.run_bind, h1, Result.andThen_ok]
  rw [h2]; rfl
theorem TIok.zero (h : TIok P t ti) : ∃ z, (zeroValue t).run P w = .ok z w ∧ ∀ ρ, DenT ρ ti.zero z := by
  obtain ⟨i, desc, z, h1, h2, h3, h4, h5, h6, h7, _⟩ := h
  exact ⟨z, by simp [zeroValue, typeInfo, program, h1, h6, Sem.run, bind, Sem.bind, pure], h7⟩
theorem isAgg_ok {desc : TypeDesc} {k : K} (h : descOk k desc) : (match desc with | .struct _ | .array _ _ => true | _ => false) = isAgg k := by
  cases k <;> cases desc <;> first | rfl | exact h.elim
theorem TIok.agg (h : TIok P t ti) : (Go.isAgg t).run P w = .ok (isAgg ti.desc) w := by
  obtain ⟨desc, h1, h2⟩ := TIok.under (w := w) h
  simp only [Go.isAgg, Sem.run_bind, h2, Result.andThen_ok]
  have := isAgg_ok h1
  cases desc <;> simp only [] at this ⊢ <;> rw [← this] <;> rfl
end

/-! ### Operands -/
section
variable {ρ : Env} {nt : Nat} {r : Tr d} {a : Act}
theorem plainK_ok : ∀ {l : List Value} {k : List Seg → Prop}, plainK l k → ∃ g, k g ∧ ∀ ρ, All2 (Den ρ) (cells g) l
  | [], _, h => ⟨[], h, fun _ => trivial⟩
  | x :: r, k, h => by
    have key : solid x → plainK r (fun l => k (.c (.v x) :: l)) → ∃ g, k g ∧ ∀ ρ, All2 (Den ρ) (cells g) (x :: r) := fun hs h => by
      obtain ⟨g, hg, ha⟩ := plainK_ok h
      exact ⟨_, hg, fun ρ => ⟨⟨rfl, hs⟩, ha ρ⟩⟩
    cases x <;> first | exact h.elim | exact key trivial h
theorem constK_ok {v : Value} {k : R → Prop} (h : constK v k) (ρ : Env) : ∃ x, k x ∧ DenR ρ x v := by
  unfold constK at h
  split at h
  · rename_i cs
    obtain ⟨g, hg, ha⟩ := plainK_ok h
    exact ⟨_, hg, cs, rfl, ha ρ⟩
  · exact ⟨_, h, trivial⟩
  · exact ⟨_, h, rfl, trivial⟩
  · exact ⟨_, h, trivial⟩
  · rename_i h1 h2 h3 h4
    refine ⟨_, h, rfl, ?_⟩
    cases v <;> first | trivial | (exfalso; exact h1 _ rfl) | (exfalso; exact h2 _ rfl)
theorem opK_ok {o : Operand} {k : R → Prop} (h : opK r o k) (hr : RelR ρ nt r a.tmps) : ∃ x, k x ∧ DenR ρ x (a.eval o) := by
  unfold opK at h
  cases o with
  | tmp t =>
    simp only [Tr.getK_eq] at h
    exact ⟨_, h, hr.2 t⟩
  | const v => exact constK_ok h ρ
  | global g => exact ⟨_, h, trivial⟩
  | func f => exact ⟨_, h, [], rfl, trivial⟩
theorem intK_ok {x : R} {k : IntKind → Int → Prop} (h : intK x k) {v : Value} (hx : DenR ρ x v) : ∃ kd n, k kd n ∧ v = .int kd n := by
  unfold intK at h
  split at h
  · exact ⟨_, _, h, hx.1⟩
  · exact h.elim
theorem boolK_ok {x : R} {k : Bool → Prop} (h : boolK x k) {v : Value} (hx : DenR ρ x v) : ∃ b, k b ∧ v = .bool b := by
  unfold boolK at h
  split at h
  · exact ⟨_, h, hx.1⟩
  · exact h.elim
theorem tK_ok {x : R} {k : T → Prop} (h : tK x k) {v : Value} (hx : DenR ρ x v) : ∃ y, k y ∧ DenT ρ y v := by
  unfold tK at h
  split at h
  · exact ⟨_, h, hx⟩
  · exact h.elim
theorem cK_ok {x : R} {k : C → Prop} (h : cK x k) {v : Value} (hx : DenR ρ x v) : ∃ y, k y ∧ Den ρ y v := by
  unfold cK at h
  split at h
  · exact ⟨_, h, hx⟩
  · exact h.elim
theorem opsK_ok : ∀ {l : List Operand} {k : List R → Prop}, opsK r l k → RelR ρ nt r a.tmps → ∃ xs, k xs ∧ All2 (DenR ρ) xs (l.map a.eval)
  | [], _, h, _ => ⟨[], h, trivial⟩
  | o :: l, k, h, hr => by
    obtain ⟨x, hx, hd⟩ := opK_ok h hr
    obtain ⟨xs, hk, hds⟩ := opsK_ok hx hr
    exact ⟨_, hk, hd, hds⟩
def optOk (a : Act) (o : Option Operand) (x : Option Int) : Prop := match o, x with
  | none, none => True
  | some o, some n => ∃ kd, a.eval o = .int kd n
  | _, _ => False
theorem optK_ok {o : Option Operand} {k : Option Int → Prop} (h : optK r o k) (hr : RelR ρ nt r a.tmps) : ∃ x, k x ∧ optOk a o x := by
  cases o with
  | none => exact ⟨_, h, trivial⟩
  | some o =>
    obtain ⟨x, hx, hd⟩ := opK_ok h hr
    obtain ⟨kd, n, hk, he⟩ := intK_ok hx hd
    exact ⟨_, hk, kd, he⟩
end
theorem Cnd_ok {b : Bool} {p q : Prop} (h : Cnd b p q) : (b = true ∧ p) ∨ (b = false ∧ q) := by cases b <;> simp_all [Cnd]
theorem Chk_ok {b : Bool} {p : Prop} (h : Chk b p) : b = true ∧ p := by
  rcases Cnd_ok h with h | h
  · exact h
  · exact h.2.elim
theorem wrap_in {k : IntKind} {n : Int} (h : inR k n = true) : k.wrap n = n := by
  cases k <;> simp [inR, IntKind.min, IntKind.max, IntKind.signed, IntKind.bits, IntKind.wrap] at h ⊢ <;> omega
theorem Bnd_ok {k : IntKind} {s : Int} {K : Int → Prop} (h : Bnd k s K) : K (k.wrap s) := by
  rcases Cnd_ok h with ⟨h1, h2⟩ | ⟨_, h2⟩
  · rw [wrap_in h1]; exact h2
  · exact h2
end Go.Eng
