/- Slices, texts, small builtins. -/
import Derived.Test.YtakcnoggkdfgfaaEngK
namespace Go.Eng
open Go
variable {d : Nat}
section
variable {P : Program} {tt : TT} {ρ : Env} {h : Heap} {w : World} {nt nm : Nat} {r : Tr d} {a : Act} {K : R → Option Ob → Prop}
theorem bound_run {o : Operand} {kd : IntKind} {n : Int} (h1 : a.eval o = .int kd n) {y : Nat} {code : BoundsCode} (h0 : 0 ≤ n ∧ n ≤ y) : (Instr.sliceBound (a.eval o) y code).run P w = .ok n.toNat w := by
  rw [h1]
  simp only [Instr.sliceBound, asIntOf, pure_bind, if_pos h0]; rfl
theorem bounds_ok {len cap : Nat} {lo hi mx : Option Int} {K : Nat → Nat → Nat → Prop} (hk : bounds len cap lo hi mx K) (hlc : len ≤ cap) {ol oh om : Option Operand}
    (hl : optOk a ol lo) (hh : optOk a oh hi) (hm : optOk a om mx) (b : Bool) :
    ∃ l h m, K l h m ∧ (Instr.sliceBounds b len cap (ol.map a.eval) (oh.map a.eval) (om.map a.eval)).run P w = .ok (l, h, m) w ∧ l ≤ h ∧ h ≤ m ∧ m ≤ cap := by
  unfold bounds at hk
  split at hk
  · cases ol <;> cases oh <;> cases om <;> first | exact hl.elim | exact hh.elim | exact hm.elim | skip
    exact ⟨_, _, _, hk, by simp [Instr.sliceBounds], by omega, hlc, Nat.le_refl _⟩
  · cases ol <;> cases oh <;> cases om <;> first | exact hl.elim | exact hh.elim | exact hm.elim | skip
    obtain ⟨h1, h2⟩ := Chk_ok hk
    replace h1 := of_decide_eq_true h1
    obtain ⟨kd, e⟩ := hl
    exact ⟨_, _, _, h2, by simp only [Instr.sliceBounds, Option.map_some, Option.map_none, pure_bind, Sem.run_bind, bound_run e h1, Result.andThen_ok, Option.isSome_none]; rfl, by omega, hlc, Nat.le_refl _⟩
  · cases ol <;> cases oh <;> cases om <;> first | exact hl.elim | exact hh.elim | exact hm.elim | skip
    obtain ⟨h1, h2⟩ := Chk_ok hk
    replace h1 := of_decide_eq_true h1
    obtain ⟨kd, e⟩ := hh
    exact ⟨_, _, _, h2, by simp only [Instr.sliceBounds, Option.map_some, Option.map_none, pure_bind, Sem.run_bind, bound_run e h1, Result.andThen_ok, Option.isSome_none]; rfl, by omega, by omega, Nat.le_refl _⟩
  · cases ol <;> cases oh <;> cases om <;> first | exact hl.elim | exact hh.elim | exact hm.elim | skip
    obtain ⟨h1, h2⟩ := Chk_ok hk
    replace h1 := of_decide_eq_true h1
    obtain ⟨kd, e⟩ := hl
    obtain ⟨kd', e'⟩ := hh
    rename_i l hh _ _
    have b1 : 0 ≤ hh ∧ hh ≤ (cap : Int) := by omega
    have b2 : 0 ≤ l ∧ l ≤ (hh.toNat : Int) := by omega
    exact ⟨_, _, _, h2, by simp only [Instr.sliceBounds, Option.map_some, Option.map_none, pure_bind, Sem.run_bind, bound_run e' b1, Result.andThen_ok, bound_run e b2, Option.isSome_none]; rfl, by omega, by omega, Nat.le_refl _⟩
  · cases ol <;> cases oh <;> cases om <;> first | exact hl.elim | exact hh.elim | exact hm.elim | skip
    obtain ⟨h1, h2⟩ := Chk_ok hk
    replace h1 := of_decide_eq_true h1
    obtain ⟨kd, e⟩ := hh
    obtain ⟨kd', e'⟩ := hm
    rename_i hh mm _ _
    have b1 : 0 ≤ mm ∧ mm ≤ (cap : Int) := by omega
    have b2 : 0 ≤ hh ∧ hh ≤ (mm.toNat : Int) := by omega
    exact ⟨_, _, _, h2, by simp only [Instr.sliceBounds, Option.map_some, Option.map_none, pure_bind, Sem.run_bind, bound_run e' b1, Result.andThen_ok, bound_run e b2]; rfl, by omega, by omega, by omega⟩
  · cases ol <;> cases oh <;> cases om <;> first | exact hl.elim | exact hh.elim | exact hm.elim | skip
    obtain ⟨h1, h2⟩ := Chk_ok hk
    replace h1 := of_decide_eq_true h1
    obtain ⟨kd, e⟩ := hh
    obtain ⟨kd', e'⟩ := hm
    obtain ⟨kd2, e2⟩ := hl
    rename_i l hh mm _ _ _
    have b1 : 0 ≤ mm ∧ mm ≤ (cap : Int) := by omega
    have b2 : 0 ≤ hh ∧ hh ≤ (mm.toNat : Int) := by omega
    have b3 : 0 ≤ l ∧ l ≤ (hh.toNat : Int) := by omega
    exact ⟨_, _, _, h2, by simp only [Instr.sliceBounds, Option.map_some, pure_bind, Sem.run_bind, bound_run e' b1, Result.andThen_ok, bound_run e b2, bound_run e2 b3]; rfl, by omega, by omega, by omega⟩
  · exact hk.elim
theorem x_slice (hT : TTok P tt) {t : TypeId} {ox : Operand} {ol oh om : Option Operand} (hr : RelR ρ nt r a.tmps) {ti : TI} (ht : TIok P t ti)
    (hk : opK r ox fun x => cK x fun c => optK r ol fun lo => optK r oh fun hi => optK r om fun mx => match ti.desc, c with
    | .str, .v (.string s) => match mx with | none => bounds s.size s.size lo hi none fun l h _ => K (sv (s.extract l h)) none | some _ => False
    | .slice e, .slc n base sz off len cap nl => tiK tt e fun ei => match Nat.beq sz ei.size with
      | true => bounds len cap lo hi mx fun l h m => K (.t (.one (.slc n base sz (off + l) (h - l) (m - l) nl))) none
      | false => False
    | .slice e, .v (.slice none 0 0) => tiK tt e fun _ => bounds 0 0 lo hi mx fun _ _ _ => K (.t (.one (.v (.slice none 0 0)))) none
    | .arr n e, .ptr b off => tiK tt e fun ei => bounds n n lo hi mx fun l h m => K (.t (.one (.slc b off ei.size l (h - l) (m - l) false))) none
    | _, _ => False) : ∃ x v, K x none ∧ (Instr.sliceAt t (a.eval ox) (ol.map a.eval) (oh.map a.eval) (om.map a.eval)).run P w = .ok v w ∧ DenR ρ x v := by
  obtain ⟨desc, h1, h2⟩ := ht.under (w := w)
  obtain ⟨x, e1, e2⟩ := opK_ok hk hr
  obtain ⟨c, e3, e4⟩ := cK_ok e1 e2
  obtain ⟨lo, e5, e6⟩ := optK_ok e3 hr
  obtain ⟨hi, e7, e8⟩ := optK_ok e5 hr
  obtain ⟨mx, e9, e10⟩ := optK_ok e7 hr
  split at e9
  · rename_i s hd
    rw [hd] at h1
    cases desc <;> try exact h1.elim
    split at e9
    · obtain ⟨l, h, m, q1, q2, q3, q4, q5⟩ := bounds_ok (P := P) (w := w) (om := none) e9 (Nat.le_refl _) e6 e8 trivial false
      have hom : om = none := by cases om with | none => rfl | some _ => exact e10.elim
      subst hom
      obtain ⟨q6, _⟩ := e4
      refine ⟨_, _, q1, ?_, rfl, trivial⟩
      rw [q6]
      simp only [Option.map_none] at q2 ⊢
      simp only [Instr.sliceAt, Instr.slice, Sem.run_bind, h2, Result.andThen_ok, Option.isSome_none, Bool.false_eq_true, if_false, q2]
      simp only [Sem.run_bind, q2, Result.andThen_ok, pure_bind, Sem.run_pure]
    · exact e9.elim
  · rename_i e n base sz off len cap nl hd
    rw [hd] at h1
    cases desc <;> try exact h1.elim
    have h1 := h1; subst h1
    replace ⟨ei, hei, e9⟩ := tiK_ok hT e9
    split at e9
    · rename_i hsz
      have hsz := Nat.eq_of_beq_eq_true hsz
      obtain ⟨b, o, ad, k1, k2, k3, k4, k5⟩ := e4
      obtain ⟨l, h, m, q1, q2, q3, q4, q5⟩ := bounds_ok (P := P) (w := w) e9 k5 e6 e8 e10 true
      refine ⟨_, _, q1, ?_, b, o, if m = l then ad else ad.map (·.add (l * ei.size)), k1, rfl, fun hc => ?_, ?_, by omega⟩
      · rw [k2]
        simp only [Instr.sliceAt, Instr.slice, Sem.run_bind, h2, Result.andThen_ok, q2, hei.size]; rfl
      · rw [if_neg (by omega), k3 (by omega), ← hsz]
        simp only [Option.map_some, add_at, Nat.add_mul, Option.some.injEq, Addr.mk.injEq, true_and, and_true]
        omega
      · rw [← k4]; split <;> simp
    · exact e9.elim
  · rename_i e hd
    rw [hd] at h1
    cases desc <;> try exact h1.elim
    have h1 := h1; subst h1
    replace ⟨ei, hei, e9⟩ := tiK_ok hT e9
    obtain ⟨q6, _⟩ := e4
    obtain ⟨l, h, m, q1, q2, q3, q4, q5⟩ := bounds_ok (P := P) (w := w) e9 (Nat.le_refl _) e6 e8 e10 true
    have : l = 0 ∧ h = 0 ∧ m = 0 := by omega
    obtain ⟨rfl, rfl, rfl⟩ := this
    refine ⟨_, _, q1, ?_, rfl, trivial⟩
    rw [q6]
    simp only [Instr.sliceAt, Instr.slice, Sem.run_bind, h2, Result.andThen_ok, q2, hei.size]; rfl
  · rename_i n e b off hd
    rw [hd] at h1
    cases desc <;> try exact h1.elim
    obtain ⟨rfl, rfl⟩ := h1
    replace ⟨ei, hei, e9⟩ := tiK_ok hT e9
    obtain ⟨bb, o, k1, k2⟩ := e4
    obtain ⟨l, h, m, q1, q2, q3, q4, q5⟩ := bounds_ok (P := P) (w := w) e9 (Nat.le_refl _) e6 e8 e10 false
    refine ⟨_, _, q1, ?_, bb, o, some (if m = l then ⟨bb, o + off, none⟩ else (⟨bb, o + off, none⟩ : Addr).add (l * ei.size)), k1, rfl, fun hc => ?_, rfl, by omega⟩
    · rw [k2]
      simp only [Instr.sliceAt, Instr.sureAddr, pure_bind, Sem.run_bind, h2, Result.andThen_ok, q2, hei.size]; rfl
    · rw [if_neg (by omega)]
      simp only [add_at, Option.some.injEq, Addr.mk.injEq, true_and, and_true]
      omega
  · exact e9.elim
end
end Go.Eng
