/- Each quiet operation, on. -/
import Derived.Test.YtakcnoggkdfgfaaEngH
namespace Go.Eng
open Go
variable {d : Nat}
section
variable {P : Program} {tt : TT} {ρ : Env} {h : Heap} {w : World} {nt nm : Nat} {r : Tr d} {a : Act} {K : R → Option Ob → Prop}
/-- A quiet operation's outcome, as 'execOp' tells it. -/
def NOut (ρ : Env) (w : World) (nm : Nat) (K : R → Option Ob → Prop) (res : Result Next) : Prop :=
  ∃ x b v w', res = .ok (.value v) w' ∧ K x b ∧ match b with
    | none => w' = w ∧ DenR ρ x v
    | some ob => ob.mine ∧ ∃ arr E, w' = w.alloc (.cells arr E) ∧ ∀ ρ', Sub ρ ρ' → ρ' nm = some (w.heap.size, 0) → DenR ρ' x v ∧ RelOb ρ' w' nm ob
theorem NOut.val {x : R} {v : Value} {res : Result Next} (h1 : K x none) (h2 : res = .ok (.value v) w) (h3 : DenR ρ x v) : NOut ρ w nm K res := ⟨x, none, v, w, h2, h1, rfl, h3⟩
theorem run_v {s : Sem Value} {v : Value} {w w' : World} (h : s.run P w = .ok v w') : (do pure (Next.value (← s)) : Sem Next).run P w = .ok (.value v) w' := by simp [h, pure, Sem.run]
theorem x_nilCheck {x : R} {v : Value} (hx : DenR ρ x v) (hk : cK x fun c => match c with
    | .ptr n off => K (.t (.one (.ptr n off))) none
    | .ept n b s i j => K (.t (.one (.ept n b s i j))) none
    | .fn f c => K (.t (.one (.fn f c))) none
    | _ => False) : K x none ∧ ((∃ a, v = .pointer (some a)) ∨ ∃ f l, v = .func f #[] l) := by
  unfold cK at hk
  split at hk
  · split at hk
    · obtain ⟨b, o, _, rfl⟩ := hx; exact ⟨hk, .inl ⟨_, rfl⟩⟩
    · obtain ⟨b, o, _, rfl⟩ := hx; exact ⟨hk, .inl ⟨_, rfl⟩⟩
    · obtain ⟨as, rfl, _⟩ := hx; exact ⟨hk, .inr ⟨_, _, rfl⟩⟩
    · exact hk.elim
  · exact hk.elim
theorem x_fieldAddr (hT : TTok P tt) {s : TypeId} {f : Nat} {ox : Operand} (hr : RelR ρ nt r a.tmps) {ti : TI} (ht : TIok P s ti)
    (hk : match ti.desc with
      | .struct fs => nthK fs f fun fd => tiK tt fd.2 fun fi => match Nat.blt 0 fi.size with
        | true => opK r ox fun x => cK x fun c => match c with
          | .ptr n off => K (.t (.one (.ptr n (off + fd.1)))) none
          | .ept n b sz i j => K (.t (.one (.ept n b sz i (j + fd.1)))) none
          | _ => False
        | false => False
      | _ => False) : ∃ x v, K x none ∧ (Instr.fieldAt s (a.eval ox) f).run P w = .ok v w ∧ DenR ρ x v := by
  obtain ⟨desc, h1, h2⟩ := ht.under (w := w)
  split at hk
  · rename_i fs hd
    rw [hd] at h1
    cases desc <;> try exact h1.elim
    rename_i fields
    obtain ⟨fd, e1, e2⟩ := nthK_ok hk
    obtain ⟨F, e3, e4, e5⟩ := struct_field h1 e1
    obtain ⟨fi, hfi, e2⟩ := tiK_ok hT e2
    split at e2
    · rename_i hb
      have hb : 0 < fi.size := Nat.le_of_ble_eq_true hb
      obtain ⟨x, e6, e7⟩ := opK_ok e2 hr
      obtain ⟨c, e8, e9⟩ := cK_ok e6 e7
      have hsz := hfi.size (w := w)
      rw [← e5] at hsz
      have key : ∀ b o, (Instr.fieldAt s (.pointer (some ⟨b, o, none⟩)) f).run P w = .ok (.pointer (some ⟨b, o + fd.1, none⟩)) w := fun b o => by
        have : (fieldPlace ⟨b, o, none⟩ F).run P w = .ok ⟨b, o + fd.1, none⟩ w := by
          simp only [fieldPlace, Sem.run_bind, hsz, Result.andThen_ok, if_neg (Nat.pos_iff_ne_zero.1 hb), add_at, e4]; rfl
        simp only [Instr.fieldAt, Sem.run_bind, h2, Result.andThen_ok, e3, Instr.sureAddr, pure_bind, this]
        rfl
      split at e8
      · obtain ⟨b, o, q1, q2⟩ := e9
        rw [q2]
        exact ⟨_, _, e8, key _ _, b, o, q1, by rw [Nat.add_assoc]⟩
      · obtain ⟨b, o, q1, q2⟩ := e9
        rw [q2]
        exact ⟨_, _, e8, key _ _, b, o, q1, by simp only [Nat.add_assoc]⟩
      · exact e8.elim
    · exact e2.elim
  · exact hk.elim
theorem x_field (hT : TTok P tt) {s : TypeId} {f : Nat} {ox : Operand} (hr : RelR ρ nt r a.tmps) {ti : TI} (ht : TIok P s ti)
    (hk : match ti.desc with
      | .struct fs => nthK fs f fun fd => tiK tt fd.2 fun fi => opK r ox fun x => tK x fun x => match x with
        | .agg l => dropK l fd.1 fun l => takeK l fi.size fun l => mkK fi l fun v => K (.t v) none
        | _ => False
      | _ => False) : ∃ x v, K x none ∧ (Instr.field s (a.eval ox) f).run P w = .ok v w ∧ DenR ρ x v := by
  obtain ⟨desc, h1, h2⟩ := ht.under (w := w)
  split at hk
  · rename_i fs hd
    rw [hd] at h1
    cases desc <;> try exact h1.elim
    rename_i fields
    obtain ⟨fd, e1, e2⟩ := nthK_ok hk
    obtain ⟨F, e3, e4, e5⟩ := struct_field h1 e1
    obtain ⟨fi, hfi, e2⟩ := tiK_ok hT e2
    obtain ⟨x, e6, e7⟩ := opK_ok e2 hr
    obtain ⟨y, e8, e9⟩ := tK_ok e6 e7
    split at e8
    · obtain ⟨vs, q1, q2⟩ := e9
      obtain ⟨l', q3, q4, q5⟩ := segs_part e8
      rw [← e5] at hfi
      obtain ⟨z, u, g1, g2, g3⟩ := part_ok (ρ := ρ) (w := w) hfi (k := fun v => K (.t v) none) q3 (arr := vs) (off := fd.1) (by rw [q4]; exact (q2.drop _).take _)
      refine ⟨_, u, g1, ?_, g3⟩
      simp only [Instr.field, Sem.run_bind, h2, Result.andThen_ok, e3, q1, asAgg, pure_bind, e4]
      exact g2
    · exact e8.elim
  · exact hk.elim
theorem x_indexAddr (hT : TTok P tt) {t : TypeId} {ox oi : Operand} (hr : RelR ρ nt r a.tmps) {ti : TI} (ht : TIok P t ti)
    (hk : opK r oi fun i => intK i fun _ i => opK r ox fun x => cK x fun c => match ti.desc, c with
    | .slice e, .slc n base sz off len _ _ => tiK tt e fun ei => match Nat.beq sz ei.size with
      | true => Chk (decide (0 ≤ i ∧ i < len)) (K (.t (.one (.ept n base sz (off + i.toNat) 0))) none)
      | false => False
    | .arr m e, .ptr n off => tiK tt e fun ei => Chk (decide (0 ≤ i ∧ i < m)) (match ti.zero with
      | .agg (.arr _ _ :: _) => match Nat.beq ei.size 1 with | true => K (.t (.one (.ept n off 1 i.toNat 0))) none | false => False
      | _ => K (.t (.one (.ptr n (off + i.toNat * ei.size)))) none)
    | _, _ => False) : ∃ x v, K x none ∧ (Instr.indexAt t (a.eval ox) (a.eval oi)).run P w = .ok v w ∧ DenR ρ x v := by
  obtain ⟨desc, h1, h2⟩ := ht.under (w := w)
  obtain ⟨x, e1, e2⟩ := opK_ok hk hr
  obtain ⟨kd, i, e3, e4⟩ := intK_ok e1 e2
  obtain ⟨y, e5, e6⟩ := opK_ok e3 hr
  obtain ⟨c, e7, e8⟩ := cK_ok e5 e6
  split at e7
  · rename_i e n base sz off len cap nl hd
    rw [hd] at h1
    cases desc <;> try exact h1.elim
    have h1 := h1; subst h1
    replace ⟨ei, hei, e7⟩ := tiK_ok hT e7
    split at e7
    · rename_i hsz
      have hsz := Nat.eq_of_beq_eq_true hsz
      replace ⟨hb, e7⟩ := Chk_ok e7
      replace hb := of_decide_eq_true hb
      obtain ⟨b, o, ad, q1, q2, q3, q4, q5⟩ := e8
      have hcap : 0 < cap := by omega
      refine ⟨_, .pointer (some ⟨b, o + (base + off * sz) + i.toNat * sz, none⟩), e7, ?_, b, o, q1, ?_⟩
      · rw [q2, q3 hcap, e4]
        simp only [Instr.indexAt, asIntOf, pure_bind, Sem.run_bind, h2, Result.andThen_ok, if_pos hb, hei.size, add_at, ← hsz]
        rfl
      · simp only [Value.pointer.injEq, Option.some.injEq, Addr.mk.injEq, true_and, and_true, Nat.add_mul]
        omega
    · exact e7.elim
  · rename_i m e n off hd
    rw [hd] at h1
    cases desc <;> try exact h1.elim
    obtain ⟨rfl, rfl⟩ := h1
    replace ⟨ei, hei, e7⟩ := tiK_ok hT e7
    replace ⟨hb, e7⟩ := Chk_ok e7
    replace hb := of_decide_eq_true hb
    obtain ⟨b, o, q1, q2⟩ := e8
    have key : (Instr.indexAt t (a.eval ox) (a.eval oi)).run P w = .ok (.pointer (some ⟨b, o + off + i.toNat * ei.size, none⟩)) w := by
      rw [q2, e4]
      simp only [Instr.indexAt, asIntOf, pure_bind, Sem.run_bind, h2, Result.andThen_ok, Instr.sureAddr, if_pos hb, hei.size, add_at]
      rfl
    split at e7
    · split at e7
      · rename_i h1'
        have h1' := Nat.eq_of_beq_eq_true h1'
        refine ⟨_, _, e7, key, b, o, q1, ?_⟩
        rw [h1']
        simp only [Value.pointer.injEq, Option.some.injEq, Addr.mk.injEq, true_and, and_true]
        omega
      · exact e7.elim
    · exact ⟨_, _, e7, key, b, o, q1, by rw [Nat.add_assoc]⟩
  · exact e7.elim
theorem bt_get {s : ByteArray} {n : Nat} (h : n < s.size) : s[n]? = some (s.data.toList.getD n 0) := by
  have h' : n < s.data.size := h
  rw [getElem?_pos s n h]
  simp [ByteArray.getElem_eq_getElem_data, Array.getElem?_eq_getElem h']
theorem x_index (hT : TTok P tt) {t : TypeId} {ox oi : Operand} (hr : RelR ρ nt r a.tmps) {ti : TI} (ht : TIok P t ti)
    (hk : opK r oi fun i => intK i fun _ i => opK r ox fun x => tK x fun x => match ti.desc, x with
    | .str, .one (.v (.string s)) => Chk (decide (0 ≤ i ∧ i < s.size)) (K (iv .u8 (bt s i.toNat)) none)
    | .arr m e, .agg l => tiK tt e fun ei => Chk (decide (0 ≤ i ∧ i < m)) (match l with
      | [.arr n f] => match Nat.beq ei.size 1, isAgg ei.desc, Nat.ble m n with
        | true, false, true => K (.t (.one (f i.toNat))) none
        | _, _, _ => False
      | l => dropK l (i.toNat * ei.size) fun l => takeK l ei.size fun l => mkK ei l fun v => K (.t v) none)
    | _, _ => False) : ∃ x v, K x none ∧ (Instr.index t (a.eval ox) (a.eval oi)).run P w = .ok v w ∧ DenR ρ x v := by
  obtain ⟨desc, h1, h2⟩ := ht.under (w := w)
  obtain ⟨x, e1, e2⟩ := opK_ok hk hr
  obtain ⟨kd, i, e3, e4⟩ := intK_ok e1 e2
  obtain ⟨y, e5, e6⟩ := opK_ok e3 hr
  obtain ⟨c, e7, e8⟩ := tK_ok e5 e6
  split at e7
  · rename_i s hd
    rw [hd] at h1
    cases desc <;> try exact h1.elim
    replace ⟨hb, e7⟩ := Chk_ok e7
    replace hb := of_decide_eq_true hb
    obtain ⟨q1, _⟩ := e8
    have hn : i.toNat < s.size := by omega
    refine ⟨_, _, e7, ?_, rfl, trivial⟩
    rw [q1, e4]
    simp only [Instr.index, asIntOf, pure_bind, Sem.run_bind, h2, Result.andThen_ok, if_pos hb.1, bt_get hn]
    rfl
  · rename_i m e l hd
    rw [hd] at h1
    cases desc <;> try exact h1.elim
    obtain ⟨rfl, rfl⟩ := h1
    replace ⟨ei, hei, e7⟩ := tiK_ok hT e7
    replace ⟨hb, e7⟩ := Chk_ok e7
    replace hb := of_decide_eq_true hb
    obtain ⟨vs, q1, q2⟩ := e8
    have key : ∀ {v}, (part e vs (i.toNat * ei.size)).run P w = .ok v w → (Instr.index t (a.eval ox) (a.eval oi)).run P w = .ok v w := fun {v} hv => by
      rw [q1, e4]
      simp only [Instr.index, asIntOf, pure_bind, Sem.run_bind, h2, Result.andThen_ok, if_pos hb, hei.size]
      exact hv
    split at e7
    · rename_i n f
      split at e7
      · have h3 : Nat.beq ei.size 1 = true := by assumption
        have h4 : isAgg ei.desc = false := by assumption
        rename_i h5
        have h3 := Nat.eq_of_beq_eq_true h3
        have h5 := ble_le h5
        have hlt : i.toNat < n := by omega
        have hg : (cells [Seg.arr n f])[i.toNat]? = some (f i.toNat) := by simp [cells, hlt]
        obtain ⟨u, g1, g2⟩ := q2.get hg
        refine ⟨_, u, e7, key ?_, g2⟩
        simp only [part, Sem.run_bind, hei.agg, h4, Result.andThen_ok, h3, Nat.mul_one]
        have : vs[i.toNat]? = some u := by simpa using g1
        simp only [this]; rfl
      · exact e7.elim
    · obtain ⟨l', q3, q4, q5⟩ := segs_part e7
      obtain ⟨z, u, g1, g2, g3⟩ := part_ok (ρ := ρ) (w := w) hei (k := fun v => K (.t v) none) q3 (arr := vs) (off := i.toNat * ei.size) (by rw [q4]; exact (q2.drop _).take _)
      exact ⟨_, u, g1, key g2, g3⟩
  · exact e7.elim
end
end Go.Eng
