/- Quiet operations, on. -/
import Derived.Test.YtakcnoggkdfgfaaEngJ
namespace Go.Eng
open Go
variable {d : Nat}
section
variable {P : Program} {tt : TT} {ρ : Env} {h : Heap} {w : World} {nt nm : Nat} {r : Tr d} {a : Act} {K : R → Option Ob → Prop}
/-- A row that was just made. -/
theorem relOb_row {ρ' : Env} {arr : Array Value} {E : TypeId} {sz n tot : Nat} {f : Nat → List C} (h1 : ρ' nm = some (w.heap.size, 0)) (hnt : n ≤ tot) (hs : tot * sz ≤ arr.size)
    (h2 : ∀ i, i < n → ∃ vs, All2 (Den ρ') (f i) vs ∧ vs.length = sz ∧ ∀ j v, vs[j]? = some v → arr[i * sz + j]? = some v) :
    RelOb ρ' (w.alloc (.cells arr E)) nm (.row sz n f tot) := by
  have hb : (w.alloc (.cells arr E)).heap[w.heap.size]? = some (.cells arr E) := by show (w.heap.push _)[w.heap.size]? = _; simp
  refine ⟨⟨_, h1⟩, hnt, fun _ => ⟨w.heap.size, 0, E, (0, 0), arr, h1, hb, fun o _ h => by simp at h, by omega, fun i hi => ?_⟩⟩
  obtain ⟨vs, q1, q2, q3⟩ := h2 i hi
  refine ⟨vs, q1, q2, fun j v hj => ?_⟩
  simp only [World.cell?, hb, Nat.zero_add]
  simpa using q3 j v hj
theorem slc_new {ρ' : Env} {b sz len cap : Nat} (h1 : ρ' nm = some (b, 0)) (hc : len ≤ cap) : Den ρ' (.slc nm 0 sz 0 len cap false) (.slice (some ⟨b, 0, none⟩) len cap) :=
  ⟨b, 0, some ⟨b, 0, none⟩, h1, rfl, fun _ => by simp, rfl, hc⟩
theorem x_buildSlice (hT : TTok P tt) {t : TypeId} {len : Nat} {ps : Array (Nat × Operand)} (hr : RelR ρ nt r a.tmps) {ti : TI} (ht : TIok P t ti)
    (hk : match ti.desc with
    | .slice e => tiK tt e fun ei => match Nat.ble (len * ei.size) 16777216 && Nat.blt 0 ei.size with
      | true => partsK r ps.toList fun ps => elemsK ei.size 0 ps fun l => match Nat.beq l.length len with
        | true => K (.t (.one (.slc nm 0 ei.size 0 len len false))) (some (.row ei.size len (fun i => nthD [] l i) len))
        | false => False
      | false => False
    | _ => False) : XOut ρ w nm K ((Instr.buildSlice t len (ps.map fun (i, x) => (i, a.eval x))).run P w) := by
  obtain ⟨desc, h1, h2⟩ := ht.under (w := w)
  split at hk
  · rename_i e hd
    rw [hd] at h1
    cases desc <;> try exact h1.elim
    have h1 := h1; subst h1
    replace ⟨ei, hei, hk⟩ := tiK_ok hT hk
    split at hk
    · rename_i hb
      simp only [Bool.and_eq_true] at hb
      have hb1 := ble_le hb.1
      have hb2 : 0 < ei.size := Nat.le_of_ble_eq_true hb.2
      replace ⟨xs, e1, e2⟩ := partsK_ok hk hr
      replace ⟨l, us, e3, e4, e5⟩ := elemsK_ok e1 e2
      split at e3
      · rename_i hlen
        have hlen := Nat.eq_of_beq_eq_true hlen
        have hul : us.length = len := by rw [← e5.length, hlen]
        obtain ⟨z, z1, z2⟩ := hei.zero (w := w)
        have hu : ∀ v ∈ us, v.cells.size = ei.size := fun v hv => by
          obtain ⟨i, hi⟩ := List.getElem?_of_mem hv
          obtain ⟨c, _, hc⟩ := e5.get' hi
          exact hc.2
        obtain ⟨arr, g1, g2, g3⟩ := Great.fill_dense hb2 us 0 ((Array.range (len * ei.size)).map (z.cells[· % z.cells.size]!)) hu (by simp [hul])
        simp only [Nat.zero_add, Array.size_map, Array.size_range, hul] at g1 g2 g3
        have hvs : (ps.map fun (i, x) => (i, a.eval x)).toList = ps.toList.map fun (i, o) => (i, a.eval o) := by simp
        rw [← e4, ← hvs] at g1
        refine ⟨_, _, .slice (some ⟨w.heap.size, 0, none⟩) len len, w.alloc (.cells arr e), ?_, e3, trivial, _, _, rfl, fun ρ' hs hn => ⟨slc_new hn (Nat.le_refl _), relOb_row hn (Nat.le_refl _) (by omega) fun i hi => ?_⟩⟩
        · have hg1 : Instr.fill (fun i => some (i * ei.size, ei.size)) ((Array.range (len * ei.size)).map (z.cells[· % z.cells.size]!)) (ps.map fun (i, x) => (i, a.eval x)).toList = some arr := g1
          simp only [Instr.buildSlice, Sem.run_bind, h2, Result.andThen_ok, hei.size]
          rw [if_neg (by simp; omega)]
          by_cases h0 : len * ei.size = 0
          · have hl0 : len = 0 := by rcases Nat.mul_eq_zero.1 h0 with h | h; exact h; omega
            subst hl0
            simp only [Nat.zero_mul, if_true, pure_bind] at hg1 ⊢
            have : ((Array.range 0).map ((#[] : Array Value)[· % (#[] : Array Value).size]!)) = ((Array.range 0).map (z.cells[· % z.cells.size]!)) := by simp
            rw [this, hg1]; rfl
          · simp only [if_neg h0, Sem.run_bind, z1, Result.andThen_ok]
            have hg2 : Instr.fill (fun i => some (i * ei.size, ei.size)) ((Array.range (len * ei.size)).map (fun x => z.cells[x % z.cells.size]!)) (ps.map fun x => (x.fst, a.eval x.snd)).toList = some arr := hg1
            simp only [Sem.run_pure, Result.andThen_ok, hg2]
            rfl
        · obtain ⟨c, hc⟩ : ∃ c, l[i]? = some c := ⟨l[i]'(by omega), List.getElem?_eq_getElem (by omega)⟩
          obtain ⟨u, hu1, hu2, hu3⟩ := e5.get hc
          refine ⟨u.cells.toList, ?_, by simpa using hu3, fun j v hj => ?_⟩
          · rw [nthD_get, List.getD_eq_getElem?_getD, hc]; exact hu2.imp fun _ _ => Den.mono hs
          · have hj' : j < ei.size := by
              rcases Nat.lt_or_ge j u.cells.toList.length with q | q
              · simpa [hu3] using q
              · rw [List.getElem?_eq_none q] at hj; cases hj
            rw [g3]
            have hlt : i * ei.size + j < len * ei.size := by
              calc i * ei.size + j < i * ei.size + ei.size := by omega
                _ = (i + 1) * ei.size := by rw [Nat.add_mul, Nat.one_mul]
                _ ≤ len * ei.size := Nat.mul_le_mul_right _ hi
            rw [if_pos ⟨by omega, hlt⟩]
            have hd1 : (i * ei.size + j) / ei.size = i := by rw [Nat.mul_comm, Nat.mul_add_div hb2, Nat.div_eq_of_lt hj']; rfl
            have hd2 : (i * ei.size + j) % ei.size = j := by rw [Nat.mul_comm, Nat.mul_add_mod, Nat.mod_eq_of_lt hj']
            rw [hd1, hd2, Nat.sub_zero, hu1]
            simpa using hj
      · exact e3.elim
    · exact hk.elim
  · exact hk.elim
theorem x_makeSlice (hT : TTok P tt) {t : TypeId} {ol oc : Operand} (hr : RelR ρ nt r a.tmps) {ti : TI} (ht : TIok P t ti)
    (hk : match ti.desc with
    | .slice e => tiK tt e fun ei => opK r ol fun l => intK l fun _ l => opK r oc fun c => intK c fun _ c => cellsK (segsOf ei.zero) fun z => match Nat.beq z.length ei.size with
      | false => False
      | true =>
        Chk (decide (0 ≤ l ∧ l ≤ c ∧ ei.bytes * c ≤ 281474976710656 ∧ c ≤ 9223372036854775807)) (K (.t (.one (.slc nm 0 ei.size 0 l.toNat c.toNat false))) (some (.row ei.size c.toNat (fun _ => z) c.toNat)))
    | _ => False) : XOut ρ w nm K ((Instr.makeSlice t (a.eval ol) (a.eval oc)).run P w) := by
  split at hk
  · rename_i e hd
    replace ⟨ei, hei, hk⟩ := tiK_ok hT hk
    obtain ⟨x, e1, e2⟩ := opK_ok hk hr
    obtain ⟨kl, l, e3, e4⟩ := intK_ok e1 e2
    obtain ⟨y, e5, e6⟩ := opK_ok e3 hr
    obtain ⟨kc, c, e7, e8⟩ := intK_ok e5 e6
    replace e7 := cellsK_ok e7
    split at e7
    · exact e7.elim
    · rename_i hz
      have hz := Nat.eq_of_beq_eq_true hz
      replace ⟨hb, e7⟩ := Chk_ok e7
      replace hb := of_decide_eq_true hb
      obtain ⟨i, desc, zv, q1, q2, q3, q4, q5, q6, q7, _⟩ := ht
      rw [hd] at q3
      cases desc <;> try exact q3.elim
      have q3 := q3; subst q3
      obtain ⟨ie, de, ze, g1, g2, g3, g4, g5, g6, g7, _⟩ := hei
      have hrun := run_make (P := P) w t e ie ze q2 g1 g6 kl kc l c hb.1 hb.2.1 (by rw [g5]; exact hb.2.2.1) hb.2.2.2
      rw [e4, e8]
      refine ⟨_, _, _, _, hrun, e7, trivial, _, _, rfl, fun ρ' hs hn => ⟨slc_new hn (by omega), relOb_row hn (Nat.le_refl _) (by rw [size_madeCells, g4]; exact Nat.le_refl _) fun j hj => ?_⟩⟩
      have hc := (g7 ρ').cells
      have hl := hc.length
      have hzs : ze.cells.size = ei.size := by simp at hl; omega
      refine ⟨ze.cells.toList, hc, by simpa using hzs, fun q v hq => ?_⟩
      have hq' : q < ei.size := by
        rcases Nat.lt_or_ge q ze.cells.toList.length with g | g
        · simpa [hzs] using g
        · rw [List.getElem?_eq_none g] at hq; cases hq
      have hlt : j * ei.size + q < c.toNat * ei.size := by
        calc j * ei.size + q < j * ei.size + ei.size := by omega
          _ = (j + 1) * ei.size := by rw [Nat.add_mul, Nat.one_mul]
          _ ≤ c.toNat * ei.size := Nat.mul_le_mul_right _ hj
      have hd2 : (j * ei.size + q) % ei.size = q := by rw [Nat.mul_comm, Nat.mul_add_mod, Nat.mod_eq_of_lt hq']
      simp only [madeCells, g4, Array.getElem?_map, Array.getElem?_range, if_pos hlt, Option.map_some, hzs, hd2]
      have hq2 : ze.cells[q]? = some v := by simpa using hq
      rw [getElem!_def, hq2]
  · exact hk.elim
end
end Go.Eng
