/- Quiet operations that make blocks; structs. -/
import Derived.Test.YtakcnoggkdfgfaaEngI
import Derived.Laws.Tables
import Derived.Laws.MakeOwn
import Derived.Great.FillDense
namespace Go.Eng
open Go
variable {d : Nat}
section
variable {P : Program} {tt : TT} {ρ : Env} {h : Heap} {w : World} {nt nm : Nat} {r : Tr d} {a : Act} {K : R → Option Ob → Prop}
theorem newVar_run (t : TypeId) (v : Value) : (newVar t v).run P w = .ok ⟨w.heap.size, 0, none⟩ (w.alloc (.cells v.cells t)) := rfl
theorem relOb_own {ρ' : Env} {l : List Seg} {arr : Array Value} {E : TypeId} (h1 : ρ' nm = some (w.heap.size, 0)) (h2 : All2 (Den ρ') (cells l) arr.toList) :
    RelOb ρ' (w.alloc (.cells arr E)) nm (.own l) :=
  ⟨w.heap.size, E, (0, 0), arr, h1, by show (w.heap.push _)[w.heap.size]? = _; simp, fun o _ h => by simp at h, h2⟩
theorem x_alloc {t : TypeId} {ti : TI} (ht : TIok P t ti) (hk : K (.t (.one (.ptr nm 0))) (some (.own (segsOf ti.zero)))) :
    XOut ρ w nm K ((Instr.alloc t true (.tuple #[])).run P w) := by
  obtain ⟨z, h1, h2⟩ := ht.zero (w := w)
  refine ⟨_, _, .pointer (some ⟨w.heap.size, 0, none⟩), w.alloc (.cells z.cells t), ?_, hk, trivial, _, _, rfl, fun ρ' _ hn => ⟨⟨_, _, hn, rfl⟩, relOb_own hn (h2 ρ').cells⟩⟩
  simp only [Instr.alloc, Sem.run_bind, h1, Result.andThen_ok, newVar_run]
  rfl
theorem x_box {t : TypeId} {x : T} {v : Value} (hx : DenT ρ x v) (hk : K (.t (.one (.ptr nm 0))) (some (.own (segsOf x)))) :
    XOut ρ w nm K ((Instr.box t v).run P w) := by
  refine ⟨_, _, .pointer (some ⟨w.heap.size, 0, none⟩), w.alloc (.cells v.cells t), ?_, hk, trivial, _, _, rfl, fun ρ' hs hn => ⟨⟨_, _, hn, rfl⟩, relOb_own hn (hx.mono hs).cells⟩⟩
  simp only [Instr.box, Sem.run_bind, Result.andThen_ok, newVar_run]
  rfl
theorem nthD_get {α : Type} (z : α) : ∀ (l : List α) (i : Nat), nthD z l i = l.getD i z
  | x :: _, 0 => rfl
  | _ :: r, i + 1 => by simpa [nthD] using nthD_get z r i
  | [], _ => by simp [nthD]
/-! structs -/
theorem partsK_ok : ∀ {l : List (Nat × Operand)} {k : List (Nat × T) → Prop}, partsK r l k → RelR ρ nt r a.tmps →
    ∃ xs, k xs ∧ All2 (fun (x : Nat × T) (y : Nat × Value) => x.1 = y.1 ∧ DenT ρ x.2 y.2) xs (l.map fun (i, o) => (i, a.eval o))
  | [], _, h, _ => ⟨[], h, trivial⟩
  | (i, o) :: l, k, h, hr => by
    obtain ⟨x, h1, h2⟩ := opK_ok h hr
    obtain ⟨y, h3, h4⟩ := tK_ok h1 h2
    obtain ⟨xs, h5, h6⟩ := partsK_ok h3 hr
    exact ⟨_, h5, ⟨rfl, h4⟩, h6⟩
theorem mapM_at {α β : Type} {f : α → Option β} : ∀ {l : List α} {r : List β}, l.mapM f = some r → ∀ {i : Nat} {x : α}, l[i]? = some x → ∃ y, r[i]? = some y ∧ f x = some y
  | [], r, _, i, x, hx => by simp at hx
  | b :: l, r, hm, i, x, hx => by
    rw [List.mapM_cons] at hm
    cases hb : f b with
    | none => simp [hb] at hm
    | some y =>
      cases hl : l.mapM f with
      | none => simp [hb, hl] at hm
      | some ys =>
        simp [hb, hl] at hm
        subst hm
        cases i with
        | zero => simp at hx; subst hx; exact ⟨y, rfl, hb⟩
        | succ i => simpa using mapM_at hl (i := i) (by simpa using hx)
theorem fill_step {place : Nat → Option (Nat × Nat)} {l : List Seg} {arr : Array Value} (hl : All2 (Den ρ) (cells l) arr.toList) {x : T} {v : Value} (hx : DenT ρ x v)
    {i off sz : Nat} (hp : place i = some (off, sz)) (hn : nseg (segsOf x) = sz) {k : List Seg → Prop} (hk : putK l off (segsOf x) k) (rest : List (Nat × Value)) :
    ∃ l' arr', k l' ∧ All2 (Den ρ) (cells l') arr'.toList ∧ Instr.fill place arr ((i, v) :: rest) = Instr.fill place arr' rest := by
  obtain ⟨l', h1, h2, h3⟩ := putK_ok hk
  have hc := hx.cells
  have hlen := hc.length
  have hal := hl.length
  have hlen' : v.cells.size = (cells (segsOf x)).length := by simpa using hlen.symm
  have hal' : arr.size = (cells l).length := by simpa using hal.symm
  obtain ⟨g1, g2⟩ := Great.foldl_set off v.cells.toList 0 arr
  refine ⟨l', (v.cells.toList.zipIdx 0).foldl (fun cs (x : Value × Nat) => cs.setIfInBounds (off + x.2) x.1) arr, h1, All2.of_get ?_ fun j c u hj hu => ?_, ?_⟩
  · rw [h2]
    simp only [List.length_append, List.length_take, List.length_drop, Array.length_toList, g1]
    omega
  · rw [h2] at hj
    have hu' : ((v.cells.toList.zipIdx 0).foldl (fun cs (x : Value × Nat) => cs.setIfInBounds (off + x.2) x.1) arr)[j]? = some u := by simpa using hu
    rw [g2 j] at hu'
    simp only [Nat.add_zero, Array.length_toList] at hu'
    by_cases c1 : off ≤ j ∧ j < off + v.cells.size ∧ j < arr.size
    · rw [if_pos c1] at hu'
      rw [List.getElem?_append_right (by simp; omega), List.getElem?_append_left (by simp; omega)] at hj
      simp only [List.length_take, show min off (cells l).length = off by omega] at hj
      obtain ⟨u', q1, q2⟩ := hc.get hj
      rw [hu'] at q1; exact (Option.some.inj q1) ▸ q2
    · rw [if_neg c1] at hu'
      have hju : arr.toList[j]? = some u := by simpa using hu'
      by_cases c2 : j < off
      · rw [List.getElem?_append_left (by simp; omega), List.getElem?_take, if_pos c2] at hj
        obtain ⟨u', q1, q2⟩ := hl.get hj
        rw [hju] at q1; exact (Option.some.inj q1) ▸ q2
      · have c3 : off + v.cells.size ≤ j := by
          rcases Nat.lt_or_ge j (off + v.cells.size) with c | c
          · exact absurd ⟨Nat.le_of_not_lt c2, c, by omega⟩ c1
          · exact c
        rw [List.getElem?_append_right (by simp; omega), List.getElem?_append_right (by simp; omega), List.getElem?_drop] at hj
        simp only [List.length_take, show min off (cells l).length = off by omega] at hj
        rw [show off + (cells (segsOf x)).length + (j - off - (cells (segsOf x)).length) = j by omega] at hj
        obtain ⟨u', q1, q2⟩ := hl.get hj
        rw [hju] at q1; exact (Option.some.inj q1) ▸ q2
  · conv => lhs; unfold Instr.fill
    simp only [hp]
    rw [if_neg (by rw [nseg_cells] at hn; simp; omega)]
    rw [← Array.foldl_toList, Array.toList_zipIdx]
theorem fillK_ok (hT : TTok P tt) {desc : Eng.K} {place : Nat → Option (Nat × Nat)}
    (hpl : match desc with
      | .struct fs => ∀ i f fi, fs[i]? = some f → TIok P f.2 fi → place i = some (f.1, fi.size)
      | .arr _ e => ∀ i fi, TIok P e fi → place i = some (i * fi.size, fi.size)
      | _ => True) :
    ∀ {xs : List (Nat × T)} {vs : List (Nat × Value)} {l : List Seg} {arr : Array Value} {k : List Seg → Prop}, fillK tt desc l xs k →
      All2 (fun (x : Nat × T) (y : Nat × Value) => x.1 = y.1 ∧ DenT ρ x.2 y.2) xs vs → All2 (Den ρ) (cells l) arr.toList →
      ∃ l' arr', k l' ∧ Instr.fill place arr vs = some arr' ∧ All2 (Den ρ) (cells l') arr'.toList
  | [], [], l, arr, k, hk, _, hl => ⟨l, arr, by simpa [fillK] using hk, rfl, hl⟩
  | [], _ :: _, _, _, _, _, hv, _ => hv.elim
  | _ :: _, [], _, _, _, _, hv, _ => hv.elim
  | (i, x) :: xs, (j, v) :: vs, l, arr, k, hk, hv, hl => by
    obtain ⟨⟨hij, hx⟩, hv⟩ := hv
    simp only at hij hx
    subst hij
    unfold fillK at hk
    split at hk
    · rename_i fs
      obtain ⟨f, e1, hk⟩ := nthK_ok hk
      obtain ⟨fi, hfi, hk⟩ := tiK_ok hT hk
      split at hk
      · rename_i hn
        obtain ⟨l', arr', q1, q2, q3⟩ := fill_step (place := place) hl hx (hpl i f fi e1 hfi) (Nat.eq_of_beq_eq_true hn) hk vs
        obtain ⟨l2, arr2, g1, g2, g3⟩ := fillK_ok hT hpl q1 hv q2
        exact ⟨l2, arr2, g1, by rw [q3, g2], g3⟩
      · exact hk.elim
    · rename_i n e
      obtain ⟨fi, hfi, hk⟩ := tiK_ok hT hk
      split at hk
      · rename_i hn
        obtain ⟨l', arr', q1, q2, q3⟩ := fill_step (place := place) hl hx (hpl i fi hfi) (Nat.eq_of_beq_eq_true hn) hk vs
        obtain ⟨l2, arr2, g1, g2, g3⟩ := fillK_ok hT hpl q1 hv q2
        exact ⟨l2, arr2, g1, by rw [q3, g2], g3⟩
      · exact hk.elim
    · exact hk.elim
theorem x_build (hT : TTok P tt) {t : TypeId} {ps : Array (Nat × Operand)} (hr : RelR ρ nt r a.tmps) {ti : TI} (ht : TIok P t ti)
    (hk : match ti.desc with
    | .struct fs => partsK r ps.toList fun ps => fillK tt (.struct fs) (segsOf ti.zero) ps fun l => K (.t (.agg l)) none
    | .arr n e => tiK tt e fun _ => partsK r ps.toList fun ps => fillK tt (.arr n e) (segsOf ti.zero) ps fun l => K (.t (.agg l)) none
    | _ => False) :
    ∃ x v, K x none ∧ (Instr.build t (ps.map fun (i, x) => (i, a.eval x))).run P w = .ok v w ∧ DenR ρ x v := by
  obtain ⟨i, desc, z, e1, e2, e3, e4, e5, e6, e7, e8⟩ := ht
  have hz : All2 (Den ρ) (cells (segsOf ti.zero)) z.cells.toList := (e7 ρ).cells
  have hvs : (ps.map fun (i, x) => (i, a.eval x)).toList = ps.toList.map fun (i, o) => (i, a.eval o) := by simp
  have fin : ∀ {desc : Eng.K} {place : Nat → Option (Nat × Nat)}, (partsK r ps.toList fun ps => fillK tt desc (segsOf ti.zero) ps fun l => K (.t (.agg l)) none) → (match desc with
      | .struct fs => ∀ i f fi, fs[i]? = some f → TIok P f.2 fi → place i = some (f.1, fi.size)
      | .arr _ e => ∀ i fi, TIok P e fi → place i = some (i * fi.size, fi.size)
      | _ => True) → (∀ c, Instr.fill place z.cells (ps.map fun (i, x) => (i, a.eval x)).toList = some c → P.built t (ps.map fun (i, x) => (i, a.eval x)).toList = some c) →
      ∃ x v, K x none ∧ (Instr.build t (ps.map fun (i, x) => (i, a.eval x))).run P w = .ok v w ∧ DenR ρ x v := fun {desc place} hk hp hb => by
    obtain ⟨xs, h1, h2⟩ := partsK_ok hk hr
    obtain ⟨l', arr', q1, q2, q3⟩ := fillK_ok hT (place := place) hp h1 h2 hz
    refine ⟨_, .agg arr', q1, run_build w t _ _ (hb _ ?_), arr', rfl, q3⟩
    rw [hvs]; exact q2
  split at hk
  · rename_i fs hd
    rw [hd] at e3
    cases desc <;> try exact e3.elim
    rename_i fields
    obtain ⟨places, hpl⟩ := e8 fields rfl
    refine fin (place := fun i => places.toArray[i]?) hk ?_ fun c hc => by simp only [Program.built, e1, e2, e6, hpl]; exact hc
    intro i f fi hf hfi
    obtain ⟨F, q1, q2, q3⟩ := struct_field e3 hf
    obtain ⟨y, q4, q5⟩ := mapM_at hpl (i := i) (x := F) (by simpa using q1)
    obtain ⟨i', desc', z', g1, g2, g3, g4, _⟩ := hfi
    rw [q3, g1] at q5
    simp at q5
    simp [q4, ← q5, q2, g4]
  · rename_i n e hd
    rw [hd] at e3
    cases desc <;> try exact e3.elim
    obtain ⟨rfl, rfl⟩ := e3
    replace ⟨ei, hei, hk⟩ := tiK_ok hT hk
    obtain ⟨i', desc', z', g1, g2, g3, g4, _⟩ := hei
    refine fin (place := fun j => some (j * i'.size, i'.size)) hk ?_ fun c hc => by simp only [Program.built, e1, e2, e6, g1]; exact hc
    intro j fi hfi
    obtain ⟨i2, desc2, z2, k1, k2, k3, k4, _⟩ := hfi
    rw [g1] at k1; injection k1 with k1; subst k1
    simp [k4]
  · exact hk.elim
theorem elemsK_ok {sz : Nat} : ∀ {xs : List (Nat × T)} {i : Nat} {k : List (List C) → Prop}, elemsK sz i xs k → ∀ {vs : List (Nat × Value)},
    All2 (fun (x : Nat × T) (y : Nat × Value) => x.1 = y.1 ∧ DenT ρ x.2 y.2) xs vs →
    ∃ l us, k l ∧ vs = (us.zipIdx i).map (fun x => (x.2, x.1)) ∧ All2 (fun (c : List C) (u : Value) => All2 (Den ρ) c u.cells.toList ∧ u.cells.size = sz) l us
  | [], i, k, hk, [], _ => ⟨[], [], hk, rfl, trivial⟩
  | [], _, _, _, _ :: _, hv => hv.elim
  | _ :: _, _, _, _, [], hv => hv.elim
  | (j, x) :: xs, i, k, hk, (j', v) :: vs, hv => by
    obtain ⟨⟨hij, hx⟩, hv⟩ := hv
    simp only at hij hx
    subst hij
    unfold elemsK at hk
    split at hk
    · rename_i hj
      have hj := Nat.eq_of_beq_eq_true hj
      subst hj
      split at hk
      · rename_i hn
        have hn := Nat.eq_of_beq_eq_true hn
        have hk := cellsK_ok hk
        obtain ⟨l, us, q1, q2, q3⟩ := elemsK_ok hk hv
        refine ⟨_, v :: us, q1, by simp [q2], ⟨hx.cells, ?_⟩, q3⟩
        have := hx.cells.length
        rw [nseg_cells] at hn
        simp at this; omega
      · exact hk.elim
    · exact hk.elim
end
end Go.Eng
