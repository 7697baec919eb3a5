/- The quiet operations, all. -/
import Derived.Test.YtakcnoggkdfgfaaEngM
namespace Go.Eng
open Go
variable {d : Nat}
section
variable {P : Program} {tt : TT} {ρ : Env} {h : Heap} {w : World} {nt nm : Nat} {r : Tr d} {a : Act} {K : R → Option Ob → Prop}
theorem push_all : ∀ (ns : List Int) (s : ByteArray), (ns.foldl (fun r n => r.push (UInt8.ofNat n.toNat)) s).data.toList = s.data.toList ++ ns.map fun n => UInt8.ofNat n.toNat
  | [], s => by simp
  | n :: ns, s => by simp only [List.foldl_cons]; rw [push_all ns]; simp [ByteArray.push]
theorem binj {a b : ByteArray} (h : a.data.toList = b.data.toList) : a = b := by
  obtain ⟨⟨x⟩⟩ := a
  obtain ⟨⟨y⟩⟩ := b
  simp at h
  rw [h]
theorem flat_congr {α β : Type} {f g : α → List β} : ∀ {l : List α}, (∀ x ∈ l, f x = g x) → l.flatMap f = l.flatMap g
  | [], _ => rfl
  | x :: l, h => by rw [List.flatMap_cons, List.flatMap_cons, h x (by simp), flat_congr fun y hy => h y (by simp [hy])]
theorem bytesB_ok {len : Nat} {f : Nat → List C} (h : bytesB len f = true) : ∀ i, i < len → ∃ n, f i = [.v (.int .u8 n)] := fun i hi => by
  have := List.all_eq_true.1 h i (by simpa using hi)
  unfold byteB at this
  split at this
  · exact ⟨_, by assumption⟩
  · cases this
theorem bytesB_mk {len : Nat} {f : Nat → List C} (h : ∀ i, i < len → ∃ n, f i = [.v (.int .u8 n)]) : bytesB len f = true := by
  refine List.all_eq_true.2 fun i hi => ?_
  obtain ⟨n, e⟩ := h i (by simpa using hi)
  rw [e]; rfl
theorem src_slice {v : Value} {len : Nat} {f : Nat → List C} (hs : Src P ρ w v len 1 f) (hb : bytesB len f = true) (hv : (∃ ad c, v = .slice ad len c ∧ (ad = none → len = 0))) :
    (Conv.bytesToString v).run P w = .ok (.string (mkStr len f)) w := by
  obtain ⟨_, us, h1, h2⟩ := hs
  have hb := bytesB_ok hb
  obtain ⟨ad, c, rfl, hn⟩ := hv
  have hex : ∀ i, i < len → us i = [.int .u8 (match f i with | [.v (.int .u8 n)] => n | _ => 0)] := fun i hi => by
    obtain ⟨n, e⟩ := hb i hi
    have := (h1 i hi).1
    rw [e] at this ⊢
    match us i, this with
    | [u], ⟨⟨e, _⟩, _⟩ => rw [e]
  cases ad with
  | none =>
    have := hn rfl
    subst this
    simp [Conv.bytesToString, mkStr]
    rfl
  | some ad =>
    have hl := h2 len (Nat.le_refl _)
    simp only [Builtin.firstCells, Nat.mul_one] at hl
    have e : ((List.range len).flatMap us) = ((List.range len).map fun i => (match f i with | [.v (.int .u8 n)] => n | _ => 0)).map (Value.int .u8) := by
      rw [List.map_map, List.map_eq_flatMap]
      refine flat_congr fun i hi => ?_
      rw [hex i (by simpa using hi)]; rfl
    rw [e] at hl
    rw [run_bytesToString (P := P) w ad len c _ hl]
    congr 2
    apply binj
    rw [push_all]
    simp only [mkStr, List.map_map]
    show [] ++ _ = _
    rw [List.nil_append]
    apply List.map_congr_left
    intro i hi
    obtain ⟨n, e⟩ := hb i (by simpa using hi)
    simp only [Function.comp, e]
end
end Go.Eng
namespace Go.Eng
open Go
variable {d : Nat}
section
variable {P : Program} {tt : TT} {ρ : Env} {h : Heap} {w : World} {nt nm : Nat} {r : Tr d} {a : Act} {K : R → Option Ob → Prop}
theorem NOut.of {x : R} {s : Sem Value} {v : Value} (h1 : K x none) (h2 : s.run P w = .ok v w) (h3 : DenR ρ x v) : NOut ρ w nm K ((do pure (Next.value (← s)) : Sem Next).run P w) := NOut.val h1 (run_v h2) h3
theorem NOut.ofX {s : Sem Value} (h : XOut ρ w nm K (s.run P w)) : NOut ρ w nm K ((do pure (Next.value (← s)) : Sem Next).run P w) := by
  obtain ⟨x, b, v, w', h1, h2, h3⟩ := h
  exact ⟨x, b, v, w', run_v h1, h2, h3⟩
theorem x_un {op : UnOp} {x : R} {v : Value} (hx : DenR ρ x v) {K : R → Prop} (hk : unK op x K) : ∃ z u, K z ∧ (Op.unary op v).run P w = .ok u w ∧ DenR ρ z u := by
  unfold unK at hk
  split at hk
  · obtain ⟨rfl, _⟩ := hx
    exact ⟨_, _, hk, rfl, rfl, trivial⟩
  · obtain ⟨rfl, _⟩ := hx
    exact ⟨_, _, Bnd_ok hk, rfl, rfl, trivial⟩
  · exact hk.elim
theorem x_convert (hT : TTok P tt) (hr : RelR ρ nt r a.tmps) (hh : Rel ρ h w) {s t : TypeId} {ox : Operand}
    (hk : tiK tt s fun si => tiK tt t fun ti => opK r ox fun x => match si.desc, ti.desc, x with
    | .int _, .int k, .t (.one (.v (.int _ n))) => Bnd k n fun n => K (iv k n) none
    | .str, .str, .t (.one (.v (.string s))) => K (sv s) none
    | .slice e, .str, .t (.one (.slc n b sz off len cap nl)) => tiK tt e fun ei => match ei.desc with
      | .int .u8 => match Nat.beq sz 1 with
        | true => srcK h (.t (.one (.slc n b sz off len cap nl))) fun len f => Chk (bytesB len f) (K (sv (mkStr len f)) none)
        | false => False
      | _ => False
    | .slice e, .str, .t (.one (.v (.slice none 0 0))) => tiK tt e fun ei => match ei.desc with
      | .int .u8 => K (sv .empty) none
      | _ => False
    | _, _, _ => False) : ∃ x v, K x none ∧ (convert s t (a.eval ox)).run P w = .ok v w ∧ DenR ρ x v := by
  obtain ⟨si, hsi, hk⟩ := tiK_ok hT hk
  obtain ⟨ti, hti, hk⟩ := tiK_ok hT hk
  obtain ⟨x, e1, e2⟩ := opK_ok hk hr
  obtain ⟨ds, s1, s2⟩ := hsi.under (w := w)
  obtain ⟨dt, t1, t2⟩ := hti.under (w := w)
  split at e1
  · rename_i h1 h2
    rw [h1] at s1; rw [h2] at t1
    cases ds <;> try exact s1.elim
    cases dt <;> try exact t1.elim
    have t1 := t1; subst t1
    obtain ⟨q, _⟩ := e2
    refine ⟨_, _, Bnd_ok e1, ?_, rfl, trivial⟩
    rw [q]
    simp only [convert, Sem.run_bind, s2, t2, Result.andThen_ok]; rfl
  · rename_i h1 h2
    rw [h1] at s1; rw [h2] at t1
    cases ds <;> try exact s1.elim
    cases dt <;> try exact t1.elim
    obtain ⟨q, _⟩ := e2
    refine ⟨_, _, e1, ?_, rfl, trivial⟩
    rw [q]
    simp only [convert, Sem.run_bind, s2, t2, Result.andThen_ok]; rfl
  · rename_i e n b sz off len cap nl h1 h2
    rw [h1] at s1; rw [h2] at t1
    cases ds <;> try exact s1.elim
    cases dt <;> try exact t1.elim
    have s1 := s1; subst s1
    replace ⟨ei, hei, e1⟩ := tiK_ok hT e1
    obtain ⟨de, d1, d2⟩ := hei.under (w := w)
    split at e1
    · rename_i h3
      rw [h3] at d1
      cases de <;> try exact d1.elim
      have d1 := d1; subst d1
      split at e1
      case h_2 => exact e1.elim
      rename_i hsz
      obtain ⟨len2, f, g1, g2⟩ := srcK_ok (P := P) e1 e2
      replace g2 := g2 w hh 1 hsz
      obtain ⟨g3, g4⟩ := Chk_ok g1
      have hv : ∃ ad c, a.eval ox = .slice ad len2 c ∧ (ad = none → len2 = 0) := by
        have hlen := g2.1
        obtain ⟨b, o, ad, q1, q2, q3, q4, q5⟩ := e2
        rw [q2] at hlen ⊢
        have hlen : len = len2 := by simpa [Builtin.lenOf, pure, Sem.run] using hlen
        subst hlen
        refine ⟨ad, _, rfl, fun hn => ?_⟩
        rcases Nat.eq_zero_or_pos cap with hc | hc
        · omega
        · rw [q3 hc] at hn; cases hn
      refine ⟨_, _, g4, ?_, rfl, trivial⟩
      have hb := src_slice g2 g3 hv
      obtain ⟨ad, c, q, _⟩ := hv
      rw [q] at hb ⊢
      simp only [convert, Sem.run_bind, s2, t2, Result.andThen_ok, d2]
      exact hb
    · exact e1.elim
  · rename_i e h1 h2
    rw [h1] at s1; rw [h2] at t1
    cases ds <;> try exact s1.elim
    cases dt <;> try exact t1.elim
    have s1 := s1; subst s1
    replace ⟨ei, hei, e1⟩ := tiK_ok hT e1
    obtain ⟨de, d1, d2⟩ := hei.under (w := w)
    split at e1
    · rename_i h3
      rw [h3] at d1
      cases de <;> try exact d1.elim
      have d1 := d1; subst d1
      obtain ⟨q, _⟩ := e2
      refine ⟨_, _, e1, ?_, rfl, trivial⟩
      rw [q]
      simp only [convert, Sem.run_bind, s2, t2, Result.andThen_ok, d2]
      rfl
    · exact e1.elim
  · exact e1.elim
theorem ptrsK_ok : ∀ {l : List R} {k : List (Nat × Nat) → Prop} {vs : List Value}, ptrsK l k → All2 (DenR ρ) l vs → ∃ ps as, k ps ∧ vs = (as.map fun a => Value.pointer (some a)) ∧ All2 (ptrAt ρ) ps as
  | [], k, [], hk, _ => ⟨[], [], by simpa [ptrsK] using hk, rfl, trivial⟩
  | [], _, _ :: _, _, hv => hv.elim
  | _ :: _, _, [], _, hv => hv.elim
  | x :: l, k, v :: vs, hk, hv => by
    unfold ptrsK at hk
    split at hk
    · simp_all
    · rename_i heq
      injection heq with h1 h2
      subst h1 h2
      obtain ⟨⟨b, o, h3, h4⟩, hv⟩ := hv
      obtain ⟨ps, as, q1, q2, q3⟩ := ptrsK_ok hk hv
      exact ⟨_, ⟨b, o + _, none⟩ :: as, q1, by rw [h4, q2]; rfl, ⟨b, o, h3, rfl⟩, q3⟩
    · exact hk.elim
theorem x_len (hT : TTok P tt) {args : Array Operand} {argTypes : Array TypeId} (hr : RelR ρ nt r a.tmps)
    (hk : opsK r args.toList fun xs => match xs, argTypes.toList with
      | [x], t :: _ => tiK tt t fun ti => cK x fun c => match ti.desc, c with
        | .str, .v (.string s) => K (iv .i64 s.size) none
        | .slice _, .slc _ _ _ _ len _ _ => K (iv .i64 len) none
        | .slice _, .v (.slice none 0 0) => K (iv .i64 0) none
        | _, _ => False
      | _, _ => False) (type : TypeId) : ∃ x v, K x none ∧ (Builtin.len_ argTypes type (args.map a.eval)).run P w = .ok v w ∧ DenR ρ x v := by
  obtain ⟨xs, h1, h2⟩ := opsK_ok hk hr
  split at h1
  · rename_i x t ts heq
    obtain ⟨ti, hti, h1⟩ := tiK_ok hT h1
    obtain ⟨dt, t1, t2⟩ := hti.under (w := w)
    obtain ⟨v, hv⟩ : ∃ v, args.toList.map a.eval = [v] := by
      match e : args.toList.map a.eval, h2 with
      | [v], _ => exact ⟨v, rfl⟩
      | [], h => exact h.elim
      | _ :: _ :: _, h => exact h.2.elim
    rw [hv] at h2
    have hav : (args.map a.eval)[0]? = some v := by
      have : (args.map a.eval).toList = [v] := by simpa using hv
      rw [← Array.getElem?_toList, this]; rfl
    have hat : argTypes[0]? = some t := by rw [← Array.getElem?_toList, heq]; rfl
    obtain ⟨c, e1, e2⟩ := cK_ok h1 h2.1
    split at e1
    · rename_i hd
      rw [hd] at t1
      cases dt <;> try exact t1.elim
      obtain ⟨rfl, _⟩ := e2
      refine ⟨_, _, e1, ?_, rfl, trivial⟩
      simp only [Builtin.len_, hat, hav, Sem.run_bind, t2, Result.andThen_ok]; rfl
    · rename_i hd
      rw [hd] at t1
      cases dt <;> try exact t1.elim
      obtain ⟨b, o, ad, q1, rfl, _⟩ := e2
      refine ⟨_, _, e1, ?_, rfl, trivial⟩
      simp only [Builtin.len_, hat, hav, Sem.run_bind, t2, Result.andThen_ok]; rfl
    · rename_i hd
      rw [hd] at t1
      cases dt <;> try exact t1.elim
      obtain ⟨rfl, _⟩ := e2
      refine ⟨_, _, e1, ?_, rfl, trivial⟩
      simp only [Builtin.len_, hat, hav, Sem.run_bind, t2, Result.andThen_ok]; rfl
    · exact e1.elim
  · exact h1.elim
theorem x_cap (hT : TTok P tt) {args : Array Operand} {argTypes : Array TypeId} (hr : RelR ρ nt r a.tmps)
    (hk : opsK r args.toList fun xs => match xs, argTypes.toList with
      | [x], t :: _ => tiK tt t fun ti => cK x fun c => match ti.desc, c with
        | .slice _, .slc _ _ _ _ _ cap _ => K (iv .i64 cap) none
        | _, _ => False
      | _, _ => False) (type : TypeId) : ∃ x v, K x none ∧ (Builtin.cap_ argTypes type (args.map a.eval)).run P w = .ok v w ∧ DenR ρ x v := by
  obtain ⟨xs, h1, h2⟩ := opsK_ok hk hr
  split at h1
  · rename_i x t ts heq
    obtain ⟨ti, hti, h1⟩ := tiK_ok hT h1
    obtain ⟨dt, t1, t2⟩ := hti.under (w := w)
    obtain ⟨v, hv⟩ : ∃ v, args.toList.map a.eval = [v] := by
      match e : args.toList.map a.eval, h2 with
      | [v], _ => exact ⟨v, rfl⟩
      | [], h => exact h.elim
      | _ :: _ :: _, h => exact h.2.elim
    rw [hv] at h2
    have hav : (args.map a.eval)[0]? = some v := by
      have : (args.map a.eval).toList = [v] := by simpa using hv
      rw [← Array.getElem?_toList, this]; rfl
    have hat : argTypes[0]? = some t := by rw [← Array.getElem?_toList, heq]; rfl
    obtain ⟨c, e1, e2⟩ := cK_ok h1 h2.1
    split at e1
    · rename_i hd
      rw [hd] at t1
      cases dt <;> try exact t1.elim
      obtain ⟨b, o, ad, q1, rfl, _⟩ := e2
      refine ⟨_, _, e1, ?_, rfl, trivial⟩
      simp only [Builtin.cap_, hat, hav, Sem.run_bind, t2, Result.andThen_ok]; rfl
    · exact e1.elim
  · exact h1.elim
theorem two_args {args : Array Operand} {x y : R} (h2 : All2 (DenR ρ) [x, y] (args.toList.map a.eval)) : ∃ u v, (args.map a.eval).toList = [u, v] ∧ DenR ρ x u ∧ DenR ρ y v := by
  match e : args.toList.map a.eval, h2 with
  | [u, v], h => exact ⟨u, v, by simpa using e, h.1, h.2.1⟩
  | [], h => exact h.elim
  | [_], h => exact h.2.elim
  | _ :: _ :: _ :: _, h => exact h.2.2.elim
theorem x_min {args : Array Operand} (hr : RelR ρ nt r a.tmps)
    (hk : opsK r args.toList fun xs => match xs with
      | [x, y] => intK x fun k a => intK y fun k' b => match kindEq k k' with | true => K (iv k (min a b)) none | false => False
      | _ => False) (tys : Array TypeId) (type : TypeId) : ∃ x v, K x none ∧ (Builtin.min_ tys type (args.map a.eval)).run P w = .ok v w ∧ DenR ρ x v := by
  obtain ⟨xs, h1, h2⟩ := opsK_ok hk hr
  split at h1
  · obtain ⟨u, v, e, hx, hy⟩ := two_args h2
    obtain ⟨k, p, q1, rfl⟩ := intK_ok h1 hx
    obtain ⟨k', q, q2, rfl⟩ := intK_ok q1 hy
    split at q2
    · rename_i hke
      have := kindEq_ok hke
      subst this
      refine ⟨_, .int k (if q < p then q else p), q2, ?_, ?_, trivial⟩
      · simp only [Builtin.min_, e, List.foldlM_cons, List.foldlM_nil, Builtin.min2, pure_bind]; rfl
      · congr 1; omega
    · exact q2.elim
  · exact h1.elim
theorem x_max {args : Array Operand} (hr : RelR ρ nt r a.tmps)
    (hk : opsK r args.toList fun xs => match xs with
      | [x, y] => intK x fun k a => intK y fun k' b => match kindEq k k' with | true => K (iv k (max a b)) none | false => False
      | _ => False) (tys : Array TypeId) (type : TypeId) : ∃ x v, K x none ∧ (Builtin.max_ tys type (args.map a.eval)).run P w = .ok v w ∧ DenR ρ x v := by
  obtain ⟨xs, h1, h2⟩ := opsK_ok hk hr
  split at h1
  · obtain ⟨u, v, e, hx, hy⟩ := two_args h2
    obtain ⟨k, p, q1, rfl⟩ := intK_ok h1 hx
    obtain ⟨k', q, q2, rfl⟩ := intK_ok q1 hy
    split at q2
    · rename_i hke
      have := kindEq_ok hke
      subst this
      refine ⟨_, .int k (if q > p then q else p), q2, ?_, ?_, trivial⟩
      · simp only [Builtin.max_, e, List.foldlM_cons, List.foldlM_nil, Builtin.max2, pure_bind]; rfl
      · congr 1; omega
    · exact q2.elim
  · exact h1.elim
end
end Go.Eng
