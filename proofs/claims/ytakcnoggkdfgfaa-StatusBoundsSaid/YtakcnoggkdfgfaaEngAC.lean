/- Regions that draw their order: the plan's check, and that it serves. -/
import Derived.Test.YtakcnoggkdfgfaaEngAB
namespace Go.Eng
open Go
variable {d : Nat}
/-! ### The check -/
def preds (o : Oper) : List Nat := (o.after.toList.filter (Region.binds .any)).map (·.on)
def ins : List Nat → List Nat → List Nat
  | acc, [] => acc
  | acc, x :: m => ins (match acc.contains x with | true => acc | false => x :: acc) m
def clo (ops : List Oper) : Nat → List Nat → List Nat
  | 0, l => l
  | n + 1, l => match (l.flatMap fun j => match ops[j]? with | some o => preds o | none => []).filter (fun x => !l.contains x) with
    | [] => l
    | m => clo ops n (ins l m)
def eyes (ops : List Oper) (o : Oper) : List Tmp :=
  (o.op.operands.toList.filterMap fun | .tmp t => some t | _ => none) ++ (match o.guard with | some (g, _) => ((ops[g]?).bind (·.dst)).toList | none => [])
def dstIn (o : Oper) (l : List Tmp) : Bool := match o.dst with | none => false | some t => l.contains t
def dstNe (o o' : Oper) : Bool := match o.dst, o'.dst with | some t, some t' => !(t == t') | _, _ => true
def edgesIn (D : List Nat) (o : Oper) : Bool := (preds o).all fun j => D.contains j
def withOp (ops : List Oper) (i : Nat) (f : Oper → Bool) : Bool := match ops[i]? with | some o => f o | none => false
/-- i does not see what j, not yet done, would write. -/
def blindB (ops : List Oper) (o : Oper) (i j : Nat) : Bool := withOp ops j fun oj => !dstIn oj (eyes ops o) || (!(j == i) && (clo ops ops.length (preds o)).contains j)
def opB (ops : List Oper) (C S : List Nat) (i : Nat) : Bool := withOp ops i fun o => !acts o.op && !makes o.op && !C.contains i && !S.contains i && edgesIn (C ++ S) o &&
  (i :: S).all fun j => blindB ops o i j && withOp ops j fun oj => !dstIn o (eyes ops oj) && (j == i || dstNe o oj)
def chB (ops : List Oper) (C S : List Nat) (i : Nat) : Bool := withOp ops i fun o => !C.contains i && !S.contains i && edgesIn (C ++ S) o && S.all fun j => blindB ops o i j
def factsB (ops : List Oper) (C S F : List Nat) : Bool := let D := clo ops ops.length C; S.all fun i => F.contains i || D.contains i
def satB (ops : List Oper) (C S F pre : List Nat) : Bool := factsB ops C S F && (List.range ops.length).all fun j => C.contains j || S.contains j || pre.contains j || !(withOp ops j fun o => edgesIn (C ++ S) o)
def planB (ops : List Oper) : List Nat → List Nat → List Nat → List Nat → Plan → Bool
  | C, S, F, pre, .stop => pre.isEmpty && satB ops C S F [] && (List.range ops.length).all fun j => C.contains j || S.contains j
  | C, S, F, pre, .nil => !pre.isEmpty && satB ops C S F pre
  | C, S, F, pre, .op i p => pre.isEmpty && opB ops C S i && planB ops C (i :: S) (i :: F) [] p
  | C, S, F, pre, .re i p => pre.isEmpty && S.contains i && planB ops C S (i :: F) [] p
  | C, S, F, pre, .ch i p q => chB ops C S i && planB ops (i :: C) S [] [] p && planB ops C S F (i :: pre) q

/-! ### What it says -/
theorem mem_ins : ∀ {m acc : List Nat} {x : Nat}, x ∈ ins acc m → x ∈ acc ∨ x ∈ m
  | [], acc, x, h => .inl h
  | y :: m, acc, x, h => by
    rcases mem_ins (m := m) h with h | h
    · split at h
      · exact .inl h
      · simp at h; rcases h with rfl | h
        · exact .inr (by simp)
        · exact .inl h
    · exact .inr (by simp [h])
theorem mem_clo {ops : List Oper} {D : Nat → Prop} (hD : ∀ j o, D j → ops[j]? = some o → ∀ e ∈ preds o, D e) : ∀ (n : Nat) (l : List Nat), (∀ j ∈ l, D j) → ∀ j ∈ clo ops n l, D j
  | 0, l, hl, j, hj => hl j hj
  | n + 1, l, hl, j, hj => by
    unfold clo at hj
    split at hj
    · exact hl j hj
    · refine mem_clo hD n _ (fun x hx => ?_) j hj
      rcases mem_ins hx with hx | hx
      · exact hl x hx
      · simp only [List.mem_filter, List.mem_flatMap] at hx
        obtain ⟨⟨y, hy, hx⟩, _⟩ := hx
        split at hx
        · rename_i o ho; exact hD y o (hl y hy) ho x hx
        · cases hx
theorem withOp_iff {ops : List Oper} {i : Nat} {f : Oper → Bool} (h : withOp ops i f = true) : ∃ o, ops[i]? = some o ∧ f o = true := by
  unfold withOp at h
  split at h
  · exact ⟨_, by assumption, h⟩
  · cases h
theorem dstIn_not {o : Oper} {l : List Tmp} (h : dstIn o l = false) {t : Tmp} (ht : o.dst = some t) : t ∉ l := by
  simp only [dstIn, ht] at h; simpa using h
theorem dstNe_iff {o o' : Oper} (h : dstNe o o' = true) {t : Tmp} (ht : o.dst = some t) : o'.dst ≠ some t := by
  intro e
  simp only [dstNe, ht, e] at h
  simp at h
section
variable {P : Program} {tt : TT} {nt : Nat} {ops : Array Oper} {cl : Cl}
def Dn (listed : Array Bool) (j : Nat) : Prop := listed.getD j false = true
def Fact (tt : TT) (ops : List Oper) (r : Tr d) (h : Heap) (i : Nat) : Prop := ∃ o, ops[i]? = some o ∧ acts o.op = false ∧ makes o.op = false ∧
  ((Says ops r o true ∧ evX tt r h 0 o.op fun x b => b = none ∧ ∀ t, o.dst = some t → x = r.get d t) ∨ (Says ops r o false ∧ ∀ t, o.dst = some t → r.get d t = .junk))
theorem eyes_op {ops : List Oper} {r r' : Tr d} {o : Oper} (h : ∀ t ∈ eyes ops o, r'.get d t = r.get d t) : ∀ x ∈ o.op.operands.toList, opK r' x = opK r x := fun x hx =>
  opK_congr fun t ht => h t (List.mem_append_left _ (List.mem_filterMap.2 ⟨x, hx, by subst ht; rfl⟩))
theorem eyes_says {ops : List Oper} {r r' : Tr d} {o : Oper} (h : ∀ t ∈ eyes ops o, r'.get d t = r.get d t) {c : Bool} (hs : Says ops r o c) : Says ops r' o c := by
  unfold Says at *
  split at hs
  · rename_i e; simpa [e] using hs
  · rename_i j want e
    obtain ⟨g, t, b, h1, h2, h3, h4⟩ := hs
    refine ⟨g, t, b, h1, h2, ?_, h4⟩
    rw [h t (List.mem_append_right _ (by simp [e, h1, h2]))]; exact h3
theorem Fact.keep {ops : List Oper} {r r' : Tr d} {h : Heap} {i : Nat} (hf : Fact tt ops r h i) (hs : ∀ o, ops[i]? = some o → ∀ t, t ∈ eyes ops o ∨ o.dst = some t → r'.get d t = r.get d t) : Fact tt ops r' h i := by
  obtain ⟨o, h1, q1, q2, h2⟩ := hf
  have hs := hs o h1
  have hd : ∀ t, o.dst = some t → r'.get d t = r.get d t := fun t ht => hs t (.inr ht)
  have he : ∀ t ∈ eyes ops o, r'.get d t = r.get d t := fun t ht => hs t (.inl ht)
  refine ⟨o, h1, q1, q2, ?_⟩
  rcases h2 with ⟨h2, h3⟩ | ⟨h2, h3⟩
  · refine .inl ⟨eyes_says he h2, ?_⟩
    rw [evX_congr (eyes_op he)]
    have e : (fun (x : R) (b : Option Ob) => b = none ∧ ∀ t, o.dst = some t → x = r'.get d t) = fun x b => b = none ∧ ∀ t, o.dst = some t → x = r.get d t := by
      funext x b
      refine propext ⟨fun ⟨h1, h2⟩ => ⟨h1, fun t ht => by rw [h2 t ht, hd t ht]⟩, fun ⟨h1, h2⟩ => ⟨h1, fun t ht => by rw [h2 t ht, hd t ht]⟩⟩
    rw [e]; exact h3
  · exact .inr ⟨eyes_says he h2, fun t ht => by rw [hd t ht]; exact h3 t ht⟩
/-- The order in which S came: each behind what it waits for. -/
def Topo (ops : List Oper) (C : List Nat) : List Nat → Prop
  | [] => True
  | i :: S => (∀ o, ops[i]? = some o → ∀ j ∈ preds o, j ∈ C ∨ j ∈ S) ∧ Topo ops C S
theorem Topo.mono {ops : List Oper} {C C' : List Nat} (hC : ∀ j ∈ C, j ∈ C') : ∀ {S : List Nat}, Topo ops C S → Topo ops C' S
  | [], _ => trivial
  | _ :: _, h => ⟨fun o ho j hj => (h.1 o ho j hj).imp (hC j) id, Topo.mono hC h.2⟩
/-- If one is not done, one is that may come up. -/
theorem Topo.first {ops : List Oper} {C : List Nat} {D : Nat → Prop} (hC : ∀ j ∈ C, D j) : ∀ {S : List Nat}, Topo ops C S → (∃ j ∈ S, ¬ D j) → ∃ j ∈ S, ¬ D j ∧ ∀ o, ops[j]? = some o → ∀ e ∈ preds o, D e
  | [], _, ⟨_, h, _⟩ => by cases h
  | i :: S, h, hex => by
    by_cases hS : ∃ j ∈ S, ¬ D j
    · obtain ⟨j, h1, h2⟩ := Topo.first hC h.2 hS
      exact ⟨j, by simp [h1], h2⟩
    · have hall : ∀ j ∈ S, D j := fun j hj => Classical.byContradiction fun hn => hS ⟨j, hj, hn⟩
      obtain ⟨j, hj, hn⟩ := hex
      have : j = i := by
        rcases List.mem_cons.1 hj with e | e
        · exact e
        · exact absurd (hall j e) hn
      subst this
      exact ⟨j, by simp, hn, fun o ho e he => (h.1 o ho e he).elim (hC e) (hall e)⟩
structure Inv (tt : TT) (ops : Array Oper) (nt : Nat) (C S F : List Nat) (r : Tr d) (h : Heap) (listed : Array Bool) (a : Act) (w : World) (ρ : Env) : Prop where
  size : listed.size = ops.size
  sub : ∀ j, Dn listed j → j ∈ C ∨ j ∈ S
  sup : ∀ j ∈ C, Dn listed j
  closed : ∀ j o, Dn listed j → ops.toList[j]? = some o → ∀ e ∈ preds o, Dn listed e
  topo : Topo ops.toList C S
  low : ∀ j ∈ S, ∃ o, ops.toList[j]? = some o ∧ acts o.op = false ∧ makes o.op = false
  blind : ∀ i ∈ S, ∀ j ∈ S, ∀ o oj, ops.toList[i]? = some o → ops.toList[j]? = some oj → (∀ t, oj.dst = some t → t ∉ eyes ops.toList o) ∨ (j ≠ i ∧ j ∈ clo ops.toList ops.toList.length (preds o))
  uniq : ∀ i ∈ S, ∀ j ∈ S, i ≠ j → ∀ o oj, ops.toList[i]? = some o → ops.toList[j]? = some oj → ∀ t, o.dst = some t → oj.dst ≠ some t
  small : ∀ j ∈ S, ∀ o, ops.toList[j]? = some o → ∀ t, o.dst = some t → t < nt
  tmps : a.tmps.size = nt
  regs : ∀ t, (∀ j o, j ∈ S → ¬ Dn listed j → ops.toList[j]? = some o → o.dst ≠ some t) → DenR ρ (r.get d t) (a.tmps.getD t undef)
  heap : Rel ρ h w
  calm : a.defers = []
  fs : ∀ i ∈ F, i ∈ S
  facts : ∀ i ∈ F, ¬ Dn listed i → Fact tt ops.toList r h i
end
end Go.Eng
