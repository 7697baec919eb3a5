/- What acts, and calls; one operation's turn. -/
import Derived.Test.YtakcnoggkdfgfaaEngW
namespace Go.Eng
open Go
variable {d : Nat}
section
variable {P : Program} {tt : TT} {ρ : Env} {h : Heap} {w : World} {nt : Nat} {r : Tr d} {a : Act} {K : R → Heap → Prop}
def Enters (P : Program) (f : FuncId) : Prop := ∃ fn, P.funcs[f]? = some fn ∧ fn.body.isNone = false ∧ (fn.name == "runtime.NumGoroutine") = false
/-- A call's meaning holds of the model's calls. -/
def ClOk (P : Program) (cl : Cl) : Prop := ∀ f av xs h K, cl f av xs h K → Enters P f ∧ ∀ ρ w vs, Rel ρ h w → All2 (DenR ρ) xs vs →
  Calls P f vs.toArray w fun e w' => ∃ v, e = .returned v ∧ Post ρ h w K v w'
theorem Enters.run {f : FuncId} (h : Enters P f) (args : Array Value) : (callFunc f args).run P w = .ok (.enter f args) w := by
  obtain ⟨fn, h1, h2, h3⟩ := h
  simp only [callFunc, program, bind, Sem.bind, Sem.run, h1, h3, h2, Bool.false_eq_true, if_false]
  rfl
/-- What an operation that acts does. -/
def Acts (P : Program) (ρ : Env) (h : Heap) (w : World) (K : R → Heap → Prop) (res : Result Next) : Prop :=
  (∃ v w', res = .ok (.value v) w' ∧ Post ρ h w K v w') ∨ (∃ w', res = .ok .skip w' ∧ Post ρ h w K undef w') ∨
    ∃ f args, res = .ok (.enter f args) w ∧ Calls P f args w fun e w' => ∃ v, e = .returned v ∧ Post ρ h w K v w'
theorem nameK_ok {c : C} {k : Nat → Prop} (h : nameK c k) : ∃ n, k n := by
  unfold nameK at h
  split at h <;> first | exact ⟨_, h⟩ | exact h.elim
theorem one_arg {args : Array Operand} {x : R} (h2 : All2 (DenR ρ) [x] (args.toList.map a.eval)) : ∃ u, (args.map a.eval).toList = [u] ∧ DenR ρ x u := by
  match e : args.toList.map a.eval, h2 with
  | [u], h => exact ⟨u, by simpa using e, h.1⟩
  | [], h => exact h.elim
  | _ :: _ :: _, h => exact h.2.elim
theorem evW_ok {cl : Cl} (hc : ClOk P cl) (hT : TTok P tt) (hr : RelR ρ nt r a.tmps) (hh : Rel ρ h w) {av : List Nat} {o : Oper} (hk : evW cl tt av r h o.op K) : Acts P ρ h w K ((execOp a.eval o).run P w) := by
  obtain ⟨dst, op, type, pos, after, guard⟩ := o
  simp only at hk
  cases op <;> simp only [evW] at hk <;> (try exact hk.elim) <;> simp only [execOp]
  case store t ad x =>
    obtain ⟨y, h1, h2⟩ := opK_ok hk hr
    obtain ⟨c, h3, h4⟩ := cK_ok h1 h2
    obtain ⟨z, h5, h6⟩ := opK_ok h3 hr
    obtain ⟨q, h7, h8⟩ := tK_ok h5 h6
    obtain ⟨n, h9⟩ := nameK_ok h7
    obtain ⟨_, h9⟩ := away_ok h9
    obtain ⟨h', w', k1, k2, k3, k4⟩ := storeK_ok (P := P) hT hh h9 h4 h8
    refine .inr (.inl ⟨w', ?_, _, ρ, h', k1, k3, k4, trivial⟩)
    simp only [Sem.run_bind, k2, Result.andThen_ok]; rfl
  case call c =>
    obtain ⟨callee, args, argTypes⟩ := c
    simp only at hk
    split at hk
    · obtain ⟨xs, h1, h2⟩ := opsK_ok hk hr
      split at h1
      · rename_i x y t u more heq
        obtain ⟨p, q, e, hx, hy⟩ := two_args h2
        obtain ⟨ui, hu, h1⟩ := tiK_ok hT h1
        have fin : appendK tt av h t x y K → ((∃ e, ui.desc = .slice e) ∨ ui.desc = .str) → Acts P ρ h w K ((do let d ← resolve a.eval { callee := .builtin .append, args, argTypes } type; invoke d.target d.args : Sem Next).run P w) := fun hk hnu => by
          obtain ⟨v', w', k1, k2⟩ := appendK_ok (P := P) hT hh hk hx hy heq hu hnu e type
          exact .inl ⟨v', w', by simp only [resolve, pure_bind, invoke, builtin]; exact run_v k1, k2⟩
        split at h1
        · exact fin h1 (.inl ⟨_, by assumption⟩)
        · exact fin h1 (.inr (by assumption))
        · exact h1.elim
      · exact h1.elim
    · obtain ⟨xs, h1, h2⟩ := opsK_ok hk hr
      split at h1
      · rename_i x y t more heq
        obtain ⟨p, q, e, hx, hy⟩ := two_args h2
        obtain ⟨v', w', k1, k2⟩ := copyK_ok (P := P) hT hh h1 hx hy heq e type
        exact .inl ⟨v', w', by simp only [resolve, pure_bind, invoke, builtin]; exact run_v k1, k2⟩
      · exact h1.elim
    · obtain ⟨xs, h1, h2⟩ := opsK_ok hk hr
      split at h1
      · rename_i x t more heq
        obtain ⟨p, e, hx⟩ := one_arg h2
        obtain ⟨v', w', k1, k2⟩ := clearK_ok (P := P) hT hh h1 hx heq e type
        exact .inl ⟨v', w', by simp only [resolve, pure_bind, invoke, builtin]; exact run_v k1, k2⟩
      · exact h1.elim
    · rename_i f
      obtain ⟨y, h1, h2⟩ := opK_ok hk hr
      obtain ⟨c, h3, h4⟩ := cK_ok h1 h2
      obtain ⟨xs, h5, h6⟩ := opsK_ok h3 hr
      clear h3 h1 hk h2
      split at h5
      · rename_i g caps
        obtain ⟨as, e, hcap⟩ := h4
        obtain ⟨k1, k2⟩ := hc _ _ _ _ _ h5
        have hcap' : All2 (DenR ρ) (caps.map fun p => R.t (T.one (C.ptr p.1 p.2))) (as.map fun a => Value.pointer (some a)) := by
          clear h5 k2 e
          induction caps generalizing as with
          | nil => cases as with
            | nil => trivial
            | cons _ _ => exact hcap.elim
          | cons p caps ih => cases as with
            | nil => exact hcap.elim
            | cons ad as =>
              obtain ⟨⟨b, o, q1, q2⟩, hcap⟩ := hcap
              exact ⟨⟨b, o, q1, by rw [q2]⟩, ih as hcap⟩
        have hcalls := k2 ρ w _ hh (h6.append hcap')
        refine .inr (.inr ⟨g, (args.toList.map a.eval ++ as.map fun a => Value.pointer (some a)).toArray, ?_, hcalls⟩)
        simp only [resolve, e, Deferred.ofValue, pure_bind, invoke]
        rw [k1.run]
        congr 2
        simp
      · exact h5.elim
    · exact hk.elim
end
end Go.Eng
