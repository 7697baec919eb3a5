/- The quiet operations: one theorem. -/
import Derived.Test.YtakcnoggkdfgfaaEngN
namespace Go.Eng
open Go
variable {d : Nat}
section
variable {P : Program} {tt : TT} {ρ : Env} {h : Heap} {w : World} {nt nm : Nat} {r : Tr d} {a : Act} {K : R → Option Ob → Prop}
theorem evX_ok (hT : TTok P tt) (hr : RelR ρ nt r a.tmps) (hh : Rel ρ h w) {o : Oper} (hk : evX tt r h nm o.op K) : NOut ρ w nm K ((execOp a.eval o).run P w) := by
  obtain ⟨dst, op, type, pos, after, guard⟩ := o
  simp only at hk
  cases op <;> simp only [evX] at hk <;> (try exact hk.elim) <;> simp only [execOp]
  case move x =>
    obtain ⟨y, h1, h2⟩ := opK_ok hk hr
    exact NOut.val h1 rfl h2
  case assign x =>
    obtain ⟨y, h1, h2⟩ := opK_ok hk hr
    exact NOut.val h1 rfl h2
  case pick c x y =>
    obtain ⟨c', h1, h2⟩ := opK_ok hk hr
    obtain ⟨b, h3, h4⟩ := boolK_ok h1 h2
    obtain ⟨x', h5, h6⟩ := opK_ok h3 hr
    obtain ⟨y', h7, h8⟩ := opK_ok h5 hr
    rcases Cnd_ok h7 with ⟨rfl, h9⟩ | ⟨rfl, h9⟩
    · exact NOut.val h9 (by rw [h4]; rfl) h6
    · exact NOut.val h9 (by rw [h4]; rfl) h8
  case nilCheck x =>
    obtain ⟨y, h1, h2⟩ := opK_ok hk hr
    obtain ⟨h3, h4⟩ := x_nilCheck h2 h1
    rcases h4 with ⟨ad, e⟩ | ⟨f, l, e⟩
    · refine NOut.val h3 ?_ h2
      rw [e]; rfl
    · refine NOut.val h3 ?_ h2
      rw [e]
      cases f <;> rfl
  case fieldAddr s x f =>
    obtain ⟨ti, ht, hk⟩ := tiK_ok hT hk
    obtain ⟨x', v, h1, h2, h3⟩ := x_fieldAddr (w := w) hT hr ht hk
    exact NOut.of h1 h2 h3
  case field s x f =>
    obtain ⟨ti, ht, hk⟩ := tiK_ok hT hk
    obtain ⟨x', v, h1, h2, h3⟩ := x_field (w := w) hT hr ht hk
    exact NOut.of h1 h2 h3
  case indexAddr t x i =>
    obtain ⟨ti, ht, hk⟩ := tiK_ok hT hk
    obtain ⟨x', v, h1, h2, h3⟩ := x_indexAddr (w := w) hT hr ht hk
    exact NOut.of h1 h2 h3
  case index t x i =>
    obtain ⟨ti, ht, hk⟩ := tiK_ok hT hk
    obtain ⟨x', v, h1, h2, h3⟩ := x_index (w := w) hT hr ht hk
    exact NOut.of h1 h2 h3
  case load t x =>
    obtain ⟨y, h1, h2⟩ := opK_ok hk hr
    obtain ⟨c, h3, h4⟩ := cK_ok h1 h2
    obtain ⟨z, u, h5, h6, h7⟩ := loadK_ok hT hh h3 h4
    exact NOut.of h5 h6 h7
  case binOp op t x y u =>
    obtain ⟨x', h1, h2⟩ := opK_ok hk hr
    obtain ⟨y', h3, h4⟩ := opK_ok h1 hr
    obtain ⟨z, q, h5, h6, h7, h8, h9⟩ := binK_ok (w := w) hT h3 h2 h4
    refine NOut.of h5 (v := q) ?_ h7
    simp only [Sem.run_bind, guard_none op t x y _ _ h8 h9, Result.andThen_ok]
    exact h6
  case unOp op t x =>
    obtain ⟨x', h1, h2⟩ := opK_ok hk hr
    obtain ⟨z, u, h3, h4, h5⟩ := x_un (w := w) h2 h1
    exact NOut.of h3 h4 h5
  case convert s t x =>
    obtain ⟨x', v, h1, h2, h3⟩ := x_convert hT hr hh hk
    exact NOut.of h1 h2 h3
  case makeFunc f first caps =>
    split at hk
    · rename_i heq
      obtain ⟨xs, h1, h2⟩ := opsK_ok hk hr
      obtain ⟨ps, as, h3, h4, h5⟩ := ptrsK_ok h1 h2
      refine NOut.of h3 (v := .func f #[] (as.map fun a => Value.pointer (some a)).toArray) ?_ ⟨as, rfl, h5⟩
      have e1 : first = #[] := by simpa using heq
      have e2 : caps.map a.eval = (as.map fun a => Value.pointer (some a)).toArray := by rw [← h4, ← List.map_toArray, Array.toArray_toList]
      simp only [Instr.makeFunc, e1, Array.map_empty, e2]; rfl
    · exact hk.elim
  case extract x i =>
    obtain ⟨y, h1, h2⟩ := opK_ok hk hr
    split at h1
    · obtain ⟨v, h3, h4⟩ := nthK_ok h1
      obtain ⟨vs, e, h5⟩ := h2
      obtain ⟨u, h6, h7⟩ := h5.get h3
      refine NOut.of h4 (v := u) ?_ h7
      rw [e]
      have : vs[i]? = some u := by simpa using h6
      simp only [Instr.extract, this]; rfl
    · exact h1.elim
  case alloc t =>
    obtain ⟨ti, ht, hk⟩ := tiK_ok hT hk
    exact NOut.ofX (x_alloc ht hk)
  case box t x =>
    obtain ⟨ti, ht, hk⟩ := tiK_ok hT hk
    obtain ⟨y, h1, h2⟩ := opK_ok hk hr
    obtain ⟨z, h3, h4⟩ := tK_ok h1 h2
    exact NOut.ofX (x_box h4 h3)
  case build t ps =>
    obtain ⟨ti, ht, hk⟩ := tiK_ok hT hk
    obtain ⟨x', v, h1, h2, h3⟩ := x_build (w := w) hT hr ht hk
    exact NOut.of h1 h2 h3
  case buildSlice t len ps =>
    obtain ⟨ti, ht, hk⟩ := tiK_ok hT hk
    exact NOut.ofX (x_buildSlice hT hr ht hk)
  case makeSlice t l c =>
    obtain ⟨ti, ht, hk⟩ := tiK_ok hT hk
    exact NOut.ofX (x_makeSlice hT hr ht hk)
  case slice t x lo hi mx =>
    obtain ⟨ti, ht, hk⟩ := tiK_ok hT hk
    obtain ⟨x', v, h1, h2, h3⟩ := x_slice (w := w) hT hr ht hk
    exact NOut.of h1 h2 h3
  case call c =>
    obtain ⟨callee, args, argTypes⟩ := c
    simp only at hk
    split at hk
    · obtain ⟨x', v, h1, h2, h3⟩ := x_len (w := w) hT hr hk type
      refine NOut.val h1 ?_ h3
      simp only [resolve, pure_bind, invoke, builtin]
      exact run_v h2
    · obtain ⟨x', v, h1, h2, h3⟩ := x_cap (w := w) hT hr hk type
      refine NOut.val h1 ?_ h3
      simp only [resolve, pure_bind, invoke, builtin]
      exact run_v h2
    · obtain ⟨x', v, h1, h2, h3⟩ := x_min (P := P) (w := w) hr hk argTypes type
      refine NOut.val h1 ?_ h3
      simp only [resolve, pure_bind, invoke, builtin]
      exact run_v h2
    · obtain ⟨x', v, h1, h2, h3⟩ := x_max (P := P) (w := w) hr hk argTypes type
      refine NOut.val h1 ?_ h3
      simp only [resolve, pure_bind, invoke, builtin]
      exact run_v h2
    · exact hk.elim
end
end Go.Eng
