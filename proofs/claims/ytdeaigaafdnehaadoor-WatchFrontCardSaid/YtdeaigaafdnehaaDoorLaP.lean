/- Facts on the program as a whole, for the rows. -/
import Derived.Test.YtdeaigaafdnehaaDoorTbA
namespace Go.Proofs.YtdeaigaafdnehaaDoor.La
open Go Go.Eng Go.Proofs Go.Proofs.YtdeaigaafdnehaaDoor
set_option maxRecDepth 100000
noncomputable def initL : { l : List Char // Tryd.prog.initOrder = String.ofList l } := ⟨_, rfl⟩
theorem initL_eq : Tryd.prog.initOrder.toList = initL.1 := (congrArg String.toList initL.2).trans String.toList_ofList
theorem w1 : (behindMainWord (wordsSigns initL.1)).head? = some "cut".toList := by kernel_rfl
theorem words : ∃ rest, behindMainWord (wordsSigns Tryd.prog.initOrder.toList) = "cut".toList :: rest := by
  rw [initL_eq]
  have h1 := w1
  cases h : behindMainWord (wordsSigns initL.1) with
  | nil => rw [h] at h1; cases h1
  | cons a l => rw [h] at h1; injection h1 with h1; exact ⟨l, by rw [h1]⟩
theorem c1 : ("cut".toList == "gc".toList) = false := by kernel_rfl
theorem c2 : ("cut".toList == "spec".toList) = false := by kernel_rfl
theorem c3 : ("cut".toList == "carried".toList) = false := by kernel_rfl
theorem c4 : ("cut".toList == "cut".toList) = true := by kernel_rfl
theorem make_of {P : Program} {rest : List (List Char)} (hr : behindMainWord (wordsSigns P.initOrder.toList) = "cut".toList :: rest) : P.make = some .cut := by
  unfold Program.make
  rw [hr]
  simp only [c1, c2, c4, Bool.or_false, Bool.true_or, Bool.false_eq_true, if_false, if_true]
theorem l1 : Tryd.prog.laysLater = false := by kernel_rfl
theorem l2 : Tryd.prog.bearsReflect = false := by kernel_rfl
theorem s1 (rest : List (List Char)) : stripLifts liftWords ("cut".toList :: rest) = ([], "cut".toList :: rest) := by kernel_rfl
theorem l3 : Tryd.prog.doorFits [] = true := by kernel_rfl
theorem mayEnter_of {P : Program} {rest : List (List Char)} (hr : behindMainWord (wordsSigns P.initOrder.toList) = "cut".toList :: rest) (l1 : P.laysLater = false) (l2 : P.bearsReflect = false) (l3 : P.doorFits [] = true) : P.mayEnter = true := by
  unfold Program.mayEnter
  rw [hr]
  simp only [c1, c2, c3, s1, l1, l2, l3, Bool.or_false, Bool.false_and, Bool.false_or, Bool.not_false, Bool.or_true, Bool.and_true, List.head?_cons, BEq.rfl, List.contains_nil]
theorem make_ok : Tryd.prog.make = some .cut := words.elim fun _ h => make_of h
theorem mayEnter_ok : Tryd.prog.mayEnter = true := words.elim fun _ h => mayEnter_of h l1 l2 l3
theorem lifts_ok : Tryd.prog.liftsFinal = false := by
  unfold Program.liftsFinal Program.headLifts
  rw [initL_eq]
  kernel_rfl
theorem laid_ok : laidOutB Tryd.prog = true := by kernel_rfl
theorem rowed_ok : mapsRowed Tryd.prog = true := by kernel_rfl
theorem beq_r {α : Type} [BEq α] {a b c : α} (h : b = c) (e : (a == c) = true) : (a == b) = true := by rw [h]; exact e
theorem beq_l {α : Type} [BEq α] {a b c : α} (h : a = c) (e : (c == b) = true) : (a == b) = true := by rw [h]; exact e
end Go.Proofs.YtdeaigaafdnehaaDoor.La
