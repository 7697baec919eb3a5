/- Tables of the functions, checked. -/
import Derived.Test.YtakcnoggkdfgfaaRows
import Derived.Test.YtakcnoggkdfgfaaEngAF
import Derived.KernelRfl
namespace Go.Proofs.Ytakcnoggkdfgfaa.TabA
open Go Go.Eng Go.Proofs
theorem mixed : Try.prog.follows .mixedOrders = true := by kernel_rfl
def tt : TT := [
  (3, ⟨.int .i64, 1, 8, .one ((.v (.int .i64 0)))⟩),
  (29, ⟨.slice 3, 1, 24, .one ((.v (.slice none 0 0)))⟩),
  (23, ⟨.ptr 50, 1, 8, .one ((.v (.pointer none)))⟩),
  (5, ⟨.int .u8, 1, 1, .one ((.v (.int .u8 0)))⟩),
  (1, ⟨.other, 1, 8, .one ((.v .nilFunc))⟩),
  (50, ⟨.struct [(0, 29)], 1, 24, .agg [.c (.v (.slice none 0 0))]⟩),
  (32, ⟨.slice 4, 1, 24, .one ((.v (.slice none 0 0)))⟩),
  (12, ⟨.int .u64, 1, 8, .one ((.v (.int .u64 0)))⟩),
  (20, ⟨.other, 1, 16, .one ((.v .nilIface))⟩),
  (7, ⟨.struct [(0, 2), (1, 3), (2, 4), (3, 6)], 4, 24, .agg [.c (.v (.int .i64 0)), .c (.v (.int .i64 0)), .c (.v (.bool false)), .c (.v (.int .u8 0))]⟩),
  (2, ⟨.int .i64, 1, 8, .one ((.v (.int .i64 0)))⟩),
  (9, ⟨.str, 1, 16, .one ((.v (.string .empty)))⟩),
  (46, ⟨.other, 1, 8, .one ((.v .nilFunc))⟩),
  (58, ⟨.other, 1, 8, .one ((.v .nilFunc))⟩),
  (4, ⟨.bool, 1, 1, .one ((.v (.bool false)))⟩),
  (6, ⟨.int .u8, 1, 1, .one ((.v (.int .u8 0)))⟩),
  (49, ⟨.struct [(0, 29)], 1, 24, .agg [.c (.v (.slice none 0 0))]⟩)]
def pl3 : Pl := []
noncomputable def fn3 : Eng.Fn := ⟨71, Try.f3.body.getD .skip, Try.f3.results.toList, pl3, fun _ => 0⟩
def pl9 : Pl := []
noncomputable def fn9 : Eng.Fn := ⟨45, Try.f9.body.getD .skip, Try.f9.results.toList, pl9, fun _ => 1000⟩
def pl10 : Pl := []
noncomputable def fn10 : Eng.Fn := ⟨9, Try.f10.body.getD .skip, Try.f10.results.toList, pl10, fun _ => 1000⟩
def pl11 : Pl := []
noncomputable def fn11 : Eng.Fn := ⟨7, Try.f11.body.getD .skip, Try.f11.results.toList, pl11, fun _ => 1000⟩
def pl12 : Pl := []
noncomputable def fn12 : Eng.Fn := ⟨23, Try.f12.body.getD .skip, Try.f12.results.toList, pl12, fun _ => 1000⟩
def pl13 : Pl := [(3, (.op 0 (.op 1 (.op 2 (.op 3 (.op 5 (.op 6 (.op 7 (.op 8 (.ch 4 (.re 5 (.re 6 (.re 7 (.re 8 (.ch 9 (.op 10 (.op 11 .stop)) .nil))))) .nil))))))))))]
noncomputable def fn13 : Eng.Fn := ⟨20, Try.f13.body.getD .skip, Try.f13.results.toList, pl13, fun _ => 1000⟩
def pl14 : Pl := []
noncomputable def fn14 : Eng.Fn := ⟨7, Try.f14.body.getD .skip, Try.f14.results.toList, pl14, fun _ => 1000⟩
def pl15 : Pl := []
noncomputable def fn15 : Eng.Fn := ⟨17, Try.f15.body.getD .skip, Try.f15.results.toList, pl15, fun _ => 1000⟩
def pl27 : Pl := [(1, (.op 0 (.op 1 (.op 2 (.op 3 (.op 4 (.op 5 (.op 6 (.op 7 (.op 8 (.op 9 (.op 10 (.op 11 (.op 12 (.op 13 (.op 14 (.op 15 (.op 16 (.ch 17 .stop .nil)))))))))))))))))))]
noncomputable def fn27 : Eng.Fn := ⟨34, Try.f27.body.getD .skip, Try.f27.results.toList, pl27, fun _ => 1000⟩
def pl28 : Pl := []
noncomputable def fn28 : Eng.Fn := ⟨25, Try.f28.body.getD .skip, Try.f28.results.toList, pl28, fun _ => 1000⟩
def pl29 : Pl := []
noncomputable def fn29 : Eng.Fn := ⟨25, Try.f29.body.getD .skip, Try.f29.results.toList, pl29, fun _ => 1000⟩
noncomputable def tab : List (FuncId × Eng.Fn) := [(3, fn3), (9, fn9), (10, fn10), (11, fn11), (12, fn12), (13, fn13), (14, fn14), (15, fn15), (27, fn27), (28, fn28), (29, fn29)]

theorem ttOk : TTok Try.prog tt := ttB_ok (by kernel_rfl)
variable {D : Nat}
set_option maxHeartbeats 4000000 in
theorem tab_ok (cl : Cl) (hc : ClOk Try.prog cl) : ∀ g fn, (g, fn) ∈ tab → FnOk Try.prog cl tt D g fn := by
  intro g fn h
  simp only [tab, List.mem_cons, List.not_mem_nil, or_false, Prod.mk.injEq] at h
  rcases h with ⟨rfl, rfl⟩ | ⟨rfl, rfl⟩ | ⟨rfl, rfl⟩ | ⟨rfl, rfl⟩ | ⟨rfl, rfl⟩ | ⟨rfl, rfl⟩ | ⟨rfl, rfl⟩ | ⟨rfl, rfl⟩ | ⟨rfl, rfl⟩ | ⟨rfl, rfl⟩ | ⟨rfl, rfl⟩
  · exact fn_ok mixed hc ttOk Try.func3 (by kernel_rfl) (by kernel_rfl) rfl (by kernel_rfl) (by kernel_rfl)
  · exact fn_ok mixed hc ttOk Try.func9 (by kernel_rfl) (by kernel_rfl) rfl (by kernel_rfl) (by kernel_rfl)
  · exact fn_ok mixed hc ttOk Try.func10 (by kernel_rfl) (by kernel_rfl) rfl (by kernel_rfl) (by kernel_rfl)
  · exact fn_ok mixed hc ttOk Try.func11 (by kernel_rfl) (by kernel_rfl) rfl (by kernel_rfl) (by kernel_rfl)
  · exact fn_ok mixed hc ttOk Try.func12 (by kernel_rfl) (by kernel_rfl) rfl (by kernel_rfl) (by kernel_rfl)
  · exact fn_ok mixed hc ttOk Try.func13 (by kernel_rfl) (by kernel_rfl) rfl (by kernel_rfl) (by kernel_rfl)
  · exact fn_ok mixed hc ttOk Try.func14 (by kernel_rfl) (by kernel_rfl) rfl (by kernel_rfl) (by kernel_rfl)
  · exact fn_ok mixed hc ttOk Try.func15 (by kernel_rfl) (by kernel_rfl) rfl (by kernel_rfl) (by kernel_rfl)
  · exact fn_ok mixed hc ttOk Try.func27 (by kernel_rfl) (by kernel_rfl) rfl (by kernel_rfl) (by kernel_rfl)
  · exact fn_ok mixed hc ttOk Try.func28 (by kernel_rfl) (by kernel_rfl) rfl (by kernel_rfl) (by kernel_rfl)
  · exact fn_ok mixed hc ttOk Try.func29 (by kernel_rfl) (by kernel_rfl) rfl (by kernel_rfl) (by kernel_rfl)

end Go.Proofs.Ytakcnoggkdfgfaa.TabA
