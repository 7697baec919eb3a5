/- Tables of the program's functions, checked: made by program. -/
import Derived.Test.YtdeaigaafdnehaaDoorRows
import Derived.Test.YtdeaigaafdnehaaDoorEnG
import Derived.KernelRfl
namespace Go.Proofs.YtdeaigaafdnehaaDoor.Tb
open Go Go.Eng Go.Proofs
theorem mixed : Tryd.prog.follows .mixedOrders = true := by kernel_rfl
def TabOk (d : Nat) (tab : List (FuncId × Eng.Fn)) (tt : TT) : Prop := ∀ cl, ClOk Tryd.prog cl → ∀ g fn, (g, fn) ∈ tab → FnOk Tryd.prog cl tt d g fn
theorem TabOk.nil {d : Nat} {tt : TT} : TabOk d [] tt := fun _ _ _ _ h => by cases h
theorem TabOk.cons {d : Nat} {tt : TT} {f : FuncId} {fn : Eng.Fn} {l : List (FuncId × Eng.Fn)} (h : ∀ cl, ClOk Tryd.prog cl → FnOk Tryd.prog cl tt d f fn) (hl : TabOk d l tt) : TabOk d ((f, fn) :: l) tt := fun cl hc g fn' hm => by
  rcases List.mem_cons.1 hm with e | hm
  · cases e; exact h cl hc
  · exact hl cl hc g fn' hm
def tt : TT := [
  (3, ⟨.int .i64, 1, 8, .one ((.v (.int .i64 0))), []⟩),
  (9, ⟨.str, 1, 16, .one ((.v (.string .empty))), []⟩),
  (1, ⟨.other, 1, 8, .one ((.v .nilFunc)), []⟩),
  (5, ⟨.int .u8, 1, 1, .one ((.v (.int .u8 0))), []⟩),
  (29, ⟨.struct [(0, 4), (1, 27), (2, 4), (3, 9)], 4, 32, .agg [.c (.v (.bool false)), .c (.v (.int .u32 0)), .c (.v (.bool false)), .c (.v (.string .empty))], [.bool, .int .u32, .bool, .str]⟩),
  (4, ⟨.bool, 1, 1, .one ((.v (.bool false))), []⟩),
  (46, ⟨.struct [(0, 3), (1, 3), (2, 3), (3, 3), (4, 3), (5, 3), (6, 3), (7, 27), (8, 42), (9, 43), (10, 44)], 11, 136, .agg [.c (.v (.int .i64 0)), .c (.v (.int .i64 0)), .c (.v (.int .i64 0)), .c (.v (.int .i64 0)), .c (.v (.int .i64 0)), .c (.v (.int .i64 0)), .c (.v (.int .i64 0)), .c (.v (.int .u32 0)), .c (.v (.slice none 0 0)), .c (.v (.slice none 0 0)), .c (.v (.slice none 0 0))], []⟩),
  (2, ⟨.int .i64, 1, 8, .one ((.v (.int .i64 0))), []⟩),
  (27, ⟨.int .u32, 1, 4, .one ((.v (.int .u32 0))), []⟩),
  (25, ⟨.slice 32, 1, 24, .one ((.v (.slice none 0 0))), []⟩),
  (32, ⟨.struct [(0, 3), (1, 3), (2, 29), (6, 30)], 7, 56, .agg [.c (.v (.int .i64 0)), .c (.v (.int .i64 0)), .c (.v (.bool false)), .c (.v (.int .u32 0)), .c (.v (.bool false)), .c (.v (.string .empty)), .c (.v (.int .i64 0))], [.int .i64, .int .i64, .bool, .int .u32, .bool, .str, .int .i64]⟩),
  (37, ⟨.int .u16, 1, 2, .one ((.v (.int .u16 0))), []⟩),
  (23, ⟨.slice 5, 1, 24, .one ((.v (.slice none 0 0))), []⟩),
  (66, ⟨.struct [(0, 3), (1, 3), (2, 3), (3, 3), (4, 3), (5, 3)], 6, 48, .agg [.c (.v (.int .i64 0)), .c (.v (.int .i64 0)), .c (.v (.int .i64 0)), .c (.v (.int .i64 0)), .c (.v (.int .i64 0)), .c (.v (.int .i64 0))], []⟩),
  (80, ⟨.struct [(0, 77), (2, 78), (130, 3), (131, 3), (132, 37), (133, 3), (134, 4)], 135, 184, .agg [.c (.v (.int .u8 0)), .c (.v (.int .i64 0)), .arr 128 (fun _ => (.v (.int .u8 0))), .c (.v (.int .i64 0)), .c (.v (.int .i64 0)), .c (.v (.int .u16 0)), .c (.v (.int .i64 0)), .c (.v (.bool false))], []⟩),
  (8, ⟨.struct [(0, 2), (1, 3), (2, 4), (3, 6)], 4, 24, .agg [.c (.v (.int .i64 0)), .c (.v (.int .i64 0)), .c (.v (.bool false)), .c (.v (.int .u8 0))], []⟩),
  (48, ⟨.arr 20 3, 20, 160, .agg [.arr 20 (fun _ => (.v (.int .i64 0)))], []⟩),
  (40, ⟨.int .u64, 1, 8, .one ((.v (.int .u64 0))), []⟩),
  (42, ⟨.slice 3, 1, 24, .one ((.v (.slice none 0 0))), []⟩),
  (73, ⟨.struct [(0, 3), (1, 5)], 2, 16, .agg [.c (.v (.int .i64 0)), .c (.v (.int .u8 0))], []⟩),
  (69, ⟨.struct [(0, 3), (1, 3), (2, 37), (3, 4)], 4, 24, .agg [.c (.v (.int .i64 0)), .c (.v (.int .i64 0)), .c (.v (.int .u16 0)), .c (.v (.bool false))], []⟩),
  (30, ⟨.int .i64, 1, 8, .one ((.v (.int .i64 0))), []⟩),
  (43, ⟨.slice 64, 1, 24, .one ((.v (.slice none 0 0))), []⟩),
  (125, ⟨.struct [(0, 3), (1, 3), (2, 3)], 3, 24, .agg [.c (.v (.int .i64 0)), .c (.v (.int .i64 0)), .c (.v (.int .i64 0))], []⟩),
  (44, ⟨.slice 66, 1, 24, .one ((.v (.slice none 0 0))), []⟩),
  (64, ⟨.struct [(0, 27), (1, 3), (2, 4)], 3, 24, .agg [.c (.v (.int .u32 0)), .c (.v (.int .i64 0)), .c (.v (.bool false))], []⟩),
  (62, ⟨.int .u64, 1, 8, .one ((.v (.int .u64 0))), []⟩),
  (7, ⟨.struct [(0, 2), (1, 3), (2, 4), (3, 6)], 4, 24, .agg [.c (.v (.int .i64 0)), .c (.v (.int .i64 0)), .c (.v (.bool false)), .c (.v (.int .u8 0))], []⟩),
  (10, ⟨.str, 1, 16, .one ((.v (.string .empty))), []⟩),
  (77, ⟨.struct [(0, 5), (1, 3)], 2, 16, .agg [.c (.v (.int .u8 0)), .c (.v (.int .i64 0))], []⟩),
  (20, ⟨.other, 1, 16, .one ((.v .nilIface)), []⟩),
  (12, ⟨.int .u64, 1, 8, .one ((.v (.int .u64 0))), []⟩),
  (22, ⟨.slice 29, 1, 24, .one ((.v (.slice none 0 0))), []⟩),
  (126, ⟨.arr 2 125, 6, 48, .agg [.c (.v (.int .i64 0)), .c (.v (.int .i64 0)), .c (.v (.int .i64 0)), .c (.v (.int .i64 0)), .c (.v (.int .i64 0)), .c (.v (.int .i64 0))], []⟩),
  (6, ⟨.int .u8, 1, 1, .one ((.v (.int .u8 0))), []⟩),
  (105, ⟨.ptr 80, 1, 8, .one ((.v (.pointer none))), []⟩),
  (133, ⟨.other, 1, 8, .one ((.v .nilFunc)), []⟩),
  (11, ⟨.str, 1, 16, .one ((.v (.string .empty))), []⟩),
  (16, ⟨.ptr 154, 1, 8, .one ((.v (.pointer none))), []⟩),
  (13, ⟨.struct [(0, 9), (1, 12)], 2, 24, .agg [.c (.v (.string .empty)), .c (.v (.int .u64 0))], []⟩),
  (14, ⟨.struct [(0, 9), (1, 12)], 2, 24, .agg [.c (.v (.string .empty)), .c (.v (.int .u64 0))], []⟩),
  (15, ⟨.ptr 151, 1, 8, .one ((.v (.pointer none))), []⟩),
  (18, ⟨.struct [(0, 17)], 1, 8, .agg [.c (.v (.pointer none))], []⟩),
  (78, ⟨.arr 128 5, 128, 128, .agg [.arr 128 (fun _ => (.v (.int .u8 0)))], []⟩),
  (50, ⟨.other, 1, 8, .one ((.v .nilFunc)), []⟩),
  (98, ⟨.arr 256 4, 256, 256, .agg [.arr 256 (fun _ => (.v (.bool false)))], []⟩),
  (120, ⟨.other, 1, 8, .one ((.v .nilFunc)), []⟩),
  (134, ⟨.other, 1, 8, .one ((.v .nilFunc)), []⟩),
  (136, ⟨.other, 1, 8, .one ((.v .nilFunc)), []⟩),
  (19, ⟨.struct [(0, 17)], 1, 8, .agg [.c (.v (.pointer none))], []⟩),
  (35, ⟨.other, 1, 8, .one ((.v .nilFunc)), []⟩),
  (39, ⟨.other, 1, 8, .one ((.v .nilFunc)), []⟩),
  (102, ⟨.ptr 98, 1, 8, .one ((.v (.pointer none))), []⟩),
  (103, ⟨.other, 1, 8, .one ((.v .nilFunc)), []⟩),
  (109, ⟨.other, 1, 8, .one ((.v .nilFunc)), []⟩),
  (115, ⟨.other, 1, 8, .one ((.v .nilFunc)), []⟩),
  (128, ⟨.other, 1, 8, .one ((.v .nilFunc)), []⟩),
  (17, ⟨.ptr 161, 1, 8, .one ((.v (.pointer none))), []⟩),
  (21, ⟨.int .i32, 1, 4, .one ((.v (.int .i32 0))), []⟩),
  (28, ⟨.struct [(0, 4), (1, 27), (2, 4), (3, 9)], 4, 32, .agg [.c (.v (.bool false)), .c (.v (.int .u32 0)), .c (.v (.bool false)), .c (.v (.string .empty))], []⟩),
  (31, ⟨.struct [(0, 3), (1, 3), (2, 29), (6, 30)], 7, 56, .agg [.c (.v (.int .i64 0)), .c (.v (.int .i64 0)), .c (.v (.bool false)), .c (.v (.int .u32 0)), .c (.v (.bool false)), .c (.v (.string .empty)), .c (.v (.int .i64 0))], []⟩),
  (45, ⟨.struct [(0, 3), (1, 3), (2, 3), (3, 3), (4, 3), (5, 3), (6, 3), (7, 27), (8, 42), (9, 43), (10, 44)], 11, 136, .agg [.c (.v (.int .i64 0)), .c (.v (.int .i64 0)), .c (.v (.int .i64 0)), .c (.v (.int .i64 0)), .c (.v (.int .i64 0)), .c (.v (.int .i64 0)), .c (.v (.int .i64 0)), .c (.v (.int .u32 0)), .c (.v (.slice none 0 0)), .c (.v (.slice none 0 0)), .c (.v (.slice none 0 0))], []⟩),
  (63, ⟨.struct [(0, 27), (1, 3), (2, 4)], 3, 24, .agg [.c (.v (.int .u32 0)), .c (.v (.int .i64 0)), .c (.v (.bool false))], []⟩),
  (65, ⟨.struct [(0, 3), (1, 3), (2, 3), (3, 3), (4, 3), (5, 3)], 6, 48, .agg [.c (.v (.int .i64 0)), .c (.v (.int .i64 0)), .c (.v (.int .i64 0)), .c (.v (.int .i64 0)), .c (.v (.int .i64 0)), .c (.v (.int .i64 0))], []⟩),
  (68, ⟨.struct [(0, 3), (1, 3), (2, 37), (3, 4)], 4, 24, .agg [.c (.v (.int .i64 0)), .c (.v (.int .i64 0)), .c (.v (.int .u16 0)), .c (.v (.bool false))], []⟩),
  (72, ⟨.struct [(0, 3), (1, 5)], 2, 16, .agg [.c (.v (.int .i64 0)), .c (.v (.int .u8 0))], []⟩),
  (76, ⟨.struct [(0, 5), (1, 3)], 2, 16, .agg [.c (.v (.int .u8 0)), .c (.v (.int .i64 0))], []⟩),
  (79, ⟨.struct [(0, 77), (2, 78), (130, 3), (131, 3), (132, 37), (133, 3), (134, 4)], 135, 184, .agg [.c (.v (.int .u8 0)), .c (.v (.int .i64 0)), .arr 128 (fun _ => (.v (.int .u8 0))), .c (.v (.int .i64 0)), .c (.v (.int .i64 0)), .c (.v (.int .u16 0)), .c (.v (.int .i64 0)), .c (.v (.bool false))], []⟩),
  (97, ⟨.arr 256 4, 256, 256, .agg [.arr 256 (fun _ => (.v (.bool false)))], []⟩),
  (114, ⟨.ptr 5, 1, 8, .one ((.v (.pointer none))), []⟩),
  (124, ⟨.struct [(0, 3), (1, 3), (2, 3)], 3, 24, .agg [.c (.v (.int .i64 0)), .c (.v (.int .i64 0)), .c (.v (.int .i64 0))], []⟩),
  (150, ⟨.struct [(0, 17), (1, 17), (2, 17), (3, 9)], 4, 40, .agg [.c (.v (.pointer none)), .c (.v (.pointer none)), .c (.v (.pointer none)), .c (.v (.string .empty))], []⟩),
  (151, ⟨.struct [(0, 17), (1, 17), (2, 17), (3, 9)], 4, 40, .agg [.c (.v (.pointer none)), .c (.v (.pointer none)), .c (.v (.pointer none)), .c (.v (.string .empty))], []⟩),
  (152, ⟨.arr 0 16, 0, 0, .agg [], []⟩),
  (153, ⟨.struct [(0, 152)], 0, 0, .agg [], []⟩),
  (154, ⟨.struct [(0, 152)], 0, 0, .agg [], []⟩),
  (155, ⟨.int .u8, 1, 1, .one ((.v (.int .u8 0))), []⟩),
  (156, ⟨.int .u8, 1, 1, .one ((.v (.int .u8 0))), []⟩),
  (157, ⟨.other, 1, 8, .one ((.v .nilFunc)), []⟩),
  (158, ⟨.int .i32, 1, 4, .one ((.v (.int .i32 0))), []⟩),
  (159, ⟨.int .i32, 1, 4, .one ((.v (.int .i32 0))), []⟩),
  (160, ⟨.struct [(0, 12), (1, 12), (2, 27), (3, 155), (4, 5), (5, 5), (6, 156), (7, 157), (8, 114), (9, 158), (10, 159)], 11, 48, .agg [.c (.v (.int .u64 0)), .c (.v (.int .u64 0)), .c (.v (.int .u32 0)), .c (.v (.int .u8 0)), .c (.v (.int .u8 0)), .c (.v (.int .u8 0)), .c (.v (.int .u8 0)), .c (.v .nilFunc), .c (.v (.pointer none)), .c (.v (.int .i32 0)), .c (.v (.int .i32 0))], []⟩),
  (161, ⟨.struct [(0, 12), (1, 12), (2, 27), (3, 155), (4, 5), (5, 5), (6, 156), (7, 157), (8, 114), (9, 158), (10, 159)], 11, 48, .agg [.c (.v (.int .u64 0)), .c (.v (.int .u64 0)), .c (.v (.int .u32 0)), .c (.v (.int .u8 0)), .c (.v (.int .u8 0)), .c (.v (.int .u8 0)), .c (.v (.int .u8 0)), .c (.v .nilFunc), .c (.v (.pointer none)), .c (.v (.int .i32 0)), .c (.v (.int .i32 0))], []⟩)]
theorem ttOk : TTok Tryd.prog tt := ttB_ok (by kernel_rfl)
abbrev F.law26_WatchRows : FuncId := 3
def P.law26_WatchRows : Pl := []
noncomputable def fn.law26_WatchRows (u : Nat → Nat) : Eng.Fn := ⟨85, Tryd.f3.body.getD .skip, Tryd.f3.results.toList, P.law26_WatchRows, u⟩
theorem ok.law26_WatchRows {D : Nat} (u : Nat → Nat) (cl : Cl) (hc : ClOk Tryd.prog cl) : FnOk Tryd.prog cl tt D F.law26_WatchRows (fn.law26_WatchRows u) := fn_ok mixed hc ttOk Tryd.func3 (by kernel_rfl) (by kernel_rfl) rfl (by kernel_rfl) (by kernel_rfl)
abbrev F.law26_WatchFront : FuncId := 4
def P.law26_WatchFront : Pl := [(18, (.op 0 (.op 1 (.op 2 (.op 3 (.op 4 (.op 5 .stop))))))), (27, (.op 0 (.op 1 (.op 2 (.op 3 (.op 4 (.op 5 (.op 6 (.op 7 (.op 8 (.op 9 (.op 10 (.op 11 (.op 12 (.op 13 (.op 14 .stop))))))))))))))))]
noncomputable def fn.law26_WatchFront (u : Nat → Nat) : Eng.Fn := ⟨100, Tryd.f4.body.getD .skip, Tryd.f4.results.toList, P.law26_WatchFront, u⟩
theorem ok.law26_WatchFront {D : Nat} (u : Nat → Nat) (cl : Cl) (hc : ClOk Tryd.prog cl) : FnOk Tryd.prog cl tt D F.law26_WatchFront (fn.law26_WatchFront u) := fn_ok mixed hc ttOk Tryd.func4 (by kernel_rfl) (by kernel_rfl) rfl (by kernel_rfl) (by kernel_rfl)
abbrev F.law26_WatchErrors : FuncId := 5
def P.law26_WatchErrors : Pl := [(15, (.op 0 (.op 1 (.op 2 (.op 3 (.op 4 (.op 5 (.op 6 (.op 7 (.op 8 (.op 9 (.op 10 (.op 11 (.op 12 (.op 13 (.op 14 (.op 15 .stop)))))))))))))))))]
noncomputable def fn.law26_WatchErrors (u : Nat → Nat) : Eng.Fn := ⟨72, Tryd.f5.body.getD .skip, Tryd.f5.results.toList, P.law26_WatchErrors, u⟩
theorem ok.law26_WatchErrors {D : Nat} (u : Nat → Nat) (cl : Cl) (hc : ClOk Tryd.prog cl) : FnOk Tryd.prog cl tt D F.law26_WatchErrors (fn.law26_WatchErrors u) := fn_ok mixed hc ttOk Tryd.func5 (by kernel_rfl) (by kernel_rfl) rfl (by kernel_rfl) (by kernel_rfl)
abbrev F.law26_WatchBeats : FuncId := 6
def P.law26_WatchBeats : Pl := [(13, (.op 0 (.op 1 (.op 2 (.op 3 (.op 4 (.op 5 (.op 6 (.op 7 (.op 8 (.op 9 (.op 10 (.op 11 (.op 12 (.op 13 (.op 14 (.op 15 (.op 16 (.op 17 (.op 18 (.op 19 (.op 20 (.op 21 (.ch 22 (.op 23 (.op 24 (.op 25 (.ch 26 (.re 23 (.re 24 (.re 25 (.ch 27 (.re 25 (.op 28 .stop)) .nil)))) .nil)))) (.ch 26 (.re 0 (.re 1 (.re 2 (.re 3 (.re 4 (.re 5 (.re 6 (.re 7 (.re 8 (.re 9 (.re 10 (.re 11 (.re 12 (.re 13 (.re 14 (.re 15 (.re 16 (.re 17 (.re 18 (.re 19 (.re 20 (.re 21 (.ch 22 (.op 23 (.op 24 (.op 25 (.ch 27 (.re 25 (.op 28 .stop)) .nil)))) .nil))))))))))))))))))))))) .nil))))))))))))))))))))))))), (26, (.op 0 (.op 1 (.op 2 (.op 3 (.op 4 (.op 5 (.op 6 (.op 7 (.op 8 .stop))))))))))]
noncomputable def fn.law26_WatchBeats (u : Nat → Nat) : Eng.Fn := ⟨101, Tryd.f6.body.getD .skip, Tryd.f6.results.toList, P.law26_WatchBeats, u⟩
theorem ok.law26_WatchBeats {D : Nat} (u : Nat → Nat) (cl : Cl) (hc : ClOk Tryd.prog cl) : FnOk Tryd.prog cl tt D F.law26_WatchBeats (fn.law26_WatchBeats u) := fn_ok mixed hc ttOk Tryd.func6 (by kernel_rfl) (by kernel_rfl) rfl (by kernel_rfl) (by kernel_rfl)
abbrev F.law26_known : FuncId := 7
def P.law26_known : Pl := [(5, (.op 0 (.op 1 (.op 2 (.op 3 (.op 4 (.op 5 (.op 6 (.op 7 (.op 8 (.op 9 (.op 10 (.op 11 (.op 12 (.op 13 (.op 14 (.op 15 (.op 16 (.op 17 (.op 18 (.op 19 (.op 20 (.op 21 (.op 22 (.op 23 (.op 24 (.op 25 (.op 26 (.op 27 (.op 28 (.op 29 (.op 30 (.op 31 (.op 32 (.ch 33 (.op 34 (.op 35 (.op 36 (.op 38 (.ch 37 (.re 38 (.ch 39 (.op 40 (.op 41 (.op 42 (.op 43 .stop)))) .nil)) .nil))))) .nil)))))))))))))))))))))))))))))))))))]
noncomputable def fn.law26_known (u : Nat → Nat) : Eng.Fn := ⟨56, Tryd.f7.body.getD .skip, Tryd.f7.results.toList, P.law26_known, u⟩
theorem ok.law26_known {D : Nat} (u : Nat → Nat) (cl : Cl) (hc : ClOk Tryd.prog cl) : FnOk Tryd.prog cl tt D F.law26_known (fn.law26_known u) := fn_ok mixed hc ttOk Tryd.func7 (by kernel_rfl) (by kernel_rfl) rfl (by kernel_rfl) (by kernel_rfl)
abbrev F.ref3_Encode : FuncId := 8
def P.ref3_Encode : Pl := []
noncomputable def fn.ref3_Encode (u : Nat → Nat) : Eng.Fn := ⟨17, Tryd.f8.body.getD .skip, Tryd.f8.results.toList, P.ref3_Encode, u⟩
theorem ok.ref3_Encode {D : Nat} (u : Nat → Nat) (cl : Cl) (hc : ClOk Tryd.prog cl) : FnOk Tryd.prog cl tt D F.ref3_Encode (fn.ref3_Encode u) := fn_ok mixed hc ttOk Tryd.func8 (by kernel_rfl) (by kernel_rfl) rfl (by kernel_rfl) (by kernel_rfl)
abbrev F.law26_same : FuncId := 9
def P.law26_same : Pl := [(6, (.op 0 (.op 1 (.op 2 (.op 3 (.op 4 (.op 5 (.op 6 (.op 7 (.op 8 .stop))))))))))]
noncomputable def fn.law26_same (u : Nat → Nat) : Eng.Fn := ⟨26, Tryd.f9.body.getD .skip, Tryd.f9.results.toList, P.law26_same, u⟩
theorem ok.law26_same {D : Nat} (u : Nat → Nat) (cl : Cl) (hc : ClOk Tryd.prog cl) : FnOk Tryd.prog cl tt D F.law26_same (fn.law26_same u) := fn_ok mixed hc ttOk Tryd.func9 (by kernel_rfl) (by kernel_rfl) rfl (by kernel_rfl) (by kernel_rfl)
abbrev F.watch_Frames : FuncId := 10
def P.watch_Frames : Pl := [(11, (.op 0 (.op 1 (.op 2 (.ch 3 (.re 0 (.re 1 (.re 2 (.ch 4 (.op 5 .stop) .nil)))) .nil)))))]
noncomputable def fn.watch_Frames (u : Nat → Nat) : Eng.Fn := ⟨72, Tryd.f10.body.getD .skip, Tryd.f10.results.toList, P.watch_Frames, u⟩
theorem ok.watch_Frames {D : Nat} (u : Nat → Nat) (cl : Cl) (hc : ClOk Tryd.prog cl) : FnOk Tryd.prog cl tt D F.watch_Frames (fn.watch_Frames u) := fn_ok mixed hc ttOk Tryd.func10 (by kernel_rfl) (by kernel_rfl) rfl (by kernel_rfl) (by kernel_rfl)
abbrev F.watch_Quiet : FuncId := 11
def P.watch_Quiet : Pl := []
noncomputable def fn.watch_Quiet (u : Nat → Nat) : Eng.Fn := ⟨9, Tryd.f11.body.getD .skip, Tryd.f11.results.toList, P.watch_Quiet, u⟩
theorem ok.watch_Quiet {D : Nat} (u : Nat → Nat) (cl : Cl) (hc : ClOk Tryd.prog cl) : FnOk Tryd.prog cl tt D F.watch_Quiet (fn.watch_Quiet u) := fn_ok mixed hc ttOk Tryd.func11 (by kernel_rfl) (by kernel_rfl) rfl (by kernel_rfl) (by kernel_rfl)
abbrev F.ref1_Of : FuncId := 12
def P.ref1_Of : Pl := []
noncomputable def fn.ref1_Of (u : Nat → Nat) : Eng.Fn := ⟨25, Tryd.f12.body.getD .skip, Tryd.f12.results.toList, P.ref1_Of, u⟩
theorem ok.ref1_Of {D : Nat} (u : Nat → Nat) (cl : Cl) (hc : ClOk Tryd.prog cl) : FnOk Tryd.prog cl tt D F.ref1_Of (fn.ref1_Of u) := fn_ok mixed hc ttOk Tryd.func12 (by kernel_rfl) (by kernel_rfl) rfl (by kernel_rfl) (by kernel_rfl)
abbrev F.law26_least : FuncId := 13
def P.law26_least : Pl := []
noncomputable def fn.law26_least (u : Nat → Nat) : Eng.Fn := ⟨9, Tryd.f13.body.getD .skip, Tryd.f13.results.toList, P.law26_least, u⟩
theorem ok.law26_least {D : Nat} (u : Nat → Nat) (cl : Cl) (hc : ClOk Tryd.prog cl) : FnOk Tryd.prog cl tt D F.law26_least (fn.law26_least u) := fn_ok mixed hc ttOk Tryd.func13 (by kernel_rfl) (by kernel_rfl) rfl (by kernel_rfl) (by kernel_rfl)
abbrev F.ref12_Build : FuncId := 14
def P.ref12_Build : Pl := []
noncomputable def fn.ref12_Build (u : Nat → Nat) : Eng.Fn := ⟨63, Tryd.f14.body.getD .skip, Tryd.f14.results.toList, P.ref12_Build, u⟩
theorem ok.ref12_Build {D : Nat} (u : Nat → Nat) (cl : Cl) (hc : ClOk Tryd.prog cl) : FnOk Tryd.prog cl tt D F.ref12_Build (fn.ref12_Build u) := fn_ok mixed hc ttOk Tryd.func14 (by kernel_rfl) (by kernel_rfl) rfl (by kernel_rfl) (by kernel_rfl)
abbrev F.watch_Beats : FuncId := 15
def P.watch_Beats : Pl := []
noncomputable def fn.watch_Beats (u : Nat → Nat) : Eng.Fn := ⟨36, Tryd.f15.body.getD .skip, Tryd.f15.results.toList, P.watch_Beats, u⟩
theorem ok.watch_Beats {D : Nat} (u : Nat → Nat) (cl : Cl) (hc : ClOk Tryd.prog cl) : FnOk Tryd.prog cl tt D F.watch_Beats (fn.watch_Beats u) := fn_ok mixed hc ttOk Tryd.func15 (by kernel_rfl) (by kernel_rfl) rfl (by kernel_rfl) (by kernel_rfl)
abbrev F.ref3_Is : FuncId := 16
def P.ref3_Is : Pl := []
noncomputable def fn.ref3_Is (u : Nat → Nat) : Eng.Fn := ⟨26, Tryd.f16.body.getD .skip, Tryd.f16.results.toList, P.ref3_Is, u⟩
theorem ok.ref3_Is {D : Nat} (u : Nat → Nat) (cl : Cl) (hc : ClOk Tryd.prog cl) : FnOk Tryd.prog cl tt D F.ref3_Is (fn.ref3_Is u) := fn_ok mixed hc ttOk Tryd.func16 (by kernel_rfl) (by kernel_rfl) rfl (by kernel_rfl) (by kernel_rfl)
abbrev F.ref3_Body : FuncId := 17
def P.ref3_Body : Pl := [(6, (.op 0 (.op 1 (.op 2 (.op 3 (.op 4 (.op 7 (.op 8 (.ch 5 (.re 0 (.re 7 (.re 8 (.op 6 (.ch 9 (.re 0 (.re 6 (.op 10 (.op 11 .stop)))) .nil))))) .nil)))))))))]
noncomputable def fn.ref3_Body (u : Nat → Nat) : Eng.Fn := ⟨25, Tryd.f17.body.getD .skip, Tryd.f17.results.toList, P.ref3_Body, u⟩
theorem ok.ref3_Body {D : Nat} (u : Nat → Nat) (cl : Cl) (hc : ClOk Tryd.prog cl) : FnOk Tryd.prog cl tt D F.ref3_Body (fn.ref3_Body u) := fn_ok mixed hc ttOk Tryd.func17 (by kernel_rfl) (by kernel_rfl) rfl (by kernel_rfl) (by kernel_rfl)
abbrev F.ref1_Stuff : FuncId := 18
def P.ref1_Stuff : Pl := [(6, (.op 0 (.op 1 (.op 2 (.op 3 (.ch 4 (.ch 5 .stop .nil) .nil))))))]
noncomputable def fn.ref1_Stuff (u : Nat → Nat) : Eng.Fn := ⟨37, Tryd.f18.body.getD .skip, Tryd.f18.results.toList, P.ref1_Stuff, u⟩
theorem ok.ref1_Stuff {D : Nat} (u : Nat → Nat) (cl : Cl) (hc : ClOk Tryd.prog cl) : FnOk Tryd.prog cl tt D F.ref1_Stuff (fn.ref1_Stuff u) := fn_ok mixed hc ttOk Tryd.func18 (by kernel_rfl) (by kernel_rfl) rfl (by kernel_rfl) (by kernel_rfl)
abbrev F.ref1_CRC : FuncId := 19
def P.ref1_CRC : Pl := []
noncomputable def fn.ref1_CRC (u : Nat → Nat) : Eng.Fn := ⟨28, Tryd.f19.body.getD .skip, Tryd.f19.results.toList, P.ref1_CRC, u⟩
theorem ok.ref1_CRC {D : Nat} (u : Nat → Nat) (cl : Cl) (hc : ClOk Tryd.prog cl) : FnOk Tryd.prog cl tt D F.ref1_CRC (fn.ref1_CRC u) := fn_ok mixed hc ttOk Tryd.func19 (by kernel_rfl) (by kernel_rfl) rfl (by kernel_rfl) (by kernel_rfl)
abbrev F.code_Decode : FuncId := 20
def P.code_Decode : Pl := []
noncomputable def fn.code_Decode (u : Nat → Nat) : Eng.Fn := ⟨38, Tryd.f20.body.getD .skip, Tryd.f20.results.toList, P.code_Decode, u⟩
theorem ok.code_Decode {D : Nat} (u : Nat → Nat) (cl : Cl) (hc : ClOk Tryd.prog cl) : FnOk Tryd.prog cl tt D F.code_Decode (fn.code_Decode u) := fn_ok mixed hc ttOk Tryd.func20 (by kernel_rfl) (by kernel_rfl) rfl (by kernel_rfl) (by kernel_rfl)
abbrev F.strings_Index : FuncId := 21
def P.strings_Index : Pl := []
noncomputable def fn.strings_Index (u : Nat → Nat) : Eng.Fn := ⟨8, Tryd.f21.body.getD .skip, Tryd.f21.results.toList, P.strings_Index, u⟩
theorem ok.strings_Index {D : Nat} (u : Nat → Nat) (cl : Cl) (hc : ClOk Tryd.prog cl) : FnOk Tryd.prog cl tt D F.strings_Index (fn.strings_Index u) := fn_ok mixed hc ttOk Tryd.func21 (by kernel_rfl) (by kernel_rfl) rfl (by kernel_rfl) (by kernel_rfl)
abbrev F.strings_TrimRight : FuncId := 23
def P.strings_TrimRight : Pl := []
noncomputable def fn.strings_TrimRight (u : Nat → Nat) : Eng.Fn := ⟨37, Tryd.f23.body.getD .skip, Tryd.f23.results.toList, P.strings_TrimRight, u⟩
theorem ok.strings_TrimRight {D : Nat} (u : Nat → Nat) (cl : Cl) (hc : ClOk Tryd.prog cl) : FnOk Tryd.prog cl tt D F.strings_TrimRight (fn.strings_TrimRight u) := fn_ok mixed hc ttOk Tryd.func23 (by kernel_rfl) (by kernel_rfl) rfl (by kernel_rfl) (by kernel_rfl)
abbrev F.ref1_Bit : FuncId := 24
def P.ref1_Bit : Pl := []
noncomputable def fn.ref1_Bit (u : Nat → Nat) : Eng.Fn := ⟨4, Tryd.f24.body.getD .skip, Tryd.f24.results.toList, P.ref1_Bit, u⟩
theorem ok.ref1_Bit {D : Nat} (u : Nat → Nat) (cl : Cl) (hc : ClOk Tryd.prog cl) : FnOk Tryd.prog cl tt D F.ref1_Bit (fn.ref1_Bit u) := fn_ok mixed hc ttOk Tryd.func24 (by kernel_rfl) (by kernel_rfl) rfl (by kernel_rfl) (by kernel_rfl)
abbrev F.ref12_Is : FuncId := 25
def P.ref12_Is : Pl := []
noncomputable def fn.ref12_Is (u : Nat → Nat) : Eng.Fn := ⟨185, Tryd.f25.body.getD .skip, Tryd.f25.results.toList, P.ref12_Is, u⟩
theorem ok.ref12_Is {D : Nat} (u : Nat → Nat) (cl : Cl) (hc : ClOk Tryd.prog cl) : FnOk Tryd.prog cl tt D F.ref12_Is (fn.ref12_Is u) := fn_ok mixed hc ttOk Tryd.func25 (by kernel_rfl) (by kernel_rfl) rfl (by kernel_rfl) (by kernel_rfl)
abbrev F.refmsg_Parse : FuncId := 26
def P.refmsg_Parse : Pl := [(3, (.op 0 (.op 1 (.op 2 (.op 3 (.op 4 (.op 5 (.op 6 (.op 7 (.op 8 (.op 9 (.op 10 (.ch 11 (.re 0 (.re 1 (.re 2 (.re 3 (.re 4 (.re 5 (.re 6 (.re 7 (.re 8 (.re 9 (.re 10 (.ch 12 .stop .nil)))))))))))) .nil))))))))))))), (6, (.op 0 (.op 1 (.op 2 (.op 3 (.op 4 (.op 5 (.op 6 (.op 7 (.op 8 (.op 9 (.op 10 (.ch 11 .stop .nil)))))))))))))]
noncomputable def fn.refmsg_Parse (u : Nat → Nat) : Eng.Fn := ⟨91, Tryd.f26.body.getD .skip, Tryd.f26.results.toList, P.refmsg_Parse, u⟩
theorem ok.refmsg_Parse {D : Nat} (u : Nat → Nat) (cl : Cl) (hc : ClOk Tryd.prog cl) : FnOk Tryd.prog cl tt D F.refmsg_Parse (fn.refmsg_Parse u) := fn_ok mixed hc ttOk Tryd.func26 (by kernel_rfl) (by kernel_rfl) rfl (by kernel_rfl) (by kernel_rfl)
abbrev F.ref3_Arb : FuncId := 27
def P.ref3_Arb : Pl := [(6, (.op 0 (.op 1 (.op 2 (.op 3 (.op 7 (.op 8 (.op 9 (.op 12 (.ch 4 (.re 7 (.re 8 (.re 9 (.re 12 (.op 5 (.op 6 (.ch 10 (.re 12 (.re 5 (.re 6 (.op 11 (.op 13 (.op 14 .stop)))))) .nil))))))) .nil))))))))))]
noncomputable def fn.ref3_Arb (u : Nat → Nat) : Eng.Fn := ⟨35, Tryd.f27.body.getD .skip, Tryd.f27.results.toList, P.ref3_Arb, u⟩
theorem ok.ref3_Arb {D : Nat} (u : Nat → Nat) (cl : Cl) (hc : ClOk Tryd.prog cl) : FnOk Tryd.prog cl tt D F.ref3_Arb (fn.ref3_Arb u) := fn_ok mixed hc ttOk Tryd.func27 (by kernel_rfl) (by kernel_rfl) rfl (by kernel_rfl) (by kernel_rfl)
abbrev F.ref1_FromBytes : FuncId := 28
def P.ref1_FromBytes : Pl := []
noncomputable def fn.ref1_FromBytes (u : Nat → Nat) : Eng.Fn := ⟨19, Tryd.f28.body.getD .skip, Tryd.f28.results.toList, P.ref1_FromBytes, u⟩
theorem ok.ref1_FromBytes {D : Nat} (u : Nat → Nat) (cl : Cl) (hc : ClOk Tryd.prog cl) : FnOk Tryd.prog cl tt D F.ref1_FromBytes (fn.ref1_FromBytes u) := fn_ok mixed hc ttOk Tryd.func28 (by kernel_rfl) (by kernel_rfl) rfl (by kernel_rfl) (by kernel_rfl)
abbrev F.ref1_run_with : FuncId := 29
def P.ref1_run_with : Pl := []
noncomputable def fn.ref1_run_with (u : Nat → Nat) : Eng.Fn := ⟨23, Tryd.f29.body.getD .skip, Tryd.f29.results.toList, P.ref1_run_with, u⟩
theorem ok.ref1_run_with {D : Nat} (u : Nat → Nat) (cl : Cl) (hc : ClOk Tryd.prog cl) : FnOk Tryd.prog cl tt D F.ref1_run_with (fn.ref1_run_with u) := fn_ok mixed hc ttOk Tryd.func29 (by kernel_rfl) (by kernel_rfl) rfl (by kernel_rfl) (by kernel_rfl)
abbrev F.ref1_other : FuncId := 30
def P.ref1_other : Pl := []
noncomputable def fn.ref1_other (u : Nat → Nat) : Eng.Fn := ⟨5, Tryd.f30.body.getD .skip, Tryd.f30.results.toList, P.ref1_other, u⟩
theorem ok.ref1_other {D : Nat} (u : Nat → Nat) (cl : Cl) (hc : ClOk Tryd.prog cl) : FnOk Tryd.prog cl tt D F.ref1_other (fn.ref1_other u) := fn_ok mixed hc ttOk Tryd.func30 (by kernel_rfl) (by kernel_rfl) rfl (by kernel_rfl) (by kernel_rfl)
abbrev F.code_Reader_Push : FuncId := 31
def P.code_Reader_Push : Pl := []
noncomputable def fn.code_Reader_Push (u : Nat → Nat) : Eng.Fn := ⟨57, Tryd.f31.body.getD .skip, Tryd.f31.results.toList, P.code_Reader_Push, u⟩
theorem ok.code_Reader_Push {D : Nat} (u : Nat → Nat) (cl : Cl) (hc : ClOk Tryd.prog cl) : FnOk Tryd.prog cl tt D F.code_Reader_Push (fn.code_Reader_Push u) := fn_ok mixed hc ttOk Tryd.func31 (by kernel_rfl) (by kernel_rfl) rfl (by kernel_rfl) (by kernel_rfl)
abbrev F.code_Reader_End : FuncId := 32
def P.code_Reader_End : Pl := []
noncomputable def fn.code_Reader_End (u : Nat → Nat) : Eng.Fn := ⟨9, Tryd.f32.body.getD .skip, Tryd.f32.results.toList, P.code_Reader_End, u⟩
theorem ok.code_Reader_End {D : Nat} (u : Nat → Nat) (cl : Cl) (hc : ClOk Tryd.prog cl) : FnOk Tryd.prog cl tt D F.code_Reader_End (fn.code_Reader_End u) := fn_ok mixed hc ttOk Tryd.func32 (by kernel_rfl) (by kernel_rfl) rfl (by kernel_rfl) (by kernel_rfl)
abbrev F.code_Reader_Frame : FuncId := 33
def P.code_Reader_Frame : Pl := [(1, (.op 0 (.op 1 (.op 2 (.op 3 (.op 4 (.op 5 (.op 6 (.op 7 (.op 8 (.ch 9 (.op 10 (.op 11 (.op 12 (.op 13 (.ch 14 (.re 10 (.re 11 (.re 12 (.re 13 (.ch 15 (.re 12 (.re 13 (.op 16 (.op 17 .stop)))) .nil))))) .nil))))) (.ch 14 (.re 0 (.re 1 (.re 2 (.re 3 (.re 4 (.re 5 (.re 6 (.re 7 (.re 8 (.ch 9 (.op 10 (.op 11 (.op 12 (.op 13 (.ch 15 (.re 12 (.re 13 (.op 16 (.op 17 .stop)))) .nil))))) .nil)))))))))) .nil))))))))))))]
noncomputable def fn.code_Reader_Frame (u : Nat → Nat) : Eng.Fn := ⟨21, Tryd.f33.body.getD .skip, Tryd.f33.results.toList, P.code_Reader_Frame, u⟩
theorem ok.code_Reader_Frame {D : Nat} (u : Nat → Nat) (cl : Cl) (hc : ClOk Tryd.prog cl) : FnOk Tryd.prog cl tt D F.code_Reader_Frame (fn.code_Reader_Frame u) := fn_ok mixed hc ttOk Tryd.func33 (by kernel_rfl) (by kernel_rfl) rfl (by kernel_rfl) (by kernel_rfl)
abbrev F.internal_stringslite_Index : FuncId := 34
def P.internal_stringslite_Index : Pl := []
noncomputable def fn.internal_stringslite_Index (u : Nat → Nat) : Eng.Fn := ⟨143, Tryd.f34.body.getD .skip, Tryd.f34.results.toList, P.internal_stringslite_Index, u⟩
theorem ok.internal_stringslite_Index {D : Nat} (u : Nat → Nat) (cl : Cl) (hc : ClOk Tryd.prog cl) : FnOk Tryd.prog cl tt D F.internal_stringslite_Index (fn.internal_stringslite_Index u) := fn_ok mixed hc ttOk Tryd.func34 (by kernel_rfl) (by kernel_rfl) rfl (by kernel_rfl) (by kernel_rfl)
abbrev F.strings_trimRightByte : FuncId := 41
def P.strings_trimRightByte : Pl := []
noncomputable def fn.strings_trimRightByte (u : Nat → Nat) : Eng.Fn := ⟨23, Tryd.f41.body.getD .skip, Tryd.f41.results.toList, P.strings_trimRightByte, u⟩
theorem ok.strings_trimRightByte {D : Nat} (u : Nat → Nat) (cl : Cl) (hc : ClOk Tryd.prog cl) : FnOk Tryd.prog cl tt D F.strings_trimRightByte (fn.strings_trimRightByte u) := fn_ok mixed hc ttOk Tryd.func41 (by kernel_rfl) (by kernel_rfl) rfl (by kernel_rfl) (by kernel_rfl)
abbrev F.ref12_within : FuncId := 45
def P.ref12_within : Pl := []
noncomputable def fn.ref12_within (u : Nat → Nat) : Eng.Fn := ⟨15, Tryd.f45.body.getD .skip, Tryd.f45.results.toList, P.ref12_within, u⟩
theorem ok.ref12_within {D : Nat} (u : Nat → Nat) (cl : Cl) (hc : ClOk Tryd.prog cl) : FnOk Tryd.prog cl tt D F.ref12_within (fn.ref12_within u) := fn_ok mixed hc ttOk Tryd.func45 (by kernel_rfl) (by kernel_rfl) rfl (by kernel_rfl) (by kernel_rfl)
abbrev F.ref12_power : FuncId := 46
def P.ref12_power : Pl := []
noncomputable def fn.ref12_power (u : Nat → Nat) : Eng.Fn := ⟨24, Tryd.f46.body.getD .skip, Tryd.f46.results.toList, P.ref12_power, u⟩
theorem ok.ref12_power {D : Nat} (u : Nat → Nat) (cl : Cl) (hc : ClOk Tryd.prog cl) : FnOk Tryd.prog cl tt D F.ref12_power (fn.ref12_power u) := fn_ok mixed hc ttOk Tryd.func46 (by kernel_rfl) (by kernel_rfl) rfl (by kernel_rfl) (by kernel_rfl)
abbrev F.refmsg_Build : FuncId := 47
def P.refmsg_Build : Pl := []
noncomputable def fn.refmsg_Build (u : Nat → Nat) : Eng.Fn := ⟨63, Tryd.f47.body.getD .skip, Tryd.f47.results.toList, P.refmsg_Build, u⟩
theorem ok.refmsg_Build {D : Nat} (u : Nat → Nat) (cl : Cl) (hc : ClOk Tryd.prog cl) : FnOk Tryd.prog cl tt D F.refmsg_Build (fn.refmsg_Build u) := fn_ok mixed hc ttOk Tryd.func47 (by kernel_rfl) (by kernel_rfl) rfl (by kernel_rfl) (by kernel_rfl)
abbrev F.stuff_Run_Full : FuncId := 48
def P.stuff_Run_Full : Pl := []
noncomputable def fn.stuff_Run_Full (u : Nat → Nat) : Eng.Fn := ⟨8, Tryd.f48.body.getD .skip, Tryd.f48.results.toList, P.stuff_Run_Full, u⟩
theorem ok.stuff_Run_Full {D : Nat} (u : Nat → Nat) (cl : Cl) (hc : ClOk Tryd.prog cl) : FnOk Tryd.prog cl tt D F.stuff_Run_Full (fn.stuff_Run_Full u) := fn_ok mixed hc ttOk Tryd.func48 (by kernel_rfl) (by kernel_rfl) rfl (by kernel_rfl) (by kernel_rfl)
abbrev F.code_Reader_inBits : FuncId := 49
def P.code_Reader_inBits : Pl := [(1, (.op 0 (.op 1 (.op 2 (.op 3 (.op 4 (.op 5 (.op 6 (.op 7 (.op 8 (.op 9 (.op 10 (.op 11 (.op 12 (.op 13 (.op 14 (.op 15 (.op 16 (.op 17 .stop)))))))))))))))))))]
noncomputable def fn.code_Reader_inBits (u : Nat → Nat) : Eng.Fn := ⟨20, Tryd.f49.body.getD .skip, Tryd.f49.results.toList, P.code_Reader_inBits, u⟩
theorem ok.code_Reader_inBits {D : Nat} (u : Nat → Nat) (cl : Cl) (hc : ClOk Tryd.prog cl) : FnOk Tryd.prog cl tt D F.code_Reader_inBits (fn.code_Reader_inBits u) := fn_ok mixed hc ttOk Tryd.func49 (by kernel_rfl) (by kernel_rfl) rfl (by kernel_rfl) (by kernel_rfl)
abbrev F.stuff_Run_Other : FuncId := 50
def P.stuff_Run_Other : Pl := []
noncomputable def fn.stuff_Run_Other (u : Nat → Nat) : Eng.Fn := ⟨8, Tryd.f50.body.getD .skip, Tryd.f50.results.toList, P.stuff_Run_Other, u⟩
theorem ok.stuff_Run_Other {D : Nat} (u : Nat → Nat) (cl : Cl) (hc : ClOk Tryd.prog cl) : FnOk Tryd.prog cl tt D F.stuff_Run_Other (fn.stuff_Run_Other u) := fn_ok mixed hc ttOk Tryd.func50 (by kernel_rfl) (by kernel_rfl) rfl (by kernel_rfl) (by kernel_rfl)
abbrev F.stuff_Run_Add : FuncId := 51
def P.stuff_Run_Add : Pl := []
noncomputable def fn.stuff_Run_Add (u : Nat → Nat) : Eng.Fn := ⟨28, Tryd.f51.body.getD .skip, Tryd.f51.results.toList, P.stuff_Run_Add, u⟩
theorem ok.stuff_Run_Add {D : Nat} (u : Nat → Nat) (cl : Cl) (hc : ClOk Tryd.prog cl) : FnOk Tryd.prog cl tt D F.stuff_Run_Add (fn.stuff_Run_Add u) := fn_ok mixed hc ttOk Tryd.func51 (by kernel_rfl) (by kernel_rfl) rfl (by kernel_rfl) (by kernel_rfl)
abbrev F.code_Reader_add : FuncId := 52
def P.code_Reader_add : Pl := [(1, (.op 0 (.op 1 (.op 2 (.op 3 (.op 4 (.op 5 (.op 6 (.op 7 (.op 8 (.op 9 (.op 10 (.op 11 (.op 12 (.ch 13 (.re 0 (.re 1 (.re 2 (.re 3 (.re 4 (.re 5 (.re 6 (.re 7 (.re 8 (.re 9 (.re 10 (.re 11 (.ch 14 (.re 0 (.re 1 (.re 2 (.re 3 (.op 15 (.op 16 (.op 17 (.ch 18 .stop .nil)))))))) .nil))))))))))))) .nil))))))))))))))), (5, (.op 0 (.op 1 (.op 2 (.op 3 (.op 4 (.op 5 (.op 6 (.op 7 (.op 8 (.ch 9 (.op 10 (.op 11 (.op 12 (.op 13 (.op 14 .stop))))) .nil)))))))))))]
noncomputable def fn.code_Reader_add (u : Nat → Nat) : Eng.Fn := ⟨60, Tryd.f52.body.getD .skip, Tryd.f52.results.toList, P.code_Reader_add, u⟩
theorem ok.code_Reader_add {D : Nat} (u : Nat → Nat) (cl : Cl) (hc : ClOk Tryd.prog cl) : FnOk Tryd.prog cl tt D F.code_Reader_add (fn.code_Reader_add u) := fn_ok mixed hc ttOk Tryd.func52 (by kernel_rfl) (by kernel_rfl) rfl (by kernel_rfl) (by kernel_rfl)
abbrev F.code_Reader_tail : FuncId := 53
def P.code_Reader_tail : Pl := []
noncomputable def fn.code_Reader_tail (u : Nat → Nat) : Eng.Fn := ⟨32, Tryd.f53.body.getD .skip, Tryd.f53.results.toList, P.code_Reader_tail, u⟩
theorem ok.code_Reader_tail {D : Nat} (u : Nat → Nat) (cl : Cl) (hc : ClOk Tryd.prog cl) : FnOk Tryd.prog cl tt D F.code_Reader_tail (fn.code_Reader_tail u) := fn_ok mixed hc ttOk Tryd.func53 (by kernel_rfl) (by kernel_rfl) rfl (by kernel_rfl) (by kernel_rfl)
abbrev F.frame_Parse : FuncId := 54
def P.frame_Parse : Pl := [(6, (.op 0 (.op 1 (.op 2 (.op 3 (.op 4 (.ch 5 (.re 0 (.re 1 (.re 2 (.op 6 (.op 7 (.ch 8 (.re 0 (.re 1 (.re 2 (.re 6 (.re 7 (.ch 9 .stop .nil)))))) .nil)))))) (.ch 8 (.re 0 (.re 1 (.re 2 (.re 3 (.re 4 (.ch 5 (.re 0 (.re 1 (.re 2 (.op 6 (.op 7 (.ch 9 .stop .nil)))))) .nil)))))) .nil)))))))), (10, (.op 0 (.op 1 (.op 2 (.op 3 (.op 4 (.ch 5 (.re 0 (.re 1 (.re 2 (.op 6 (.op 7 (.op 8 (.ch 9 .stop .nil))))))) .nil)))))))]
noncomputable def fn.frame_Parse (u : Nat → Nat) : Eng.Fn := ⟨67, Tryd.f54.body.getD .skip, Tryd.f54.results.toList, P.frame_Parse, u⟩
theorem ok.frame_Parse {D : Nat} (u : Nat → Nat) (cl : Cl) (hc : ClOk Tryd.prog cl) : FnOk Tryd.prog cl tt D F.frame_Parse (fn.frame_Parse u) := fn_ok mixed hc ttOk Tryd.func54 (by kernel_rfl) (by kernel_rfl) rfl (by kernel_rfl) (by kernel_rfl)
abbrev F.matrix_Is : FuncId := 67
def P.matrix_Is : Pl := []
noncomputable def fn.matrix_Is (u : Nat → Nat) : Eng.Fn := ⟨49, Tryd.f67.body.getD .skip, Tryd.f67.results.toList, P.matrix_Is, u⟩
theorem ok.matrix_Is {D : Nat} (u : Nat → Nat) (cl : Cl) (hc : ClOk Tryd.prog cl) : FnOk Tryd.prog cl tt D F.matrix_Is (fn.matrix_Is u) := fn_ok mixed hc ttOk Tryd.func67 (by kernel_rfl) (by kernel_rfl) rfl (by kernel_rfl) (by kernel_rfl)
abbrev F.stuff_other : FuncId := 68
def P.stuff_other : Pl := []
noncomputable def fn.stuff_other (u : Nat → Nat) : Eng.Fn := ⟨5, Tryd.f68.body.getD .skip, Tryd.f68.results.toList, P.stuff_other, u⟩
theorem ok.stuff_other {D : Nat} (u : Nat → Nat) (cl : Cl) (hc : ClOk Tryd.prog cl) : FnOk Tryd.prog cl tt D F.stuff_other (fn.stuff_other u) := fn_ok mixed hc ttOk Tryd.func68 (by kernel_rfl) (by kernel_rfl) rfl (by kernel_rfl) (by kernel_rfl)
abbrev F.bits_Add : FuncId := 69
def P.bits_Add : Pl := []
noncomputable def fn.bits_Add (u : Nat → Nat) : Eng.Fn := ⟨19, Tryd.f69.body.getD .skip, Tryd.f69.results.toList, P.bits_Add, u⟩
theorem ok.bits_Add {D : Nat} (u : Nat → Nat) (cl : Cl) (hc : ClOk Tryd.prog cl) : FnOk Tryd.prog cl tt D F.bits_Add (fn.bits_Add u) := fn_ok mixed hc ttOk Tryd.func69 (by kernel_rfl) (by kernel_rfl) rfl (by kernel_rfl) (by kernel_rfl)
abbrev F.frame_Need : FuncId := 70
def P.frame_Need : Pl := [(14, (.op 0 (.op 1 (.op 2 (.op 3 (.op 4 (.op 5 (.op 6 (.op 7 (.ch 8 (.re 0 (.re 1 (.op 9 (.op 10 (.op 11 (.op 12 (.op 13 (.op 14 .stop)))))))) .nil))))))))))]
noncomputable def fn.frame_Need (u : Nat → Nat) : Eng.Fn := ⟨53, Tryd.f70.body.getD .skip, Tryd.f70.results.toList, P.frame_Need, u⟩
theorem ok.frame_Need {D : Nat} (u : Nat → Nat) (cl : Cl) (hc : ClOk Tryd.prog cl) : FnOk Tryd.prog cl tt D F.frame_Need (fn.frame_Need u) := fn_ok mixed hc ttOk Tryd.func70 (by kernel_rfl) (by kernel_rfl) rfl (by kernel_rfl) (by kernel_rfl)
abbrev F.code_Reader_Right : FuncId := 71
def P.code_Reader_Right : Pl := []
noncomputable def fn.code_Reader_Right (u : Nat → Nat) : Eng.Fn := ⟨13, Tryd.f71.body.getD .skip, Tryd.f71.results.toList, P.code_Reader_Right, u⟩
theorem ok.code_Reader_Right {D : Nat} (u : Nat → Nat) (cl : Cl) (hc : ClOk Tryd.prog cl) : FnOk Tryd.prog cl tt D F.code_Reader_Right (fn.code_Reader_Right u) := fn_ok mixed hc ttOk Tryd.func71 (by kernel_rfl) (by kernel_rfl) rfl (by kernel_rfl) (by kernel_rfl)
abbrev F.bits_Num : FuncId := 72
def P.bits_Num : Pl := []
noncomputable def fn.bits_Num (u : Nat → Nat) : Eng.Fn := ⟨20, Tryd.f72.body.getD .skip, Tryd.f72.results.toList, P.bits_Num, u⟩
theorem ok.bits_Num {D : Nat} (u : Nat → Nat) (cl : Cl) (hc : ClOk Tryd.prog cl) : FnOk Tryd.prog cl tt D F.bits_Num (fn.bits_Num u) := fn_ok mixed hc ttOk Tryd.func72 (by kernel_rfl) (by kernel_rfl) rfl (by kernel_rfl) (by kernel_rfl)
abbrev F.frame_forms : FuncId := 73
def P.frame_forms : Pl := []
noncomputable def fn.frame_forms (u : Nat → Nat) : Eng.Fn := ⟨4, Tryd.f73.body.getD .skip, Tryd.f73.results.toList, P.frame_forms, u⟩
theorem ok.frame_forms {D : Nat} (u : Nat → Nat) (cl : Cl) (hc : ClOk Tryd.prog cl) : FnOk Tryd.prog cl tt D F.frame_forms (fn.frame_forms u) := fn_ok mixed hc ttOk Tryd.func73 (by kernel_rfl) (by kernel_rfl) rfl (by kernel_rfl) (by kernel_rfl)
abbrev F.bits_Bytes : FuncId := 74
def P.bits_Bytes : Pl := []
noncomputable def fn.bits_Bytes (u : Nat → Nat) : Eng.Fn := ⟨29, Tryd.f74.body.getD .skip, Tryd.f74.results.toList, P.bits_Bytes, u⟩
theorem ok.bits_Bytes {D : Nat} (u : Nat → Nat) (cl : Cl) (hc : ClOk Tryd.prog cl) : FnOk Tryd.prog cl tt D F.bits_Bytes (fn.bits_Bytes u) := fn_ok mixed hc ttOk Tryd.func74 (by kernel_rfl) (by kernel_rfl) rfl (by kernel_rfl) (by kernel_rfl)
abbrev F.matrix_head : FuncId := 82
def P.matrix_head : Pl := []
noncomputable def fn.matrix_head (u : Nat → Nat) : Eng.Fn := ⟨47, Tryd.f82.body.getD .skip, Tryd.f82.results.toList, P.matrix_head, u⟩
theorem ok.matrix_head {D : Nat} (u : Nat → Nat) (cl : Cl) (hc : ClOk Tryd.prog cl) : FnOk Tryd.prog cl tt D F.matrix_head (fn.matrix_head u) := fn_ok mixed hc ttOk Tryd.func82 (by kernel_rfl) (by kernel_rfl) rfl (by kernel_rfl) (by kernel_rfl)
abbrev F.matrix_within : FuncId := 83
def P.matrix_within : Pl := []
noncomputable def fn.matrix_within (u : Nat → Nat) : Eng.Fn := ⟨15, Tryd.f83.body.getD .skip, Tryd.f83.results.toList, P.matrix_within, u⟩
theorem ok.matrix_within {D : Nat} (u : Nat → Nat) (cl : Cl) (hc : ClOk Tryd.prog cl) : FnOk Tryd.prog cl tt D F.matrix_within (fn.matrix_within u) := fn_ok mixed hc ttOk Tryd.func83 (by kernel_rfl) (by kernel_rfl) rfl (by kernel_rfl) (by kernel_rfl)
abbrev F.matrix_Is_1 : FuncId := 84
def P.matrix_Is_1 : Pl := []
noncomputable def fn.matrix_Is_1 (u : Nat → Nat) : Eng.Fn := ⟨6, Tryd.f84.body.getD .skip, Tryd.f84.results.toList, P.matrix_Is_1, u⟩
theorem ok.matrix_Is_1 {D : Nat} (u : Nat → Nat) (cl : Cl) (hc : ClOk Tryd.prog cl) : FnOk Tryd.prog cl tt D F.matrix_Is_1 (fn.matrix_Is_1 u) := fn_ok mixed hc ttOk Tryd.func84 (by kernel_rfl) (by kernel_rfl) rfl (by kernel_rfl) (by kernel_rfl)
abbrev F.matrix_Is_2 : FuncId := 85
def P.matrix_Is_2 : Pl := []
noncomputable def fn.matrix_Is_2 (u : Nat → Nat) : Eng.Fn := ⟨13, Tryd.f85.body.getD .skip, Tryd.f85.results.toList, P.matrix_Is_2, u⟩
theorem ok.matrix_Is_2 {D : Nat} (u : Nat → Nat) (cl : Cl) (hc : ClOk Tryd.prog cl) : FnOk Tryd.prog cl tt D F.matrix_Is_2 (fn.matrix_Is_2 u) := fn_ok mixed hc ttOk Tryd.func85 (by kernel_rfl) (by kernel_rfl) rfl (by kernel_rfl) (by kernel_rfl)
abbrev F.matrix_Is_3 : FuncId := 86
def P.matrix_Is_3 : Pl := []
noncomputable def fn.matrix_Is_3 (u : Nat → Nat) : Eng.Fn := ⟨8, Tryd.f86.body.getD .skip, Tryd.f86.results.toList, P.matrix_Is_3, u⟩
theorem ok.matrix_Is_3 {D : Nat} (u : Nat → Nat) (cl : Cl) (hc : ClOk Tryd.prog cl) : FnOk Tryd.prog cl tt D F.matrix_Is_3 (fn.matrix_Is_3 u) := fn_ok mixed hc ttOk Tryd.func86 (by kernel_rfl) (by kernel_rfl) rfl (by kernel_rfl) (by kernel_rfl)
abbrev F.matrix_window : FuncId := 87
def P.matrix_window : Pl := []
noncomputable def fn.matrix_window (u : Nat → Nat) : Eng.Fn := ⟨65, Tryd.f87.body.getD .skip, Tryd.f87.results.toList, P.matrix_window, u⟩
theorem ok.matrix_window {D : Nat} (u : Nat → Nat) (cl : Cl) (hc : ClOk Tryd.prog cl) : FnOk Tryd.prog cl tt D F.matrix_window (fn.matrix_window u) := fn_ok mixed hc ttOk Tryd.func87 (by kernel_rfl) (by kernel_rfl) rfl (by kernel_rfl) (by kernel_rfl)
abbrev F.slices_ContainsFunc_int : FuncId := 88
def P.slices_ContainsFunc_int : Pl := []
noncomputable def fn.slices_ContainsFunc_int (u : Nat → Nat) : Eng.Fn := ⟨9, Tryd.f88.body.getD .skip, Tryd.f88.results.toList, P.slices_ContainsFunc_int, u⟩
theorem ok.slices_ContainsFunc_int {D : Nat} (u : Nat → Nat) (cl : Cl) (hc : ClOk Tryd.prog cl) : FnOk Tryd.prog cl tt D F.slices_ContainsFunc_int (fn.slices_ContainsFunc_int u) := fn_ok mixed hc ttOk Tryd.func88 (by kernel_rfl) (by kernel_rfl) rfl (by kernel_rfl) (by kernel_rfl)
abbrev F.slices_ContainsFunc_Message : FuncId := 89
def P.slices_ContainsFunc_Message : Pl := []
noncomputable def fn.slices_ContainsFunc_Message (u : Nat → Nat) : Eng.Fn := ⟨9, Tryd.f89.body.getD .skip, Tryd.f89.results.toList, P.slices_ContainsFunc_Message, u⟩
theorem ok.slices_ContainsFunc_Message {D : Nat} (u : Nat → Nat) (cl : Cl) (hc : ClOk Tryd.prog cl) : FnOk Tryd.prog cl tt D F.slices_ContainsFunc_Message (fn.slices_ContainsFunc_Message u) := fn_ok mixed hc ttOk Tryd.func89 (by kernel_rfl) (by kernel_rfl) rfl (by kernel_rfl) (by kernel_rfl)
abbrev F.slices_ContainsFunc_Window : FuncId := 90
def P.slices_ContainsFunc_Window : Pl := []
noncomputable def fn.slices_ContainsFunc_Window (u : Nat → Nat) : Eng.Fn := ⟨9, Tryd.f90.body.getD .skip, Tryd.f90.results.toList, P.slices_ContainsFunc_Window, u⟩
theorem ok.slices_ContainsFunc_Window {D : Nat} (u : Nat → Nat) (cl : Cl) (hc : ClOk Tryd.prog cl) : FnOk Tryd.prog cl tt D F.slices_ContainsFunc_Window (fn.slices_ContainsFunc_Window u) := fn_ok mixed hc ttOk Tryd.func90 (by kernel_rfl) (by kernel_rfl) rfl (by kernel_rfl) (by kernel_rfl)
abbrev F.matrix_power : FuncId := 94
def P.matrix_power : Pl := []
noncomputable def fn.matrix_power (u : Nat → Nat) : Eng.Fn := ⟨6, Tryd.f94.body.getD .skip, Tryd.f94.results.toList, P.matrix_power, u⟩
theorem ok.matrix_power {D : Nat} (u : Nat → Nat) (cl : Cl) (hc : ClOk Tryd.prog cl) : FnOk Tryd.prog cl tt D F.matrix_power (fn.matrix_power u) := fn_ok mixed hc ttOk Tryd.func94 (by kernel_rfl) (by kernel_rfl) rfl (by kernel_rfl) (by kernel_rfl)
abbrev F.slices_IndexFunc_int : FuncId := 95
def P.slices_IndexFunc_int : Pl := []
noncomputable def fn.slices_IndexFunc_int (u : Nat → Nat) : Eng.Fn := ⟨19, Tryd.f95.body.getD .skip, Tryd.f95.results.toList, P.slices_IndexFunc_int, u⟩
theorem ok.slices_IndexFunc_int {D : Nat} (u : Nat → Nat) (cl : Cl) (hc : ClOk Tryd.prog cl) : FnOk Tryd.prog cl tt D F.slices_IndexFunc_int (fn.slices_IndexFunc_int u) := fn_ok mixed hc ttOk Tryd.func95 (by kernel_rfl) (by kernel_rfl) rfl (by kernel_rfl) (by kernel_rfl)
abbrev F.slices_IndexFunc_Message : FuncId := 96
def P.slices_IndexFunc_Message : Pl := []
noncomputable def fn.slices_IndexFunc_Message (u : Nat → Nat) : Eng.Fn := ⟨19, Tryd.f96.body.getD .skip, Tryd.f96.results.toList, P.slices_IndexFunc_Message, u⟩
theorem ok.slices_IndexFunc_Message {D : Nat} (u : Nat → Nat) (cl : Cl) (hc : ClOk Tryd.prog cl) : FnOk Tryd.prog cl tt D F.slices_IndexFunc_Message (fn.slices_IndexFunc_Message u) := fn_ok mixed hc ttOk Tryd.func96 (by kernel_rfl) (by kernel_rfl) rfl (by kernel_rfl) (by kernel_rfl)
abbrev F.slices_IndexFunc_Window : FuncId := 97
def P.slices_IndexFunc_Window : Pl := []
noncomputable def fn.slices_IndexFunc_Window (u : Nat → Nat) : Eng.Fn := ⟨19, Tryd.f97.body.getD .skip, Tryd.f97.results.toList, P.slices_IndexFunc_Window, u⟩
theorem ok.slices_IndexFunc_Window {D : Nat} (u : Nat → Nat) (cl : Cl) (hc : ClOk Tryd.prog cl) : FnOk Tryd.prog cl tt D F.slices_IndexFunc_Window (fn.slices_IndexFunc_Window u) := fn_ok mixed hc ttOk Tryd.func97 (by kernel_rfl) (by kernel_rfl) rfl (by kernel_rfl) (by kernel_rfl)
abbrev F.slices_Contains_int : FuncId := 98
def P.slices_Contains_int : Pl := []
noncomputable def fn.slices_Contains_int (u : Nat → Nat) : Eng.Fn := ⟨9, Tryd.f98.body.getD .skip, Tryd.f98.results.toList, P.slices_Contains_int, u⟩
theorem ok.slices_Contains_int {D : Nat} (u : Nat → Nat) (cl : Cl) (hc : ClOk Tryd.prog cl) : FnOk Tryd.prog cl tt D F.slices_Contains_int (fn.slices_Contains_int u) := fn_ok mixed hc ttOk Tryd.func98 (by kernel_rfl) (by kernel_rfl) rfl (by kernel_rfl) (by kernel_rfl)
abbrev F.slices_Index_int : FuncId := 99
def P.slices_Index_int : Pl := []
noncomputable def fn.slices_Index_int (u : Nat → Nat) : Eng.Fn := ⟨19, Tryd.f99.body.getD .skip, Tryd.f99.results.toList, P.slices_Index_int, u⟩
theorem ok.slices_Index_int {D : Nat} (u : Nat → Nat) (cl : Cl) (hc : ClOk Tryd.prog cl) : FnOk Tryd.prog cl tt D F.slices_Index_int (fn.slices_Index_int u) := fn_ok mixed hc ttOk Tryd.func99 (by kernel_rfl) (by kernel_rfl) rfl (by kernel_rfl) (by kernel_rfl)
end Go.Proofs.YtdeaigaafdnehaaDoor.Tb
