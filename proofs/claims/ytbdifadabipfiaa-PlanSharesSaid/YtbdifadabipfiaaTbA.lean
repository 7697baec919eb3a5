/- Tables of the program's functions, checked: made by program. -/
import Derived.Test.YtbdifadabipfiaaRows
import Derived.Test.YtbdifadabipfiaaEnG
import Derived.KernelRfl
namespace Go.Proofs.Ytbdifadabipfiaa.Tb
open Go Go.Eng Go.Proofs
theorem mixed : Try.prog.follows .mixedOrders = true := by kernel_rfl
def TabOk (d : Nat) (tab : List (FuncId × Eng.Fn)) (tt : TT) : Prop := ∀ cl, ClOk Try.prog cl → ∀ g fn, (g, fn) ∈ tab → FnOk Try.prog cl tt d g fn
theorem TabOk.nil {d : Nat} {tt : TT} : TabOk d [] tt := fun _ _ _ _ h => by cases h
theorem TabOk.cons {d : Nat} {tt : TT} {f : FuncId} {fn : Eng.Fn} {l : List (FuncId × Eng.Fn)} (h : ∀ cl, ClOk Try.prog cl → FnOk Try.prog cl tt d f fn) (hl : TabOk d l tt) : TabOk d ((f, fn) :: l) tt := fun cl hc g fn' hm => by
  rcases List.mem_cons.1 hm with e | hm
  · cases e; exact h cl hc
  · exact hl cl hc g fn' hm
def tt : TT := [
  (3, ⟨.int .i64, 1, 8, .one ((.v (.int .i64 0))), []⟩),
  (53, ⟨.struct [(0, 3), (1, 3), (2, 3), (3, 3), (4, 3), (5, 3), (6, 3), (7, 49), (8, 26), (9, 50), (10, 51)], 11, 136, .agg [.c (.v (.int .i64 0)), .c (.v (.int .i64 0)), .c (.v (.int .i64 0)), .c (.v (.int .i64 0)), .c (.v (.int .i64 0)), .c (.v (.int .i64 0)), .c (.v (.int .i64 0)), .c (.v (.int .u32 0)), .c (.v (.slice none 0 0)), .c (.v (.slice none 0 0)), .c (.v (.slice none 0 0))], []⟩),
  (1, ⟨.other, 1, 8, .one ((.v .nilFunc)), []⟩),
  (4, ⟨.bool, 1, 1, .one ((.v (.bool false))), []⟩),
  (64, ⟨.struct [(0, 3), (1, 3), (2, 3), (3, 3), (4, 3), (5, 3)], 6, 48, .agg [.c (.v (.int .i64 0)), .c (.v (.int .i64 0)), .c (.v (.int .i64 0)), .c (.v (.int .i64 0)), .c (.v (.int .i64 0)), .c (.v (.int .i64 0))], []⟩),
  (90, ⟨.struct [(0, 3), (1, 3), (2, 3), (3, 3), (4, 3), (5, 3)], 6, 48, .agg [.c (.v (.int .i64 0)), .c (.v (.int .i64 0)), .c (.v (.int .i64 0)), .c (.v (.int .i64 0)), .c (.v (.int .i64 0)), .c (.v (.int .i64 0))], [.int .i64, .int .i64, .int .i64, .int .i64, .int .i64, .int .i64]⟩),
  (26, ⟨.slice 3, 1, 24, .one ((.v (.slice none 0 0))), []⟩),
  (84, ⟨.slice 90, 1, 24, .one ((.v (.slice none 0 0))), []⟩),
  (2, ⟨.int .i64, 1, 8, .one ((.v (.int .i64 0))), []⟩),
  (5, ⟨.int .u8, 1, 1, .one ((.v (.int .u8 0))), []⟩),
  (51, ⟨.slice 64, 1, 24, .one ((.v (.slice none 0 0))), []⟩),
  (50, ⟨.slice 66, 1, 24, .one ((.v (.slice none 0 0))), []⟩),
  (8, ⟨.struct [(0, 2), (1, 3), (2, 4), (3, 6)], 4, 24, .agg [.c (.v (.int .i64 0)), .c (.v (.int .i64 0)), .c (.v (.bool false)), .c (.v (.int .u8 0))], []⟩),
  (10, ⟨.str, 1, 16, .one ((.v (.string .empty))), []⟩),
  (9, ⟨.str, 1, 16, .one ((.v (.string .empty))), []⟩),
  (23, ⟨.ptr 103, 1, 8, .one ((.v (.pointer none))), []⟩),
  (49, ⟨.int .u32, 1, 4, .one ((.v (.int .u32 0))), []⟩),
  (55, ⟨.int .i64, 1, 8, .one ((.v (.int .i64 0))), []⟩),
  (91, ⟨.ptr 122, 1, 8, .one ((.v (.pointer none))), []⟩),
  (66, ⟨.struct [(0, 49), (1, 3), (2, 4)], 3, 24, .agg [.c (.v (.int .u32 0)), .c (.v (.int .i64 0)), .c (.v (.bool false))], []⟩),
  (68, ⟨.int .u16, 1, 2, .one ((.v (.int .u16 0))), []⟩),
  (77, ⟨.int .u64, 1, 8, .one ((.v (.int .u64 0))), []⟩),
  (7, ⟨.struct [(0, 2), (1, 3), (2, 4), (3, 6)], 4, 24, .agg [.c (.v (.int .i64 0)), .c (.v (.int .i64 0)), .c (.v (.bool false)), .c (.v (.int .u8 0))], []⟩),
  (122, ⟨.struct [(0, 84), (1, 3), (2, 3), (3, 90), (9, 4)], 10, 96, .agg [.c (.v (.slice none 0 0)), .c (.v (.int .i64 0)), .c (.v (.int .i64 0)), .c (.v (.int .i64 0)), .c (.v (.int .i64 0)), .c (.v (.int .i64 0)), .c (.v (.int .i64 0)), .c (.v (.int .i64 0)), .c (.v (.int .i64 0)), .c (.v (.bool false))], []⟩),
  (39, ⟨.struct [(0, 26)], 1, 24, .agg [.c (.v (.slice none 0 0))], []⟩),
  (41, ⟨.slice 5, 1, 24, .one ((.v (.slice none 0 0))), []⟩),
  (99, ⟨.struct [(0, 3), (1, 3)], 2, 16, .agg [.c (.v (.int .i64 0)), .c (.v (.int .i64 0))], []⟩),
  (103, ⟨.struct [(0, 26)], 1, 24, .agg [.c (.v (.slice none 0 0))], []⟩),
  (32, ⟨.ptr 39, 1, 8, .one ((.v (.pointer none))), []⟩),
  (16, ⟨.ptr 146, 1, 8, .one ((.v (.pointer none))), []⟩),
  (40, ⟨.other, 1, 8, .one ((.v .nilFunc)), []⟩),
  (119, ⟨.other, 1, 8, .one ((.v .nilFunc)), []⟩),
  (107, ⟨.struct [(0, 4), (1, 4)], 2, 2, .agg [.c (.v (.bool false)), .c (.v (.bool false))], []⟩),
  (20, ⟨.other, 1, 16, .one ((.v .nilIface)), []⟩),
  (6, ⟨.int .u8, 1, 1, .one ((.v (.int .u8 0))), []⟩),
  (80, ⟨.other, 1, 8, .one ((.v .nilFunc)), []⟩),
  (142, ⟨.struct [(0, 17), (1, 17), (2, 17), (3, 9)], 4, 40, .agg [.c (.v (.pointer none)), .c (.v (.pointer none)), .c (.v (.pointer none)), .c (.v (.string .empty))], []⟩),
  (30, ⟨.other, 1, 8, .one ((.v .nilFunc)), []⟩),
  (42, ⟨.arr 5 3, 5, 40, .agg [.arr 5 (fun _ => (.v (.int .i64 0)))], []⟩),
  (88, ⟨.arr 6 3, 6, 48, .agg [.arr 6 (fun _ => (.v (.int .i64 0)))], []⟩),
  (12, ⟨.int .u64, 1, 8, .one ((.v (.int .u64 0))), []⟩),
  (120, ⟨.other, 1, 8, .one ((.v .nilFunc)), []⟩),
  (140, ⟨.other, 1, 8, .one ((.v .nilFunc)), []⟩),
  (141, ⟨.other, 1, 8, .one ((.v .nilFunc)), []⟩),
  (115, ⟨.other, 1, 8, .one ((.v .nilFunc)), []⟩),
  (124, ⟨.arr 4 107, 8, 8, .agg [.c (.v (.bool false)), .c (.v (.bool false)), .c (.v (.bool false)), .c (.v (.bool false)), .c (.v (.bool false)), .c (.v (.bool false)), .c (.v (.bool false)), .c (.v (.bool false))], []⟩),
  (136, ⟨.struct [(0, 4), (1, 49), (2, 4), (3, 9)], 4, 32, .agg [.c (.v (.bool false)), .c (.v (.int .u32 0)), .c (.v (.bool false)), .c (.v (.string .empty))], []⟩),
  (25, ⟨.other, 1, 8, .one ((.v .nilFunc)), []⟩),
  (45, ⟨.other, 1, 8, .one ((.v .nilFunc)), []⟩),
  (97, ⟨.slice 99, 1, 24, .one ((.v (.slice none 0 0))), []⟩),
  (100, ⟨.other, 1, 8, .one ((.v .nilFunc)), []⟩),
  (105, ⟨.other, 1, 8, .one ((.v .nilFunc)), []⟩),
  (109, ⟨.slice 57, 1, 24, .one ((.v (.slice none 0 0))), []⟩),
  (21, ⟨.int .i32, 1, 4, .one ((.v (.int .i32 0))), []⟩),
  (60, ⟨.other, 1, 8, .one ((.v .nilFunc)), []⟩),
  (70, ⟨.other, 1, 8, .one ((.v .nilFunc)), []⟩),
  (79, ⟨.other, 1, 8, .one ((.v .nilFunc)), []⟩),
  (101, ⟨.other, 1, 8, .one ((.v .nilFunc)), []⟩),
  (108, ⟨.other, 1, 8, .one ((.v .nilFunc)), []⟩),
  (116, ⟨.other, 1, 8, .one ((.v .nilFunc)), []⟩),
  (126, ⟨.other, 1, 8, .one ((.v .nilFunc)), []⟩),
  (143, ⟨.struct [(0, 17), (1, 17), (2, 17), (3, 9)], 4, 40, .agg [.c (.v (.pointer none)), .c (.v (.pointer none)), .c (.v (.pointer none)), .c (.v (.string .empty))], []⟩),
  (69, ⟨.other, 1, 8, .one ((.v .nilFunc)), []⟩),
  (114, ⟨.other, 1, 8, .one ((.v .nilFunc)), []⟩),
  (144, ⟨.arr 0 16, 0, 0, .agg [], []⟩),
  (145, ⟨.struct [(0, 144)], 0, 0, .agg [], []⟩),
  (31, ⟨.slice 4, 1, 24, .one ((.v (.slice none 0 0))), []⟩),
  (33, ⟨.other, 1, 8, .one ((.v .nilFunc)), []⟩),
  (46, ⟨.other, 1, 8, .one ((.v .nilFunc)), []⟩),
  (58, ⟨.other, 1, 8, .one ((.v .nilFunc)), []⟩),
  (65, ⟨.struct [(0, 49), (1, 3), (2, 4)], 3, 24, .agg [.c (.v (.int .u32 0)), .c (.v (.int .i64 0)), .c (.v (.bool false))], []⟩),
  (112, ⟨.other, 1, 8, .one ((.v .nilFunc)), []⟩),
  (121, ⟨.struct [(0, 84), (1, 3), (2, 3), (3, 90), (9, 4)], 10, 96, .agg [.c (.v (.slice none 0 0)), .c (.v (.int .i64 0)), .c (.v (.int .i64 0)), .c (.v (.int .i64 0)), .c (.v (.int .i64 0)), .c (.v (.int .i64 0)), .c (.v (.int .i64 0)), .c (.v (.int .i64 0)), .c (.v (.int .i64 0)), .c (.v (.bool false))], []⟩),
  (128, ⟨.other, 1, 8, .one ((.v .nilFunc)), []⟩),
  (37, ⟨.other, 1, 8, .one ((.v .nilFunc)), []⟩),
  (38, ⟨.struct [(0, 26)], 1, 24, .agg [.c (.v (.slice none 0 0))], []⟩),
  (43, ⟨.other, 1, 8, .one ((.v .nilFunc)), []⟩),
  (48, ⟨.other, 1, 8, .one ((.v .nilFunc)), []⟩),
  (57, ⟨.other, 1, 8, .one ((.v .nilFunc)), []⟩),
  (81, ⟨.other, 1, 8, .one ((.v .nilFunc)), []⟩),
  (17, ⟨.ptr 154, 1, 8, .one ((.v (.pointer none))), []⟩),
  (52, ⟨.struct [(0, 3), (1, 3), (2, 3), (3, 3), (4, 3), (5, 3), (6, 3), (7, 49), (8, 26), (9, 50), (10, 51)], 11, 136, .agg [.c (.v (.int .i64 0)), .c (.v (.int .i64 0)), .c (.v (.int .i64 0)), .c (.v (.int .i64 0)), .c (.v (.int .i64 0)), .c (.v (.int .i64 0)), .c (.v (.int .i64 0)), .c (.v (.int .u32 0)), .c (.v (.slice none 0 0)), .c (.v (.slice none 0 0)), .c (.v (.slice none 0 0))], []⟩),
  (63, ⟨.struct [(0, 3), (1, 3), (2, 3), (3, 3), (4, 3), (5, 3)], 6, 48, .agg [.c (.v (.int .i64 0)), .c (.v (.int .i64 0)), .c (.v (.int .i64 0)), .c (.v (.int .i64 0)), .c (.v (.int .i64 0)), .c (.v (.int .i64 0))], []⟩),
  (89, ⟨.struct [(0, 3), (1, 3), (2, 3), (3, 3), (4, 3), (5, 3)], 6, 48, .agg [.c (.v (.int .i64 0)), .c (.v (.int .i64 0)), .c (.v (.int .i64 0)), .c (.v (.int .i64 0)), .c (.v (.int .i64 0)), .c (.v (.int .i64 0))], []⟩),
  (98, ⟨.struct [(0, 3), (1, 3)], 2, 16, .agg [.c (.v (.int .i64 0)), .c (.v (.int .i64 0))], []⟩),
  (102, ⟨.struct [(0, 26)], 1, 24, .agg [.c (.v (.slice none 0 0))], []⟩),
  (106, ⟨.struct [(0, 4), (1, 4)], 2, 2, .agg [.c (.v (.bool false)), .c (.v (.bool false))], []⟩),
  (135, ⟨.struct [(0, 4), (1, 49), (2, 4), (3, 9)], 4, 32, .agg [.c (.v (.bool false)), .c (.v (.int .u32 0)), .c (.v (.bool false)), .c (.v (.string .empty))], []⟩),
  (146, ⟨.struct [(0, 144)], 0, 0, .agg [], []⟩),
  (147, ⟨.int .u8, 1, 1, .one ((.v (.int .u8 0))), []⟩),
  (148, ⟨.int .u8, 1, 1, .one ((.v (.int .u8 0))), []⟩),
  (149, ⟨.other, 1, 8, .one ((.v .nilFunc)), []⟩),
  (150, ⟨.ptr 5, 1, 8, .one ((.v (.pointer none))), []⟩),
  (151, ⟨.int .i32, 1, 4, .one ((.v (.int .i32 0))), []⟩),
  (152, ⟨.int .i32, 1, 4, .one ((.v (.int .i32 0))), []⟩),
  (153, ⟨.struct [(0, 12), (1, 12), (2, 49), (3, 147), (4, 5), (5, 5), (6, 148), (7, 149), (8, 150), (9, 151), (10, 152)], 11, 48, .agg [.c (.v (.int .u64 0)), .c (.v (.int .u64 0)), .c (.v (.int .u32 0)), .c (.v (.int .u8 0)), .c (.v (.int .u8 0)), .c (.v (.int .u8 0)), .c (.v (.int .u8 0)), .c (.v .nilFunc), .c (.v (.pointer none)), .c (.v (.int .i32 0)), .c (.v (.int .i32 0))], []⟩),
  (154, ⟨.struct [(0, 12), (1, 12), (2, 49), (3, 147), (4, 5), (5, 5), (6, 148), (7, 149), (8, 150), (9, 151), (10, 152)], 11, 48, .agg [.c (.v (.int .u64 0)), .c (.v (.int .u64 0)), .c (.v (.int .u32 0)), .c (.v (.int .u8 0)), .c (.v (.int .u8 0)), .c (.v (.int .u8 0)), .c (.v (.int .u8 0)), .c (.v .nilFunc), .c (.v (.pointer none)), .c (.v (.int .i32 0)), .c (.v (.int .i32 0))], []⟩)]
theorem ttOk : TTok Try.prog tt := ttB_ok (by kernel_rfl)
abbrev F.law19_StatusSizes : FuncId := 3
def P.law19_StatusSizes : Pl := []
noncomputable def fn.law19_StatusSizes (u : Nat → Nat) : Eng.Fn := ⟨41, Try.f3.body.getD .skip, Try.f3.results.toList, P.law19_StatusSizes, u⟩
theorem ok.law19_StatusSizes {D : Nat} (u : Nat → Nat) (cl : Cl) (hc : ClOk Try.prog cl) : FnOk Try.prog cl tt D F.law19_StatusSizes (fn.law19_StatusSizes u) := fn_ok mixed hc ttOk Try.func3 (by kernel_rfl) (by kernel_rfl) rfl (by kernel_rfl) (by kernel_rfl)
abbrev F.law19_StatusPlays : FuncId := 4
def P.law19_StatusPlays : Pl := [(18, (.op 0 (.op 1 (.op 2 (.op 3 (.op 4 (.op 5 (.op 6 (.op 7 (.op 8 (.op 9 (.op 11 (.ch 10 (.re 11 (.op 12 (.op 13 (.op 14 (.op 15 (.op 16 (.op 17 (.op 18 (.op 19 (.op 21 (.op 22 (.op 23 (.op 24 (.op 25 (.ch 20 (.re 21 (.re 22 (.re 23 (.re 24 (.re 25 (.ch 26 (.op 27 (.op 28 .stop)) .nil)))))) .nil))))))))))))))) .nil))))))))))))), (23, (.op 0 (.op 1 (.op 2 (.op 3 (.op 4 (.op 5 (.op 6 (.op 7 (.op 8 (.op 9 (.op 10 (.op 11 .stop)))))))))))))]
noncomputable def fn.law19_StatusPlays (u : Nat → Nat) : Eng.Fn := ⟨148, Try.f4.body.getD .skip, Try.f4.results.toList, P.law19_StatusPlays, u⟩
theorem ok.law19_StatusPlays {D : Nat} (u : Nat → Nat) (cl : Cl) (hc : ClOk Try.prog cl) : FnOk Try.prog cl tt D F.law19_StatusPlays (fn.law19_StatusPlays u) := fn_ok mixed hc ttOk Try.func4 (by kernel_rfl) (by kernel_rfl) rfl (by kernel_rfl) (by kernel_rfl)
abbrev F.law19_StatusApart : FuncId := 5
def P.law19_StatusApart : Pl := [(23, (.op 0 (.op 1 (.op 3 (.op 4 (.op 5 (.ch 2 (.re 3 (.re 4 (.re 5 (.op 6 (.op 7 (.op 8 (.op 9 (.ch 10 (.op 11 (.op 12 .stop)) .nil)))))))) .nil)))))))]
noncomputable def fn.law19_StatusApart (u : Nat → Nat) : Eng.Fn := ⟨102, Try.f5.body.getD .skip, Try.f5.results.toList, P.law19_StatusApart, u⟩
theorem ok.law19_StatusApart {D : Nat} (u : Nat → Nat) (cl : Cl) (hc : ClOk Try.prog cl) : FnOk Try.prog cl tt D F.law19_StatusApart (fn.law19_StatusApart u) := fn_ok mixed hc ttOk Try.func5 (by kernel_rfl) (by kernel_rfl) rfl (by kernel_rfl) (by kernel_rfl)
abbrev F.law20_LevelTells : FuncId := 6
def P.law20_LevelTells : Pl := []
noncomputable def fn.law20_LevelTells (u : Nat → Nat) : Eng.Fn := ⟨77, Try.f6.body.getD .skip, Try.f6.results.toList, P.law20_LevelTells, u⟩
theorem ok.law20_LevelTells {D : Nat} (u : Nat → Nat) (cl : Cl) (hc : ClOk Try.prog cl) : FnOk Try.prog cl tt D F.law20_LevelTells (fn.law20_LevelTells u) := fn_ok mixed hc ttOk Try.func6 (by kernel_rfl) (by kernel_rfl) rfl (by kernel_rfl) (by kernel_rfl)
abbrev F.law20_LevelGrows : FuncId := 7
def P.law20_LevelGrows : Pl := []
noncomputable def fn.law20_LevelGrows (u : Nat → Nat) : Eng.Fn := ⟨58, Try.f7.body.getD .skip, Try.f7.results.toList, P.law20_LevelGrows, u⟩
theorem ok.law20_LevelGrows {D : Nat} (u : Nat → Nat) (cl : Cl) (hc : ClOk Try.prog cl) : FnOk Try.prog cl tt D F.law20_LevelGrows (fn.law20_LevelGrows u) := fn_ok mixed hc ttOk Try.func7 (by kernel_rfl) (by kernel_rfl) rfl (by kernel_rfl) (by kernel_rfl)
abbrev F.law20_LevelSteps : FuncId := 8
def P.law20_LevelSteps : Pl := []
noncomputable def fn.law20_LevelSteps (u : Nat → Nat) : Eng.Fn := ⟨73, Try.f8.body.getD .skip, Try.f8.results.toList, P.law20_LevelSteps, u⟩
theorem ok.law20_LevelSteps {D : Nat} (u : Nat → Nat) (cl : Cl) (hc : ClOk Try.prog cl) : FnOk Try.prog cl tt D F.law20_LevelSteps (fn.law20_LevelSteps u) := fn_ok mixed hc ttOk Try.func8 (by kernel_rfl) (by kernel_rfl) rfl (by kernel_rfl) (by kernel_rfl)
abbrev F.law14_CheckTells : FuncId := 9
def P.law14_CheckTells : Pl := [(7, (.op 0 (.op 1 (.op 2 (.op 3 (.op 4 (.op 5 (.op 6 (.op 7 (.op 8 (.op 9 (.op 10 (.op 11 (.op 13 (.op 14 (.op 15 (.ch 12 (.re 13 (.re 14 (.re 15 (.ch 16 (.op 17 (.op 18 (.op 19 (.op 20 (.op 21 (.op 23 (.op 24 (.ch 22 (.re 23 (.re 24 (.ch 25 (.op 26 (.op 27 (.op 28 (.op 29 (.op 31 (.ch 30 (.re 31 (.ch 32 (.op 33 (.op 34 (.op 35 .stop))) .nil)) .nil)))))) .nil))) .nil)))))))) .nil)))) .nil)))))))))))))))))]
noncomputable def fn.law14_CheckTells (u : Nat → Nat) : Eng.Fn := ⟨63, Try.f9.body.getD .skip, Try.f9.results.toList, P.law14_CheckTells, u⟩
theorem ok.law14_CheckTells {D : Nat} (u : Nat → Nat) (cl : Cl) (hc : ClOk Try.prog cl) : FnOk Try.prog cl tt D F.law14_CheckTells (fn.law14_CheckTells u) := fn_ok mixed hc ttOk Try.func9 (by kernel_rfl) (by kernel_rfl) rfl (by kernel_rfl) (by kernel_rfl)
abbrev F.law14_CheckPasses : FuncId := 10
def P.law14_CheckPasses : Pl := [(16, (.op 0 (.op 1 (.op 2 (.op 3 (.op 4 (.op 5 (.op 6 .stop)))))))), (17, (.op 0 (.op 1 (.op 2 (.ch 3 (.re 0 (.re 1 (.op 4 (.op 5 (.op 6 (.op 7 (.op 8 (.op 9 (.op 10 (.op 11 (.op 12 (.op 13 (.op 14 (.op 15 (.op 16 (.op 17 (.op 18 (.op 19 (.op 20 (.op 21 (.op 22 (.ch 23 (.re 17 (.re 18 (.re 19 (.re 20 (.re 21 (.op 24 (.op 25 (.op 26 (.op 27 (.op 28 (.op 29 (.op 30 (.op 31 (.op 32 (.op 33 (.op 34 (.op 35 (.op 36 (.op 37 (.op 38 (.op 39 (.op 40 (.op 41 (.op 42 (.op 43 (.op 44 (.op 45 (.op 46 (.op 47 (.op 48 .stop)))))))))))))))))))))))))))))) .nil)))))))))))))))))))))) .nil))))), (23, (.op 0 (.op 1 (.op 2 (.op 3 (.op 4 (.op 5 (.op 6 (.op 7 (.op 8 (.op 9 (.op 10 (.op 11 (.op 12 (.op 13 (.op 14 (.op 15 (.op 16 (.op 17 (.op 18 (.op 19 (.op 20 .stop)))))))))))))))))))))), (28, (.op 0 (.op 1 (.op 2 (.op 3 (.op 4 (.op 5 (.op 6 (.op 7 (.ch 8 (.re 5 (.re 6 (.op 9 (.op 10 (.op 11 .stop))))) .nil))))))))))]
noncomputable def fn.law14_CheckPasses (u : Nat → Nat) : Eng.Fn := ⟨147, Try.f10.body.getD .skip, Try.f10.results.toList, P.law14_CheckPasses, u⟩
theorem ok.law14_CheckPasses {D : Nat} (u : Nat → Nat) (cl : Cl) (hc : ClOk Try.prog cl) : FnOk Try.prog cl tt D F.law14_CheckPasses (fn.law14_CheckPasses u) := fn_ok mixed hc ttOk Try.func10 (by kernel_rfl) (by kernel_rfl) rfl (by kernel_rfl) (by kernel_rfl)
abbrev F.law14_CheckOne : FuncId := 11
def P.law14_CheckOne : Pl := [(14, (.op 0 (.op 1 (.op 2 (.op 3 (.op 4 (.op 5 (.op 6 (.op 7 (.op 8 (.op 9 (.op 10 (.ch 11 .stop .nil))))))))))))), (24, (.op 0 (.op 1 (.op 2 (.op 3 (.op 4 (.op 5 (.op 6 (.op 7 (.op 8 (.op 9 (.op 10 (.op 11 (.ch 12 (.re 0 (.re 1 (.ch 13 (.op 14 (.ch 15 .stop .nil)) .nil))) .nil)))))))))))))), (30, (.op 0 (.op 1 (.op 2 (.op 3 (.op 4 (.op 5 (.op 6 (.op 7 (.op 8 (.op 9 (.op 10 (.op 11 (.ch 12 (.re 0 (.re 1 (.ch 13 (.op 14 (.ch 15 .stop .nil)) .nil))) .nil)))))))))))))), (35, (.op 0 (.op 1 (.op 2 (.op 3 (.op 4 (.op 5 (.op 6 (.op 7 (.op 8 (.op 9 (.op 10 (.op 11 (.op 12 (.op 13 (.op 14 (.op 15 (.ch 16 .stop .nil))))))))))))))))))]
noncomputable def fn.law14_CheckOne (u : Nat → Nat) : Eng.Fn := ⟨202, Try.f11.body.getD .skip, Try.f11.results.toList, P.law14_CheckOne, u⟩
theorem ok.law14_CheckOne {D : Nat} (u : Nat → Nat) (cl : Cl) (hc : ClOk Try.prog cl) : FnOk Try.prog cl tt D F.law14_CheckOne (fn.law14_CheckOne u) := fn_ok mixed hc ttOk Try.func11 (by kernel_rfl) (by kernel_rfl) rfl (by kernel_rfl) (by kernel_rfl)
abbrev F.law14_CheckUnits : FuncId := 12
def P.law14_CheckUnits : Pl := [(7, (.op 0 (.op 1 (.op 2 (.op 3 (.op 4 (.op 5 (.op 6 (.op 7 (.op 8 (.op 9 (.op 10 (.op 11 (.op 12 (.op 13 (.op 14 (.op 15 (.op 16 (.op 17 (.op 18 (.op 19 (.op 21 (.ch 20 (.re 21 (.ch 22 (.op 23 (.op 24 (.op 25 (.op 26 .stop)))) .nil)) .nil)))))))))))))))))))))))]
noncomputable def fn.law14_CheckUnits (u : Nat → Nat) : Eng.Fn := ⟨48, Try.f12.body.getD .skip, Try.f12.results.toList, P.law14_CheckUnits, u⟩
theorem ok.law14_CheckUnits {D : Nat} (u : Nat → Nat) (cl : Cl) (hc : ClOk Try.prog cl) : FnOk Try.prog cl tt D F.law14_CheckUnits (fn.law14_CheckUnits u) := fn_ok mixed hc ttOk Try.func12 (by kernel_rfl) (by kernel_rfl) rfl (by kernel_rfl) (by kernel_rfl)
abbrev F.law14_CheckMeets : FuncId := 13
def P.law14_CheckMeets : Pl := []
noncomputable def fn.law14_CheckMeets (u : Nat → Nat) : Eng.Fn := ⟨113, Try.f13.body.getD .skip, Try.f13.results.toList, P.law14_CheckMeets, u⟩
theorem ok.law14_CheckMeets {D : Nat} (u : Nat → Nat) (cl : Cl) (hc : ClOk Try.prog cl) : FnOk Try.prog cl tt D F.law14_CheckMeets (fn.law14_CheckMeets u) := fn_ok mixed hc ttOk Try.func13 (by kernel_rfl) (by kernel_rfl) rfl (by kernel_rfl) (by kernel_rfl)
abbrev F.law14_CheckRoom : FuncId := 14
def P.law14_CheckRoom : Pl := []
noncomputable def fn.law14_CheckRoom (u : Nat → Nat) : Eng.Fn := ⟨64, Try.f14.body.getD .skip, Try.f14.results.toList, P.law14_CheckRoom, u⟩
theorem ok.law14_CheckRoom {D : Nat} (u : Nat → Nat) (cl : Cl) (hc : ClOk Try.prog cl) : FnOk Try.prog cl tt D F.law14_CheckRoom (fn.law14_CheckRoom u) := fn_ok mixed hc ttOk Try.func14 (by kernel_rfl) (by kernel_rfl) rfl (by kernel_rfl) (by kernel_rfl)
abbrev F.law14_CheckOrder : FuncId := 15
def P.law14_CheckOrder : Pl := []
noncomputable def fn.law14_CheckOrder (u : Nat → Nat) : Eng.Fn := ⟨125, Try.f15.body.getD .skip, Try.f15.results.toList, P.law14_CheckOrder, u⟩
theorem ok.law14_CheckOrder {D : Nat} (u : Nat → Nat) (cl : Cl) (hc : ClOk Try.prog cl) : FnOk Try.prog cl tt D F.law14_CheckOrder (fn.law14_CheckOrder u) := fn_ok mixed hc ttOk Try.func15 (by kernel_rfl) (by kernel_rfl) rfl (by kernel_rfl) (by kernel_rfl)
abbrev F.law16_WindowTells : FuncId := 16
def P.law16_WindowTells : Pl := [(8, (.op 0 (.op 1 (.op 2 (.op 3 (.op 4 (.op 5 (.op 6 (.op 7 (.op 8 (.op 9 (.op 10 (.op 11 .stop)))))))))))))]
noncomputable def fn.law16_WindowTells (u : Nat → Nat) : Eng.Fn := ⟨122, Try.f16.body.getD .skip, Try.f16.results.toList, P.law16_WindowTells, u⟩
theorem ok.law16_WindowTells {D : Nat} (u : Nat → Nat) (cl : Cl) (hc : ClOk Try.prog cl) : FnOk Try.prog cl tt D F.law16_WindowTells (fn.law16_WindowTells u) := fn_ok mixed hc ttOk Try.func16 (by kernel_rfl) (by kernel_rfl) rfl (by kernel_rfl) (by kernel_rfl)
abbrev F.law16_WindowSums : FuncId := 17
def P.law16_WindowSums : Pl := [(14, (.op 0 (.op 1 (.op 2 (.op 3 (.op 4 (.op 5 (.op 6 (.op 7 (.op 8 (.op 9 (.op 10 (.op 11 .stop))))))))))))), (17, (.op 0 (.op 1 (.op 2 (.op 5 (.op 6 (.ch 3 (.re 0 (.re 5 (.re 6 (.op 4 (.op 7 (.op 8 (.op 9 (.op 10 (.op 11 (.op 12 (.op 13 (.op 14 (.ch 15 (.re 9 (.op 16 (.op 17 (.op 18 (.op 19 (.op 20 (.ch 21 (.op 22 (.op 23 (.op 24 (.op 25 (.op 26 (.op 27 (.op 28 (.ch 29 (.op 30 (.op 31 (.op 32 .stop))) .nil)))))))) .nil))))))) .nil))))))))))))) .nil)))))))]
noncomputable def fn.law16_WindowSums (u : Nat → Nat) : Eng.Fn := ⟨98, Try.f17.body.getD .skip, Try.f17.results.toList, P.law16_WindowSums, u⟩
theorem ok.law16_WindowSums {D : Nat} (u : Nat → Nat) (cl : Cl) (hc : ClOk Try.prog cl) : FnOk Try.prog cl tt D F.law16_WindowSums (fn.law16_WindowSums u) := fn_ok mixed hc ttOk Try.func17 (by kernel_rfl) (by kernel_rfl) rfl (by kernel_rfl) (by kernel_rfl)
abbrev F.law16_WindowEdges : FuncId := 18
def P.law16_WindowEdges : Pl := [(12, (.op 0 (.op 1 (.op 2 (.op 3 (.op 4 (.op 5 (.op 6 (.op 7 (.op 8 .stop))))))))))]
noncomputable def fn.law16_WindowEdges (u : Nat → Nat) : Eng.Fn := ⟨127, Try.f18.body.getD .skip, Try.f18.results.toList, P.law16_WindowEdges, u⟩
theorem ok.law16_WindowEdges {D : Nat} (u : Nat → Nat) (cl : Cl) (hc : ClOk Try.prog cl) : FnOk Try.prog cl tt D F.law16_WindowEdges (fn.law16_WindowEdges u) := fn_ok mixed hc ttOk Try.func18 (by kernel_rfl) (by kernel_rfl) rfl (by kernel_rfl) (by kernel_rfl)
abbrev F.law27_BoundTells : FuncId := 19
def P.law27_BoundTells : Pl := [(24, (.op 0 (.op 1 (.op 3 (.op 4 (.op 6 (.op 7 (.op 8 (.op 9 (.op 10 (.op 11 (.ch 2 (.re 0 (.re 3 (.re 4 (.re 6 (.re 7 (.re 8 (.re 9 (.re 10 (.re 11 (.op 5 (.op 12 (.ch 13 (.op 14 (.op 15 .stop)) .nil)))))))))))) .nil)))))))))))), (25, (.op 0 (.op 1 (.op 3 (.op 4 (.ch 2 (.re 3 (.re 4 (.ch 5 (.op 6 (.op 7 (.op 8 (.op 10 (.op 11 (.op 12 (.ch 9 (.re 10 (.re 11 (.re 12 (.ch 13 (.op 14 (.op 15 (.op 16 (.op 17 (.op 19 (.ch 18 (.re 19 (.op 20 (.op 21 (.op 22 (.op 23 (.op 24 (.op 26 (.ch 25 (.re 26 (.op 27 (.op 28 (.op 29 (.op 30 (.op 31 (.op 33 (.ch 32 (.re 33 (.op 34 (.op 35 (.op 36 (.op 37 (.op 39 (.ch 38 (.re 39 (.op 40 (.op 41 (.op 42 .stop)))) .nil))))))) .nil)))))))) .nil)))))))) .nil)))))) .nil)))) .nil))))))) .nil))) .nil))))))]
noncomputable def fn.law27_BoundTells (u : Nat → Nat) : Eng.Fn := ⟨173, Try.f19.body.getD .skip, Try.f19.results.toList, P.law27_BoundTells, u⟩
theorem ok.law27_BoundTells {D : Nat} (u : Nat → Nat) (cl : Cl) (hc : ClOk Try.prog cl) : FnOk Try.prog cl tt D F.law27_BoundTells (fn.law27_BoundTells u) := fn_ok mixed hc ttOk Try.func19 (by kernel_rfl) (by kernel_rfl) rfl (by kernel_rfl) (by kernel_rfl)
abbrev F.law27_BoundSums : FuncId := 20
def P.law27_BoundSums : Pl := [(10, (.op 0 (.op 1 (.op 2 (.op 3 (.op 4 (.op 5 (.op 6 (.op 7 (.op 8 (.op 9 (.op 10 (.ch 11 .stop .nil))))))))))))), (15, (.op 0 (.op 2 (.op 5 (.ch 1 (.re 2 (.re 5 (.ch 3 (.re 5 (.op 4 (.ch 6 (.re 4 (.op 7 (.op 8 .stop))) .nil))) .nil))) .nil))))), (16, (.op 0 (.op 1 (.op 2 (.op 3 (.op 4 (.op 5 (.ch 6 (.re 4 (.op 7 (.op 8 (.op 9 (.op 10 (.op 12 (.op 13 (.op 14 (.op 15 (.op 16 (.ch 11 (.re 12 (.re 13 (.re 14 (.re 15 (.re 16 (.op 17 (.op 18 (.op 19 (.op 20 (.ch 21 (.op 22 (.op 23 (.op 24 (.op 25 (.ch 26 (.op 27 (.op 28 (.op 29 (.op 30 (.op 31 (.op 32 (.op 33 (.ch 34 (.op 35 (.op 36 (.op 37 .stop))) .nil)))))))) .nil))))) .nil)))))))))) .nil))))))))))) .nil))))))))]
noncomputable def fn.law27_BoundSums (u : Nat → Nat) : Eng.Fn := ⟨99, Try.f20.body.getD .skip, Try.f20.results.toList, P.law27_BoundSums, u⟩
theorem ok.law27_BoundSums {D : Nat} (u : Nat → Nat) (cl : Cl) (hc : ClOk Try.prog cl) : FnOk Try.prog cl tt D F.law27_BoundSums (fn.law27_BoundSums u) := fn_ok mixed hc ttOk Try.func20 (by kernel_rfl) (by kernel_rfl) rfl (by kernel_rfl) (by kernel_rfl)
abbrev F.law27_BoundLong : FuncId := 21
def P.law27_BoundLong : Pl := [(7, (.op 0 (.op 1 (.op 3 (.op 4 (.op 6 (.op 7 (.op 8 (.op 9 (.ch 2 (.re 3 (.re 4 (.re 6 (.re 7 (.re 8 (.re 9 (.ch 5 (.re 6 (.re 7 (.re 8 (.re 9 (.ch 10 (.op 11 (.op 12 (.op 13 .stop))) .nil))))) .nil))))))) .nil)))))))))), (8, (.op 0 (.op 1 (.op 2 (.op 3 (.op 4 (.op 5 (.op 6 (.op 7 (.op 8 (.op 9 (.op 10 (.op 11 (.op 12 (.op 13 (.op 14 (.op 15 (.op 16 (.op 17 (.op 18 (.op 19 (.op 20 (.op 21 (.op 22 (.op 23 (.op 24 (.op 25 (.op 26 (.op 27 (.op 28 (.op 29 (.op 30 (.op 31 (.op 32 (.op 33 (.op 35 (.ch 34 (.re 35 (.ch 36 (.op 37 (.op 38 (.op 39 (.op 40 (.ch 41 (.op 42 (.op 43 (.op 44 .stop))) .nil))))) .nil)) .nil)))))))))))))))))))))))))))))))))))))]
noncomputable def fn.law27_BoundLong (u : Nat → Nat) : Eng.Fn := ⟨89, Try.f21.body.getD .skip, Try.f21.results.toList, P.law27_BoundLong, u⟩
theorem ok.law27_BoundLong {D : Nat} (u : Nat → Nat) (cl : Cl) (hc : ClOk Try.prog cl) : FnOk Try.prog cl tt D F.law27_BoundLong (fn.law27_BoundLong u) := fn_ok mixed hc ttOk Try.func21 (by kernel_rfl) (by kernel_rfl) rfl (by kernel_rfl) (by kernel_rfl)
abbrev F.law27_BoundOnce : FuncId := 22
def P.law27_BoundOnce : Pl := []
noncomputable def fn.law27_BoundOnce (u : Nat → Nat) : Eng.Fn := ⟨80, Try.f22.body.getD .skip, Try.f22.results.toList, P.law27_BoundOnce, u⟩
theorem ok.law27_BoundOnce {D : Nat} (u : Nat → Nat) (cl : Cl) (hc : ClOk Try.prog cl) : FnOk Try.prog cl tt D F.law27_BoundOnce (fn.law27_BoundOnce u) := fn_ok mixed hc ttOk Try.func22 (by kernel_rfl) (by kernel_rfl) rfl (by kernel_rfl) (by kernel_rfl)
abbrev F.law27_BoundScales : FuncId := 23
def P.law27_BoundScales : Pl := [(11, (.op 0 (.op 1 (.op 3 (.op 4 (.ch 2 (.re 3 (.re 4 (.ch 5 (.op 6 (.op 7 (.op 8 (.op 9 (.op 11 (.op 13 (.op 14 (.op 15 (.op 16 (.ch 10 (.re 11 (.re 13 (.re 14 (.re 15 (.re 16 (.ch 12 (.re 13 (.re 14 (.re 15 (.re 16 (.op 17 (.op 18 (.op 19 (.op 20 (.op 21 (.op 23 (.ch 22 (.re 23 (.ch 24 (.op 25 (.op 26 (.op 27 (.op 28 (.op 30 (.ch 29 (.re 30 (.ch 31 (.op 32 (.op 33 (.op 34 .stop))) .nil)) .nil)))))) .nil)) .nil))))))))))) .nil)))))) .nil)))))))))) .nil))) .nil))))))]
noncomputable def fn.law27_BoundScales (u : Nat → Nat) : Eng.Fn := ⟨65, Try.f23.body.getD .skip, Try.f23.results.toList, P.law27_BoundScales, u⟩
theorem ok.law27_BoundScales {D : Nat} (u : Nat → Nat) (cl : Cl) (hc : ClOk Try.prog cl) : FnOk Try.prog cl tt D F.law27_BoundScales (fn.law27_BoundScales u) := fn_ok mixed hc ttOk Try.func23 (by kernel_rfl) (by kernel_rfl) rfl (by kernel_rfl) (by kernel_rfl)
abbrev F.law15_PlanTells : FuncId := 24
def P.law15_PlanTells : Pl := [(5, (.op 0 (.op 1 (.op 3 (.op 4 (.ch 2 (.re 3 (.re 4 (.ch 5 (.ch 6 (.op 7 (.op 8 (.op 9 (.op 11 (.op 12 (.ch 10 (.re 11 (.re 12 (.ch 13 (.op 14 (.op 15 (.op 16 (.op 17 (.op 19 (.ch 18 (.re 19 (.ch 20 (.op 21 (.op 22 (.op 23 .stop))) .nil)) .nil)))))) .nil))) .nil)))))) .nil) .nil))) .nil))))))]
noncomputable def fn.law15_PlanTells (u : Nat → Nat) : Eng.Fn := ⟨35, Try.f24.body.getD .skip, Try.f24.results.toList, P.law15_PlanTells, u⟩
theorem ok.law15_PlanTells {D : Nat} (u : Nat → Nat) (cl : Cl) (hc : ClOk Try.prog cl) : FnOk Try.prog cl tt D F.law15_PlanTells (fn.law15_PlanTells u) := fn_ok mixed hc ttOk Try.func24 (by kernel_rfl) (by kernel_rfl) rfl (by kernel_rfl) (by kernel_rfl)
abbrev F.law15_PlanDue : FuncId := 25
def P.law15_PlanDue : Pl := []
noncomputable def fn.law15_PlanDue (u : Nat → Nat) : Eng.Fn := ⟨56, Try.f25.body.getD .skip, Try.f25.results.toList, P.law15_PlanDue, u⟩
theorem ok.law15_PlanDue {D : Nat} (u : Nat → Nat) (cl : Cl) (hc : ClOk Try.prog cl) : FnOk Try.prog cl tt D F.law15_PlanDue (fn.law15_PlanDue u) := fn_ok mixed hc ttOk Try.func25 (by kernel_rfl) (by kernel_rfl) rfl (by kernel_rfl) (by kernel_rfl)
abbrev F.law15_PlanShares : FuncId := 26
def P.law15_PlanShares : Pl := [(24, (.op 0 (.op 1 (.op 2 (.op 3 (.op 4 (.op 5 (.op 6 (.op 7 (.op 8 (.op 9 (.op 10 (.op 11 (.op 12 (.op 13 (.op 14 (.op 15 (.op 16 (.op 17 (.op 18 (.op 19 (.op 20 (.op 21 (.op 22 (.op 23 (.op 24 (.op 25 (.op 26 (.op 27 (.op 28 (.op 29 (.op 30 (.op 31 (.op 32 (.op 33 (.op 34 (.op 35 (.op 36 (.op 37 (.op 38 (.op 39 (.op 40 (.op 41 (.op 42 (.op 43 (.op 44 (.op 45 (.op 46 (.op 47 (.op 48 (.op 49 (.op 50 (.op 51 (.op 52 (.op 53 (.op 54 .stop))))))))))))))))))))))))))))))))))))))))))))))))))))))))]
noncomputable def fn.law15_PlanShares (u : Nat → Nat) : Eng.Fn := ⟨176, Try.f26.body.getD .skip, Try.f26.results.toList, P.law15_PlanShares, u⟩
theorem ok.law15_PlanShares {D : Nat} (u : Nat → Nat) (cl : Cl) (hc : ClOk Try.prog cl) : FnOk Try.prog cl tt D F.law15_PlanShares (fn.law15_PlanShares u) := fn_ok mixed hc ttOk Try.func26 (by kernel_rfl) (by kernel_rfl) rfl (by kernel_rfl) (by kernel_rfl)
abbrev F.law15_PlanOrder : FuncId := 27
def P.law15_PlanOrder : Pl := [(7, (.op 0 (.op 1 (.op 3 (.op 4 (.op 7 (.op 8 (.op 9 (.op 10 (.op 11 (.ch 2 (.re 3 (.re 4 (.re 7 (.re 8 (.re 9 (.re 10 (.re 11 (.ch 5 (.re 7 (.re 8 (.re 9 (.re 10 (.re 11 (.op 6 (.op 12 (.op 13 (.op 14 (.op 15 (.op 17 (.op 18 (.ch 16 (.re 17 (.re 18 (.op 19 (.op 20 (.op 21 (.op 22 (.op 24 (.op 25 (.ch 23 (.re 24 (.re 25 (.op 26 (.op 27 (.op 28 (.op 29 (.op 31 (.op 32 (.op 33 (.op 34 (.op 35 (.op 37 (.op 38 (.ch 30 (.re 31 (.re 32 (.re 33 (.re 34 (.re 35 (.re 37 (.re 38 (.ch 36 (.re 37 (.re 38 (.op 39 (.op 40 (.op 41 (.op 42 .stop)))))) .nil)))))))) .nil)))))))))))))) .nil))))))))) .nil))))))))))))) .nil)))))))) .nil)))))))))))]
noncomputable def fn.law15_PlanOrder (u : Nat → Nat) : Eng.Fn := ⟨70, Try.f27.body.getD .skip, Try.f27.results.toList, P.law15_PlanOrder, u⟩
theorem ok.law15_PlanOrder {D : Nat} (u : Nat → Nat) (cl : Cl) (hc : ClOk Try.prog cl) : FnOk Try.prog cl tt D F.law15_PlanOrder (fn.law15_PlanOrder u) := fn_ok mixed hc ttOk Try.func27 (by kernel_rfl) (by kernel_rfl) rfl (by kernel_rfl) (by kernel_rfl)
abbrev F.law15_PlanCycles : FuncId := 28
def P.law15_PlanCycles : Pl := [(6, (.op 0 (.op 1 (.op 2 (.op 3 (.op 4 (.op 5 (.ch 6 (.op 7 .stop) .nil)))))))), (9, (.op 0 (.op 1 (.op 2 (.op 4 (.op 5 (.op 6 (.op 7 (.op 8 (.op 9 (.ch 3 (.re 4 (.re 5 (.re 6 (.re 7 (.re 8 (.re 9 (.ch 10 (.ch 11 (.op 12 (.op 13 (.op 14 (.op 15 (.op 16 (.op 17 (.ch 18 (.op 19 (.op 20 (.op 21 (.op 22 (.op 23 (.op 24 (.op 25 (.op 26 (.op 27 (.ch 28 (.op 29 (.op 30 (.op 31 (.op 32 .stop)))) .nil)))))))))) .nil))))))) .nil) .nil))))))) .nil)))))))))))]
noncomputable def fn.law15_PlanCycles (u : Nat → Nat) : Eng.Fn := ⟨70, Try.f28.body.getD .skip, Try.f28.results.toList, P.law15_PlanCycles, u⟩
theorem ok.law15_PlanCycles {D : Nat} (u : Nat → Nat) (cl : Cl) (hc : ClOk Try.prog cl) : FnOk Try.prog cl tt D F.law15_PlanCycles (fn.law15_PlanCycles u) := fn_ok mixed hc ttOk Try.func28 (by kernel_rfl) (by kernel_rfl) rfl (by kernel_rfl) (by kernel_rfl)
abbrev F.law15_PlanEnds : FuncId := 29
def P.law15_PlanEnds : Pl := [(6, (.op 0 (.op 1 (.op 2 (.op 3 (.op 4 (.op 5 (.ch 6 (.op 7 .stop) .nil))))))))]
noncomputable def fn.law15_PlanEnds (u : Nat → Nat) : Eng.Fn := ⟨139, Try.f29.body.getD .skip, Try.f29.results.toList, P.law15_PlanEnds, u⟩
theorem ok.law15_PlanEnds {D : Nat} (u : Nat → Nat) (cl : Cl) (hc : ClOk Try.prog cl) : FnOk Try.prog cl tt D F.law15_PlanEnds (fn.law15_PlanEnds u) := fn_ok mixed hc ttOk Try.func29 (by kernel_rfl) (by kernel_rfl) rfl (by kernel_rfl) (by kernel_rfl)
abbrev F.law23_SchedOnce : FuncId := 30
def P.law23_SchedOnce : Pl := [(6, (.op 0 (.op 2 (.ch 1 (.re 2 (.ch 3 (.op 4 (.op 5 .stop)) .nil)) .nil)))), (18, (.op 0 (.op 1 (.op 2 (.op 3 (.op 4 (.op 5 (.op 6 (.op 7 (.op 8 (.op 9 (.op 10 (.op 11 (.op 12 (.op 13 (.op 14 .stop))))))))))))))))]
noncomputable def fn.law23_SchedOnce (u : Nat → Nat) : Eng.Fn := ⟨107, Try.f30.body.getD .skip, Try.f30.results.toList, P.law23_SchedOnce, u⟩
theorem ok.law23_SchedOnce {D : Nat} (u : Nat → Nat) (cl : Cl) (hc : ClOk Try.prog cl) : FnOk Try.prog cl tt D F.law23_SchedOnce (fn.law23_SchedOnce u) := fn_ok mixed hc ttOk Try.func30 (by kernel_rfl) (by kernel_rfl) rfl (by kernel_rfl) (by kernel_rfl)
abbrev F.law23_SchedLast : FuncId := 31
def P.law23_SchedLast : Pl := [(6, (.op 0 (.op 1 (.op 2 (.op 3 (.op 4 (.op 5 (.ch 6 (.op 7 .stop) .nil))))))))]
noncomputable def fn.law23_SchedLast (u : Nat → Nat) : Eng.Fn := ⟨110, Try.f31.body.getD .skip, Try.f31.results.toList, P.law23_SchedLast, u⟩
theorem ok.law23_SchedLast {D : Nat} (u : Nat → Nat) (cl : Cl) (hc : ClOk Try.prog cl) : FnOk Try.prog cl tt D F.law23_SchedLast (fn.law23_SchedLast u) := fn_ok mixed hc ttOk Try.func31 (by kernel_rfl) (by kernel_rfl) rfl (by kernel_rfl) (by kernel_rfl)
abbrev F.law23_SchedBack : FuncId := 32
def P.law23_SchedBack : Pl := [(9, (.op 0 (.op 2 (.ch 1 (.re 2 (.ch 3 (.op 4 (.op 5 .stop)) .nil)) .nil)))), (24, (.op 0 (.op 1 (.op 2 (.op 3 (.op 4 (.op 5 (.op 6 (.op 7 (.op 8 .stop))))))))))]
noncomputable def fn.law23_SchedBack (u : Nat → Nat) : Eng.Fn := ⟨113, Try.f32.body.getD .skip, Try.f32.results.toList, P.law23_SchedBack, u⟩
theorem ok.law23_SchedBack {D : Nat} (u : Nat → Nat) (cl : Cl) (hc : ClOk Try.prog cl) : FnOk Try.prog cl tt D F.law23_SchedBack (fn.law23_SchedBack u) := fn_ok mixed hc ttOk Try.func32 (by kernel_rfl) (by kernel_rfl) rfl (by kernel_rfl) (by kernel_rfl)
abbrev F.law23_SchedPlays : FuncId := 33
def P.law23_SchedPlays : Pl := [(25, (.op 0 (.op 1 (.op 2 (.op 3 (.op 4 (.op 5 (.op 6 (.op 7 (.op 8 .stop))))))))))]
noncomputable def fn.law23_SchedPlays (u : Nat → Nat) : Eng.Fn := ⟨157, Try.f33.body.getD .skip, Try.f33.results.toList, P.law23_SchedPlays, u⟩
theorem ok.law23_SchedPlays {D : Nat} (u : Nat → Nat) (cl : Cl) (hc : ClOk Try.prog cl) : FnOk Try.prog cl tt D F.law23_SchedPlays (fn.law23_SchedPlays u) := fn_ok mixed hc ttOk Try.func33 (by kernel_rfl) (by kernel_rfl) rfl (by kernel_rfl) (by kernel_rfl)
abbrev F.law19_known : FuncId := 34
def P.law19_known : Pl := []
noncomputable def fn.law19_known (u : Nat → Nat) : Eng.Fn := ⟨45, Try.f34.body.getD .skip, Try.f34.results.toList, P.law19_known, u⟩
theorem ok.law19_known {D : Nat} (u : Nat → Nat) (cl : Cl) (hc : ClOk Try.prog cl) : FnOk Try.prog cl tt D F.law19_known (fn.law19_known u) := fn_ok mixed hc ttOk Try.func34 (by kernel_rfl) (by kernel_rfl) rfl (by kernel_rfl) (by kernel_rfl)
abbrev F.status_New : FuncId := 35
def P.status_New : Pl := []
noncomputable def fn.status_New (u : Nat → Nat) : Eng.Fn := ⟨9, Try.f35.body.getD .skip, Try.f35.results.toList, P.status_New, u⟩
theorem ok.status_New {D : Nat} (u : Nat → Nat) (cl : Cl) (hc : ClOk Try.prog cl) : FnOk Try.prog cl tt D F.status_New (fn.status_New u) := fn_ok mixed hc ttOk Try.func35 (by kernel_rfl) (by kernel_rfl) rfl (by kernel_rfl) (by kernel_rfl)
abbrev F.status_Table_Bad : FuncId := 36
def P.status_Table_Bad : Pl := []
noncomputable def fn.status_Table_Bad (u : Nat → Nat) : Eng.Fn := ⟨7, Try.f36.body.getD .skip, Try.f36.results.toList, P.status_Table_Bad, u⟩
theorem ok.status_Table_Bad {D : Nat} (u : Nat → Nat) (cl : Cl) (hc : ClOk Try.prog cl) : FnOk Try.prog cl tt D F.status_Table_Bad (fn.status_Table_Bad u) := fn_ok mixed hc ttOk Try.func36 (by kernel_rfl) (by kernel_rfl) rfl (by kernel_rfl) (by kernel_rfl)
abbrev F.status_Table_All : FuncId := 37
def P.status_Table_All : Pl := []
noncomputable def fn.status_Table_All (u : Nat → Nat) : Eng.Fn := ⟨17, Try.f37.body.getD .skip, Try.f37.results.toList, P.status_Table_All, u⟩
theorem ok.status_Table_All {D : Nat} (u : Nat → Nat) (cl : Cl) (hc : ClOk Try.prog cl) : FnOk Try.prog cl tt D F.status_Table_All (fn.status_Table_All u) := fn_ok mixed hc ttOk Try.func37 (by kernel_rfl) (by kernel_rfl) rfl (by kernel_rfl) (by kernel_rfl)
abbrev F.status_Table_Get : FuncId := 38
def P.status_Table_Get : Pl := []
noncomputable def fn.status_Table_Get (u : Nat → Nat) : Eng.Fn := ⟨23, Try.f38.body.getD .skip, Try.f38.results.toList, P.status_Table_Get, u⟩
theorem ok.status_Table_Get {D : Nat} (u : Nat → Nat) (cl : Cl) (hc : ClOk Try.prog cl) : FnOk Try.prog cl tt D F.status_Table_Get (fn.status_Table_Get u) := fn_ok mixed hc ttOk Try.func38 (by kernel_rfl) (by kernel_rfl) rfl (by kernel_rfl) (by kernel_rfl)
abbrev F.status_Table_Spread : FuncId := 39
def P.status_Table_Spread : Pl := [(3, (.op 0 (.op 1 (.op 2 (.op 3 (.op 5 (.op 6 (.op 7 (.op 8 (.ch 4 (.re 5 (.re 6 (.re 7 (.re 8 (.ch 9 (.op 10 (.op 11 .stop)) .nil))))) .nil))))))))))]
noncomputable def fn.status_Table_Spread (u : Nat → Nat) : Eng.Fn := ⟨20, Try.f39.body.getD .skip, Try.f39.results.toList, P.status_Table_Spread, u⟩
theorem ok.status_Table_Spread {D : Nat} (u : Nat → Nat) (cl : Cl) (hc : ClOk Try.prog cl) : FnOk Try.prog cl tt D F.status_Table_Spread (fn.status_Table_Spread u) := fn_ok mixed hc ttOk Try.func39 (by kernel_rfl) (by kernel_rfl) rfl (by kernel_rfl) (by kernel_rfl)
abbrev F.ref18_NewTable : FuncId := 40
def P.ref18_NewTable : Pl := []
noncomputable def fn.ref18_NewTable (u : Nat → Nat) : Eng.Fn := ⟨9, Try.f40.body.getD .skip, Try.f40.results.toList, P.ref18_NewTable, u⟩
theorem ok.ref18_NewTable {D : Nat} (u : Nat → Nat) (cl : Cl) (hc : ClOk Try.prog cl) : FnOk Try.prog cl tt D F.ref18_NewTable (fn.ref18_NewTable u) := fn_ok mixed hc ttOk Try.func40 (by kernel_rfl) (by kernel_rfl) rfl (by kernel_rfl) (by kernel_rfl)
abbrev F.status_Table_Copy : FuncId := 41
def P.status_Table_Copy : Pl := []
noncomputable def fn.status_Table_Copy (u : Nat → Nat) : Eng.Fn := ⟨7, Try.f41.body.getD .skip, Try.f41.results.toList, P.status_Table_Copy, u⟩
theorem ok.status_Table_Copy {D : Nat} (u : Nat → Nat) (cl : Cl) (hc : ClOk Try.prog cl) : FnOk Try.prog cl tt D F.status_Table_Copy (fn.status_Table_Copy u) := fn_ok mixed hc ttOk Try.func41 (by kernel_rfl) (by kernel_rfl) rfl (by kernel_rfl) (by kernel_rfl)
abbrev F.status_Table_Good : FuncId := 42
def P.status_Table_Good : Pl := []
noncomputable def fn.status_Table_Good (u : Nat → Nat) : Eng.Fn := ⟨7, Try.f42.body.getD .skip, Try.f42.results.toList, P.status_Table_Good, u⟩
theorem ok.status_Table_Good {D : Nat} (u : Nat → Nat) (cl : Cl) (hc : ClOk Try.prog cl) : FnOk Try.prog cl tt D F.status_Table_Good (fn.status_Table_Good u) := fn_ok mixed hc ttOk Try.func42 (by kernel_rfl) (by kernel_rfl) rfl (by kernel_rfl) (by kernel_rfl)
abbrev F.ref18_Table_Add : FuncId := 43
def P.ref18_Table_Add : Pl := [(1, (.op 0 (.op 1 (.op 2 (.op 3 (.op 4 (.op 5 (.op 6 (.op 7 (.op 8 (.op 9 (.op 10 (.op 11 (.op 12 (.op 13 (.op 14 (.op 15 (.op 16 (.ch 17 .stop .nil)))))))))))))))))))]
noncomputable def fn.ref18_Table_Add (u : Nat → Nat) : Eng.Fn := ⟨34, Try.f43.body.getD .skip, Try.f43.results.toList, P.ref18_Table_Add, u⟩
theorem ok.ref18_Table_Add {D : Nat} (u : Nat → Nat) (cl : Cl) (hc : ClOk Try.prog cl) : FnOk Try.prog cl tt D F.ref18_Table_Add (fn.ref18_Table_Add u) := fn_ok mixed hc ttOk Try.func43 (by kernel_rfl) (by kernel_rfl) rfl (by kernel_rfl) (by kernel_rfl)
abbrev F.ref18_Table_Spread : FuncId := 44
def P.ref18_Table_Spread : Pl := [(3, (.op 0 (.op 1 (.op 2 (.op 3 (.op 4 (.op 5 (.op 6 (.op 7 (.op 8 (.op 9 (.op 10 (.op 11 (.op 12 (.op 13 .stop))))))))))))))), (7, (.op 0 (.op 1 (.op 2 (.op 3 (.op 4 (.op 5 (.op 6 (.op 7 (.op 8 (.op 9 (.op 10 (.op 11 (.op 12 (.op 13 (.op 14 (.op 15 (.op 16 (.op 17 (.ch 18 (.re 9 (.re 10 (.re 11 (.re 12 (.re 13 (.re 14 (.re 15 (.re 16 (.re 17 (.ch 19 .stop .nil)))))))))) .nil))))))))))))))))))))]
noncomputable def fn.ref18_Table_Spread (u : Nat → Nat) : Eng.Fn := ⟨56, Try.f44.body.getD .skip, Try.f44.results.toList, P.ref18_Table_Spread, u⟩
theorem ok.ref18_Table_Spread {D : Nat} (u : Nat → Nat) (cl : Cl) (hc : ClOk Try.prog cl) : FnOk Try.prog cl tt D F.ref18_Table_Spread (fn.ref18_Table_Spread u) := fn_ok mixed hc ttOk Try.func44 (by kernel_rfl) (by kernel_rfl) rfl (by kernel_rfl) (by kernel_rfl)
abbrev F.ref18_Table_Get : FuncId := 45
def P.ref18_Table_Get : Pl := []
noncomputable def fn.ref18_Table_Get (u : Nat → Nat) : Eng.Fn := ⟨23, Try.f45.body.getD .skip, Try.f45.results.toList, P.ref18_Table_Get, u⟩
theorem ok.ref18_Table_Get {D : Nat} (u : Nat → Nat) (cl : Cl) (hc : ClOk Try.prog cl) : FnOk Try.prog cl tt D F.ref18_Table_Get (fn.ref18_Table_Get u) := fn_ok mixed hc ttOk Try.func45 (by kernel_rfl) (by kernel_rfl) rfl (by kernel_rfl) (by kernel_rfl)
abbrev F.status_Table_Clear : FuncId := 46
def P.status_Table_Clear : Pl := []
noncomputable def fn.status_Table_Clear (u : Nat → Nat) : Eng.Fn := ⟨6, Try.f46.body.getD .skip, Try.f46.results.toList, P.status_Table_Clear, u⟩
theorem ok.status_Table_Clear {D : Nat} (u : Nat → Nat) (cl : Cl) (hc : ClOk Try.prog cl) : FnOk Try.prog cl tt D F.status_Table_Clear (fn.status_Table_Clear u) := fn_ok mixed hc ttOk Try.func46 (by kernel_rfl) (by kernel_rfl) rfl (by kernel_rfl) (by kernel_rfl)
abbrev F.law20_known : FuncId := 47
def P.law20_known : Pl := []
noncomputable def fn.law20_known (u : Nat → Nat) : Eng.Fn := ⟨33, Try.f47.body.getD .skip, Try.f47.results.toList, P.law20_known, u⟩
theorem ok.law20_known {D : Nat} (u : Nat → Nat) (cl : Cl) (hc : ClOk Try.prog cl) : FnOk Try.prog cl tt D F.law20_known (fn.law20_known u) := fn_ok mixed hc ttOk Try.func47 (by kernel_rfl) (by kernel_rfl) rfl (by kernel_rfl) (by kernel_rfl)
abbrev F.level_Of : FuncId := 48
def P.level_Of : Pl := []
noncomputable def fn.level_Of (u : Nat → Nat) : Eng.Fn := ⟨23, Try.f48.body.getD .skip, Try.f48.results.toList, P.level_Of, u⟩
theorem ok.level_Of {D : Nat} (u : Nat → Nat) (cl : Cl) (hc : ClOk Try.prog cl) : FnOk Try.prog cl tt D F.level_Of (fn.level_Of u) := fn_ok mixed hc ttOk Try.func48 (by kernel_rfl) (by kernel_rfl) rfl (by kernel_rfl) (by kernel_rfl)
abbrev F.ref18_Level : FuncId := 49
def P.ref18_Level : Pl := []
noncomputable def fn.ref18_Level (u : Nat → Nat) : Eng.Fn := ⟨24, Try.f49.body.getD .skip, Try.f49.results.toList, P.ref18_Level, u⟩
theorem ok.ref18_Level {D : Nat} (u : Nat → Nat) (cl : Cl) (hc : ClOk Try.prog cl) : FnOk Try.prog cl tt D F.ref18_Level (fn.ref18_Level u) := fn_ok mixed hc ttOk Try.func49 (by kernel_rfl) (by kernel_rfl) rfl (by kernel_rfl) (by kernel_rfl)
abbrev F.level_May : FuncId := 50
def P.level_May : Pl := []
noncomputable def fn.level_May (u : Nat → Nat) : Eng.Fn := ⟨6, Try.f50.body.getD .skip, Try.f50.results.toList, P.level_May, u⟩
theorem ok.level_May {D : Nat} (u : Nat → Nat) (cl : Cl) (hc : ClOk Try.prog cl) : FnOk Try.prog cl tt D F.level_May (fn.level_May u) := fn_ok mixed hc ttOk Try.func50 (by kernel_rfl) (by kernel_rfl) rfl (by kernel_rfl) (by kernel_rfl)
abbrev F.level_Beats : FuncId := 51
def P.level_Beats : Pl := []
noncomputable def fn.level_Beats (u : Nat → Nat) : Eng.Fn := ⟨6, Try.f51.body.getD .skip, Try.f51.results.toList, P.level_Beats, u⟩
theorem ok.level_Beats {D : Nat} (u : Nat → Nat) (cl : Cl) (hc : ClOk Try.prog cl) : FnOk Try.prog cl tt D F.level_Beats (fn.level_Beats u) := fn_ok mixed hc ttOk Try.func51 (by kernel_rfl) (by kernel_rfl) rfl (by kernel_rfl) (by kernel_rfl)
abbrev F.law14_known : FuncId := 52
def P.law14_known : Pl := []
noncomputable def fn.law14_known (u : Nat → Nat) : Eng.Fn := ⟨78, Try.f52.body.getD .skip, Try.f52.results.toList, P.law14_known, u⟩
theorem ok.law14_known {D : Nat} (u : Nat → Nat) (cl : Cl) (hc : ClOk Try.prog cl) : FnOk Try.prog cl tt D F.law14_known (fn.law14_known u) := fn_ok mixed hc ttOk Try.func52 (by kernel_rfl) (by kernel_rfl) rfl (by kernel_rfl) (by kernel_rfl)
abbrev F.law14_few : FuncId := 53
def P.law14_few : Pl := []
noncomputable def fn.law14_few (u : Nat → Nat) : Eng.Fn := ⟨19, Try.f53.body.getD .skip, Try.f53.results.toList, P.law14_few, u⟩
theorem ok.law14_few {D : Nat} (u : Nat → Nat) (cl : Cl) (hc : ClOk Try.prog cl) : FnOk Try.prog cl tt D F.law14_few (fn.law14_few u) := fn_ok mixed hc ttOk Try.func53 (by kernel_rfl) (by kernel_rfl) rfl (by kernel_rfl) (by kernel_rfl)
abbrev F.check_Check : FuncId := 54
def P.check_Check : Pl := [(3, (.op 0 (.op 1 (.op 2 (.ch 3 (.re 0 (.re 1 (.op 4 (.op 5 .stop)))) .nil)))))]
noncomputable def fn.check_Check (u : Nat → Nat) : Eng.Fn := ⟨35, Try.f54.body.getD .skip, Try.f54.results.toList, P.check_Check, u⟩
theorem ok.check_Check {D : Nat} (u : Nat → Nat) (cl : Cl) (hc : ClOk Try.prog cl) : FnOk Try.prog cl tt D F.check_Check (fn.check_Check u) := fn_ok mixed hc ttOk Try.func54 (by kernel_rfl) (by kernel_rfl) rfl (by kernel_rfl) (by kernel_rfl)
abbrev F.ref12_Check : FuncId := 55
def P.ref12_Check : Pl := [(3, (.op 0 (.op 1 (.op 2 (.ch 3 (.re 0 (.re 1 (.op 4 .stop))) .nil))))), (8, (.op 0 (.op 1 (.op 2 (.op 3 (.op 4 (.op 5 (.op 6 (.op 7 .stop))))))))), (13, (.op 0 (.op 1 (.op 2 (.op 3 (.op 4 (.op 5 (.op 6 (.op 7 (.op 8 .stop))))))))))]
noncomputable def fn.ref12_Check (u : Nat → Nat) : Eng.Fn := ⟨74, Try.f55.body.getD .skip, Try.f55.results.toList, P.ref12_Check, u⟩
theorem ok.ref12_Check {D : Nat} (u : Nat → Nat) (cl : Cl) (hc : ClOk Try.prog cl) : FnOk Try.prog cl tt D F.ref12_Check (fn.ref12_Check u) := fn_ok mixed hc ttOk Try.func55 (by kernel_rfl) (by kernel_rfl) rfl (by kernel_rfl) (by kernel_rfl)
abbrev F.check_Meet : FuncId := 56
def P.check_Meet : Pl := []
noncomputable def fn.check_Meet (u : Nat → Nat) : Eng.Fn := ⟨66, Try.f56.body.getD .skip, Try.f56.results.toList, P.check_Meet, u⟩
theorem ok.check_Meet {D : Nat} (u : Nat → Nat) (cl : Cl) (hc : ClOk Try.prog cl) : FnOk Try.prog cl tt D F.check_Meet (fn.check_Meet u) := fn_ok mixed hc ttOk Try.func56 (by kernel_rfl) (by kernel_rfl) rfl (by kernel_rfl) (by kernel_rfl)
abbrev F.ref12_Meet : FuncId := 57
def P.ref12_Meet : Pl := [(3, (.op 0 (.op 1 (.op 2 (.op 3 (.op 4 (.op 5 (.op 6 (.op 7 (.op 8 (.op 9 (.ch 10 (.re 0 (.re 1 (.re 2 (.re 3 (.re 4 (.re 5 (.re 6 (.re 7 (.re 8 (.re 9 (.ch 11 (.re 0 (.re 1 (.re 2 (.re 3 (.re 4 (.re 5 (.re 6 (.re 7 (.re 8 (.re 9 (.ch 12 (.re 5 (.re 6 (.re 7 (.re 8 (.re 9 (.ch 13 .stop .nil)))))) .nil))))))))))) .nil))))))))))) (.ch 11 (.re 0 (.re 1 (.re 2 (.re 3 (.re 4 (.re 5 (.re 6 (.re 7 (.re 8 (.re 9 (.ch 10 (.re 0 (.re 1 (.re 2 (.re 3 (.re 4 (.re 5 (.re 6 (.re 7 (.re 8 (.re 9 (.ch 12 (.re 5 (.re 6 (.re 7 (.re 8 (.re 9 (.ch 13 .stop .nil)))))) .nil))))))))))) .nil))))))))))) .nil)))))))))))))]
noncomputable def fn.ref12_Meet (u : Nat → Nat) : Eng.Fn := ⟨72, Try.f57.body.getD .skip, Try.f57.results.toList, P.ref12_Meet, u⟩
theorem ok.ref12_Meet {D : Nat} (u : Nat → Nat) (cl : Cl) (hc : ClOk Try.prog cl) : FnOk Try.prog cl tt D F.ref12_Meet (fn.ref12_Meet u) := fn_ok mixed hc ttOk Try.func57 (by kernel_rfl) (by kernel_rfl) rfl (by kernel_rfl) (by kernel_rfl)
abbrev F.check_Units : FuncId := 58
def P.check_Units : Pl := []
noncomputable def fn.check_Units (u : Nat → Nat) : Eng.Fn := ⟨26, Try.f58.body.getD .skip, Try.f58.results.toList, P.check_Units, u⟩
theorem ok.check_Units {D : Nat} (u : Nat → Nat) (cl : Cl) (hc : ClOk Try.prog cl) : FnOk Try.prog cl tt D F.check_Units (fn.check_Units u) := fn_ok mixed hc ttOk Try.func58 (by kernel_rfl) (by kernel_rfl) rfl (by kernel_rfl) (by kernel_rfl)
abbrev F.ref12_Units : FuncId := 59
def P.ref12_Units : Pl := []
noncomputable def fn.ref12_Units (u : Nat → Nat) : Eng.Fn := ⟨26, Try.f59.body.getD .skip, Try.f59.results.toList, P.ref12_Units, u⟩
theorem ok.ref12_Units {D : Nat} (u : Nat → Nat) (cl : Cl) (hc : ClOk Try.prog cl) : FnOk Try.prog cl tt D F.ref12_Units (fn.ref12_Units u) := fn_ok mixed hc ttOk Try.func59 (by kernel_rfl) (by kernel_rfl) rfl (by kernel_rfl) (by kernel_rfl)
abbrev F.check_Step : FuncId := 60
def P.check_Step : Pl := [(3, (.op 0 (.op 2 (.op 3 (.ch 1 (.re 2 (.re 3 (.op 4 (.op 5 .stop)))) .nil)))))]
noncomputable def fn.check_Step (u : Nat → Nat) : Eng.Fn := ⟨11, Try.f60.body.getD .skip, Try.f60.results.toList, P.check_Step, u⟩
theorem ok.check_Step {D : Nat} (u : Nat → Nat) (cl : Cl) (hc : ClOk Try.prog cl) : FnOk Try.prog cl tt D F.check_Step (fn.check_Step u) := fn_ok mixed hc ttOk Try.func60 (by kernel_rfl) (by kernel_rfl) rfl (by kernel_rfl) (by kernel_rfl)
abbrev F.ref12_Step : FuncId := 61
def P.ref12_Step : Pl := [(3, (.op 0 (.op 2 (.op 3 (.ch 1 (.re 2 (.re 3 (.op 4 (.op 5 .stop)))) .nil)))))]
noncomputable def fn.ref12_Step (u : Nat → Nat) : Eng.Fn := ⟨11, Try.f61.body.getD .skip, Try.f61.results.toList, P.ref12_Step, u⟩
theorem ok.ref12_Step {D : Nat} (u : Nat → Nat) (cl : Cl) (hc : ClOk Try.prog cl) : FnOk Try.prog cl tt D F.ref12_Step (fn.ref12_Step u) := fn_ok mixed hc ttOk Try.func61 (by kernel_rfl) (by kernel_rfl) rfl (by kernel_rfl) (by kernel_rfl)
abbrev F.law14_least : FuncId := 62
def P.law14_least : Pl := []
noncomputable def fn.law14_least (u : Nat → Nat) : Eng.Fn := ⟨5, Try.f62.body.getD .skip, Try.f62.results.toList, P.law14_least, u⟩
theorem ok.law14_least {D : Nat} (u : Nat → Nat) (cl : Cl) (hc : ClOk Try.prog cl) : FnOk Try.prog cl tt D F.law14_least (fn.law14_least u) := fn_ok mixed hc ttOk Try.func62 (by kernel_rfl) (by kernel_rfl) rfl (by kernel_rfl) (by kernel_rfl)
abbrev F.law16_known : FuncId := 63
def P.law16_known : Pl := []
noncomputable def fn.law16_known (u : Nat → Nat) : Eng.Fn := ⟨44, Try.f63.body.getD .skip, Try.f63.results.toList, P.law16_known, u⟩
theorem ok.law16_known {D : Nat} (u : Nat → Nat) (cl : Cl) (hc : ClOk Try.prog cl) : FnOk Try.prog cl tt D F.law16_known (fn.law16_known u) := fn_ok mixed hc ttOk Try.func63 (by kernel_rfl) (by kernel_rfl) rfl (by kernel_rfl) (by kernel_rfl)
abbrev F.law16_few : FuncId := 64
def P.law16_few : Pl := []
noncomputable def fn.law16_few (u : Nat → Nat) : Eng.Fn := ⟨19, Try.f64.body.getD .skip, Try.f64.results.toList, P.law16_few, u⟩
theorem ok.law16_few {D : Nat} (u : Nat → Nat) (cl : Cl) (hc : ClOk Try.prog cl) : FnOk Try.prog cl tt D F.law16_few (fn.law16_few u) := fn_ok mixed hc ttOk Try.func64 (by kernel_rfl) (by kernel_rfl) rfl (by kernel_rfl) (by kernel_rfl)
abbrev F.ref12_At : FuncId := 65
def P.ref12_At : Pl := []
noncomputable def fn.ref12_At (u : Nat → Nat) : Eng.Fn := ⟨49, Try.f65.body.getD .skip, Try.f65.results.toList, P.ref12_At, u⟩
theorem ok.ref12_At {D : Nat} (u : Nat → Nat) (cl : Cl) (hc : ClOk Try.prog cl) : FnOk Try.prog cl tt D F.ref12_At (fn.ref12_At u) := fn_ok mixed hc ttOk Try.func65 (by kernel_rfl) (by kernel_rfl) rfl (by kernel_rfl) (by kernel_rfl)
abbrev F.window_At : FuncId := 66
def P.window_At : Pl := []
noncomputable def fn.window_At (u : Nat → Nat) : Eng.Fn := ⟨14, Try.f66.body.getD .skip, Try.f66.results.toList, P.window_At, u⟩
theorem ok.window_At {D : Nat} (u : Nat → Nat) (cl : Cl) (hc : ClOk Try.prog cl) : FnOk Try.prog cl tt D F.window_At (fn.window_At u) := fn_ok mixed hc ttOk Try.func66 (by kernel_rfl) (by kernel_rfl) rfl (by kernel_rfl) (by kernel_rfl)
abbrev F.window_Owner : FuncId := 67
def P.window_Owner : Pl := [(4, (.op 0 (.op 1 (.op 2 (.op 3 (.op 4 (.op 5 (.op 6 (.op 7 (.op 8 (.op 9 (.op 10 (.op 11 .stop)))))))))))))]
noncomputable def fn.window_Owner (u : Nat → Nat) : Eng.Fn := ⟨34, Try.f67.body.getD .skip, Try.f67.results.toList, P.window_Owner, u⟩
theorem ok.window_Owner {D : Nat} (u : Nat → Nat) (cl : Cl) (hc : ClOk Try.prog cl) : FnOk Try.prog cl tt D F.window_Owner (fn.window_Owner u) := fn_ok mixed hc ttOk Try.func67 (by kernel_rfl) (by kernel_rfl) rfl (by kernel_rfl) (by kernel_rfl)
abbrev F.window_Kinds : FuncId := 68
def P.window_Kinds : Pl := []
noncomputable def fn.window_Kinds (u : Nat → Nat) : Eng.Fn := ⟨40, Try.f68.body.getD .skip, Try.f68.results.toList, P.window_Kinds, u⟩
theorem ok.window_Kinds {D : Nat} (u : Nat → Nat) (cl : Cl) (hc : ClOk Try.prog cl) : FnOk Try.prog cl tt D F.window_Kinds (fn.window_Kinds u) := fn_ok mixed hc ttOk Try.func68 (by kernel_rfl) (by kernel_rfl) rfl (by kernel_rfl) (by kernel_rfl)
abbrev F.window_Free : FuncId := 69
def P.window_Free : Pl := []
noncomputable def fn.window_Free (u : Nat → Nat) : Eng.Fn := ⟨24, Try.f69.body.getD .skip, Try.f69.results.toList, P.window_Free, u⟩
theorem ok.window_Free {D : Nat} (u : Nat → Nat) (cl : Cl) (hc : ClOk Try.prog cl) : FnOk Try.prog cl tt D F.window_Free (fn.window_Free u) := fn_ok mixed hc ttOk Try.func69 (by kernel_rfl) (by kernel_rfl) rfl (by kernel_rfl) (by kernel_rfl)
abbrev F.law16_least : FuncId := 70
def P.law16_least : Pl := []
noncomputable def fn.law16_least (u : Nat → Nat) : Eng.Fn := ⟨7, Try.f70.body.getD .skip, Try.f70.results.toList, P.law16_least, u⟩
theorem ok.law16_least {D : Nat} (u : Nat → Nat) (cl : Cl) (hc : ClOk Try.prog cl) : FnOk Try.prog cl tt D F.law16_least (fn.law16_least u) := fn_ok mixed hc ttOk Try.func70 (by kernel_rfl) (by kernel_rfl) rfl (by kernel_rfl) (by kernel_rfl)
abbrev F.ref12_Is : FuncId := 71
def P.ref12_Is : Pl := []
noncomputable def fn.ref12_Is (u : Nat → Nat) : Eng.Fn := ⟨185, Try.f71.body.getD .skip, Try.f71.results.toList, P.ref12_Is, u⟩
theorem ok.ref12_Is {D : Nat} (u : Nat → Nat) (cl : Cl) (hc : ClOk Try.prog cl) : FnOk Try.prog cl tt D F.ref12_Is (fn.ref12_Is u) := fn_ok mixed hc ttOk Try.func71 (by kernel_rfl) (by kernel_rfl) rfl (by kernel_rfl) (by kernel_rfl)
abbrev F.law27_known : FuncId := 72
def P.law27_known : Pl := []
noncomputable def fn.law27_known (u : Nat → Nat) : Eng.Fn := ⟨41, Try.f72.body.getD .skip, Try.f72.results.toList, P.law27_known, u⟩
theorem ok.law27_known {D : Nat} (u : Nat → Nat) (cl : Cl) (hc : ClOk Try.prog cl) : FnOk Try.prog cl tt D F.law27_known (fn.law27_known u) := fn_ok mixed hc ttOk Try.func72 (by kernel_rfl) (by kernel_rfl) rfl (by kernel_rfl) (by kernel_rfl)
abbrev F.law27_few : FuncId := 73
def P.law27_few : Pl := []
noncomputable def fn.law27_few (u : Nat → Nat) : Eng.Fn := ⟨19, Try.f73.body.getD .skip, Try.f73.results.toList, P.law27_few, u⟩
theorem ok.law27_few {D : Nat} (u : Nat → Nat) (cl : Cl) (hc : ClOk Try.prog cl) : FnOk Try.prog cl tt D F.law27_few (fn.law27_few u) := fn_ok mixed hc ttOk Try.func73 (by kernel_rfl) (by kernel_rfl) rfl (by kernel_rfl) (by kernel_rfl)
abbrev F.bound_Bits : FuncId := 74
def P.bound_Bits : Pl := []
noncomputable def fn.bound_Bits (u : Nat → Nat) : Eng.Fn := ⟨19, Try.f74.body.getD .skip, Try.f74.results.toList, P.bound_Bits, u⟩
theorem ok.bound_Bits {D : Nat} (u : Nat → Nat) (cl : Cl) (hc : ClOk Try.prog cl) : FnOk Try.prog cl tt D F.bound_Bits (fn.bound_Bits u) := fn_ok mixed hc ttOk Try.func74 (by kernel_rfl) (by kernel_rfl) rfl (by kernel_rfl) (by kernel_rfl)
abbrev F.bound_Cycle : FuncId := 75
def P.bound_Cycle : Pl := []
noncomputable def fn.bound_Cycle (u : Nat → Nat) : Eng.Fn := ⟨7, Try.f75.body.getD .skip, Try.f75.results.toList, P.bound_Cycle, u⟩
theorem ok.bound_Cycle {D : Nat} (u : Nat → Nat) (cl : Cl) (hc : ClOk Try.prog cl) : FnOk Try.prog cl tt D F.bound_Cycle (fn.bound_Cycle u) := fn_ok mixed hc ttOk Try.func75 (by kernel_rfl) (by kernel_rfl) rfl (by kernel_rfl) (by kernel_rfl)
abbrev F.bound_Again : FuncId := 76
def P.bound_Again : Pl := [(3, (.op 0 (.op 1 (.op 3 (.op 4 (.op 6 (.op 7 (.op 8 (.op 9 (.op 10 (.ch 2 (.re 0 (.re 3 (.re 4 (.re 6 (.re 7 (.re 8 (.re 9 (.re 10 (.op 5 (.ch 11 (.re 0 (.re 3 (.re 4 (.re 6 (.re 7 (.re 8 (.re 9 (.re 5 (.op 12 (.op 13 (.ch 14 (.op 15 (.op 16 .stop)) .nil))))))))))) .nil)))))))))) .nil)))))))))))]
noncomputable def fn.bound_Again (u : Nat → Nat) : Eng.Fn := ⟨22, Try.f76.body.getD .skip, Try.f76.results.toList, P.bound_Again, u⟩
theorem ok.bound_Again {D : Nat} (u : Nat → Nat) (cl : Cl) (hc : ClOk Try.prog cl) : FnOk Try.prog cl tt D F.bound_Again (fn.bound_Again u) := fn_ok mixed hc ttOk Try.func76 (by kernel_rfl) (by kernel_rfl) rfl (by kernel_rfl) (by kernel_rfl)
abbrev F.bound_Windows : FuncId := 77
def P.bound_Windows : Pl := []
noncomputable def fn.bound_Windows (u : Nat → Nat) : Eng.Fn := ⟨10, Try.f77.body.getD .skip, Try.f77.results.toList, P.bound_Windows, u⟩
theorem ok.bound_Windows {D : Nat} (u : Nat → Nat) (cl : Cl) (hc : ClOk Try.prog cl) : FnOk Try.prog cl tt D F.bound_Windows (fn.bound_Windows u) := fn_ok mixed hc ttOk Try.func77 (by kernel_rfl) (by kernel_rfl) rfl (by kernel_rfl) (by kernel_rfl)
abbrev F.bound_Sends : FuncId := 78
def P.bound_Sends : Pl := []
noncomputable def fn.bound_Sends (u : Nat → Nat) : Eng.Fn := ⟨10, Try.f78.body.getD .skip, Try.f78.results.toList, P.bound_Sends, u⟩
theorem ok.bound_Sends {D : Nat} (u : Nat → Nat) (cl : Cl) (hc : ClOk Try.prog cl) : FnOk Try.prog cl tt D F.bound_Sends (fn.bound_Sends u) := fn_ok mixed hc ttOk Try.func78 (by kernel_rfl) (by kernel_rfl) rfl (by kernel_rfl) (by kernel_rfl)
abbrev F.bound_Busy : FuncId := 79
def P.bound_Busy : Pl := []
noncomputable def fn.bound_Busy (u : Nat → Nat) : Eng.Fn := ⟨8, Try.f79.body.getD .skip, Try.f79.results.toList, P.bound_Busy, u⟩
theorem ok.bound_Busy {D : Nat} (u : Nat → Nat) (cl : Cl) (hc : ClOk Try.prog cl) : FnOk Try.prog cl tt D F.bound_Busy (fn.bound_Busy u) := fn_ok mixed hc ttOk Try.func79 (by kernel_rfl) (by kernel_rfl) rfl (by kernel_rfl) (by kernel_rfl)
abbrev F.ref12_Comes : FuncId := 80
def P.ref12_Comes : Pl := []
noncomputable def fn.ref12_Comes (u : Nat → Nat) : Eng.Fn := ⟨26, Try.f80.body.getD .skip, Try.f80.results.toList, P.ref12_Comes, u⟩
theorem ok.ref12_Comes {D : Nat} (u : Nat → Nat) (cl : Cl) (hc : ClOk Try.prog cl) : FnOk Try.prog cl tt D F.ref12_Comes (fn.ref12_Comes u) := fn_ok mixed hc ttOk Try.func80 (by kernel_rfl) (by kernel_rfl) rfl (by kernel_rfl) (by kernel_rfl)
abbrev F.law27_bits : FuncId := 81
def P.law27_bits : Pl := []
noncomputable def fn.law27_bits (u : Nat → Nat) : Eng.Fn := ⟨21, Try.f81.body.getD .skip, Try.f81.results.toList, P.law27_bits, u⟩
theorem ok.law27_bits {D : Nat} (u : Nat → Nat) (cl : Cl) (hc : ClOk Try.prog cl) : FnOk Try.prog cl tt D F.law27_bits (fn.law27_bits u) := fn_ok mixed hc ttOk Try.func81 (by kernel_rfl) (by kernel_rfl) rfl (by kernel_rfl) (by kernel_rfl)
abbrev F.ref12_Watch : FuncId := 82
def P.ref12_Watch : Pl := [(3, (.op 0 (.op 1 (.op 2 (.op 3 (.op 4 (.op 5 (.op 6 (.ch 7 (.re 0 (.re 1 (.re 2 (.re 3 (.re 4 (.re 5 (.op 8 (.op 9 (.op 10 .stop))))))))) .nil)))))))))]
noncomputable def fn.ref12_Watch (u : Nat → Nat) : Eng.Fn := ⟨16, Try.f82.body.getD .skip, Try.f82.results.toList, P.ref12_Watch, u⟩
theorem ok.ref12_Watch {D : Nat} (u : Nat → Nat) (cl : Cl) (hc : ClOk Try.prog cl) : FnOk Try.prog cl tt D F.ref12_Watch (fn.ref12_Watch u) := fn_ok mixed hc ttOk Try.func82 (by kernel_rfl) (by kernel_rfl) rfl (by kernel_rfl) (by kernel_rfl)
abbrev F.law27_least : FuncId := 83
def P.law27_least : Pl := []
noncomputable def fn.law27_least (u : Nat → Nat) : Eng.Fn := ⟨8, Try.f83.body.getD .skip, Try.f83.results.toList, P.law27_least, u⟩
theorem ok.law27_least {D : Nat} (u : Nat → Nat) (cl : Cl) (hc : ClOk Try.prog cl) : FnOk Try.prog cl tt D F.law27_least (fn.law27_least u) := fn_ok mixed hc ttOk Try.func83 (by kernel_rfl) (by kernel_rfl) rfl (by kernel_rfl) (by kernel_rfl)
abbrev F.law15_known : FuncId := 84
def P.law15_known : Pl := [(2, (.op 0 (.op 2 (.ch 1 (.re 2 (.ch 3 (.op 4 (.op 5 .stop)) .nil)) .nil))))]
noncomputable def fn.law15_known (u : Nat → Nat) : Eng.Fn := ⟨71, Try.f84.body.getD .skip, Try.f84.results.toList, P.law15_known, u⟩
theorem ok.law15_known {D : Nat} (u : Nat → Nat) (cl : Cl) (hc : ClOk Try.prog cl) : FnOk Try.prog cl tt D F.law15_known (fn.law15_known u) := fn_ok mixed hc ttOk Try.func84 (by kernel_rfl) (by kernel_rfl) rfl (by kernel_rfl) (by kernel_rfl)
abbrev F.law15_few : FuncId := 85
def P.law15_few : Pl := []
noncomputable def fn.law15_few (u : Nat → Nat) : Eng.Fn := ⟨19, Try.f85.body.getD .skip, Try.f85.results.toList, P.law15_few, u⟩
theorem ok.law15_few {D : Nat} (u : Nat → Nat) (cl : Cl) (hc : ClOk Try.prog cl) : FnOk Try.prog cl tt D F.law15_few (fn.law15_few u) := fn_ok mixed hc ttOk Try.func85 (by kernel_rfl) (by kernel_rfl) rfl (by kernel_rfl) (by kernel_rfl)
abbrev F.law15_same : FuncId := 86
def P.law15_same : Pl := [(6, (.op 0 (.op 1 (.op 2 (.op 3 (.op 4 (.op 5 (.op 6 (.op 7 (.op 8 .stop))))))))))]
noncomputable def fn.law15_same (u : Nat → Nat) : Eng.Fn := ⟨26, Try.f86.body.getD .skip, Try.f86.results.toList, P.law15_same, u⟩
theorem ok.law15_same {D : Nat} (u : Nat → Nat) (cl : Cl) (hc : ClOk Try.prog cl) : FnOk Try.prog cl tt D F.law15_same (fn.law15_same u) := fn_ok mixed hc ttOk Try.func86 (by kernel_rfl) (by kernel_rfl) rfl (by kernel_rfl) (by kernel_rfl)
abbrev F.plan_Plan : FuncId := 87
def P.plan_Plan : Pl := [(9, (.op 0 (.op 1 (.op 2 (.op 3 (.ch 4 (.re 0 (.ch 5 (.re 0 (.ch 6 (.ch 7 .stop .nil) .nil)) .nil)) .nil))))))]
noncomputable def fn.plan_Plan (u : Nat → Nat) : Eng.Fn := ⟨59, Try.f87.body.getD .skip, Try.f87.results.toList, P.plan_Plan, u⟩
theorem ok.plan_Plan {D : Nat} (u : Nat → Nat) (cl : Cl) (hc : ClOk Try.prog cl) : FnOk Try.prog cl tt D F.plan_Plan (fn.plan_Plan u) := fn_ok mixed hc ttOk Try.func87 (by kernel_rfl) (by kernel_rfl) rfl (by kernel_rfl) (by kernel_rfl)
abbrev F.ref12_Plan : FuncId := 88
def P.ref12_Plan : Pl := [(11, (.op 0 (.op 1 (.op 2 (.op 3 (.op 4 (.op 5 (.op 6 (.op 7 (.ch 8 (.re 0 (.re 1 (.re 2 (.re 3 (.re 4 (.re 5 (.re 6 (.op 9 (.ch 10 (.re 2 (.re 3 (.re 4 (.re 5 (.re 6 (.op 11 (.ch 12 .stop .nil))))))) .nil))))))))) .nil)))))))))), (13, (.op 0 (.op 1 (.op 2 (.op 3 (.ch 4 (.re 0 (.re 1 (.re 2 (.op 5 (.ch 6 .stop .nil))))) .nil)))))), (15, (.op 0 (.op 1 (.op 2 (.op 3 (.op 4 (.op 7 (.ch 5 (.re 0 (.re 1 (.re 2 (.re 3 (.re 7 (.op 6 (.ch 8 (.re 0 (.re 1 (.re 2 (.re 3 (.re 6 (.op 9 (.ch 10 (.re 2 (.re 3 (.re 6 (.op 11 (.ch 12 .stop .nil))))) .nil))))))) .nil))))))) .nil))))))))]
noncomputable def fn.ref12_Plan (u : Nat → Nat) : Eng.Fn := ⟨110, Try.f88.body.getD .skip, Try.f88.results.toList, P.ref12_Plan, u⟩
theorem ok.ref12_Plan {D : Nat} (u : Nat → Nat) (cl : Cl) (hc : ClOk Try.prog cl) : FnOk Try.prog cl tt D F.ref12_Plan (fn.ref12_Plan u) := fn_ok mixed hc ttOk Try.func88 (by kernel_rfl) (by kernel_rfl) rfl (by kernel_rfl) (by kernel_rfl)
abbrev F.plan_Beat : FuncId := 89
def P.plan_Beat : Pl := [(5, (.op 0 (.op 1 (.op 2 (.op 3 (.op 4 (.ch 5 (.re 0 (.re 1 (.re 2 (.re 3 (.op 6 (.op 7 (.op 8 .stop))))))) .nil)))))))]
noncomputable def fn.plan_Beat (u : Nat → Nat) : Eng.Fn := ⟨26, Try.f89.body.getD .skip, Try.f89.results.toList, P.plan_Beat, u⟩
theorem ok.plan_Beat {D : Nat} (u : Nat → Nat) (cl : Cl) (hc : ClOk Try.prog cl) : FnOk Try.prog cl tt D F.plan_Beat (fn.plan_Beat u) := fn_ok mixed hc ttOk Try.func89 (by kernel_rfl) (by kernel_rfl) rfl (by kernel_rfl) (by kernel_rfl)
abbrev F.ref12_Beat : FuncId := 90
def P.ref12_Beat : Pl := [(5, (.op 0 (.op 1 (.op 2 (.op 3 (.op 4 (.ch 5 (.re 0 (.re 1 (.re 2 (.re 3 (.op 6 (.op 7 (.op 8 .stop))))))) .nil)))))))]
noncomputable def fn.ref12_Beat (u : Nat → Nat) : Eng.Fn := ⟨24, Try.f90.body.getD .skip, Try.f90.results.toList, P.ref12_Beat, u⟩
theorem ok.ref12_Beat {D : Nat} (u : Nat → Nat) (cl : Cl) (hc : ClOk Try.prog cl) : FnOk Try.prog cl tt D F.ref12_Beat (fn.ref12_Beat u) := fn_ok mixed hc ttOk Try.func90 (by kernel_rfl) (by kernel_rfl) rfl (by kernel_rfl) (by kernel_rfl)
abbrev F.plan_Watch : FuncId := 91
def P.plan_Watch : Pl := [(3, (.op 0 (.op 1 (.op 2 (.op 3 (.op 4 (.op 5 (.op 6 (.ch 7 (.re 0 (.re 1 (.re 2 (.re 3 (.re 4 (.re 5 (.op 8 (.op 9 (.op 10 .stop))))))))) .nil)))))))))]
noncomputable def fn.plan_Watch (u : Nat → Nat) : Eng.Fn := ⟨16, Try.f91.body.getD .skip, Try.f91.results.toList, P.plan_Watch, u⟩
theorem ok.plan_Watch {D : Nat} (u : Nat → Nat) (cl : Cl) (hc : ClOk Try.prog cl) : FnOk Try.prog cl tt D F.plan_Watch (fn.plan_Watch u) := fn_ok mixed hc ttOk Try.func91 (by kernel_rfl) (by kernel_rfl) rfl (by kernel_rfl) (by kernel_rfl)
abbrev F.plan_Due : FuncId := 92
def P.plan_Due : Pl := [(7, (.op 0 (.op 1 (.op 2 (.op 3 (.op 4 (.ch 5 (.re 0 (.re 1 (.re 2 (.re 3 (.ch 6 (.re 0 (.op 7 (.ch 8 .stop .nil))) .nil))))) .nil)))))))]
noncomputable def fn.plan_Due (u : Nat → Nat) : Eng.Fn := ⟨52, Try.f92.body.getD .skip, Try.f92.results.toList, P.plan_Due, u⟩
theorem ok.plan_Due {D : Nat} (u : Nat → Nat) (cl : Cl) (hc : ClOk Try.prog cl) : FnOk Try.prog cl tt D F.plan_Due (fn.plan_Due u) := fn_ok mixed hc ttOk Try.func92 (by kernel_rfl) (by kernel_rfl) rfl (by kernel_rfl) (by kernel_rfl)
abbrev F.ref12_Due : FuncId := 93
def P.ref12_Due : Pl := [(5, (.op 0 (.op 1 (.op 2 (.op 3 (.op 4 (.op 5 (.op 6 (.op 7 (.op 8 (.op 9 (.op 10 (.op 11 (.op 12 (.op 13 (.op 14 (.op 15 (.op 16 (.op 17 (.op 18 (.op 19 (.op 20 (.op 21 (.op 22 (.op 23 (.op 24 (.op 25 (.op 26 (.op 27 (.ch 28 (.op 29 .stop) .nil))))))))))))))))))))))))))))))]
noncomputable def fn.ref12_Due (u : Nat → Nat) : Eng.Fn := ⟨55, Try.f93.body.getD .skip, Try.f93.results.toList, P.ref12_Due, u⟩
theorem ok.ref12_Due {D : Nat} (u : Nat → Nat) (cl : Cl) (hc : ClOk Try.prog cl) : FnOk Try.prog cl tt D F.ref12_Due (fn.ref12_Due u) := fn_ok mixed hc ttOk Try.func93 (by kernel_rfl) (by kernel_rfl) rfl (by kernel_rfl) (by kernel_rfl)
abbrev F.law23_known : FuncId := 94
def P.law23_known : Pl := [(11, (.op 0 (.op 1 (.op 2 (.op 3 (.op 4 (.op 5 (.op 6 (.op 7 (.op 8 (.op 9 (.op 10 (.op 11 (.op 12 (.op 13 (.op 14 (.op 15 (.op 16 (.op 17 (.op 18 (.op 19 (.op 20 (.op 21 (.op 22 (.op 23 (.op 24 (.op 25 (.op 26 (.op 27 (.op 28 (.op 29 (.op 30 (.op 31 (.op 32 (.op 33 (.op 34 (.op 35 (.op 36 (.op 37 (.ch 38 (.op 39 (.op 40 (.op 41 (.op 42 (.op 43 (.ch 44 (.op 45 (.op 46 (.op 47 (.op 48 .stop)))) .nil)))))) .nil))))))))))))))))))))))))))))))))))))))))]
noncomputable def fn.law23_known (u : Nat → Nat) : Eng.Fn := ⟨84, Try.f94.body.getD .skip, Try.f94.results.toList, P.law23_known, u⟩
theorem ok.law23_known {D : Nat} (u : Nat → Nat) (cl : Cl) (hc : ClOk Try.prog cl) : FnOk Try.prog cl tt D F.law23_known (fn.law23_known u) := fn_ok mixed hc ttOk Try.func94 (by kernel_rfl) (by kernel_rfl) rfl (by kernel_rfl) (by kernel_rfl)
abbrev F.law23_few : FuncId := 95
def P.law23_few : Pl := []
noncomputable def fn.law23_few (u : Nat → Nat) : Eng.Fn := ⟨19, Try.f95.body.getD .skip, Try.f95.results.toList, P.law23_few, u⟩
theorem ok.law23_few {D : Nat} (u : Nat → Nat) (cl : Cl) (hc : ClOk Try.prog cl) : FnOk Try.prog cl tt D F.law23_few (fn.law23_few u) := fn_ok mixed hc ttOk Try.func95 (by kernel_rfl) (by kernel_rfl) rfl (by kernel_rfl) (by kernel_rfl)
abbrev F.sched_New : FuncId := 96
def P.sched_New : Pl := []
noncomputable def fn.sched_New (u : Nat → Nat) : Eng.Fn := ⟨10, Try.f96.body.getD .skip, Try.f96.results.toList, P.sched_New, u⟩
theorem ok.sched_New {D : Nat} (u : Nat → Nat) (cl : Cl) (hc : ClOk Try.prog cl) : FnOk Try.prog cl tt D F.sched_New (fn.sched_New u) := fn_ok mixed hc ttOk Try.func96 (by kernel_rfl) (by kernel_rfl) rfl (by kernel_rfl) (by kernel_rfl)
abbrev F.sched_Sched_Begin : FuncId := 97
def P.sched_Sched_Begin : Pl := []
noncomputable def fn.sched_Sched_Begin (u : Nat → Nat) : Eng.Fn := ⟨13, Try.f97.body.getD .skip, Try.f97.results.toList, P.sched_Sched_Begin, u⟩
theorem ok.sched_Sched_Begin {D : Nat} (u : Nat → Nat) (cl : Cl) (hc : ClOk Try.prog cl) : FnOk Try.prog cl tt D F.sched_Sched_Begin (fn.sched_Sched_Begin u) := fn_ok mixed hc ttOk Try.func97 (by kernel_rfl) (by kernel_rfl) rfl (by kernel_rfl) (by kernel_rfl)
abbrev F.sched_Sched_Now : FuncId := 98
def P.sched_Sched_Now : Pl := [(3, (.op 0 (.op 1 (.op 2 (.op 3 (.op 4 (.op 5 (.op 6 (.op 7 (.op 8 (.op 9 (.op 10 (.op 11 (.op 12 (.ch 13 (.op 14 .stop) .nil)))))))))))))))]
noncomputable def fn.sched_Sched_Now (u : Nat → Nat) : Eng.Fn := ⟨55, Try.f98.body.getD .skip, Try.f98.results.toList, P.sched_Sched_Now, u⟩
theorem ok.sched_Sched_Now {D : Nat} (u : Nat → Nat) (cl : Cl) (hc : ClOk Try.prog cl) : FnOk Try.prog cl tt D F.sched_Sched_Now (fn.sched_Sched_Now u) := fn_ok mixed hc ttOk Try.func98 (by kernel_rfl) (by kernel_rfl) rfl (by kernel_rfl) (by kernel_rfl)
abbrev F.sched_Sched_Open : FuncId := 99
def P.sched_Sched_Open : Pl := [(1, (.op 0 (.op 1 (.op 2 (.op 3 (.op 4 (.op 5 (.op 6 (.op 7 (.ch 8 (.re 4 (.re 5 (.re 6 (.re 7 (.op 9 .stop))))) .nil))))))))))]
noncomputable def fn.sched_Sched_Open (u : Nat → Nat) : Eng.Fn := ⟨12, Try.f99.body.getD .skip, Try.f99.results.toList, P.sched_Sched_Open, u⟩
theorem ok.sched_Sched_Open {D : Nat} (u : Nat → Nat) (cl : Cl) (hc : ClOk Try.prog cl) : FnOk Try.prog cl tt D F.sched_Sched_Open (fn.sched_Sched_Open u) := fn_ok mixed hc ttOk Try.func99 (by kernel_rfl) (by kernel_rfl) rfl (by kernel_rfl) (by kernel_rfl)
abbrev F.sched_Sched_Over : FuncId := 100
def P.sched_Sched_Over : Pl := []
noncomputable def fn.sched_Sched_Over (u : Nat → Nat) : Eng.Fn := ⟨18, Try.f100.body.getD .skip, Try.f100.results.toList, P.sched_Sched_Over, u⟩
theorem ok.sched_Sched_Over {D : Nat} (u : Nat → Nat) (cl : Cl) (hc : ClOk Try.prog cl) : FnOk Try.prog cl tt D F.sched_Sched_Over (fn.sched_Sched_Over u) := fn_ok mixed hc ttOk Try.func100 (by kernel_rfl) (by kernel_rfl) rfl (by kernel_rfl) (by kernel_rfl)
abbrev F.sched_Sched_Copy : FuncId := 101
def P.sched_Sched_Copy : Pl := []
noncomputable def fn.sched_Sched_Copy (u : Nat → Nat) : Eng.Fn := ⟨7, Try.f101.body.getD .skip, Try.f101.results.toList, P.sched_Sched_Copy, u⟩
theorem ok.sched_Sched_Copy {D : Nat} (u : Nat → Nat) (cl : Cl) (hc : ClOk Try.prog cl) : FnOk Try.prog cl tt D F.sched_Sched_Copy (fn.sched_Sched_Copy u) := fn_ok mixed hc ttOk Try.func101 (by kernel_rfl) (by kernel_rfl) rfl (by kernel_rfl) (by kernel_rfl)
abbrev F.sched_Sched_Close : FuncId := 102
def P.sched_Sched_Close : Pl := []
noncomputable def fn.sched_Sched_Close (u : Nat → Nat) : Eng.Fn := ⟨9, Try.f102.body.getD .skip, Try.f102.results.toList, P.sched_Sched_Close, u⟩
theorem ok.sched_Sched_Close {D : Nat} (u : Nat → Nat) (cl : Cl) (hc : ClOk Try.prog cl) : FnOk Try.prog cl tt D F.sched_Sched_Close (fn.sched_Sched_Close u) := fn_ok mixed hc ttOk Try.func102 (by kernel_rfl) (by kernel_rfl) rfl (by kernel_rfl) (by kernel_rfl)
abbrev F.status_Table_change : FuncId := 103
def P.status_Table_change : Pl := [(1, (.op 0 (.op 1 (.op 2 (.op 3 (.op 4 (.op 5 (.op 6 (.op 7 (.op 8 (.op 9 (.op 10 (.op 11 (.op 12 (.op 13 (.op 14 (.op 15 (.op 16 (.ch 17 .stop .nil)))))))))))))))))))]
noncomputable def fn.status_Table_change (u : Nat → Nat) : Eng.Fn := ⟨34, Try.f103.body.getD .skip, Try.f103.results.toList, P.status_Table_change, u⟩
theorem ok.status_Table_change {D : Nat} (u : Nat → Nat) (cl : Cl) (hc : ClOk Try.prog cl) : FnOk Try.prog cl tt D F.status_Table_change (fn.status_Table_change u) := fn_ok mixed hc ttOk Try.func103 (by kernel_rfl) (by kernel_rfl) rfl (by kernel_rfl) (by kernel_rfl)
abbrev F.slices_Max_int : FuncId := 104
def P.slices_Max_int : Pl := []
noncomputable def fn.slices_Max_int (u : Nat → Nat) : Eng.Fn := ⟨25, Try.f104.body.getD .skip, Try.f104.results.toList, P.slices_Max_int, u⟩
theorem ok.slices_Max_int {D : Nat} (u : Nat → Nat) (cl : Cl) (hc : ClOk Try.prog cl) : FnOk Try.prog cl tt D F.slices_Max_int (fn.slices_Max_int u) := fn_ok mixed hc ttOk Try.func104 (by kernel_rfl) (by kernel_rfl) rfl (by kernel_rfl) (by kernel_rfl)
abbrev F.slices_Min_int : FuncId := 105
def P.slices_Min_int : Pl := []
noncomputable def fn.slices_Min_int (u : Nat → Nat) : Eng.Fn := ⟨25, Try.f105.body.getD .skip, Try.f105.results.toList, P.slices_Min_int, u⟩
theorem ok.slices_Min_int {D : Nat} (u : Nat → Nat) (cl : Cl) (hc : ClOk Try.prog cl) : FnOk Try.prog cl tt D F.slices_Min_int (fn.slices_Min_int u) := fn_ok mixed hc ttOk Try.func105 (by kernel_rfl) (by kernel_rfl) rfl (by kernel_rfl) (by kernel_rfl)
abbrev F.slices_Contains_int : FuncId := 106
def P.slices_Contains_int : Pl := []
noncomputable def fn.slices_Contains_int (u : Nat → Nat) : Eng.Fn := ⟨9, Try.f106.body.getD .skip, Try.f106.results.toList, P.slices_Contains_int, u⟩
theorem ok.slices_Contains_int {D : Nat} (u : Nat → Nat) (cl : Cl) (hc : ClOk Try.prog cl) : FnOk Try.prog cl tt D F.slices_Contains_int (fn.slices_Contains_int u) := fn_ok mixed hc ttOk Try.func106 (by kernel_rfl) (by kernel_rfl) rfl (by kernel_rfl) (by kernel_rfl)
abbrev F.level_of : FuncId := 107
def P.level_of : Pl := []
noncomputable def fn.level_of (u : Nat → Nat) : Eng.Fn := ⟨15, Try.f107.body.getD .skip, Try.f107.results.toList, P.level_of, u⟩
theorem ok.level_of {D : Nat} (u : Nat → Nat) (cl : Cl) (hc : ClOk Try.prog cl) : FnOk Try.prog cl tt D F.level_of (fn.level_of u) := fn_ok mixed hc ttOk Try.func107 (by kernel_rfl) (by kernel_rfl) rfl (by kernel_rfl) (by kernel_rfl)
abbrev F.matrix_Is : FuncId := 108
def P.matrix_Is : Pl := []
noncomputable def fn.matrix_Is (u : Nat → Nat) : Eng.Fn := ⟨49, Try.f108.body.getD .skip, Try.f108.results.toList, P.matrix_Is, u⟩
theorem ok.matrix_Is {D : Nat} (u : Nat → Nat) (cl : Cl) (hc : ClOk Try.prog cl) : FnOk Try.prog cl tt D F.matrix_Is (fn.matrix_Is u) := fn_ok mixed hc ttOk Try.func108 (by kernel_rfl) (by kernel_rfl) rfl (by kernel_rfl) (by kernel_rfl)
abbrev F.check_who : FuncId := 109
def P.check_who : Pl := []
noncomputable def fn.check_who (u : Nat → Nat) : Eng.Fn := ⟨20, Try.f109.body.getD .skip, Try.f109.results.toList, P.check_who, u⟩
theorem ok.check_who {D : Nat} (u : Nat → Nat) (cl : Cl) (hc : ClOk Try.prog cl) : FnOk Try.prog cl tt D F.check_who (fn.check_who u) := fn_ok mixed hc ttOk Try.func109 (by kernel_rfl) (by kernel_rfl) rfl (by kernel_rfl) (by kernel_rfl)
abbrev F.check_twice : FuncId := 110
def P.check_twice : Pl := []
noncomputable def fn.check_twice (u : Nat → Nat) : Eng.Fn := ⟨55, Try.f110.body.getD .skip, Try.f110.results.toList, P.check_twice, u⟩
theorem ok.check_twice {D : Nat} (u : Nat → Nat) (cl : Cl) (hc : ClOk Try.prog cl) : FnOk Try.prog cl tt D F.check_twice (fn.check_twice u) := fn_ok mixed hc ttOk Try.func110 (by kernel_rfl) (by kernel_rfl) rfl (by kernel_rfl) (by kernel_rfl)
abbrev F.check_windows : FuncId := 111
def P.check_windows : Pl := []
noncomputable def fn.check_windows (u : Nat → Nat) : Eng.Fn := ⟨74, Try.f111.body.getD .skip, Try.f111.results.toList, P.check_windows, u⟩
theorem ok.check_windows {D : Nat} (u : Nat → Nat) (cl : Cl) (hc : ClOk Try.prog cl) : FnOk Try.prog cl tt D F.check_windows (fn.check_windows u) := fn_ok mixed hc ttOk Try.func111 (by kernel_rfl) (by kernel_rfl) rfl (by kernel_rfl) (by kernel_rfl)
abbrev F.ref12_twice : FuncId := 112
def P.ref12_twice : Pl := [(4, (.op 0 (.op 1 (.op 2 (.op 3 (.op 4 (.op 5 (.op 7 (.ch 6 (.re 7 (.op 8 .stop)) .nil)))))))))]
noncomputable def fn.ref12_twice (u : Nat → Nat) : Eng.Fn := ⟨52, Try.f112.body.getD .skip, Try.f112.results.toList, P.ref12_twice, u⟩
theorem ok.ref12_twice {D : Nat} (u : Nat → Nat) (cl : Cl) (hc : ClOk Try.prog cl) : FnOk Try.prog cl tt D F.ref12_twice (fn.ref12_twice u) := fn_ok mixed hc ttOk Try.func112 (by kernel_rfl) (by kernel_rfl) rfl (by kernel_rfl) (by kernel_rfl)
abbrev F.ref12_window : FuncId := 113
def P.ref12_window : Pl := [(4, (.op 0 (.op 1 (.op 2 (.ch 3 (.re 0 (.re 1 (.op 4 (.op 5 (.op 6 (.op 7 (.op 8 (.op 9 (.op 10 (.op 11 (.op 12 (.op 13 (.op 14 (.op 15 (.ch 16 (.re 10 (.re 11 (.re 12 (.re 13 (.re 14 (.op 17 (.op 18 (.op 19 .stop)))))))) .nil))))))))))))))) .nil)))))]
noncomputable def fn.ref12_window (u : Nat → Nat) : Eng.Fn := ⟨61, Try.f113.body.getD .skip, Try.f113.results.toList, P.ref12_window, u⟩
theorem ok.ref12_window {D : Nat} (u : Nat → Nat) (cl : Cl) (hc : ClOk Try.prog cl) : FnOk Try.prog cl tt D F.ref12_window (fn.ref12_window u) := fn_ok mixed hc ttOk Try.func113 (by kernel_rfl) (by kernel_rfl) rfl (by kernel_rfl) (by kernel_rfl)
abbrev F.check_there : FuncId := 114
def P.check_there : Pl := []
noncomputable def fn.check_there (u : Nat → Nat) : Eng.Fn := ⟨21, Try.f114.body.getD .skip, Try.f114.results.toList, P.check_there, u⟩
theorem ok.check_there {D : Nat} (u : Nat → Nat) (cl : Cl) (hc : ClOk Try.prog cl) : FnOk Try.prog cl tt D F.check_there (fn.check_there u) := fn_ok mixed hc ttOk Try.func114 (by kernel_rfl) (by kernel_rfl) rfl (by kernel_rfl) (by kernel_rfl)
abbrev F.matrix_Comes : FuncId := 115
def P.matrix_Comes : Pl := []
noncomputable def fn.matrix_Comes (u : Nat → Nat) : Eng.Fn := ⟨26, Try.f115.body.getD .skip, Try.f115.results.toList, P.matrix_Comes, u⟩
theorem ok.matrix_Comes {D : Nat} (u : Nat → Nat) (cl : Cl) (hc : ClOk Try.prog cl) : FnOk Try.prog cl tt D F.matrix_Comes (fn.matrix_Comes u) := fn_ok mixed hc ttOk Try.func115 (by kernel_rfl) (by kernel_rfl) rfl (by kernel_rfl) (by kernel_rfl)
abbrev F.ref12_within : FuncId := 116
def P.ref12_within : Pl := []
noncomputable def fn.ref12_within (u : Nat → Nat) : Eng.Fn := ⟨15, Try.f116.body.getD .skip, Try.f116.results.toList, P.ref12_within, u⟩
theorem ok.ref12_within {D : Nat} (u : Nat → Nat) (cl : Cl) (hc : ClOk Try.prog cl) : FnOk Try.prog cl tt D F.ref12_within (fn.ref12_within u) := fn_ok mixed hc ttOk Try.func116 (by kernel_rfl) (by kernel_rfl) rfl (by kernel_rfl) (by kernel_rfl)
abbrev F.window_right : FuncId := 117
def P.window_right : Pl := []
noncomputable def fn.window_right (u : Nat → Nat) : Eng.Fn := ⟨12, Try.f117.body.getD .skip, Try.f117.results.toList, P.window_right, u⟩
theorem ok.window_right {D : Nat} (u : Nat → Nat) (cl : Cl) (hc : ClOk Try.prog cl) : FnOk Try.prog cl tt D F.window_right (fn.window_right u) := fn_ok mixed hc ttOk Try.func117 (by kernel_rfl) (by kernel_rfl) rfl (by kernel_rfl) (by kernel_rfl)
abbrev F.window_at : FuncId := 118
def P.window_at : Pl := []
noncomputable def fn.window_at (u : Nat → Nat) : Eng.Fn := ⟨39, Try.f118.body.getD .skip, Try.f118.results.toList, P.window_at, u⟩
theorem ok.window_at {D : Nat} (u : Nat → Nat) (cl : Cl) (hc : ClOk Try.prog cl) : FnOk Try.prog cl tt D F.window_at (fn.window_at u) := fn_ok mixed hc ttOk Try.func118 (by kernel_rfl) (by kernel_rfl) rfl (by kernel_rfl) (by kernel_rfl)
abbrev F.ref12_power : FuncId := 119
def P.ref12_power : Pl := []
noncomputable def fn.ref12_power (u : Nat → Nat) : Eng.Fn := ⟨24, Try.f119.body.getD .skip, Try.f119.results.toList, P.ref12_power, u⟩
theorem ok.ref12_power {D : Nat} (u : Nat → Nat) (cl : Cl) (hc : ClOk Try.prog cl) : FnOk Try.prog cl tt D F.ref12_power (fn.ref12_power u) := fn_ok mixed hc ttOk Try.func119 (by kernel_rfl) (by kernel_rfl) rfl (by kernel_rfl) (by kernel_rfl)
abbrev F.bound_right : FuncId := 120
def P.bound_right : Pl := []
noncomputable def fn.bound_right (u : Nat → Nat) : Eng.Fn := ⟨12, Try.f120.body.getD .skip, Try.f120.results.toList, P.bound_right, u⟩
theorem ok.bound_right {D : Nat} (u : Nat → Nat) (cl : Cl) (hc : ClOk Try.prog cl) : FnOk Try.prog cl tt D F.bound_right (fn.bound_right u) := fn_ok mixed hc ttOk Try.func120 (by kernel_rfl) (by kernel_rfl) rfl (by kernel_rfl) (by kernel_rfl)
abbrev F.bound_each : FuncId := 121
def P.bound_each : Pl := []
noncomputable def fn.bound_each (u : Nat → Nat) : Eng.Fn := ⟨33, Try.f121.body.getD .skip, Try.f121.results.toList, P.bound_each, u⟩
theorem ok.bound_each {D : Nat} (u : Nat → Nat) (cl : Cl) (hc : ClOk Try.prog cl) : FnOk Try.prog cl tt D F.bound_each (fn.bound_each u) := fn_ok mixed hc ttOk Try.func121 (by kernel_rfl) (by kernel_rfl) rfl (by kernel_rfl) (by kernel_rfl)
abbrev F.bound_Windows_1 : FuncId := 122
def P.bound_Windows_1 : Pl := []
noncomputable def fn.bound_Windows_1 (u : Nat → Nat) : Eng.Fn := ⟨10, Try.f122.body.getD .skip, Try.f122.results.toList, P.bound_Windows_1, u⟩
theorem ok.bound_Windows_1 {D : Nat} (u : Nat → Nat) (cl : Cl) (hc : ClOk Try.prog cl) : FnOk Try.prog cl tt D F.bound_Windows_1 (fn.bound_Windows_1 u) := fn_ok mixed hc ttOk Try.func122 (by kernel_rfl) (by kernel_rfl) rfl (by kernel_rfl) (by kernel_rfl)
abbrev F.bound_Sends_1 : FuncId := 123
def P.bound_Sends_1 : Pl := []
noncomputable def fn.bound_Sends_1 (u : Nat → Nat) : Eng.Fn := ⟨15, Try.f123.body.getD .skip, Try.f123.results.toList, P.bound_Sends_1, u⟩
theorem ok.bound_Sends_1 {D : Nat} (u : Nat → Nat) (cl : Cl) (hc : ClOk Try.prog cl) : FnOk Try.prog cl tt D F.bound_Sends_1 (fn.bound_Sends_1 u) := fn_ok mixed hc ttOk Try.func123 (by kernel_rfl) (by kernel_rfl) rfl (by kernel_rfl) (by kernel_rfl)
abbrev F.bound_Busy_1 : FuncId := 124
def P.bound_Busy_1 : Pl := []
noncomputable def fn.bound_Busy_1 (u : Nat → Nat) : Eng.Fn := ⟨13, Try.f124.body.getD .skip, Try.f124.results.toList, P.bound_Busy_1, u⟩
theorem ok.bound_Busy_1 {D : Nat} (u : Nat → Nat) (cl : Cl) (hc : ClOk Try.prog cl) : FnOk Try.prog cl tt D F.bound_Busy_1 (fn.bound_Busy_1 u) := fn_ok mixed hc ttOk Try.func124 (by kernel_rfl) (by kernel_rfl) rfl (by kernel_rfl) (by kernel_rfl)
abbrev F.law15_least : FuncId := 125
def P.law15_least : Pl := []
noncomputable def fn.law15_least (u : Nat → Nat) : Eng.Fn := ⟨7, Try.f125.body.getD .skip, Try.f125.results.toList, P.law15_least, u⟩
theorem ok.law15_least {D : Nat} (u : Nat → Nat) (cl : Cl) (hc : ClOk Try.prog cl) : FnOk Try.prog cl tt D F.law15_least (fn.law15_least u) := fn_ok mixed hc ttOk Try.func125 (by kernel_rfl) (by kernel_rfl) rfl (by kernel_rfl) (by kernel_rfl)
abbrev F.plan_window : FuncId := 126
def P.plan_window : Pl := [(1, (.op 0 (.op 1 (.op 2 (.op 3 (.op 4 (.op 5 (.op 6 (.op 7 (.op 8 (.op 9 (.op 10 (.ch 11 (.re 0 (.re 1 (.re 2 (.re 3 (.re 4 (.re 5 (.re 6 (.re 7 (.re 8 (.re 9 (.op 12 (.op 13 (.ch 14 (.re 0 (.re 1 (.re 2 (.re 3 (.re 4 (.re 5 (.re 6 (.re 7 (.re 8 (.re 9 (.re 12 (.re 13 (.ch 15 .stop .nil))))))))))))) .nil))))))))))))) (.ch 14 (.re 0 (.re 1 (.re 2 (.re 3 (.re 4 (.re 5 (.re 6 (.re 7 (.re 8 (.re 9 (.re 10 (.ch 11 (.re 0 (.re 1 (.re 2 (.re 3 (.re 4 (.re 5 (.re 6 (.re 7 (.re 8 (.re 9 (.op 12 (.op 13 (.ch 15 .stop .nil))))))))))))) .nil)))))))))))) .nil)))))))))))))), (5, (.op 0 (.op 1 (.op 2 (.op 3 (.op 4 (.op 5 (.ch 6 (.re 0 (.re 1 (.re 2 (.re 3 (.re 4 (.op 7 (.ch 8 .stop .nil))))))) .nil)))))))), (2, (.op 0 (.op 1 (.op 2 (.op 3 (.ch 4 (.re 0 (.re 1 (.re 2 (.op 5 (.ch 6 (.op 7 (.ch 8 .stop .nil)) .nil))))) .nil))))))]
noncomputable def fn.plan_window (u : Nat → Nat) : Eng.Fn := ⟨50, Try.f126.body.getD .skip, Try.f126.results.toList, P.plan_window, u⟩
theorem ok.plan_window {D : Nat} (u : Nat → Nat) (cl : Cl) (hc : ClOk Try.prog cl) : FnOk Try.prog cl tt D F.plan_window (fn.plan_window u) := fn_ok mixed hc ttOk Try.func126 (by kernel_rfl) (by kernel_rfl) rfl (by kernel_rfl) (by kernel_rfl)
abbrev F.plan_Plan_1 : FuncId := 127
def P.plan_Plan_1 : Pl := []
noncomputable def fn.plan_Plan_1 (u : Nat → Nat) : Eng.Fn := ⟨14, Try.f127.body.getD .skip, Try.f127.results.toList, P.plan_Plan_1, u⟩
theorem ok.plan_Plan_1 {D : Nat} (u : Nat → Nat) (cl : Cl) (hc : ClOk Try.prog cl) : FnOk Try.prog cl tt D F.plan_Plan_1 (fn.plan_Plan_1 u) := fn_ok mixed hc ttOk Try.func127 (by kernel_rfl) (by kernel_rfl) rfl (by kernel_rfl) (by kernel_rfl)
abbrev F.matrix_Rank : FuncId := 128
def P.matrix_Rank : Pl := []
noncomputable def fn.matrix_Rank (u : Nat → Nat) : Eng.Fn := ⟨9, Try.f128.body.getD .skip, Try.f128.results.toList, P.matrix_Rank, u⟩
theorem ok.matrix_Rank {D : Nat} (u : Nat → Nat) (cl : Cl) (hc : ClOk Try.prog cl) : FnOk Try.prog cl tt D F.matrix_Rank (fn.matrix_Rank u) := fn_ok mixed hc ttOk Try.func128 (by kernel_rfl) (by kernel_rfl) rfl (by kernel_rfl) (by kernel_rfl)
abbrev F.slices_SortStableFunc_Trigger : FuncId := 129
def P.slices_SortStableFunc_Trigger : Pl := []
noncomputable def fn.slices_SortStableFunc_Trigger (u : Nat → Nat) : Eng.Fn := ⟨9, Try.f129.body.getD .skip, Try.f129.results.toList, P.slices_SortStableFunc_Trigger, u⟩
theorem ok.slices_SortStableFunc_Trigger {D : Nat} (u : Nat → Nat) (cl : Cl) (hc : ClOk Try.prog cl) : FnOk Try.prog cl tt D F.slices_SortStableFunc_Trigger (fn.slices_SortStableFunc_Trigger u) := fn_ok mixed hc ttOk Try.func129 (by kernel_rfl) (by kernel_rfl) rfl (by kernel_rfl) (by kernel_rfl)
abbrev F.plan_Plan_2 : FuncId := 130
def P.plan_Plan_2 : Pl := []
noncomputable def fn.plan_Plan_2 (u : Nat → Nat) : Eng.Fn := ⟨10, Try.f130.body.getD .skip, Try.f130.results.toList, P.plan_Plan_2, u⟩
theorem ok.plan_Plan_2 {D : Nat} (u : Nat → Nat) (cl : Cl) (hc : ClOk Try.prog cl) : FnOk Try.prog cl tt D F.plan_Plan_2 (fn.plan_Plan_2 u) := fn_ok mixed hc ttOk Try.func130 (by kernel_rfl) (by kernel_rfl) rfl (by kernel_rfl) (by kernel_rfl)
abbrev F.cmp_Compare_int : FuncId := 131
def P.cmp_Compare_int : Pl := []
noncomputable def fn.cmp_Compare_int (u : Nat → Nat) : Eng.Fn := ⟨20, Try.f131.body.getD .skip, Try.f131.results.toList, P.cmp_Compare_int, u⟩
theorem ok.cmp_Compare_int {D : Nat} (u : Nat → Nat) (cl : Cl) (hc : ClOk Try.prog cl) : FnOk Try.prog cl tt D F.cmp_Compare_int (fn.cmp_Compare_int u) := fn_ok mixed hc ttOk Try.func131 (by kernel_rfl) (by kernel_rfl) rfl (by kernel_rfl) (by kernel_rfl)
abbrev F.ref12_laid : FuncId := 132
def P.ref12_laid : Pl := [(2, (.op 0 (.op 1 (.op 2 (.op 3 (.op 4 (.op 5 (.op 6 (.op 7 (.op 8 (.op 9 (.op 10 (.op 11 (.op 12 (.op 13 .stop))))))))))))))), (4, (.op 0 (.op 1 (.op 2 (.op 4 (.ch 3 (.re 4 (.ch 5 (.ch 6 (.op 7 .stop) .nil) .nil)) (.ch 5 (.re 0 (.re 1 (.re 2 (.ch 3 (.ch 6 (.op 7 .stop) .nil) .nil)))) .nil)))))))]
noncomputable def fn.ref12_laid (u : Nat → Nat) : Eng.Fn := ⟨35, Try.f132.body.getD .skip, Try.f132.results.toList, P.ref12_laid, u⟩
theorem ok.ref12_laid {D : Nat} (u : Nat → Nat) (cl : Cl) (hc : ClOk Try.prog cl) : FnOk Try.prog cl tt D F.ref12_laid (fn.ref12_laid u) := fn_ok mixed hc ttOk Try.func132 (by kernel_rfl) (by kernel_rfl) rfl (by kernel_rfl) (by kernel_rfl)
abbrev F.ref12_Rank : FuncId := 133
def P.ref12_Rank : Pl := []
noncomputable def fn.ref12_Rank (u : Nat → Nat) : Eng.Fn := ⟨21, Try.f133.body.getD .skip, Try.f133.results.toList, P.ref12_Rank, u⟩
theorem ok.ref12_Rank {D : Nat} (u : Nat → Nat) (cl : Cl) (hc : ClOk Try.prog cl) : FnOk Try.prog cl tt D F.ref12_Rank (fn.ref12_Rank u) := fn_ok mixed hc ttOk Try.func133 (by kernel_rfl) (by kernel_rfl) rfl (by kernel_rfl) (by kernel_rfl)
abbrev F.law23_least : FuncId := 134
def P.law23_least : Pl := []
noncomputable def fn.law23_least (u : Nat → Nat) : Eng.Fn := ⟨7, Try.f134.body.getD .skip, Try.f134.results.toList, P.law23_least, u⟩
theorem ok.law23_least {D : Nat} (u : Nat → Nat) (cl : Cl) (hc : ClOk Try.prog cl) : FnOk Try.prog cl tt D F.law23_least (fn.law23_least u) := fn_ok mixed hc ttOk Try.func134 (by kernel_rfl) (by kernel_rfl) rfl (by kernel_rfl) (by kernel_rfl)
abbrev F.slices_Index_int : FuncId := 135
def P.slices_Index_int : Pl := []
noncomputable def fn.slices_Index_int (u : Nat → Nat) : Eng.Fn := ⟨19, Try.f135.body.getD .skip, Try.f135.results.toList, P.slices_Index_int, u⟩
theorem ok.slices_Index_int {D : Nat} (u : Nat → Nat) (cl : Cl) (hc : ClOk Try.prog cl) : FnOk Try.prog cl tt D F.slices_Index_int (fn.slices_Index_int u) := fn_ok mixed hc ttOk Try.func135 (by kernel_rfl) (by kernel_rfl) rfl (by kernel_rfl) (by kernel_rfl)
abbrev F.level_levels : FuncId := 136
def P.level_levels : Pl := []
noncomputable def fn.level_levels (u : Nat → Nat) : Eng.Fn := ⟨6, Try.f136.body.getD .skip, Try.f136.results.toList, P.level_levels, u⟩
theorem ok.level_levels {D : Nat} (u : Nat → Nat) (cl : Cl) (hc : ClOk Try.prog cl) : FnOk Try.prog cl tt D F.level_levels (fn.level_levels u) := fn_ok mixed hc ttOk Try.func136 (by kernel_rfl) (by kernel_rfl) rfl (by kernel_rfl) (by kernel_rfl)
abbrev F.matrix_head : FuncId := 137
def P.matrix_head : Pl := []
noncomputable def fn.matrix_head (u : Nat → Nat) : Eng.Fn := ⟨47, Try.f137.body.getD .skip, Try.f137.results.toList, P.matrix_head, u⟩
theorem ok.matrix_head {D : Nat} (u : Nat → Nat) (cl : Cl) (hc : ClOk Try.prog cl) : FnOk Try.prog cl tt D F.matrix_head (fn.matrix_head u) := fn_ok mixed hc ttOk Try.func137 (by kernel_rfl) (by kernel_rfl) rfl (by kernel_rfl) (by kernel_rfl)
abbrev F.matrix_within : FuncId := 138
def P.matrix_within : Pl := []
noncomputable def fn.matrix_within (u : Nat → Nat) : Eng.Fn := ⟨15, Try.f138.body.getD .skip, Try.f138.results.toList, P.matrix_within, u⟩
theorem ok.matrix_within {D : Nat} (u : Nat → Nat) (cl : Cl) (hc : ClOk Try.prog cl) : FnOk Try.prog cl tt D F.matrix_within (fn.matrix_within u) := fn_ok mixed hc ttOk Try.func138 (by kernel_rfl) (by kernel_rfl) rfl (by kernel_rfl) (by kernel_rfl)
abbrev F.matrix_Is_1 : FuncId := 139
def P.matrix_Is_1 : Pl := []
noncomputable def fn.matrix_Is_1 (u : Nat → Nat) : Eng.Fn := ⟨6, Try.f139.body.getD .skip, Try.f139.results.toList, P.matrix_Is_1, u⟩
theorem ok.matrix_Is_1 {D : Nat} (u : Nat → Nat) (cl : Cl) (hc : ClOk Try.prog cl) : FnOk Try.prog cl tt D F.matrix_Is_1 (fn.matrix_Is_1 u) := fn_ok mixed hc ttOk Try.func139 (by kernel_rfl) (by kernel_rfl) rfl (by kernel_rfl) (by kernel_rfl)
abbrev F.matrix_Is_2 : FuncId := 140
def P.matrix_Is_2 : Pl := []
noncomputable def fn.matrix_Is_2 (u : Nat → Nat) : Eng.Fn := ⟨13, Try.f140.body.getD .skip, Try.f140.results.toList, P.matrix_Is_2, u⟩
theorem ok.matrix_Is_2 {D : Nat} (u : Nat → Nat) (cl : Cl) (hc : ClOk Try.prog cl) : FnOk Try.prog cl tt D F.matrix_Is_2 (fn.matrix_Is_2 u) := fn_ok mixed hc ttOk Try.func140 (by kernel_rfl) (by kernel_rfl) rfl (by kernel_rfl) (by kernel_rfl)
abbrev F.matrix_Is_3 : FuncId := 141
def P.matrix_Is_3 : Pl := []
noncomputable def fn.matrix_Is_3 (u : Nat → Nat) : Eng.Fn := ⟨8, Try.f141.body.getD .skip, Try.f141.results.toList, P.matrix_Is_3, u⟩
theorem ok.matrix_Is_3 {D : Nat} (u : Nat → Nat) (cl : Cl) (hc : ClOk Try.prog cl) : FnOk Try.prog cl tt D F.matrix_Is_3 (fn.matrix_Is_3 u) := fn_ok mixed hc ttOk Try.func141 (by kernel_rfl) (by kernel_rfl) rfl (by kernel_rfl) (by kernel_rfl)
abbrev F.matrix_window : FuncId := 142
def P.matrix_window : Pl := []
noncomputable def fn.matrix_window (u : Nat → Nat) : Eng.Fn := ⟨65, Try.f142.body.getD .skip, Try.f142.results.toList, P.matrix_window, u⟩
theorem ok.matrix_window {D : Nat} (u : Nat → Nat) (cl : Cl) (hc : ClOk Try.prog cl) : FnOk Try.prog cl tt D F.matrix_window (fn.matrix_window u) := fn_ok mixed hc ttOk Try.func142 (by kernel_rfl) (by kernel_rfl) rfl (by kernel_rfl) (by kernel_rfl)
abbrev F.slices_ContainsFunc_int : FuncId := 143
def P.slices_ContainsFunc_int : Pl := []
noncomputable def fn.slices_ContainsFunc_int (u : Nat → Nat) : Eng.Fn := ⟨9, Try.f143.body.getD .skip, Try.f143.results.toList, P.slices_ContainsFunc_int, u⟩
theorem ok.slices_ContainsFunc_int {D : Nat} (u : Nat → Nat) (cl : Cl) (hc : ClOk Try.prog cl) : FnOk Try.prog cl tt D F.slices_ContainsFunc_int (fn.slices_ContainsFunc_int u) := fn_ok mixed hc ttOk Try.func143 (by kernel_rfl) (by kernel_rfl) rfl (by kernel_rfl) (by kernel_rfl)
abbrev F.slices_ContainsFunc_Message : FuncId := 144
def P.slices_ContainsFunc_Message : Pl := []
noncomputable def fn.slices_ContainsFunc_Message (u : Nat → Nat) : Eng.Fn := ⟨9, Try.f144.body.getD .skip, Try.f144.results.toList, P.slices_ContainsFunc_Message, u⟩
theorem ok.slices_ContainsFunc_Message {D : Nat} (u : Nat → Nat) (cl : Cl) (hc : ClOk Try.prog cl) : FnOk Try.prog cl tt D F.slices_ContainsFunc_Message (fn.slices_ContainsFunc_Message u) := fn_ok mixed hc ttOk Try.func144 (by kernel_rfl) (by kernel_rfl) rfl (by kernel_rfl) (by kernel_rfl)
abbrev F.slices_ContainsFunc_Window : FuncId := 145
def P.slices_ContainsFunc_Window : Pl := []
noncomputable def fn.slices_ContainsFunc_Window (u : Nat → Nat) : Eng.Fn := ⟨9, Try.f145.body.getD .skip, Try.f145.results.toList, P.slices_ContainsFunc_Window, u⟩
theorem ok.slices_ContainsFunc_Window {D : Nat} (u : Nat → Nat) (cl : Cl) (hc : ClOk Try.prog cl) : FnOk Try.prog cl tt D F.slices_ContainsFunc_Window (fn.slices_ContainsFunc_Window u) := fn_ok mixed hc ttOk Try.func145 (by kernel_rfl) (by kernel_rfl) rfl (by kernel_rfl) (by kernel_rfl)
abbrev F.slices_IndexFunc_int : FuncId := 146
def P.slices_IndexFunc_int : Pl := []
noncomputable def fn.slices_IndexFunc_int (u : Nat → Nat) : Eng.Fn := ⟨19, Try.f146.body.getD .skip, Try.f146.results.toList, P.slices_IndexFunc_int, u⟩
theorem ok.slices_IndexFunc_int {D : Nat} (u : Nat → Nat) (cl : Cl) (hc : ClOk Try.prog cl) : FnOk Try.prog cl tt D F.slices_IndexFunc_int (fn.slices_IndexFunc_int u) := fn_ok mixed hc ttOk Try.func146 (by kernel_rfl) (by kernel_rfl) rfl (by kernel_rfl) (by kernel_rfl)
abbrev F.check_who_1 : FuncId := 147
def P.check_who_1 : Pl := []
noncomputable def fn.check_who_1 (u : Nat → Nat) : Eng.Fn := ⟨8, Try.f147.body.getD .skip, Try.f147.results.toList, P.check_who_1, u⟩
theorem ok.check_who_1 {D : Nat} (u : Nat → Nat) (cl : Cl) (hc : ClOk Try.prog cl) : FnOk Try.prog cl tt D F.check_who_1 (fn.check_who_1 u) := fn_ok mixed hc ttOk Try.func147 (by kernel_rfl) (by kernel_rfl) rfl (by kernel_rfl) (by kernel_rfl)
abbrev F.slices_IndexFunc_Message : FuncId := 148
def P.slices_IndexFunc_Message : Pl := []
noncomputable def fn.slices_IndexFunc_Message (u : Nat → Nat) : Eng.Fn := ⟨19, Try.f148.body.getD .skip, Try.f148.results.toList, P.slices_IndexFunc_Message, u⟩
theorem ok.slices_IndexFunc_Message {D : Nat} (u : Nat → Nat) (cl : Cl) (hc : ClOk Try.prog cl) : FnOk Try.prog cl tt D F.slices_IndexFunc_Message (fn.slices_IndexFunc_Message u) := fn_ok mixed hc ttOk Try.func148 (by kernel_rfl) (by kernel_rfl) rfl (by kernel_rfl) (by kernel_rfl)
abbrev F.check_who_2 : FuncId := 149
def P.check_who_2 : Pl := []
noncomputable def fn.check_who_2 (u : Nat → Nat) : Eng.Fn := ⟨9, Try.f149.body.getD .skip, Try.f149.results.toList, P.check_who_2, u⟩
theorem ok.check_who_2 {D : Nat} (u : Nat → Nat) (cl : Cl) (hc : ClOk Try.prog cl) : FnOk Try.prog cl tt D F.check_who_2 (fn.check_who_2 u) := fn_ok mixed hc ttOk Try.func149 (by kernel_rfl) (by kernel_rfl) rfl (by kernel_rfl) (by kernel_rfl)
abbrev F.check_twice_1 : FuncId := 150
def P.check_twice_1 : Pl := []
noncomputable def fn.check_twice_1 (u : Nat → Nat) : Eng.Fn := ⟨9, Try.f150.body.getD .skip, Try.f150.results.toList, P.check_twice_1, u⟩
theorem ok.check_twice_1 {D : Nat} (u : Nat → Nat) (cl : Cl) (hc : ClOk Try.prog cl) : FnOk Try.prog cl tt D F.check_twice_1 (fn.check_twice_1 u) := fn_ok mixed hc ttOk Try.func150 (by kernel_rfl) (by kernel_rfl) rfl (by kernel_rfl) (by kernel_rfl)
abbrev F.ref12_Find : FuncId := 151
def P.ref12_Find : Pl := [(4, (.op 0 (.op 1 (.op 2 (.op 3 (.op 4 (.op 5 (.op 6 (.op 7 (.op 8 (.op 9 (.op 10 (.op 11 (.op 12 (.op 13 (.op 14 (.op 15 (.op 16 (.op 17 (.op 18 .stop))))))))))))))))))))]
noncomputable def fn.ref12_Find (u : Nat → Nat) : Eng.Fn := ⟨33, Try.f151.body.getD .skip, Try.f151.results.toList, P.ref12_Find, u⟩
theorem ok.ref12_Find {D : Nat} (u : Nat → Nat) (cl : Cl) (hc : ClOk Try.prog cl) : FnOk Try.prog cl tt D F.ref12_Find (fn.ref12_Find u) := fn_ok mixed hc ttOk Try.func151 (by kernel_rfl) (by kernel_rfl) rfl (by kernel_rfl) (by kernel_rfl)
abbrev F.slices_stableCmpFunc_Trigger : FuncId := 152
def P.slices_stableCmpFunc_Trigger : Pl := []
noncomputable def fn.slices_stableCmpFunc_Trigger (u : Nat → Nat) : Eng.Fn := ⟨63, Try.f152.body.getD .skip, Try.f152.results.toList, P.slices_stableCmpFunc_Trigger, u⟩
theorem ok.slices_stableCmpFunc_Trigger {D : Nat} (u : Nat → Nat) (cl : Cl) (hc : ClOk Try.prog cl) : FnOk Try.prog cl tt D F.slices_stableCmpFunc_Trigger (fn.slices_stableCmpFunc_Trigger u) := fn_ok mixed hc ttOk Try.func152 (by kernel_rfl) (by kernel_rfl) rfl (by kernel_rfl) (by kernel_rfl)
abbrev F.cmp_isNaN_int : FuncId := 153
def P.cmp_isNaN_int : Pl := []
noncomputable def fn.cmp_isNaN_int (u : Nat → Nat) : Eng.Fn := ⟨6, Try.f153.body.getD .skip, Try.f153.results.toList, P.cmp_isNaN_int, u⟩
theorem ok.cmp_isNaN_int {D : Nat} (u : Nat → Nat) (cl : Cl) (hc : ClOk Try.prog cl) : FnOk Try.prog cl tt D F.cmp_isNaN_int (fn.cmp_isNaN_int u) := fn_ok mixed hc ttOk Try.func153 (by kernel_rfl) (by kernel_rfl) rfl (by kernel_rfl) (by kernel_rfl)
abbrev F.matrix_power : FuncId := 154
def P.matrix_power : Pl := []
noncomputable def fn.matrix_power (u : Nat → Nat) : Eng.Fn := ⟨6, Try.f154.body.getD .skip, Try.f154.results.toList, P.matrix_power, u⟩
theorem ok.matrix_power {D : Nat} (u : Nat → Nat) (cl : Cl) (hc : ClOk Try.prog cl) : FnOk Try.prog cl tt D F.matrix_power (fn.matrix_power u) := fn_ok mixed hc ttOk Try.func154 (by kernel_rfl) (by kernel_rfl) rfl (by kernel_rfl) (by kernel_rfl)
abbrev F.slices_IndexFunc_Window : FuncId := 155
def P.slices_IndexFunc_Window : Pl := []
noncomputable def fn.slices_IndexFunc_Window (u : Nat → Nat) : Eng.Fn := ⟨19, Try.f155.body.getD .skip, Try.f155.results.toList, P.slices_IndexFunc_Window, u⟩
theorem ok.slices_IndexFunc_Window {D : Nat} (u : Nat → Nat) (cl : Cl) (hc : ClOk Try.prog cl) : FnOk Try.prog cl tt D F.slices_IndexFunc_Window (fn.slices_IndexFunc_Window u) := fn_ok mixed hc ttOk Try.func155 (by kernel_rfl) (by kernel_rfl) rfl (by kernel_rfl) (by kernel_rfl)
abbrev F.slices_insertionSortCmpFunc_Trigger : FuncId := 156
def P.slices_insertionSortCmpFunc_Trigger : Pl := [(4, (.op 0 (.op 1 (.op 2 (.op 3 (.op 4 (.op 5 (.op 6 (.op 7 (.op 8 (.op 9 (.op 10 (.op 11 (.op 12 (.op 13 (.ch 14 (.op 15 (.op 16 .stop)) .nil)))))))))))))))), (6, (.op 0 (.op 1 (.op 2 (.op 3 (.op 4 (.op 5 (.op 6 (.op 7 (.op 8 (.op 9 (.op 10 (.op 11 (.op 12 (.op 13 (.op 14 (.ch 15 (.re 2 (.re 3 (.re 4 (.op 16 (.ch 17 .stop .nil))))) .nil)))))))))))))))))]
noncomputable def fn.slices_insertionSortCmpFunc_Trigger (u : Nat → Nat) : Eng.Fn := ⟨53, Try.f156.body.getD .skip, Try.f156.results.toList, P.slices_insertionSortCmpFunc_Trigger, u⟩
theorem ok.slices_insertionSortCmpFunc_Trigger {D : Nat} (u : Nat → Nat) (cl : Cl) (hc : ClOk Try.prog cl) : FnOk Try.prog cl tt D F.slices_insertionSortCmpFunc_Trigger (fn.slices_insertionSortCmpFunc_Trigger u) := fn_ok mixed hc ttOk Try.func156 (by kernel_rfl) (by kernel_rfl) rfl (by kernel_rfl) (by kernel_rfl)
abbrev F.slices_symMergeCmpFunc_Trigger : FuncId := 157
def P.slices_symMergeCmpFunc_Trigger : Pl := [(5, (.op 0 (.op 1 (.op 2 (.op 3 (.op 4 (.op 5 (.op 6 (.op 7 (.op 8 (.ch 9 (.op 10 .stop) .nil))))))))))), (11, (.op 0 (.op 1 (.op 2 (.op 3 (.op 4 (.op 5 (.op 6 (.op 7 (.op 8 (.op 9 (.op 10 (.op 11 (.op 12 (.op 13 (.op 14 (.ch 15 (.re 2 (.re 3 (.re 4 (.op 16 (.ch 17 .stop .nil))))) .nil))))))))))))))))), (17, (.op 0 (.op 1 (.op 2 (.op 3 (.op 4 (.op 5 (.op 6 (.op 7 (.op 8 (.ch 9 (.op 10 (.op 11 .stop)) .nil))))))))))), (23, (.op 0 (.op 1 (.op 2 (.op 3 (.op 4 (.op 5 (.op 6 (.op 7 (.op 8 (.op 9 (.op 10 (.op 11 (.op 12 (.op 13 (.op 14 (.ch 15 (.re 2 (.re 3 (.re 4 (.op 16 (.ch 17 .stop .nil))))) .nil))))))))))))))))), (35, (.op 0 (.op 1 (.op 2 (.op 3 (.op 4 (.op 5 (.op 6 (.op 7 (.op 8 (.op 9 (.op 10 (.ch 11 (.op 12 (.op 13 .stop)) .nil)))))))))))))]
noncomputable def fn.slices_symMergeCmpFunc_Trigger (u : Nat → Nat) : Eng.Fn := ⟨220, Try.f157.body.getD .skip, Try.f157.results.toList, P.slices_symMergeCmpFunc_Trigger, u⟩
theorem ok.slices_symMergeCmpFunc_Trigger {D : Nat} (u : Nat → Nat) (cl : Cl) (hc : ClOk Try.prog cl) : FnOk Try.prog cl tt D F.slices_symMergeCmpFunc_Trigger (fn.slices_symMergeCmpFunc_Trigger u) := fn_ok mixed hc ttOk Try.func157 (by kernel_rfl) (by kernel_rfl) rfl (by kernel_rfl) (by kernel_rfl)
abbrev F.slices_rotateCmpFunc_Trigger : FuncId := 158
def P.slices_rotateCmpFunc_Trigger : Pl := []
noncomputable def fn.slices_rotateCmpFunc_Trigger (u : Nat → Nat) : Eng.Fn := ⟨58, Try.f158.body.getD .skip, Try.f158.results.toList, P.slices_rotateCmpFunc_Trigger, u⟩
theorem ok.slices_rotateCmpFunc_Trigger {D : Nat} (u : Nat → Nat) (cl : Cl) (hc : ClOk Try.prog cl) : FnOk Try.prog cl tt D F.slices_rotateCmpFunc_Trigger (fn.slices_rotateCmpFunc_Trigger u) := fn_ok mixed hc ttOk Try.func158 (by kernel_rfl) (by kernel_rfl) rfl (by kernel_rfl) (by kernel_rfl)
abbrev F.slices_swapRangeCmpFunc_Trigger : FuncId := 159
def P.slices_swapRangeCmpFunc_Trigger : Pl := [(3, (.op 0 (.op 1 (.op 2 (.op 3 (.op 4 (.op 5 (.op 6 (.op 7 (.op 8 (.op 9 (.op 10 (.op 11 (.op 12 (.op 13 (.op 14 (.op 15 (.op 16 (.op 17 (.op 18 (.op 19 (.op 20 (.ch 21 (.re 4 (.re 5 (.re 6 (.re 7 (.op 22 (.ch 23 .stop .nil)))))) .nil)))))))))))))))))))))))]
noncomputable def fn.slices_swapRangeCmpFunc_Trigger (u : Nat → Nat) : Eng.Fn := ⟨38, Try.f159.body.getD .skip, Try.f159.results.toList, P.slices_swapRangeCmpFunc_Trigger, u⟩
theorem ok.slices_swapRangeCmpFunc_Trigger {D : Nat} (u : Nat → Nat) (cl : Cl) (hc : ClOk Try.prog cl) : FnOk Try.prog cl tt D F.slices_swapRangeCmpFunc_Trigger (fn.slices_swapRangeCmpFunc_Trigger u) := fn_ok mixed hc ttOk Try.func159 (by kernel_rfl) (by kernel_rfl) rfl (by kernel_rfl) (by kernel_rfl)
end Go.Proofs.Ytbdifadabipfiaa.Tb
