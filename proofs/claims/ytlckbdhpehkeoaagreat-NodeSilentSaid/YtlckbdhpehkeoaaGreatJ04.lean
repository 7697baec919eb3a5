/- Parts. -/
import Derived.Test.YtlckbdhpehkeoaaGreatRows
import Derived.KernelRfl
import Derived.Test.YtlckbdhpehkeoaaGreatJ03
namespace Go.Proofs.YtlckbdhpehkeoaaGreat.Tb
open Go Go.Eng Go.Proofs
theorem mixed : Tryz.prog.follows .mixedOrders = true:=by kernel_rfl
def TabOk (d : Nat) (tab : List (FuncId × Eng.Fn)) (tt : TT) : Prop:=∀ cl,ClOk Tryz.prog cl → ∀ g fn,(g,fn) ∈ tab → FnOk Tryz.prog cl tt d g fn
theorem TabOk.nil {d : Nat} {tt : TT} : TabOk d [] tt:=fun _ _ _ _ h=>by cases h
theorem TabOk.cons {d : Nat} {tt : TT} {f : FuncId} {fn : Eng.Fn} {l : List (FuncId × Eng.Fn)} (h : ∀ cl,ClOk Tryz.prog cl → FnOk Tryz.prog cl tt d f fn) (hl : TabOk d l tt) : TabOk d ((f,fn) :: l) tt:=fun cl hc g fn' hm=>by
 rcases List.mem_cons.1 hm with e | hm
 ·cases e; exact h cl hc
 ·exact hl cl hc g fn' hm
def tt : TT:=[
 (3,⟨.int .i64,1,8,.one ((.v (.int .i64 0))),[]⟩),
 (1,⟨.other,1,8,.one ((.v .nilFunc)),[]⟩),
 (31,⟨.struct [(0,3),(1,3),(2,3),(3,3),(4,3),(5,3),(6,3),(7,26),(8,27),(9,28),(10,29)],11,136,.agg [.c (.v (.int .i64 0)),.c (.v (.int .i64 0)),.c (.v (.int .i64 0)),.c (.v (.int .i64 0)),.c (.v (.int .i64 0)),.c (.v (.int .i64 0)),.c (.v (.int .i64 0)),.c (.v (.int .u32 0)),.c (.v (.slice none 0 0)),.c (.v (.slice none 0 0)),.c (.v (.slice none 0 0))],[]⟩),
 (4,⟨.bool,1,1,.one ((.v (.bool false))),[]⟩),
 (9,⟨.str,1,16,.one ((.v (.string .empty))),[]⟩),
 (2,⟨.int .i64,1,8,.one ((.v (.int .i64 0))),[]⟩),
 (5,⟨.int .u8,1,1,.one ((.v (.int .u8 0))),[]⟩),
 (36,⟨.struct [(0,4),(1,26),(2,4),(3,9)],4,32,.agg [.c (.v (.bool false)),.c (.v (.int .u32 0)),.c (.v (.bool false)),.c (.v (.string .empty))],[.bool,.int .u32,.bool,.str]⟩),
 (155,⟨.struct [(0,3),(1,3),(2,3),(3,3),(4,3),(5,3)],6,48,.agg [.c (.v (.int .i64 0)),.c (.v (.int .i64 0)),.c (.v (.int .i64 0)),.c (.v (.int .i64 0)),.c (.v (.int .i64 0)),.c (.v (.int .i64 0))],[]⟩),
 (38,⟨.int .u16,1,2,.one ((.v (.int .u16 0))),[]⟩),
 (26,⟨.int .u32,1,4,.one ((.v (.int .u32 0))),[]⟩),
 (27,⟨.slice 3,1,24,.one ((.v (.slice none 0 0))),[]⟩),
 (23,⟨.ptr 138,1,8,.one ((.v (.pointer none))),[]⟩),
 (98,⟨.struct [(0,3),(1,3),(2,3),(3,9)],4,40,.agg [.c (.v (.int .i64 0)),.c (.v (.int .i64 0)),.c (.v (.int .i64 0)),.c (.v (.string .empty))],[]⟩),
 (150,⟨.slice 5,1,24,.one ((.v (.slice none 0 0))),[]⟩),
 (138,⟨.struct [(0,31),(11,4),(12,3),(13,135),(21,3),(22,4),(23,136),(35,60),(36,27)],37,288,.agg [.c (.v (.int .i64 0)),.c (.v (.int .i64 0)),.c (.v (.int .i64 0)),.c (.v (.int .i64 0)),.c (.v (.int .i64 0)),.c (.v (.int .i64 0)),.c (.v (.int .i64 0)),.c (.v (.int .u32 0)),.c (.v (.slice none 0 0)),.c (.v (.slice none 0 0)),.c (.v (.slice none 0 0)),.c (.v (.bool false)),.c (.v (.int .i64 0)),.c (.v (.pointer none)),.c (.v (.pointer none)),.c (.v (.pointer none)),.c (.v (.pointer none)),.c (.v (.pointer none)),.c (.v (.pointer none)),.c (.v (.pointer none)),.c (.v (.pointer none)),.c (.v (.int .i64 0)),.c (.v (.bool false)),.arr 12 (fun _=>(.v (.bool false))),.c (.v (.slice none 0 0)),.c (.v (.slice none 0 0))],[]⟩),
 (28,⟨.slice 153,1,24,.one ((.v (.slice none 0 0))),[]⟩),
 (89,⟨.struct [(0,3),(1,3),(2,3),(3,3),(4,3),(5,3)],6,48,.agg [.c (.v (.int .i64 0)),.c (.v (.int .i64 0)),.c (.v (.int .i64 0)),.c (.v (.int .i64 0)),.c (.v (.int .i64 0)),.c (.v (.int .i64 0))],[]⟩),
 (48,⟨.struct [(0,3),(1,3),(2,4),(3,3),(4,46),(6,4)],7,56,.agg [.c (.v (.int .i64 0)),.c (.v (.int .i64 0)),.c (.v (.bool false)),.c (.v (.int .i64 0)),.c (.v (.int .i64 0)),.c (.v (.int .i64 0)),.c (.v (.bool false))],[.int .i64,.int .i64,.bool,.int .i64,.int .i64,.int .i64,.bool]⟩),
 (99,⟨.ptr 209,1,8,.one ((.v (.pointer none))),[]⟩),
 (8,⟨.struct [(0,2),(1,3),(2,4),(3,6)],4,24,.agg [.c (.v (.int .i64 0)),.c (.v (.int .i64 0)),.c (.v (.bool false)),.c (.v (.int .u8 0))],[]⟩),
 (135,⟨.struct [(0,127),(1,123),(2,128),(3,129),(4,130),(5,131),(6,132),(7,133)],8,64,.agg [.c (.v (.pointer none)),.c (.v (.pointer none)),.c (.v (.pointer none)),.c (.v (.pointer none)),.c (.v (.pointer none)),.c (.v (.pointer none)),.c (.v (.pointer none)),.c (.v (.pointer none))],[]⟩),
 (39,⟨.int .i64,1,8,.one ((.v (.int .i64 0))),[]⟩),
 (46,⟨.struct [(0,3),(1,3)],2,16,.agg [.c (.v (.int .i64 0)),.c (.v (.int .i64 0))],[.int .i64,.int .i64]⟩),
 (29,⟨.slice 155,1,24,.one ((.v (.slice none 0 0))),[]⟩),
 (235,⟨.struct [(0,3),(1,3),(2,46),(4,4),(5,36),(9,228),(13,233)],148,296,.agg [.c (.v (.int .i64 0)),.c (.v (.int .i64 0)),.c (.v (.int .i64 0)),.c (.v (.int .i64 0)),.c (.v (.bool false)),.c (.v (.bool false)),.c (.v (.int .u32 0)),.c (.v (.bool false)),.c (.v (.string .empty)),.c (.v (.bool false)),.c (.v (.string .empty)),.c (.v (.int .i64 0)),.c (.v (.int .i64 0)),.c (.v (.int .u8 0)),.c (.v (.int .i64 0)),.arr 128 (fun _=>(.v (.int .u8 0))),.c (.v (.int .i64 0)),.c (.v (.int .i64 0)),.c (.v (.int .u16 0)),.c (.v (.int .i64 0)),.c (.v (.bool false))],[]⟩),
 (87,⟨.slice 89,1,24,.one ((.v (.slice none 0 0))),[]⟩),
 (153,⟨.struct [(0,26),(1,3),(2,4)],3,24,.agg [.c (.v (.int .u32 0)),.c (.v (.int .i64 0)),.c (.v (.bool false))],[]⟩),
 (49,⟨.other,1,8,.one ((.v .nilFunc)),[]⟩),
 (6,⟨.int .u8,1,1,.one ((.v (.int .u8 0))),[]⟩),
 (7,⟨.struct [(0,2),(1,3),(2,4),(3,6)],4,24,.agg [.c (.v (.int .i64 0)),.c (.v (.int .i64 0)),.c (.v (.bool false)),.c (.v (.int .u8 0))],[]⟩),
 (181,⟨.int .u64,1,8,.one ((.v (.int .u64 0))),[]⟩),
 (108,⟨.slice 98,1,24,.one ((.v (.slice none 0 0))),[]⟩),
 (123,⟨.ptr 235,1,8,.one ((.v (.pointer none))),[]⟩),
 (233,⟨.struct [(0,230),(2,231),(130,3),(131,3),(132,38),(133,3),(134,4)],135,184,.agg [.c (.v (.int .u8 0)),.c (.v (.int .i64 0)),.arr 128 (fun _=>(.v (.int .u8 0))),.c (.v (.int .i64 0)),.c (.v (.int .i64 0)),.c (.v (.int .u16 0)),.c (.v (.int .i64 0)),.c (.v (.bool false))],[]⟩),
 (316,⟨.slice 5,1,24,.one ((.v (.slice none 0 0))),[]⟩),
 (10,⟨.str,1,16,.one ((.v (.string .empty))),[]⟩),
 (263,⟨.int .u64,1,8,.one ((.v (.int .u64 0))),[]⟩),
 (63,⟨.struct [(0,3),(1,9)],2,24,.agg [.c (.v (.int .i64 0)),.c (.v (.string .empty))],[.int .i64,.str]⟩),
 (169,⟨.struct [(0,3),(1,3),(2,38),(3,4)],4,24,.agg [.c (.v (.int .i64 0)),.c (.v (.int .i64 0)),.c (.v (.int .u16 0)),.c (.v (.bool false))],[]⟩),
 (166,⟨.struct [(0,3),(1,36),(5,39)],6,48,.agg [.c (.v (.int .i64 0)),.c (.v (.bool false)),.c (.v (.int .u32 0)),.c (.v (.bool false)),.c (.v (.string .empty)),.c (.v (.int .i64 0))],[]⟩),
 (211,⟨.struct [(0,23),(1,4),(2,3)],3,24,.agg [.c (.v (.pointer none)),.c (.v (.bool false)),.c (.v (.int .i64 0))],[]⟩),
 (128,⟨.ptr 240,1,8,.one ((.v (.pointer none))),[]⟩),
 (131,⟨.ptr 253,1,8,.one ((.v (.pointer none))),[]⟩),
 (184,⟨.ptr 186,1,8,.one ((.v (.pointer none))),[]⟩),
 (218,⟨.ptr 220,1,8,.one ((.v (.pointer none))),[]⟩),
 (60,⟨.slice 63,1,24,.one ((.v (.slice none 0 0))),[]⟩),
 (130,⟨.ptr 251,1,8,.one ((.v (.pointer none))),[]⟩),
 (133,⟨.ptr 260,1,8,.one ((.v (.pointer none))),[]⟩),
 (245,⟨.struct [(0,243),(6,3)],7,40,.agg [.c (.v (.int .i64 0)),.c (.v (.int .u16 0)),.c (.v (.int .u16 0)),.c (.v (.int .i64 0)),.c (.v (.int .u16 0)),.c (.v (.int .u16 0)),.c (.v (.int .i64 0))],[]⟩),
 (286,⟨.struct [(0,3),(1,5)],2,16,.agg [.c (.v (.int .i64 0)),.c (.v (.int .u8 0))],[]⟩),
 (132,⟨.ptr 258,1,8,.one ((.v (.pointer none))),[]⟩),
 (255,⟨.struct [(0,3),(1,3)],2,16,.agg [.c (.v (.int .i64 0)),.c (.v (.int .i64 0))],[.int .i64,.int .i64]⟩),
 (228,⟨.struct [(0,4),(1,9),(2,3),(3,3)],4,40,.agg [.c (.v (.bool false)),.c (.v (.string .empty)),.c (.v (.int .i64 0)),.c (.v (.int .i64 0))],[]⟩),
 (313,⟨.struct [(0,150),(1,3),(2,4)],3,40,.agg [.c (.v (.slice none 0 0)),.c (.v (.int .i64 0)),.c (.v (.bool false))],[]⟩),
 (127,⟨.ptr 226,1,8,.one ((.v (.pointer none))),[]⟩),
 (226,⟨.struct [(0,3),(1,3),(2,3),(3,38)],4,32,.agg [.c (.v (.int .i64 0)),.c (.v (.int .i64 0)),.c (.v (.int .i64 0)),.c (.v (.int .u16 0))],[]⟩),
 (230,⟨.struct [(0,5),(1,3)],2,16,.agg [.c (.v (.int .u8 0)),.c (.v (.int .i64 0))],[]⟩),
 (260,⟨.struct [(0,87),(1,3),(2,3),(3,89),(9,4)],10,96,.agg [.c (.v (.slice none 0 0)),.c (.v (.int .i64 0)),.c (.v (.int .i64 0)),.c (.v (.int .i64 0)),.c (.v (.int .i64 0)),.c (.v (.int .i64 0)),.c (.v (.int .i64 0)),.c (.v (.int .i64 0)),.c (.v (.int .i64 0)),.c (.v (.bool false))],[]⟩),
 (381,⟨.struct [(0,3),(1,3),(2,3)],3,24,.agg [.c (.v (.int .i64 0)),.c (.v (.int .i64 0)),.c (.v (.int .i64 0))],[]⟩),
 (12,⟨.int .u64,1,8,.one ((.v (.int .u64 0))),[]⟩),
 (129,⟨.ptr 245,1,8,.one ((.v (.pointer none))),[]⟩),
 (205,⟨.slice 211,1,24,.one ((.v (.slice none 0 0))),[]⟩),
 (20,⟨.other,1,16,.one ((.v .nilIface)),[]⟩),
 (240,⟨.struct [(0,238),(2,238),(4,3)],5,40,.agg [.c (.v (.int .u16 0)),.c (.v (.int .i64 0)),.c (.v (.int .u16 0)),.c (.v (.int .i64 0)),.c (.v (.int .i64 0))],[]⟩),
 (258,⟨.struct [(0,3),(1,255)],3,24,.agg [.c (.v (.int .i64 0)),.c (.v (.int .i64 0)),.c (.v (.int .i64 0))],[]⟩),
 (209,⟨.struct [(0,9),(1,205),(2,206)],3,48,.agg [.c (.v (.string .empty)),.c (.v (.slice none 0 0)),.c (.v (.pointer none))],[]⟩),
 (251,⟨.struct [(0,31),(11,3),(12,247),(13,247),(14,248)],15,168,.agg [.c (.v (.int .i64 0)),.c (.v (.int .i64 0)),.c (.v (.int .i64 0)),.c (.v (.int .i64 0)),.c (.v (.int .i64 0)),.c (.v (.int .i64 0)),.c (.v (.int .i64 0)),.c (.v (.int .u32 0)),.c (.v (.slice none 0 0)),.c (.v (.slice none 0 0)),.c (.v (.slice none 0 0)),.c (.v (.int .i64 0)),.c (.v (.map none)),.c (.v (.map none)),.c (.v (.pointer none))],[]⟩),
 (332,⟨.other,1,8,.one ((.v .nilFunc)),[]⟩),
 (186,⟨.struct [(0,9),(1,4)],2,24,.agg [.c (.v (.string .empty)),.c (.v (.bool false))],[]⟩),
 (334,⟨.struct [(0,4),(1,4)],2,2,.agg [.c (.v (.bool false)),.c (.v (.bool false))],[]⟩),
 (16,⟨.ptr 395,1,8,.one ((.v (.pointer none))),[]⟩),
 (163,⟨.slice 166,1,24,.one ((.v (.slice none 0 0))),[]⟩),
 (238,⟨.struct [(0,236),(1,3)],2,16,.agg [.c (.v (.int .u16 0)),.c (.v (.int .i64 0))],[]⟩),
 (243,⟨.arr 2 242,6,32,.agg [.c (.v (.int .i64 0)),.c (.v (.int .u16 0)),.c (.v (.int .u16 0)),.c (.v (.int .i64 0)),.c (.v (.int .u16 0)),.c (.v (.int .u16 0))],[]⟩),
 (247,⟨.map 3 9,1,8,.one ((.v (.map none))),[]⟩),
 (253,⟨.struct [(0,27)],1,24,.agg [.c (.v (.slice none 0 0))],[]⟩),
 (220,⟨.struct [(0,9),(1,4)],2,24,.agg [.c (.v (.string .empty)),.c (.v (.bool false))],[]⟩),
 (242,⟨.struct [(0,3),(1,38),(2,38)],3,16,.agg [.c (.v (.int .i64 0)),.c (.v (.int .u16 0)),.c (.v (.int .u16 0))],[]⟩),
 (248,⟨.ptr 327,1,8,.one ((.v (.pointer none))),[]⟩),
 (64,⟨.other,1,8,.one ((.v .nilFunc)),[]⟩),
 (206,⟨.ptr 313,1,8,.one ((.v (.pointer none))),[]⟩),
 (213,⟨.ptr 211,1,8,.one ((.v (.pointer none))),[]⟩),
 (325,⟨.chan 63,1,8,.one ((.v (.chan none))),[]⟩),
 (114,⟨.other,1,8,.one ((.v .nilFunc)),[]⟩),
 (145,⟨.other,1,8,.one ((.v .nilFunc)),[]⟩),
 (256,⟨.other,1,8,.one ((.v .nilFunc)),[]⟩),
 (327,⟨.struct [(0,325)],1,8,.agg [.c (.v (.chan none))],[]⟩),
 (382,⟨.arr 2 381,6,48,.agg [.c (.v (.int .i64 0)),.c (.v (.int .i64 0)),.c (.v (.int .i64 0)),.c (.v (.int .i64 0)),.c (.v (.int .i64 0)),.c (.v (.int .i64 0))],[]⟩),
 (32,⟨.other,1,8,.one ((.v .nilFunc)),[]⟩),
 (115,⟨.other,1,8,.one ((.v .nilFunc)),[]⟩),
 (120,⟨.other,1,8,.one ((.v .nilFunc)),[]⟩),
 (250,⟨.struct [(0,31),(11,3),(12,247),(13,247),(14,248)],15,168,.agg [.c (.v (.int .i64 0)),.c (.v (.int .i64 0)),.c (.v (.int .i64 0)),.c (.v (.int .i64 0)),.c (.v (.int .i64 0)),.c (.v (.int .i64 0)),.c (.v (.int .i64 0)),.c (.v (.int .u32 0)),.c (.v (.slice none 0 0)),.c (.v (.slice none 0 0)),.c (.v (.slice none 0 0)),.c (.v (.int .i64 0)),.c (.v (.map none)),.c (.v (.map none)),.c (.v (.pointer none))],[]⟩),
 (337,⟨.ptr 233,1,8,.one ((.v (.pointer none))),[]⟩),
 (364,⟨.arr 4 334,8,8,.agg [.c (.v (.bool false)),.c (.v (.bool false)),.c (.v (.bool false)),.c (.v (.bool false)),.c (.v (.bool false)),.c (.v (.bool false)),.c (.v (.bool false)),.c (.v (.bool false))],[]⟩),
 (18,⟨.struct [(0,17)],1,8,.agg [.c (.v (.pointer none))],[]⟩),
 (105,⟨.other,1,8,.one ((.v .nilFunc)),[]⟩),
 (116,⟨.other,1,8,.one ((.v .nilFunc)),[]⟩),
 (140,⟨.other,1,8,.one ((.v .nilFunc)),[]⟩),
 (280,⟨.other,1,8,.one ((.v .nilFunc)),[]⟩),
 (11,⟨.str,1,16,.one ((.v (.string .empty))),[]⟩),
 (15,⟨.ptr 392,1,8,.one ((.v (.pointer none))),[]⟩),
 (40,⟨.other,1,8,.one ((.v .nilFunc)),[]⟩),
 (50,⟨.other,1,8,.one ((.v .nilFunc)),[]⟩),
 (101,⟨.other,1,8,.one ((.v .nilFunc)),[]⟩),
 (136,⟨.arr 12 4,12,12,.agg [.arr 12 (fun _=>(.v (.bool false)))],[]⟩),
 (141,⟨.other,1,8,.one ((.v .nilFunc)),[]⟩),
 (142,⟨.other,1,8,.one ((.v .nilFunc)),[]⟩),
 (200,⟨.other,1,8,.one ((.v .nilFunc)),[]⟩),
 (13,⟨.struct [(0,9),(1,12)],2,24,.agg [.c (.v (.string .empty)),.c (.v (.int .u64 0))],[]⟩),
 (14,⟨.struct [(0,9),(1,12)],2,24,.agg [.c (.v (.string .empty)),.c (.v (.int .u64 0))],[]⟩),
 (51,⟨.slice 9,1,24,.one ((.v (.slice none 0 0))),[]⟩),
 (79,⟨.other,1,8,.one ((.v .nilFunc)),[]⟩),
 (100,⟨.other,1,8,.one ((.v .nilFunc)),[]⟩),
 (223,⟨.slice 140,1,24,.one ((.v (.slice none 0 0))),[]⟩),
 (231,⟨.arr 128 5,128,128,.agg [.arr 128 (fun _=>(.v (.int .u8 0)))],[]⟩),
 (236,⟨.arr 1 38,1,2,.agg [.c (.v (.int .u16 0))],[]⟩),
 (314,⟨.arr 8 5,8,8,.agg [.arr 8 (fun _=>(.v (.int .u8 0)))],[]⟩),
 (344,⟨.slice 38,1,24,.one ((.v (.slice none 0 0))),[]⟩),
 (400,⟨.int .i32,1,4,.one ((.v (.int .i32 0))),[]⟩),
 (77,⟨.struct [(0,3),(1,3),(2,3),(3,3),(4,38),(5,3),(6,9)],7,64,.agg [.c (.v (.int .i64 0)),.c (.v (.int .i64 0)),.c (.v (.int .i64 0)),.c (.v (.int .i64 0)),.c (.v (.int .u16 0)),.c (.v (.int .i64 0)),.c (.v (.string .empty))],[]⟩),
 (80,⟨.ptr 292,1,8,.one ((.v (.pointer none))),[]⟩),
 (97,⟨.struct [(0,3),(1,3),(2,3),(3,9)],4,40,.agg [.c (.v (.int .i64 0)),.c (.v (.int .i64 0)),.c (.v (.int .i64 0)),.c (.v (.string .empty))],[]⟩),
 (109,⟨.other,1,8,.one ((.v .nilFunc)),[]⟩),
 (112,⟨.other,1,8,.one ((.v .nilFunc)),[]⟩),
 (121,⟨.other,1,8,.one ((.v .nilFunc)),[]⟩),
 (143,⟨.other,1,8,.one ((.v .nilFunc)),[]⟩),
 (144,⟨.other,1,8,.one ((.v .nilFunc)),[]⟩),
 (300,⟨.struct [(0,31),(11,3),(12,51),(13,90),(14,51),(15,90),(16,297)],17,248,.agg [.c (.v (.int .i64 0)),.c (.v (.int .i64 0)),.c (.v (.int .i64 0)),.c (.v (.int .i64 0)),.c (.v (.int .i64 0)),.c (.v (.int .i64 0)),.c (.v (.int .i64 0)),.c (.v (.int .u32 0)),.c (.v (.slice none 0 0)),.c (.v (.slice none 0 0)),.c (.v (.slice none 0 0)),.c (.v (.int .i64 0)),.c (.v (.slice none 0 0)),.c (.v (.slice none 0 0)),.c (.v (.slice none 0 0)),.c (.v (.slice none 0 0)),.c (.v (.pointer none))],[]⟩),
 (318,⟨.other,1,8,.one ((.v .nilFunc)),[]⟩),
 (345,⟨.slice 242,1,24,.one ((.v (.slice none 0 0))),[]⟩),
 (19,⟨.struct [(0,17)],1,8,.agg [.c (.v (.pointer none))],[]⟩),
 (35,⟨.struct [(0,4),(1,26),(2,4),(3,9)],4,32,.agg [.c (.v (.bool false)),.c (.v (.int .u32 0)),.c (.v (.bool false)),.c (.v (.string .empty))],[]⟩),
 (71,⟨.other,1,8,.one ((.v .nilFunc)),[]⟩),
 (72,⟨.other,1,8,.one ((.v .nilFunc)),[]⟩),
 (73,⟨.slice 77,1,24,.one ((.v (.slice none 0 0))),[]⟩),
 (104,⟨.other,1,8,.one ((.v .nilFunc)),[]⟩),
 (110,⟨.other,1,8,.one ((.v .nilFunc)),[]⟩),
 (119,⟨.other,1,8,.one ((.v .nilFunc)),[]⟩),
 (171,⟨.other,1,8,.one ((.v .nilFunc)),[]⟩),
 (188,⟨.other,1,8,.one ((.v .nilFunc)),[]⟩),
 (222,⟨.ptr 31,1,8,.one ((.v (.pointer none))),[]⟩),
 (17,⟨.ptr 403,1,8,.one ((.v (.pointer none))),[]⟩),
 (21,⟨.int .i32,1,4,.one ((.v (.int .i32 0))),[]⟩),
 (30,⟨.struct [(0,3),(1,3),(2,3),(3,3),(4,3),(5,3),(6,3),(7,26),(8,27),(9,28),(10,29)],11,136,.agg [.c (.v (.int .i64 0)),.c (.v (.int .i64 0)),.c (.v (.int .i64 0)),.c (.v (.int .i64 0)),.c (.v (.int .i64 0)),.c (.v (.int .i64 0)),.c (.v (.int .i64 0)),.c (.v (.int .u32 0)),.c (.v (.slice none 0 0)),.c (.v (.slice none 0 0)),.c (.v (.slice none 0 0))],[]⟩),
 (45,⟨.struct [(0,3),(1,3)],2,16,.agg [.c (.v (.int .i64 0)),.c (.v (.int .i64 0))],[]⟩),
 (47,⟨.struct [(0,3),(1,3),(2,4),(3,3),(4,46),(6,4)],7,56,.agg [.c (.v (.int .i64 0)),.c (.v (.int .i64 0)),.c (.v (.bool false)),.c (.v (.int .i64 0)),.c (.v (.int .i64 0)),.c (.v (.int .i64 0)),.c (.v (.bool false))],[]⟩),
 (62,⟨.struct [(0,3),(1,9)],2,24,.agg [.c (.v (.int .i64 0)),.c (.v (.string .empty))],[]⟩),
 (76,⟨.struct [(0,3),(1,3),(2,3),(3,3),(4,38),(5,3),(6,9)],7,64,.agg [.c (.v (.int .i64 0)),.c (.v (.int .i64 0)),.c (.v (.int .i64 0)),.c (.v (.int .i64 0)),.c (.v (.int .u16 0)),.c (.v (.int .i64 0)),.c (.v (.string .empty))],[]⟩),
 (88,⟨.struct [(0,3),(1,3),(2,3),(3,3),(4,3),(5,3)],6,48,.agg [.c (.v (.int .i64 0)),.c (.v (.int .i64 0)),.c (.v (.int .i64 0)),.c (.v (.int .i64 0)),.c (.v (.int .i64 0)),.c (.v (.int .i64 0))],[]⟩),
 (90,⟨.slice 4,1,24,.one ((.v (.slice none 0 0))),[]⟩),
 (134,⟨.struct [(0,127),(1,123),(2,128),(3,129),(4,130),(5,131),(6,132),(7,133)],8,64,.agg [.c (.v (.pointer none)),.c (.v (.pointer none)),.c (.v (.pointer none)),.c (.v (.pointer none)),.c (.v (.pointer none)),.c (.v (.pointer none)),.c (.v (.pointer none)),.c (.v (.pointer none))],[]⟩),
 (137,⟨.struct [(0,31),(11,4),(12,3),(13,135),(21,3),(22,4),(23,136),(35,60),(36,27)],37,288,.agg [.c (.v (.int .i64 0)),.c (.v (.int .i64 0)),.c (.v (.int .i64 0)),.c (.v (.int .i64 0)),.c (.v (.int .i64 0)),.c (.v (.int .i64 0)),.c (.v (.int .i64 0)),.c (.v (.int .u32 0)),.c (.v (.slice none 0 0)),.c (.v (.slice none 0 0)),.c (.v (.slice none 0 0)),.c (.v (.bool false)),.c (.v (.int .i64 0)),.c (.v (.pointer none)),.c (.v (.pointer none)),.c (.v (.pointer none)),.c (.v (.pointer none)),.c (.v (.pointer none)),.c (.v (.pointer none)),.c (.v (.pointer none)),.c (.v (.pointer none)),.c (.v (.int .i64 0)),.c (.v (.bool false)),.arr 12 (fun _=>(.v (.bool false))),.c (.v (.slice none 0 0)),.c (.v (.slice none 0 0))],[]⟩),
 (152,⟨.struct [(0,26),(1,3),(2,4)],3,24,.agg [.c (.v (.int .u32 0)),.c (.v (.int .i64 0)),.c (.v (.bool false))],[]⟩),
 (154,⟨.struct [(0,3),(1,3),(2,3),(3,3),(4,3),(5,3)],6,48,.agg [.c (.v (.int .i64 0)),.c (.v (.int .i64 0)),.c (.v (.int .i64 0)),.c (.v (.int .i64 0)),.c (.v (.int .i64 0)),.c (.v (.int .i64 0))],[]⟩),
 (165,⟨.struct [(0,3),(1,36),(5,39)],6,48,.agg [.c (.v (.int .i64 0)),.c (.v (.bool false)),.c (.v (.int .u32 0)),.c (.v (.bool false)),.c (.v (.string .empty)),.c (.v (.int .i64 0))],[]⟩),
 (168,⟨.struct [(0,3),(1,3),(2,38),(3,4)],4,24,.agg [.c (.v (.int .i64 0)),.c (.v (.int .i64 0)),.c (.v (.int .u16 0)),.c (.v (.bool false))],[]⟩),
 (185,⟨.struct [(0,9),(1,4)],2,24,.agg [.c (.v (.string .empty)),.c (.v (.bool false))],[]⟩),
 (208,⟨.struct [(0,9),(1,205),(2,206)],3,48,.agg [.c (.v (.string .empty)),.c (.v (.slice none 0 0)),.c (.v (.pointer none))],[]⟩),
 (210,⟨.struct [(0,23),(1,4),(2,3)],3,24,.agg [.c (.v (.pointer none)),.c (.v (.bool false)),.c (.v (.int .i64 0))],[]⟩),
 (219,⟨.struct [(0,9),(1,4)],2,24,.agg [.c (.v (.string .empty)),.c (.v (.bool false))],[]⟩),
 (225,⟨.struct [(0,3),(1,3),(2,3),(3,38)],4,32,.agg [.c (.v (.int .i64 0)),.c (.v (.int .i64 0)),.c (.v (.int .i64 0)),.c (.v (.int .u16 0))],[]⟩),
 (227,⟨.struct [(0,4),(1,9),(2,3),(3,3)],4,40,.agg [.c (.v (.bool false)),.c (.v (.string .empty)),.c (.v (.int .i64 0)),.c (.v (.int .i64 0))],[]⟩),
 (229,⟨.struct [(0,5),(1,3)],2,16,.agg [.c (.v (.int .u8 0)),.c (.v (.int .i64 0))],[]⟩),
 (232,⟨.struct [(0,230),(2,231),(130,3),(131,3),(132,38),(133,3),(134,4)],135,184,.agg [.c (.v (.int .u8 0)),.c (.v (.int .i64 0)),.arr 128 (fun _=>(.v (.int .u8 0))),.c (.v (.int .i64 0)),.c (.v (.int .i64 0)),.c (.v (.int .u16 0)),.c (.v (.int .i64 0)),.c (.v (.bool false))],[]⟩),
 (234,⟨.struct [(0,3),(1,3),(2,46),(4,4),(5,36),(9,228),(13,233)],148,296,.agg [.c (.v (.int .i64 0)),.c (.v (.int .i64 0)),.c (.v (.int .i64 0)),.c (.v (.int .i64 0)),.c (.v (.bool false)),.c (.v (.bool false)),.c (.v (.int .u32 0)),.c (.v (.bool false)),.c (.v (.string .empty)),.c (.v (.bool false)),.c (.v (.string .empty)),.c (.v (.int .i64 0)),.c (.v (.int .i64 0)),.c (.v (.int .u8 0)),.c (.v (.int .i64 0)),.arr 128 (fun _=>(.v (.int .u8 0))),.c (.v (.int .i64 0)),.c (.v (.int .i64 0)),.c (.v (.int .u16 0)),.c (.v (.int .i64 0)),.c (.v (.bool false))],[]⟩),
 (237,⟨.struct [(0,236),(1,3)],2,16,.agg [.c (.v (.int .u16 0)),.c (.v (.int .i64 0))],[]⟩),
 (239,⟨.struct [(0,238),(2,238),(4,3)],5,40,.agg [.c (.v (.int .u16 0)),.c (.v (.int .i64 0)),.c (.v (.int .u16 0)),.c (.v (.int .i64 0)),.c (.v (.int .i64 0))],[]⟩),
 (241,⟨.struct [(0,3),(1,38),(2,38)],3,16,.agg [.c (.v (.int .i64 0)),.c (.v (.int .u16 0)),.c (.v (.int .u16 0))],[]⟩),
 (244,⟨.struct [(0,243),(6,3)],7,40,.agg [.c (.v (.int .i64 0)),.c (.v (.int .u16 0)),.c (.v (.int .u16 0)),.c (.v (.int .i64 0)),.c (.v (.int .u16 0)),.c (.v (.int .u16 0)),.c (.v (.int .i64 0))],[]⟩),
 (252,⟨.struct [(0,27)],1,24,.agg [.c (.v (.slice none 0 0))],[]⟩),
 (254,⟨.struct [(0,3),(1,3)],2,16,.agg [.c (.v (.int .i64 0)),.c (.v (.int .i64 0))],[]⟩),
 (257,⟨.struct [(0,3),(1,255)],3,24,.agg [.c (.v (.int .i64 0)),.c (.v (.int .i64 0)),.c (.v (.int .i64 0))],[]⟩),
 (259,⟨.struct [(0,87),(1,3),(2,3),(3,89),(9,4)],10,96,.agg [.c (.v (.slice none 0 0)),.c (.v (.int .i64 0)),.c (.v (.int .i64 0)),.c (.v (.int .i64 0)),.c (.v (.int .i64 0)),.c (.v (.int .i64 0)),.c (.v (.int .i64 0)),.c (.v (.int .i64 0)),.c (.v (.int .i64 0)),.c (.v (.bool false))],[]⟩),
 (285,⟨.struct [(0,3),(1,5)],2,16,.agg [.c (.v (.int .i64 0)),.c (.v (.int .u8 0))],[]⟩),
 (291,⟨.struct [(0,38),(1,3),(2,3),(3,3)],4,32,.agg [.c (.v (.int .u16 0)),.c (.v (.int .i64 0)),.c (.v (.int .i64 0)),.c (.v (.int .i64 0))],[]⟩),
 (292,⟨.struct [(0,38),(1,3),(2,3),(3,3)],4,32,.agg [.c (.v (.int .u16 0)),.c (.v (.int .i64 0)),.c (.v (.int .i64 0)),.c (.v (.int .i64 0))],[]⟩),
 (297,⟨.ptr 352,1,8,.one ((.v (.pointer none))),[]⟩),
 (299,⟨.struct [(0,31),(11,3),(12,51),(13,90),(14,51),(15,90),(16,297)],17,248,.agg [.c (.v (.int .i64 0)),.c (.v (.int .i64 0)),.c (.v (.int .i64 0)),.c (.v (.int .i64 0)),.c (.v (.int .i64 0)),.c (.v (.int .i64 0)),.c (.v (.int .i64 0)),.c (.v (.int .u32 0)),.c (.v (.slice none 0 0)),.c (.v (.slice none 0 0)),.c (.v (.slice none 0 0)),.c (.v (.int .i64 0)),.c (.v (.slice none 0 0)),.c (.v (.slice none 0 0)),.c (.v (.slice none 0 0)),.c (.v (.slice none 0 0)),.c (.v (.pointer none))],[]⟩),
 (312,⟨.struct [(0,150),(1,3),(2,4)],3,40,.agg [.c (.v (.slice none 0 0)),.c (.v (.int .i64 0)),.c (.v (.bool false))],[]⟩),
 (326,⟨.struct [(0,325)],1,8,.agg [.c (.v (.chan none))],[]⟩),
 (333,⟨.struct [(0,4),(1,4)],2,2,.agg [.c (.v (.bool false)),.c (.v (.bool false))],[]⟩),
 (351,⟨.struct [(0,3),(1,60)],2,32,.agg [.c (.v (.int .i64 0)),.c (.v (.slice none 0 0))],[]⟩),
 (352,⟨.struct [(0,3),(1,60)],2,32,.agg [.c (.v (.int .i64 0)),.c (.v (.slice none 0 0))],[]⟩),
 (380,⟨.struct [(0,3),(1,3),(2,3)],3,24,.agg [.c (.v (.int .i64 0)),.c (.v (.int .i64 0)),.c (.v (.int .i64 0))],[]⟩),
 (391,⟨.struct [(0,17),(1,17),(2,17),(3,9)],4,40,.agg [.c (.v (.pointer none)),.c (.v (.pointer none)),.c (.v (.pointer none)),.c (.v (.string .empty))],[]⟩),
 (392,⟨.struct [(0,17),(1,17),(2,17),(3,9)],4,40,.agg [.c (.v (.pointer none)),.c (.v (.pointer none)),.c (.v (.pointer none)),.c (.v (.string .empty))],[]⟩),
 (393,⟨.arr 0 16,0,0,.agg [],[]⟩),
 (394,⟨.struct [(0,393)],0,0,.agg [],[]⟩),
 (395,⟨.struct [(0,393)],0,0,.agg [],[]⟩),
 (396,⟨.int .u8,1,1,.one ((.v (.int .u8 0))),[]⟩),
 (397,⟨.int .u8,1,1,.one ((.v (.int .u8 0))),[]⟩),
 (398,⟨.other,1,8,.one ((.v .nilFunc)),[]⟩),
 (399,⟨.ptr 5,1,8,.one ((.v (.pointer none))),[]⟩),
 (401,⟨.int .i32,1,4,.one ((.v (.int .i32 0))),[]⟩),
 (402,⟨.struct [(0,12),(1,12),(2,26),(3,396),(4,5),(5,5),(6,397),(7,398),(8,399),(9,400),(10,401)],11,48,.agg [.c (.v (.int .u64 0)),.c (.v (.int .u64 0)),.c (.v (.int .u32 0)),.c (.v (.int .u8 0)),.c (.v (.int .u8 0)),.c (.v (.int .u8 0)),.c (.v (.int .u8 0)),.c (.v .nilFunc),.c (.v (.pointer none)),.c (.v (.int .i32 0)),.c (.v (.int .i32 0))],[]⟩),
 (403,⟨.struct [(0,12),(1,12),(2,26),(3,396),(4,5),(5,5),(6,397),(7,398),(8,399),(9,400),(10,401)],11,48,.agg [.c (.v (.int .u64 0)),.c (.v (.int .u64 0)),.c (.v (.int .u32 0)),.c (.v (.int .u8 0)),.c (.v (.int .u8 0)),.c (.v (.int .u8 0)),.c (.v (.int .u8 0)),.c (.v .nilFunc),.c (.v (.pointer none)),.c (.v (.int .i32 0)),.c (.v (.int .i32 0))],[]⟩)]
theorem ttOk : TTok Tryz.prog tt:=ttB_ok (by kernel_rfl)
noncomputable abbrev mk (n : Nat) (F : Func) (p : Pl) (u : Nat → Nat) : Eng.Fn:=⟨n,F.body.getD .skip,F.results.toList,p,u⟩
abbrev OkF (D : Nat) (f : FuncId) (fn : (Nat → Nat) → Eng.Fn) : Prop:=∀ (u : Nat → Nat) (cl : Cl),ClOk Tryz.prog cl → FnOk Tryz.prog cl tt D f (fn u)
theorem fo {D : Nat} {f : FuncId} {F : Func} {n : Nat} {p : Pl} (h1 : Tryz.prog.funcs[f]? = some F) (h2 : F.body = some (F.body.getD .skip) := by kernel_rfl) (h3 : (F.name == "runtime.NumGoroutine") = false := by kernel_rfl) (h4 : F.ntmps = n := by kernel_rfl) (h6 : plansB p (F.body.getD .skip) = true := by kernel_rfl) : OkF D f (mk n F p) := fun u cl hc => fn_ok mixed hc ttOk h1 h2 h3 h4 rfl h6
abbrev F.law24_NodeSilent : FuncId:=5
noncomputable def fn.law24_NodeSilent : (Nat → Nat) → Eng.Fn:=mk 52 Tryz.f5 []
theorem ok.law24_NodeSilent {D : Nat} : OkF D F.law24_NodeSilent fn.law24_NodeSilent:=fo Tryz.func5
abbrev F.law24_known : FuncId:=19
noncomputable def fn.law24_known : (Nat → Nat) → Eng.Fn:=mk 65 Tryz.f19 []
theorem ok.law24_known {D : Nat} : OkF D F.law24_known fn.law24_known:=fo Tryz.func19
abbrev F.node_New : FuncId:=20
noncomputable def fn.node_New : (Nat → Nat) → Eng.Fn:=mk 66 Tryz.f20 [(8,(.op 0 (.op 1 (.op 6 (.op 7 (.op 9 (.op 10 (.op 11 (.op 13 (.op 15 (.op 16 (.ch 2 (.re 6 (.re 7 (.re 9 (.re 10 (.re 11 (.re 13 (.re 15 (.re 16 (.ch 3 (.re 6 (.re 7 (.re 9 (.re 10 (.re 11 (.re 13 (.re 15 (.re 16 (.ch 4 (.re 6 (.re 7 (.re 9 (.re 10 (.re 11 (.re 13 (.re 15 (.re 16 (.ch 5 (.re 6 (.re 7 (.re 9 (.re 10 (.re 11 (.re 13 (.re 15 (.re 16 (.ch 8 (.re 9 (.re 10 (.re 11 (.re 13 (.re 15 (.re 16 (.ch 12 (.re 13 (.re 15 (.re 16 (.ch 14 (.re 15 (.re 16 (.ch 17 (.op 18 (.ch 19 (.re 18 (.ch 20 .stop .nil)) .nil)) (.ch 19 (.re 15 (.re 16 (.ch 17 (.op 18 (.ch 20 .stop .nil)) .nil))) .nil)))) (.ch 19 (.re 13 (.re 15 (.re 16 (.ch 14 (.re 15 (.re 16 (.ch 17 (.op 18 (.ch 20 .stop .nil)) .nil))) .nil)))) .nil))))) (.ch 19 (.re 9 (.re 10 (.re 11 (.re 13 (.re 15 (.re 16 (.ch 12 (.re 13 (.re 15 (.re 16 (.ch 14 (.re 15 (.re 16 (.ch 17 (.op 18 (.ch 20 .stop .nil)) .nil))) .nil)))) .nil))))))) .nil)))))))) (.ch 19 (.re 6 (.re 7 (.re 9 (.re 10 (.re 11 (.re 13 (.re 15 (.re 16 (.ch 8 (.re 9 (.re 10 (.re 11 (.re 13 (.re 15 (.re 16 (.ch 12 (.re 13 (.re 15 (.re 16 (.ch 14 (.re 15 (.re 16 (.ch 17 (.op 18 (.ch 20 .stop .nil)) .nil))) .nil)))) .nil))))))) .nil))))))))) .nil)))))))))) (.ch 19 (.re 6 (.re 7 (.re 9 (.re 10 (.re 11 (.re 13 (.re 15 (.re 16 (.ch 5 (.re 6 (.re 7 (.re 9 (.re 10 (.re 11 (.re 13 (.re 15 (.re 16 (.ch 8 (.re 9 (.re 10 (.re 11 (.re 13 (.re 15 (.re 16 (.ch 12 (.re 13 (.re 15 (.re 16 (.ch 14 (.re 15 (.re 16 (.ch 17 (.op 18 (.ch 20 .stop .nil)) .nil))) .nil)))) .nil))))))) .nil))))))))) .nil))))))))) .nil)))))))))) (.ch 19 (.re 6 (.re 7 (.re 9 (.re 10 (.re 11 (.re 13 (.re 15 (.re 16 (.ch 4 (.re 6 (.re 7 (.re 9 (.re 10 (.re 11 (.re 13 (.re 15 (.re 16 (.ch 5 (.re 6 (.re 7 (.re 9 (.re 10 (.re 11 (.re 13 (.re 15 (.re 16 (.ch 8 (.re 9 (.re 10 (.re 11 (.re 13 (.re 15 (.re 16 (.ch 12 (.re 13 (.re 15 (.re 16 (.ch 14 (.re 15 (.re 16 (.ch 17 (.op 18 (.ch 20 .stop .nil)) .nil))) .nil)))) .nil))))))) .nil))))))))) .nil))))))))) .nil))))))))) .nil)))))))))) (.ch 19 (.re 6 (.re 7 (.re 9 (.re 10 (.re 11 (.re 13 (.re 15 (.re 16 (.ch 3 (.re 6 (.re 7 (.re 9 (.re 10 (.re 11 (.re 13 (.re 15 (.re 16 (.ch 4 (.re 6 (.re 7 (.re 9 (.re 10 (.re 11 (.re 13 (.re 15 (.re 16 (.ch 5 (.re 6 (.re 7 (.re 9 (.re 10 (.re 11 (.re 13 (.re 15 (.re 16 (.ch 8 (.re 9 (.re 10 (.re 11 (.re 13 (.re 15 (.re 16 (.ch 12 (.re 13 (.re 15 (.re 16 (.ch 14 (.re 15 (.re 16 (.ch 17 (.op 18 (.ch 20 .stop .nil)) .nil))) .nil)))) .nil))))))) .nil))))))))) .nil))))))))) .nil))))))))) .nil))))))))) .nil)))))))))) (.ch 19 (.re 0 (.re 1 (.re 6 (.re 7 (.re 9 (.re 10 (.re 11 (.re 13 (.re 15 (.re 16 (.ch 2 (.re 6 (.re 7 (.re 9 (.re 10 (.re 11 (.re 13 (.re 15 (.re 16 (.ch 3 (.re 6 (.re 7 (.re 9 (.re 10 (.re 11 (.re 13 (.re 15 (.re 16 (.ch 4 (.re 6 (.re 7 (.re 9 (.re 10 (.re 11 (.re 13 (.re 15 (.re 16 (.ch 5 (.re 6 (.re 7 (.re 9 (.re 10 (.re 11 (.re 13 (.re 15 (.re 16 (.ch 8 (.re 9 (.re 10 (.re 11 (.re 13 (.re 15 (.re 16 (.ch 12 (.re 13 (.re 15 (.re 16 (.ch 14 (.re 15 (.re 16 (.ch 17 (.op 18 (.ch 20 .stop .nil)) .nil))) .nil)))) .nil))))))) .nil))))))))) .nil))))))))) .nil))))))))) .nil))))))))) .nil))))))))))) .nil)))))))))))))]
theorem ok.node_New {D : Nat} : OkF D F.node_New fn.node_New:=fo Tryz.func20
abbrev F.ref12_Print : FuncId:=21
noncomputable def fn.ref12_Print : (Nat → Nat) → Eng.Fn:=mk 148 Tryz.f21 [(4,(.op 0 (.op 1 (.op 2 (.op 3 (.op 4 (.op 5 (.op 6 (.op 9 (.op 10 (.ch 7 (.re 0 (.re 9 (.re 10 (.ch 8 (.re 9 (.re 10 (.ch 11 (.ch 12 .stop .nil) .nil))) .nil)))) .nil))))))))))),(5,(.op 0 (.op 1 (.op 2 (.op 3 (.op 5 (.op 6 (.op 7 (.op 8 (.ch 4 (.re 5 (.re 6 (.re 7 (.re 8 (.ch 9 (.ch 10 (.ch 11 .stop .nil) .nil) .nil))))) (.ch 9 (.re 0 (.re 1 (.re 2 (.re 3 (.ch 4 (.ch 10 (.ch 11 .stop .nil) .nil) .nil))))) .nil))))))))))),(17,(.op 0 (.op 1 (.op 2 (.op 3 (.op 4 (.op 5 (.op 6 (.op 7 (.op 9 (.op 10 (.op 11 (.op 12 (.op 13 (.op 14 (.op 15 (.op 16 (.ch 8 (.re 9 (.re 10 (.re 11 (.re 12 (.re 13 (.re 14 (.re 15 (.re 16 (.ch 17 (.ch 18 (.ch 19 .stop .nil) .nil) .nil))))))))) (.ch 17 (.re 0 (.re 1 (.re 2 (.re 3 (.re 4 (.re 5 (.re 6 (.re 7 (.ch 8 (.ch 18 (.ch 19 .stop .nil) .nil) .nil))))))))) .nil))))))))))))))))))),(23,(.op 0 (.op 1 (.op 2 (.op 3 (.op 6 (.op 7 (.op 9 (.op 10 (.ch 4 (.re 0 (.re 6 (.re 7 (.re 9 (.re 10 (.ch 5 (.re 6 (.re 7 (.re 9 (.re 10 (.ch 8 (.re 9 (.re 10 (.ch 11 (.ch 12 .stop .nil) .nil))) .nil))))) .nil)))))) .nil))))))))))]
theorem ok.ref12_Print {D : Nat} : OkF D F.ref12_Print fn.ref12_Print:=fo Tryz.func21
abbrev F.law24_least : FuncId:=22
noncomputable def fn.law24_least : (Nat → Nat) → Eng.Fn:=mk 9 Tryz.f22 []
theorem ok.law24_least {D : Nat} : OkF D F.law24_least fn.law24_least:=fo Tryz.func22
abbrev F.node_Node_Send : FuncId:=26
noncomputable def fn.node_Node_Send : (Nat → Nat) → Eng.Fn:=mk 20 Tryz.f26 []
theorem ok.node_Node_Send {D : Nat} : OkF D F.node_Node_Send fn.node_Node_Send:=fo Tryz.func26
abbrev F.node_Node_Tick : FuncId:=27
noncomputable def fn.node_Node_Tick : (Nat → Nat) → Eng.Fn:=mk 92 Tryz.f27 []
theorem ok.node_Node_Tick {D : Nat} : OkF D F.node_Node_Tick fn.node_Node_Tick:=fo Tryz.func27
abbrev F.node_Node_Drive : FuncId:=28
noncomputable def fn.node_Node_Drive : (Nat → Nat) → Eng.Fn:=mk 14 Tryz.f28 []
theorem ok.node_Node_Drive {D : Nat} : OkF D F.node_Node_Drive fn.node_Node_Drive:=fo Tryz.func28
abbrev F.node_Node_Sample : FuncId:=29
noncomputable def fn.node_Node_Sample : (Nat → Nat) → Eng.Fn:=mk 81 Tryz.f29 [(7,(.op 0 (.op 1 (.op 2 (.op 3 (.op 4 (.op 5 (.op 6 (.op 7 (.op 8 (.op 9 (.ch 10 (.re 0 (.re 1 (.re 2 (.re 3 (.re 4 (.ch 11 .stop .nil)))))) .nil)))))))))))),(10,(.op 0 (.op 1 (.op 2 (.op 3 (.op 4 (.op 5 (.ch 6 (.op 7 (.op 8 (.op 9 (.ch 10 (.re 7 (.re 8 (.re 9 (.ch 11 (.re 9 (.op 12 .stop)) .nil)))) .nil)))) (.ch 10 (.re 0 (.re 1 (.re 2 (.re 3 (.re 4 (.re 5 (.ch 6 (.op 7 (.op 8 (.op 9 (.ch 11 (.re 9 (.op 12 .stop)) .nil)))) .nil))))))) .nil))))))))),(15,(.op 0 (.op 1 (.op 2 (.op 3 (.op 4 (.op 5 (.ch 6 (.op 7 .stop) .nil))))))))]
theorem ok.node_Node_Sample {D : Nat} : OkF D F.node_Node_Sample fn.node_Node_Sample:=fo Tryz.func29
abbrev F.node_Node_Status : FuncId:=30
noncomputable def fn.node_Node_Status : (Nat → Nat) → Eng.Fn:=mk 37 Tryz.f30 [(4,(.op 0 (.op 1 (.op 2 (.op 3 (.op 4 (.op 6 (.op 8 (.op 10 (.op 11 (.op 12 (.op 13 (.op 14 (.op 16 (.op 17 (.ch 5 (.re 6 (.re 8 (.re 10 (.re 11 (.re 12 (.re 13 (.re 14 (.re 16 (.re 17 (.ch 7 (.re 8 (.re 10 (.re 11 (.re 12 (.re 13 (.re 14 (.re 16 (.re 17 (.ch 9 (.re 10 (.re 11 (.re 12 (.re 13 (.re 14 (.re 16 (.re 17 (.ch 15 (.re 16 (.re 17 (.ch 18 (.re 16 (.op 19 (.ch 20 .stop .nil))) .nil))) .nil)))))))) .nil))))))))) .nil)))))))))) .nil))))))))))))))))]
theorem ok.node_Node_Status {D : Nat} : OkF D F.node_Node_Status fn.node_Node_Status:=fo Tryz.func30
abbrev F.node_Node_Confirmed : FuncId:=31
noncomputable def fn.node_Node_Confirmed : (Nat → Nat) → Eng.Fn:=mk 8 Tryz.f31 []
theorem ok.node_Node_Confirmed {D : Nat} : OkF D F.node_Node_Confirmed fn.node_Node_Confirmed:=fo Tryz.func31
abbrev F.node_Node_Mac : FuncId:=63
noncomputable def fn.node_Node_Mac : (Nat → Nat) → Eng.Fn:=mk 8 Tryz.f63 []
theorem ok.node_Node_Mac {D : Nat} : OkF D F.node_Node_Mac fn.node_Node_Mac:=fo Tryz.func63
abbrev F.config_Parse : FuncId:=64
noncomputable def fn.config_Parse : (Nat → Nat) → Eng.Fn:=mk 54 Tryz.f64 []
theorem ok.config_Parse {D : Nat} : OkF D F.config_Parse fn.config_Parse:=fo Tryz.func64
abbrev F.check_Check : FuncId:=65
noncomputable def fn.check_Check : (Nat → Nat) → Eng.Fn:=mk 35 Tryz.f65 [(3,(.op 0 (.op 1 (.op 2 (.ch 3 (.re 0 (.re 1 (.op 4 (.op 5 .stop)))) .nil)))))]
theorem ok.check_Check {D : Nat} : OkF D F.check_Check fn.check_Check:=fo Tryz.func65
abbrev F.matrix_Rank : FuncId:=66
noncomputable def fn.matrix_Rank : (Nat → Nat) → Eng.Fn:=mk 9 Tryz.f66 []
theorem ok.matrix_Rank {D : Nat} : OkF D F.matrix_Rank fn.matrix_Rank:=fo Tryz.func66
abbrev F.clock_New : FuncId:=67
noncomputable def fn.clock_New : (Nat → Nat) → Eng.Fn:=mk 12 Tryz.f67 []
theorem ok.clock_New {D : Nat} : OkF D F.clock_New fn.clock_New:=fo Tryz.func67
abbrev F.mac_New : FuncId:=68
noncomputable def fn.mac_New : (Nat → Nat) → Eng.Fn:=mk 3 Tryz.f68 []
theorem ok.mac_New {D : Nat} : OkF D F.mac_New fn.mac_New:=fo Tryz.func68
abbrev F.mark_New : FuncId:=69
noncomputable def fn.mark_New : (Nat → Nat) → Eng.Fn:=mk 3 Tryz.f69 []
theorem ok.mark_New {D : Nat} : OkF D F.mark_New fn.mark_New:=fo Tryz.func69
abbrev F.global_New : FuncId:=70
noncomputable def fn.global_New : (Nat → Nat) → Eng.Fn:=mk 3 Tryz.f70 []
theorem ok.global_New {D : Nat} : OkF D F.global_New fn.global_New:=fo Tryz.func70
abbrev F.object_New : FuncId:=71
noncomputable def fn.object_New : (Nat → Nat) → Eng.Fn:=mk 13 Tryz.f71 []
theorem ok.object_New {D : Nat} : OkF D F.object_New fn.object_New:=fo Tryz.func71
abbrev F.status_New : FuncId:=72
noncomputable def fn.status_New : (Nat → Nat) → Eng.Fn:=mk 9 Tryz.f72 []
theorem ok.status_New {D : Nat} : OkF D F.status_New fn.status_New:=fo Tryz.func72
abbrev F.master_New : FuncId:=73
noncomputable def fn.master_New : (Nat → Nat) → Eng.Fn:=mk 8 Tryz.f73 []
theorem ok.master_New {D : Nat} : OkF D F.master_New fn.master_New:=fo Tryz.func73
abbrev F.sched_New : FuncId:=74
noncomputable def fn.sched_New : (Nat → Nat) → Eng.Fn:=mk 10 Tryz.f74 []
theorem ok.sched_New {D : Nat} : OkF D F.sched_New fn.sched_New:=fo Tryz.func74
abbrev F.ref12_Is : FuncId:=75
noncomputable def fn.ref12_Is : (Nat → Nat) → Eng.Fn:=mk 185 Tryz.f75 []
theorem ok.ref12_Is {D : Nat} : OkF D F.ref12_Is fn.ref12_Is:=fo Tryz.func75
abbrev F.ref12_two : FuncId:=76
noncomputable def fn.ref12_two : (Nat → Nat) → Eng.Fn:=mk 13 Tryz.f76 []
theorem ok.ref12_two {D : Nat} : OkF D F.ref12_two fn.ref12_two:=fo Tryz.func76
abbrev F.object_Objects_Send : FuncId:=78
noncomputable def fn.object_Objects_Send : (Nat → Nat) → Eng.Fn:=mk 47 Tryz.f78 [(2,(.op 0 (.op 1 (.op 2 (.op 3 (.op 4 (.op 5 (.op 6 (.op 7 (.op 8 (.op 9 (.op 10 (.op 11 .stop)))))))))))))]
theorem ok.object_Objects_Send {D : Nat} : OkF D F.object_Objects_Send fn.object_Objects_Send:=fo Tryz.func78
abbrev F.clock_Clock_Time : FuncId:=79
noncomputable def fn.clock_Clock_Time : (Nat → Nat) → Eng.Fn:=mk 7 Tryz.f79 []
theorem ok.clock_Clock_Time {D : Nat} : OkF D F.clock_Clock_Time fn.clock_Clock_Time:=fo Tryz.func79
abbrev F.clock_Clock_Tick : FuncId:=80
noncomputable def fn.clock_Clock_Tick : (Nat → Nat) → Eng.Fn:=mk 42 Tryz.f80 [(1,(.op 0 (.op 1 (.op 2 (.op 3 (.op 4 (.op 5 (.op 6 (.op 7 (.op 8 .stop)))))))))),(2,(.op 0 (.op 1 (.op 2 (.op 3 (.op 4 (.op 5 (.op 6 (.op 7 (.op 8 (.op 9 (.op 10 (.ch 11 .stop .nil)))))))))))))]
theorem ok.clock_Clock_Tick {D : Nat} : OkF D F.clock_Clock_Tick fn.clock_Clock_Tick:=fo Tryz.func80
abbrev F.mark_Mark_At : FuncId:=81
noncomputable def fn.mark_Mark_At : (Nat → Nat) → Eng.Fn:=mk 20 Tryz.f81 []
theorem ok.mark_Mark_At {D : Nat} : OkF D F.mark_Mark_At fn.mark_Mark_At:=fo Tryz.func81
abbrev F.sched_Sched_Now : FuncId:=82
noncomputable def fn.sched_Sched_Now : (Nat → Nat) → Eng.Fn:=mk 55 Tryz.f82 [(3,(.op 0 (.op 1 (.op 2 (.op 3 (.op 4 (.op 5 (.op 6 (.op 7 (.op 8 (.op 9 (.op 10 (.op 11 (.op 12 (.ch 13 (.op 14 .stop) .nil)))))))))))))))]
theorem ok.sched_Sched_Now {D : Nat} : OkF D F.sched_Sched_Now fn.sched_Sched_Now:=fo Tryz.func82
abbrev F.node_Node_does : FuncId:=83
noncomputable def fn.node_Node_does : (Nat → Nat) → Eng.Fn:=mk 126 Tryz.f83 [(3,(.op 0 (.op 1 (.op 2 (.op 3 (.op 4 (.op 5 (.op 6 (.ch 7 (.op 8 (.op 9 (.op 10 (.op 11 (.op 12 .stop))))) .nil))))))))),(5,(.op 0 (.op 1 (.op 2 (.op 3 (.op 4 (.op 5 (.op 6 (.ch 7 .stop .nil)))))))))]
theorem ok.node_Node_does {D : Nat} : OkF D F.node_Node_does fn.node_Node_does:=fo Tryz.func83
abbrev F.node_Node_waits : FuncId:=84
noncomputable def fn.node_Node_waits : (Nat → Nat) → Eng.Fn:=mk 61 Tryz.f84 [(1,(.op 0 (.op 1 (.op 2 (.op 3 (.op 4 (.op 5 (.op 6 (.op 7 (.op 8 (.op 9 (.op 10 (.op 11 (.op 12 (.op 13 (.op 14 (.op 15 (.op 16 (.op 17 (.ch 18 (.re 0 (.re 1 (.re 2 (.re 3 (.re 4 (.re 5 (.re 6 (.re 7 (.re 8 (.re 9 (.re 10 (.re 11 (.re 12 (.re 13 (.op 19 (.op 20 (.op 21 (.op 22 (.op 23 (.op 24 (.op 25 (.op 26 (.op 27 (.ch 28 (.op 29 (.op 30 (.op 31 (.op 32 (.op 33 (.op 34 (.op 35 (.op 36 (.ch 37 (.ch 38 (.op 39 (.op 40 .stop)) .nil) .nil))))))))) .nil)))))))))))))))))))))))) .nil))))))))))))))))))))]
theorem ok.node_Node_waits {D : Nat} : OkF D F.node_Node_waits fn.node_Node_waits:=fo Tryz.func84
abbrev F.clock_Since : FuncId:=85
noncomputable def fn.clock_Since : (Nat → Nat) → Eng.Fn:=mk 9 Tryz.f85 []
theorem ok.clock_Since {D : Nat} : OkF D F.clock_Since fn.clock_Since:=fo Tryz.func85
abbrev F.sched_Sched_Over : FuncId:=86
noncomputable def fn.sched_Sched_Over : (Nat → Nat) → Eng.Fn:=mk 18 Tryz.f86 []
theorem ok.sched_Sched_Over {D : Nat} : OkF D F.sched_Sched_Over fn.sched_Sched_Over:=fo Tryz.func86
abbrev F.node_Node_closes : FuncId:=87
noncomputable def fn.node_Node_closes : (Nat → Nat) → Eng.Fn:=mk 38 Tryz.f87 [(2,(.op 0 (.op 1 (.op 2 (.op 3 (.op 4 (.op 5 (.op 6 (.ch 7 .stop .nil)))))))))]
theorem ok.node_Node_closes {D : Nat} : OkF D F.node_Node_closes fn.node_Node_closes:=fo Tryz.func87
abbrev F.mac_Mac_Drive : FuncId:=88
noncomputable def fn.mac_Mac_Drive : (Nat → Nat) → Eng.Fn:=mk 51 Tryz.f88 [(7,(.op 0 (.op 1 (.op 2 (.op 3 (.op 4 (.op 5 (.op 6 (.op 7 (.op 8 (.op 9 (.op 10 (.op 11 .stop)))))))))))))]
theorem ok.mac_Mac_Drive {D : Nat} : OkF D F.mac_Mac_Drive fn.mac_Mac_Drive:=fo Tryz.func88
abbrev F.mac_Mac_Sample : FuncId:=89
noncomputable def fn.mac_Mac_Sample : (Nat → Nat) → Eng.Fn:=mk 69 Tryz.f89 []
theorem ok.mac_Mac_Sample {D : Nat} : OkF D F.mac_Mac_Sample fn.mac_Mac_Sample:=fo Tryz.func89
abbrev F.mark_Mark_Start : FuncId:=90
noncomputable def fn.mark_Mark_Start : (Nat → Nat) → Eng.Fn:=mk 9 Tryz.f90 []
theorem ok.mark_Mark_Start {D : Nat} : OkF D F.mark_Mark_Start fn.mark_Mark_Start:=fo Tryz.func90
abbrev F.refmsg_Parse : FuncId:=91
noncomputable def fn.refmsg_Parse : (Nat → Nat) → Eng.Fn:=mk 91 Tryz.f91 [(3,(.op 0 (.op 1 (.op 2 (.op 3 (.op 4 (.op 5 (.op 6 (.op 7 (.op 8 (.op 9 (.op 10 (.ch 11 (.re 0 (.re 1 (.re 2 (.re 3 (.re 4 (.re 5 (.re 6 (.re 7 (.re 8 (.re 9 (.re 10 (.ch 12 .stop .nil)))))))))))) .nil))))))))))))),(6,(.op 0 (.op 1 (.op 2 (.op 3 (.op 4 (.op 5 (.op 6 (.op 7 (.op 8 (.op 9 (.op 10 (.ch 11 .stop .nil)))))))))))))]
theorem ok.refmsg_Parse {D : Nat} : OkF D F.refmsg_Parse fn.refmsg_Parse:=fo Tryz.func91
abbrev F.node_Node_beat : FuncId:=92
noncomputable def fn.node_Node_beat : (Nat → Nat) → Eng.Fn:=mk 137 Tryz.f92 [(2,(.op 0 (.op 1 (.op 2 (.op 3 (.op 4 (.op 5 (.op 6 (.ch 7 .stop .nil))))))))),(3,(.op 0 (.op 1 (.op 2 (.op 3 (.op 4 (.op 5 (.op 6 (.ch 7 .stop .nil))))))))),(8,(.op 0 (.op 1 (.op 2 (.op 3 (.op 4 (.op 5 (.op 6 (.op 7 (.op 8 (.op 9 (.op 10 (.ch 11 .stop .nil))))))))))))),(9,(.op 0 (.op 1 (.op 2 (.op 3 (.op 4 (.ch 5 (.op 6 (.op 7 (.op 8 (.op 9 (.op 10 (.op 11 (.op 12 (.op 13 (.op 14 (.op 15 .stop)))))))))) .nil))))))),(15,(.op 0 (.op 1 (.op 2 (.op 3 (.op 4 (.op 5 (.op 6 (.ch 7 .stop .nil)))))))))]
theorem ok.node_Node_beat {D : Nat} : OkF D F.node_Node_beat fn.node_Node_beat:=fo Tryz.func92
abbrev F.matrix_Find : FuncId:=93
noncomputable def fn.matrix_Find : (Nat → Nat) → Eng.Fn:=mk 15 Tryz.f93 []
theorem ok.matrix_Find {D : Nat} : OkF D F.matrix_Find fn.matrix_Find:=fo Tryz.func93
abbrev F.node_Node_message : FuncId:=94
noncomputable def fn.node_Node_message : (Nat → Nat) → Eng.Fn:=mk 99 Tryz.f94 [(6,(.op 0 (.op 1 (.op 2 (.op 3 (.op 4 (.op 5 (.op 6 (.op 7 (.op 8 (.ch 9 .stop .nil))))))))))),(9,(.op 0 (.op 1 (.op 2 (.op 3 (.op 4 (.op 5 (.op 6 (.op 7 (.op 8 (.op 9 (.ch 10 (.re 0 (.re 1 (.re 2 (.re 3 (.re 4 (.ch 11 (.re 0 (.ch 12 (.re 0 (.op 13 (.op 14 (.ch 15 .stop .nil)))) .nil)) .nil)))))) .nil))))))))))))]
theorem ok.node_Node_message {D : Nat} : OkF D F.node_Node_message fn.node_Node_message:=fo Tryz.func94
abbrev F.level_Of : FuncId:=95
noncomputable def fn.level_Of : (Nat → Nat) → Eng.Fn:=mk 23 Tryz.f95 []
theorem ok.level_Of {D : Nat} : OkF D F.level_Of fn.level_Of:=fo Tryz.func95
abbrev F.mac_Mac_Counts : FuncId:=96
noncomputable def fn.mac_Mac_Counts : (Nat → Nat) → Eng.Fn:=mk 7 Tryz.f96 []
theorem ok.mac_Mac_Counts {D : Nat} : OkF D F.mac_Mac_Counts fn.mac_Mac_Counts:=fo Tryz.func96
abbrev F.master_Master_State : FuncId:=97
noncomputable def fn.master_Master_State : (Nat → Nat) → Eng.Fn:=mk 8 Tryz.f97 []
theorem ok.master_Master_State {D : Nat} : OkF D F.master_Master_State fn.master_Master_State:=fo Tryz.func97
abbrev F.node_Node_level : FuncId:=98
noncomputable def fn.node_Node_level : (Nat → Nat) → Eng.Fn:=mk 13 Tryz.f98 [(1,(.op 0 (.op 1 (.op 2 (.op 3 (.op 4 (.op 5 (.op 6 (.op 7 (.op 8 (.ch 9 (.op 10 .stop) .nil)))))))))))]
theorem ok.node_Node_level {D : Nat} : OkF D F.node_Node_level fn.node_Node_level:=fo Tryz.func98
abbrev F.node_Node_leads : FuncId:=99
noncomputable def fn.node_Node_leads : (Nat → Nat) → Eng.Fn:=mk 21 Tryz.f99 [(1,(.op 0 (.op 1 (.op 2 (.op 3 (.op 4 (.op 5 (.op 6 (.op 7 (.op 8 (.op 9 (.op 10 (.op 12 (.op 13 (.op 14 (.op 15 (.ch 11 (.re 12 (.re 13 (.re 14 (.re 15 (.op 16 (.op 17 (.op 18 .stop))))))) .nil)))))))))))))))))]
theorem ok.node_Node_leads {D : Nat} : OkF D F.node_Node_leads fn.node_Node_leads:=fo Tryz.func99
abbrev F.mark_Mark_Cycle : FuncId:=100
noncomputable def fn.mark_Mark_Cycle : (Nat → Nat) → Eng.Fn:=mk 7 Tryz.f100 []
theorem ok.mark_Mark_Cycle {D : Nat} : OkF D F.mark_Mark_Cycle fn.mark_Mark_Cycle:=fo Tryz.func100
abbrev F.confine_IsOff : FuncId:=101
noncomputable def fn.confine_IsOff : (Nat → Nat) → Eng.Fn:=mk 6 Tryz.f101 []
theorem ok.confine_IsOff {D : Nat} : OkF D F.confine_IsOff fn.confine_IsOff:=fo Tryz.func101
abbrev F.global_Global_At : FuncId:=108
noncomputable def fn.global_Global_At : (Nat → Nat) → Eng.Fn:=mk 26 Tryz.f108 [(3,(.op 0 (.op 1 (.op 2 (.op 3 (.op 4 (.op 5 (.op 6 (.op 7 (.op 8 (.op 9 (.op 10 (.op 11 (.op 12 (.op 13 (.op 14 (.op 15 .stop)))))))))))))))))]
theorem ok.global_Global_At {D : Nat} : OkF D F.global_Global_At fn.global_Global_At:=fo Tryz.func108
abbrev F.config_reader_one : FuncId:=152
noncomputable def fn.config_reader_one : (Nat → Nat) → Eng.Fn:=mk 27 Tryz.f152 []
theorem ok.config_reader_one {D : Nat} : OkF D F.config_reader_one fn.config_reader_one:=fo Tryz.func152
abbrev F.config_reader_two : FuncId:=153
noncomputable def fn.config_reader_two : (Nat → Nat) → Eng.Fn:=mk 11 Tryz.f153 []
theorem ok.config_reader_two {D : Nat} : OkF D F.config_reader_two fn.config_reader_two:=fo Tryz.func153
abbrev F.config_reader_lists : FuncId:=154
noncomputable def fn.config_reader_lists : (Nat → Nat) → Eng.Fn:=mk 87 Tryz.f154 [(17,(.op 0 (.op 1 (.op 2 (.op 3 (.op 4 (.op 5 (.ch 6 (.re 0 (.re 1 (.re 2 (.re 3 (.re 4 (.ch 7 (.re 0 (.re 1 (.re 2 (.re 3 (.re 4 (.ch 8 (.re 0 (.op 9 (.op 10 (.ch 11 .stop .nil)))) .nil)))))) .nil)))))) .nil)))))))),(23,(.op 0 (.op 1 (.op 2 (.op 3 (.op 4 (.op 5 (.ch 6 (.re 0 (.re 1 (.re 2 (.re 3 (.re 4 (.ch 7 (.re 0 (.op 8 (.op 9 (.ch 10 .stop .nil)))) .nil)))))) .nil)))))))),(15,(.op 0 (.op 1 (.op 2 (.op 3 (.op 4 (.op 5 (.ch 6 (.re 0 (.re 1 (.re 2 (.re 3 (.re 4 (.ch 7 (.re 0 (.op 8 (.op 9 (.ch 10 .stop .nil)))) .nil)))))) .nil))))))))]
theorem ok.config_reader_lists {D : Nat} : OkF D F.config_reader_lists fn.config_reader_lists:=fo Tryz.func154
abbrev F.config_Print : FuncId:=155
noncomputable def fn.config_Print : (Nat → Nat) → Eng.Fn:=mk 109 Tryz.f155 []
theorem ok.config_Print {D : Nat} : OkF D F.config_Print fn.config_Print:=fo Tryz.func155
abbrev F.matrix_Is : FuncId:=156
noncomputable def fn.matrix_Is : (Nat → Nat) → Eng.Fn:=mk 49 Tryz.f156 []
theorem ok.matrix_Is {D : Nat} : OkF D F.matrix_Is fn.matrix_Is:=fo Tryz.func156
abbrev F.check_Step : FuncId:=157
noncomputable def fn.check_Step : (Nat → Nat) → Eng.Fn:=mk 11 Tryz.f157 [(3,(.op 0 (.op 2 (.op 3 (.ch 1 (.re 2 (.re 3 (.op 4 (.op 5 .stop)))) .nil)))))]
theorem ok.check_Step {D : Nat} : OkF D F.check_Step fn.check_Step:=fo Tryz.func157
abbrev F.check_who : FuncId:=158
noncomputable def fn.check_who : (Nat → Nat) → Eng.Fn:=mk 20 Tryz.f158 []
theorem ok.check_who {D : Nat} : OkF D F.check_who fn.check_who:=fo Tryz.func158
abbrev F.check_twice : FuncId:=159
noncomputable def fn.check_twice : (Nat → Nat) → Eng.Fn:=mk 55 Tryz.f159 []
theorem ok.check_twice {D : Nat} : OkF D F.check_twice fn.check_twice:=fo Tryz.func159
abbrev F.check_windows : FuncId:=160
noncomputable def fn.check_windows : (Nat → Nat) → Eng.Fn:=mk 74 Tryz.f160 []
theorem ok.check_windows {D : Nat} : OkF D F.check_windows fn.check_windows:=fo Tryz.func160
abbrev F.slices_Index_int : FuncId:=161
noncomputable def fn.slices_Index_int : (Nat → Nat) → Eng.Fn:=mk 19 Tryz.f161 []
theorem ok.slices_Index_int {D : Nat} : OkF D F.slices_Index_int fn.slices_Index_int:=fo Tryz.func161
abbrev F.matrix_Copy : FuncId:=162
noncomputable def fn.matrix_Copy : (Nat → Nat) → Eng.Fn:=mk 16 Tryz.f162 [(1,(.op 0 (.op 1 (.op 3 (.op 4 (.op 6 (.op 7 (.ch 2 (.re 3 (.re 4 (.re 6 (.re 7 (.op 9 (.ch 5 (.re 6 (.re 7 (.re 9 (.ch 8 (.re 9 (.ch 10 (.op 11 (.ch 12 (.op 13 (.ch 14 .stop .nil)) .nil)) .nil)) .nil)))) .nil)))))) .nil))))))))]
theorem ok.matrix_Copy {D : Nat} : OkF D F.matrix_Copy fn.matrix_Copy:=fo Tryz.func162
abbrev F.queue_New : FuncId:=163
noncomputable def fn.queue_New : (Nat → Nat) → Eng.Fn:=mk 9 Tryz.f163 []
theorem ok.queue_New {D : Nat} : OkF D F.queue_New fn.queue_New:=fo Tryz.func163
abbrev F.master_nothing : FuncId:=164
noncomputable def fn.master_nothing : (Nat → Nat) → Eng.Fn:=mk 2 Tryz.f164 []
theorem ok.master_nothing {D : Nat} : OkF D F.master_nothing fn.master_nothing:=fo Tryz.func164
abbrev F.plan_Plan : FuncId:=165
noncomputable def fn.plan_Plan : (Nat → Nat) → Eng.Fn:=mk 59 Tryz.f165 [(9,(.op 0 (.op 1 (.op 2 (.op 3 (.ch 4 (.re 0 (.ch 5 (.re 0 (.ch 6 (.ch 7 .stop .nil) .nil)) .nil)) .nil))))))]
theorem ok.plan_Plan {D : Nat} : OkF D F.plan_Plan fn.plan_Plan:=fo Tryz.func165
abbrev F.ref12_within : FuncId:=166
noncomputable def fn.ref12_within : (Nat → Nat) → Eng.Fn:=mk 15 Tryz.f166 []
theorem ok.ref12_within {D : Nat} : OkF D F.ref12_within fn.ref12_within:=fo Tryz.func166
abbrev F.ref12_power : FuncId:=167
noncomputable def fn.ref12_power : (Nat → Nat) → Eng.Fn:=mk 24 Tryz.f167 []
theorem ok.ref12_power {D : Nat} : OkF D F.ref12_power fn.ref12_power:=fo Tryz.func167
abbrev F.object_Objects_there : FuncId:=168
noncomputable def fn.object_Objects_there : (Nat → Nat) → Eng.Fn:=mk 27 Tryz.f168 []
theorem ok.object_Objects_there {D : Nat} : OkF D F.object_Objects_there fn.object_Objects_there:=fo Tryz.func168
abbrev F.queue_Queue_Put : FuncId:=169
noncomputable def fn.queue_Queue_Put : (Nat → Nat) → Eng.Fn:=mk 17 Tryz.f169 []
theorem ok.queue_Queue_Put {D : Nat} : OkF D F.queue_Queue_Put fn.queue_Queue_Put:=fo Tryz.func169
abbrev F.plan_Due : FuncId:=170
noncomputable def fn.plan_Due : (Nat → Nat) → Eng.Fn:=mk 52 Tryz.f170 [(7,(.op 0 (.op 1 (.op 2 (.op 3 (.op 4 (.ch 5 (.re 0 (.re 1 (.re 2 (.re 3 (.ch 6 (.re 0 (.op 7 (.ch 8 .stop .nil))) .nil))))) .nil)))))))]
theorem ok.plan_Due {D : Nat} : OkF D F.plan_Due fn.plan_Due:=fo Tryz.func170
abbrev F.object_Objects_State : FuncId:=171
noncomputable def fn.object_Objects_State : (Nat → Nat) → Eng.Fn:=mk 19 Tryz.f171 []
theorem ok.object_Objects_State {D : Nat} : OkF D F.object_Objects_State fn.object_Objects_State:=fo Tryz.func171
abbrev F.level_Beats : FuncId:=172
noncomputable def fn.level_Beats : (Nat → Nat) → Eng.Fn:=mk 6 Tryz.f172 []
theorem ok.level_Beats {D : Nat} : OkF D F.level_Beats fn.level_Beats:=fo Tryz.func172
abbrev F.node_Node_sends : FuncId:=173
noncomputable def fn.node_Node_sends : (Nat → Nat) → Eng.Fn:=mk 33 Tryz.f173 [(4,(.op 0 (.op 1 (.op 2 (.op 3 (.op 4 (.op 5 (.op 6 (.op 7 (.ch 8 (.op 9 (.op 10 (.op 11 .stop))) .nil))))))))))]
theorem ok.node_Node_sends {D : Nat} : OkF D F.node_Node_sends fn.node_Node_sends:=fo Tryz.func173
abbrev F.status_Table_Bad : FuncId:=174
noncomputable def fn.status_Table_Bad : (Nat → Nat) → Eng.Fn:=mk 7 Tryz.f174 []
theorem ok.status_Table_Bad {D : Nat} : OkF D F.status_Table_Bad fn.status_Table_Bad:=fo Tryz.func174
abbrev F.sched_Sched_Close : FuncId:=175
noncomputable def fn.sched_Sched_Close : (Nat → Nat) → Eng.Fn:=mk 9 Tryz.f175 []
theorem ok.sched_Sched_Close {D : Nat} : OkF D F.sched_Sched_Close fn.sched_Sched_Close:=fo Tryz.func175
abbrev F.object_Objects_Event : FuncId:=176
noncomputable def fn.object_Objects_Event : (Nat → Nat) → Eng.Fn:=mk 11 Tryz.f176 []
theorem ok.object_Objects_Event {D : Nat} : OkF D F.object_Objects_Event fn.object_Objects_Event:=fo Tryz.func176
abbrev F.level_May : FuncId:=177
noncomputable def fn.level_May : (Nat → Nat) → Eng.Fn:=mk 6 Tryz.f177 []
theorem ok.level_May {D : Nat} : OkF D F.level_May fn.level_May:=fo Tryz.func177
abbrev F.node_Node_looks : FuncId:=178
noncomputable def fn.node_Node_looks : (Nat → Nat) → Eng.Fn:=mk 27 Tryz.f178 []
theorem ok.node_Node_looks {D : Nat} : OkF D F.node_Node_looks fn.node_Node_looks:=fo Tryz.func178
abbrev F.master_Master_Leads : FuncId:=179
noncomputable def fn.master_Master_Leads : (Nat → Nat) → Eng.Fn:=mk 25 Tryz.f179 [(1,(.op 0 (.ch 1 (.op 2 (.op 3 (.op 4 (.op 5 (.op 6 (.op 7 (.op 8 (.op 9 (.op 10 (.op 11 (.op 12 (.op 13 (.op 14 (.op 15 (.op 16 (.op 17 (.op 18 (.op 19 (.op 20 (.op 21 (.op 22 .stop))))))))))))))))))))) .nil)))]
theorem ok.master_Master_Leads {D : Nat} : OkF D F.master_Master_Leads fn.master_Master_Leads:=fo Tryz.func179
abbrev F.master_Master_Stands : FuncId:=180
noncomputable def fn.master_Master_Stands : (Nat → Nat) → Eng.Fn:=mk 8 Tryz.f180 []
theorem ok.master_Master_Stands {D : Nat} : OkF D F.master_Master_Stands fn.master_Master_Stands:=fo Tryz.func180
abbrev F.node_Node_asks : FuncId:=181
noncomputable def fn.node_Node_asks : (Nat → Nat) → Eng.Fn:=mk 63 Tryz.f181 [(3,(.op 0 (.op 1 (.op 2 (.op 3 (.op 4 (.op 7 (.op 8 (.op 9 (.op 10 (.op 11 (.ch 5 (.re 7 (.re 8 (.re 9 (.re 10 (.re 11 (.op 6 (.op 12 (.op 13 .stop)))))))) .nil)))))))))))),(4,(.op 0 (.op 1 (.op 2 (.op 3 (.op 4 (.op 5 (.op 6 (.op 7 (.op 8 (.op 9 (.op 10 (.op 11 (.op 12 (.op 13 (.op 14 (.op 16 (.ch 15 (.re 0 (.re 1 (.re 2 (.re 3 (.re 4 (.re 5 (.re 6 (.re 7 (.re 8 (.re 16 (.ch 17 (.re 0 (.re 1 (.re 2 (.re 3 (.re 4 (.re 5 (.re 6 (.re 7 (.re 8 (.op 18 (.ch 19 (.op 20 (.op 21 (.op 22 (.ch 23 (.re 20 (.re 21 (.re 22 (.ch 24 (.re 22 (.op 25 .stop)) .nil)))) .nil)))) (.ch 23 (.re 0 (.re 1 (.re 2 (.re 3 (.re 4 (.re 5 (.re 6 (.re 7 (.re 8 (.re 18 (.ch 19 (.op 20 (.op 21 (.op 22 (.ch 24 (.re 22 (.op 25 .stop)) .nil)))) .nil))))))))))) .nil)))))))))))) (.ch 23 (.re 0 (.re 1 (.re 2 (.re 3 (.re 4 (.re 5 (.re 6 (.re 7 (.re 8 (.re 16 (.ch 17 (.re 0 (.re 1 (.re 2 (.re 3 (.re 4 (.re 5 (.re 6 (.re 7 (.re 8 (.op 18 (.ch 19 (.op 20 (.op 21 (.op 22 (.ch 24 (.re 22 (.op 25 .stop)) .nil)))) .nil))))))))))) .nil))))))))))) .nil)))))))))))) (.ch 23 (.re 0 (.re 1 (.re 2 (.re 3 (.re 4 (.re 5 (.re 6 (.re 7 (.re 8 (.re 9 (.re 10 (.re 11 (.re 12 (.re 13 (.re 14 (.re 16 (.ch 15 (.re 0 (.re 1 (.re 2 (.re 3 (.re 4 (.re 5 (.re 6 (.re 7 (.re 8 (.re 16 (.ch 17 (.re 0 (.re 1 (.re 2 (.re 3 (.re 4 (.re 5 (.re 6 (.re 7 (.re 8 (.op 18 (.ch 19 (.op 20 (.op 21 (.op 22 (.ch 24 (.re 22 (.op 25 .stop)) .nil)))) .nil))))))))))) .nil))))))))))) .nil))))))))))))))))) .nil))))))))))))))))))),(6,(.op 0 (.op 1 (.op 2 (.op 3 (.op 4 (.op 5 (.ch 6 .stop .nil))))))))]
theorem ok.node_Node_asks {D : Nat} : OkF D F.node_Node_asks fn.node_Node_asks:=fo Tryz.func181
abbrev F.node_Node_loses : FuncId:=182
noncomputable def fn.node_Node_loses : (Nat → Nat) → Eng.Fn:=mk 38 Tryz.f182 []
theorem ok.node_Node_loses {D : Nat} : OkF D F.node_Node_loses fn.node_Node_loses:=fo Tryz.func182
abbrev F.sched_Sched_Open : FuncId:=183
noncomputable def fn.sched_Sched_Open : (Nat → Nat) → Eng.Fn:=mk 12 Tryz.f183 [(1,(.op 0 (.op 1 (.op 2 (.op 3 (.op 4 (.op 5 (.op 6 (.op 7 (.ch 8 (.re 4 (.re 5 (.re 6 (.re 7 (.op 9 .stop))))) .nil))))))))))]
theorem ok.sched_Sched_Open {D : Nat} : OkF D F.sched_Sched_Open fn.sched_Sched_Open:=fo Tryz.func183
abbrev F.mac_Mac_Cancel : FuncId:=184
noncomputable def fn.mac_Mac_Cancel : (Nat → Nat) → Eng.Fn:=mk 17 Tryz.f184 []
theorem ok.mac_Mac_Cancel {D : Nat} : OkF D F.mac_Mac_Cancel fn.mac_Mac_Cancel:=fo Tryz.func184
abbrev F.code_Reader_AtAck : FuncId:=185
noncomputable def fn.code_Reader_AtAck : (Nat → Nat) → Eng.Fn:=mk 8 Tryz.f185 []
theorem ok.code_Reader_AtAck {D : Nat} : OkF D F.code_Reader_AtAck fn.code_Reader_AtAck:=fo Tryz.func185
abbrev F.code_Reader_Right : FuncId:=186
noncomputable def fn.code_Reader_Right : (Nat → Nat) → Eng.Fn:=mk 13 Tryz.f186 []
theorem ok.code_Reader_Right {D : Nat} : OkF D F.code_Reader_Right fn.code_Reader_Right:=fo Tryz.func186
abbrev F.confine_IsPassive : FuncId:=187
noncomputable def fn.confine_IsPassive : (Nat → Nat) → Eng.Fn:=mk 16 Tryz.f187 []
theorem ok.confine_IsPassive {D : Nat} : OkF D F.confine_IsPassive fn.confine_IsPassive:=fo Tryz.func187
abbrev F.mac_Mac_begins : FuncId:=188
noncomputable def fn.mac_Mac_begins : (Nat → Nat) → Eng.Fn:=mk 35 Tryz.f188 [(4,(.op 0 (.op 1 (.op 2 (.op 3 (.op 4 (.op 6 (.op 7 (.op 8 (.op 9 (.ch 5 (.re 0 (.re 6 (.re 7 (.re 8 (.re 9 (.ch 10 (.re 0 (.ch 11 (.re 0 (.op 12 (.op 13 (.op 14 (.op 15 (.ch 16 .stop .nil)))))) .nil)) .nil)))))) .nil)))))))))))]
theorem ok.mac_Mac_begins {D : Nat} : OkF D F.mac_Mac_begins fn.mac_Mac_begins:=fo Tryz.func188
abbrev F.mac_Mac_sends : FuncId:=189
noncomputable def fn.mac_Mac_sends : (Nat → Nat) → Eng.Fn:=mk 126 Tryz.f189 [(1,(.op 0 (.op 1 (.op 2 (.op 3 (.op 4 (.op 5 (.op 6 (.op 7 (.op 8 (.op 9 (.op 10 (.op 11 (.op 12 (.op 13 (.op 14 (.ch 15 (.re 0 (.re 1 (.re 2 (.re 3 (.re 4 (.re 5 (.re 6 (.re 7 (.re 8 (.re 9 (.re 10 (.re 11 (.re 12 (.re 13 (.re 14 (.ch 16 (.re 4 (.re 5 (.re 6 (.re 7 (.re 8 (.re 9 (.re 10 (.re 11 (.re 12 (.re 13 (.re 14 (.op 17 .stop)))))))))))) .nil)))))))))))))))) .nil))))))))))))))))),(2,(.op 0 (.op 1 (.op 2 (.op 3 (.op 4 (.op 5 (.op 6 (.op 7 (.op 8 (.op 9 (.op 10 (.op 11 (.op 12 (.op 13 .stop))))))))))))))),(3,(.op 0 (.op 1 (.op 2 (.op 3 (.op 4 (.op 5 (.op 6 (.op 7 (.op 8 (.op 9 (.op 10 (.op 11 (.op 12 (.op 13 (.op 14 (.op 15 (.op 16 (.op 17 (.op 18 (.op 19 .stop))))))))))))))))))))),(5,(.op 0 (.op 1 (.op 3 (.op 4 (.ch 2 (.re 3 (.re 4 (.ch 5 (.ch 6 (.op 7 .stop) .nil) .nil))) (.ch 5 (.re 0 (.re 1 (.ch 2 (.ch 6 (.op 7 .stop) .nil) .nil))) .nil))))))),(12,(.op 0 (.op 1 (.op 2 (.op 3 (.op 4 (.op 5 (.op 6 (.op 7 (.op 8 (.op 9 (.op 10 (.op 11 .stop)))))))))))))]
theorem ok.mac_Mac_sends {D : Nat} : OkF D F.mac_Mac_sends fn.mac_Mac_sends:=fo Tryz.func189
abbrev F.mac_Mac_hears : FuncId:=190
noncomputable def fn.mac_Mac_hears : (Nat → Nat) → Eng.Fn:=mk 47 Tryz.f190 []
theorem ok.mac_Mac_hears {D : Nat} : OkF D F.mac_Mac_hears fn.mac_Mac_hears:=fo Tryz.func190
abbrev F.mac_Mac_pauses : FuncId:=191
noncomputable def fn.mac_Mac_pauses : (Nat → Nat) → Eng.Fn:=mk 8 Tryz.f191 []
theorem ok.mac_Mac_pauses {D : Nat} : OkF D F.mac_Mac_pauses fn.mac_Mac_pauses:=fo Tryz.func191
abbrev F.mac_Mac_counted : FuncId:=192
noncomputable def fn.mac_Mac_counted : (Nat → Nat) → Eng.Fn:=mk 26 Tryz.f192 []
theorem ok.mac_Mac_counted {D : Nat} : OkF D F.mac_Mac_counted fn.mac_Mac_counted:=fo Tryz.func192
abbrev F.mark_times_set : FuncId:=193
noncomputable def fn.mark_times_set : (Nat → Nat) → Eng.Fn:=mk 14 Tryz.f193 []
theorem ok.mark_times_set {D : Nat} : OkF D F.mark_times_set fn.mark_times_set:=fo Tryz.func193
abbrev F.refmsg_Build : FuncId:=194
noncomputable def fn.refmsg_Build : (Nat → Nat) → Eng.Fn:=mk 63 Tryz.f194 []
theorem ok.refmsg_Build {D : Nat} : OkF D F.refmsg_Build fn.refmsg_Build:=fo Tryz.func194
abbrev F.mark_Mark_Beat : FuncId:=195
noncomputable def fn.mark_Mark_Beat : (Nat → Nat) → Eng.Fn:=mk 23 Tryz.f195 []
theorem ok.mark_Mark_Beat {D : Nat} : OkF D F.mark_Mark_Beat fn.mark_Mark_Beat:=fo Tryz.func195
abbrev F.sched_Sched_Begin : FuncId:=196
noncomputable def fn.sched_Sched_Begin : (Nat → Nat) → Eng.Fn:=mk 13 Tryz.f196 []
theorem ok.sched_Sched_Begin {D : Nat} : OkF D F.sched_Sched_Begin fn.sched_Sched_Begin:=fo Tryz.func196
abbrev F.mark_Mark_Last : FuncId:=197
noncomputable def fn.mark_Mark_Last : (Nat → Nat) → Eng.Fn:=mk 16 Tryz.f197 [(1,(.op 0 (.op 1 (.op 2 (.op 3 (.op 4 (.op 5 (.op 6 (.op 7 (.op 8 (.op 9 (.op 10 (.op 11 (.op 12 (.op 13 .stop)))))))))))))))]
theorem ok.mark_Mark_Last {D : Nat} : OkF D F.mark_Mark_Last fn.mark_Mark_Last:=fo Tryz.func197
abbrev F.global_Global_Beat : FuncId:=198
noncomputable def fn.global_Global_Beat : (Nat → Nat) → Eng.Fn:=mk 58 Tryz.f198 [(3,(.op 0 (.op 1 (.op 2 (.op 3 (.op 4 (.op 5 (.op 6 (.op 7 (.ch 8 .stop .nil))))))))))]
theorem ok.global_Global_Beat {D : Nat} : OkF D F.global_Global_Beat fn.global_Global_Beat:=fo Tryz.func198
abbrev F.global_Global_Steady : FuncId:=199
noncomputable def fn.global_Global_Steady : (Nat → Nat) → Eng.Fn:=mk 7 Tryz.f199 []
theorem ok.global_Global_Steady {D : Nat} : OkF D F.global_Global_Steady fn.global_Global_Steady:=fo Tryz.func199
abbrev F.clock_Clock_Rate : FuncId:=200
noncomputable def fn.clock_Clock_Rate : (Nat → Nat) → Eng.Fn:=mk 8 Tryz.f200 []
theorem ok.clock_Clock_Rate {D : Nat} : OkF D F.clock_Clock_Rate fn.clock_Clock_Rate:=fo Tryz.func200
abbrev F.global_Global_Rate : FuncId:=201
noncomputable def fn.global_Global_Rate : (Nat → Nat) → Eng.Fn:=mk 39 Tryz.f201 []
theorem ok.global_Global_Rate {D : Nat} : OkF D F.global_Global_Rate fn.global_Global_Rate:=fo Tryz.func201
abbrev F.clock_Clock_SetRate : FuncId:=202
noncomputable def fn.clock_Clock_SetRate : (Nat → Nat) → Eng.Fn:=mk 45 Tryz.f202 []
theorem ok.clock_Clock_SetRate {D : Nat} : OkF D F.clock_Clock_SetRate fn.clock_Clock_SetRate:=fo Tryz.func202
abbrev F.master_Master_Sent : FuncId:=203
noncomputable def fn.master_Master_Sent : (Nat → Nat) → Eng.Fn:=mk 12 Tryz.f203 []
theorem ok.master_Master_Sent {D : Nat} : OkF D F.master_Master_Sent fn.master_Master_Sent:=fo Tryz.func203
abbrev F.master_Master_Beat : FuncId:=204
noncomputable def fn.master_Master_Beat : (Nat → Nat) → Eng.Fn:=mk 16 Tryz.f204 []
theorem ok.master_Master_Beat {D : Nat} : OkF D F.master_Master_Beat fn.master_Master_Beat:=fo Tryz.func204
abbrev F.slices_IndexFunc_Message : FuncId:=205
noncomputable def fn.slices_IndexFunc_Message : (Nat → Nat) → Eng.Fn:=mk 19 Tryz.f205 []
theorem ok.slices_IndexFunc_Message {D : Nat} : OkF D F.slices_IndexFunc_Message fn.slices_IndexFunc_Message:=fo Tryz.func205
abbrev F.matrix_Find_1 : FuncId:=206
noncomputable def fn.matrix_Find_1 : (Nat → Nat) → Eng.Fn:=mk 9 Tryz.f206 []
theorem ok.matrix_Find_1 {D : Nat} : OkF D F.matrix_Find_1 fn.matrix_Find_1:=fo Tryz.func206
abbrev F.object_Objects_Got : FuncId:=207
noncomputable def fn.object_Objects_Got : (Nat → Nat) → Eng.Fn:=mk 21 Tryz.f207 []
theorem ok.object_Objects_Got {D : Nat} : OkF D F.object_Objects_Got fn.object_Objects_Got:=fo Tryz.func207
abbrev F.node_Node_inTime : FuncId:=208
noncomputable def fn.node_Node_inTime : (Nat → Nat) → Eng.Fn:=mk 10 Tryz.f208 []
theorem ok.node_Node_inTime {D : Nat} : OkF D F.node_Node_inTime fn.node_Node_inTime:=fo Tryz.func208
abbrev F.node_latest_Delivery : FuncId:=209
noncomputable def fn.node_latest_Delivery : (Nat → Nat) → Eng.Fn:=mk 14 Tryz.f209 []
theorem ok.node_latest_Delivery {D : Nat} : OkF D F.node_latest_Delivery fn.node_latest_Delivery:=fo Tryz.func209
abbrev F.object_Objects_Sent : FuncId:=210
noncomputable def fn.object_Objects_Sent : (Nat → Nat) → Eng.Fn:=mk 41 Tryz.f210 []
theorem ok.object_Objects_Sent {D : Nat} : OkF D F.object_Objects_Sent fn.object_Objects_Sent:=fo Tryz.func210
abbrev F.status_Table_Good : FuncId:=211
noncomputable def fn.status_Table_Good : (Nat → Nat) → Eng.Fn:=mk 7 Tryz.f211 []
theorem ok.status_Table_Good {D : Nat} : OkF D F.status_Table_Good fn.status_Table_Good:=fo Tryz.func211
abbrev F.node_latest_int : FuncId:=212
noncomputable def fn.node_latest_int : (Nat → Nat) → Eng.Fn:=mk 14 Tryz.f212 []
theorem ok.node_latest_int {D : Nat} : OkF D F.node_latest_int fn.node_latest_int:=fo Tryz.func212
abbrev F.slices_Contains_int : FuncId:=213
noncomputable def fn.slices_Contains_int : (Nat → Nat) → Eng.Fn:=mk 9 Tryz.f213 []
theorem ok.slices_Contains_int {D : Nat} : OkF D F.slices_Contains_int fn.slices_Contains_int:=fo Tryz.func213
abbrev F.status_Table_All : FuncId:=214
noncomputable def fn.status_Table_All : (Nat → Nat) → Eng.Fn:=mk 17 Tryz.f214 []
theorem ok.status_Table_All {D : Nat} : OkF D F.status_Table_All fn.status_Table_All:=fo Tryz.func214
abbrev F.status_Table_Spread : FuncId:=215
noncomputable def fn.status_Table_Spread : (Nat → Nat) → Eng.Fn:=mk 20 Tryz.f215 [(3,(.op 0 (.op 1 (.op 2 (.op 3 (.op 5 (.op 6 (.op 7 (.op 8 (.ch 4 (.re 5 (.re 6 (.re 7 (.re 8 (.ch 9 (.op 10 (.op 11 .stop)) .nil))))) .nil))))))))))]
theorem ok.status_Table_Spread {D : Nat} : OkF D F.status_Table_Spread fn.status_Table_Spread:=fo Tryz.func215
abbrev F.master_Master_Leader : FuncId:=216
noncomputable def fn.master_Master_Leader : (Nat → Nat) → Eng.Fn:=mk 8 Tryz.f216 []
theorem ok.master_Master_Leader {D : Nat} : OkF D F.master_Master_Leader fn.master_Master_Leader:=fo Tryz.func216
abbrev F.ref12_Units : FuncId:=222
noncomputable def fn.ref12_Units : (Nat → Nat) → Eng.Fn:=mk 26 Tryz.f222 []
theorem ok.ref12_Units {D : Nat} : OkF D F.ref12_Units fn.ref12_Units:=fo Tryz.func222
abbrev F.config_text_one : FuncId:=249
noncomputable def fn.config_text_one : (Nat → Nat) → Eng.Fn:=mk 13 Tryz.f249 []
theorem ok.config_text_one {D : Nat} : OkF D F.config_text_one fn.config_text_one:=fo Tryz.func249
abbrev F.config_text_two : FuncId:=250
noncomputable def fn.config_text_two : (Nat → Nat) → Eng.Fn:=mk 16 Tryz.f250 []
theorem ok.config_text_two {D : Nat} : OkF D F.config_text_two fn.config_text_two:=fo Tryz.func250
abbrev F.matrix_head : FuncId:=251
noncomputable def fn.matrix_head : (Nat → Nat) → Eng.Fn:=mk 47 Tryz.f251 []
theorem ok.matrix_head {D : Nat} : OkF D F.matrix_head fn.matrix_head:=fo Tryz.func251
abbrev F.matrix_within : FuncId:=252
noncomputable def fn.matrix_within : (Nat → Nat) → Eng.Fn:=mk 15 Tryz.f252 []
theorem ok.matrix_within {D : Nat} : OkF D F.matrix_within fn.matrix_within:=fo Tryz.func252
abbrev F.matrix_Is_1 : FuncId:=253
noncomputable def fn.matrix_Is_1 : (Nat → Nat) → Eng.Fn:=mk 6 Tryz.f253 []
theorem ok.matrix_Is_1 {D : Nat} : OkF D F.matrix_Is_1 fn.matrix_Is_1:=fo Tryz.func253
abbrev F.matrix_Is_2 : FuncId:=254
noncomputable def fn.matrix_Is_2 : (Nat → Nat) → Eng.Fn:=mk 13 Tryz.f254 []
theorem ok.matrix_Is_2 {D : Nat} : OkF D F.matrix_Is_2 fn.matrix_Is_2:=fo Tryz.func254
abbrev F.matrix_Is_3 : FuncId:=255
noncomputable def fn.matrix_Is_3 : (Nat → Nat) → Eng.Fn:=mk 8 Tryz.f255 []
theorem ok.matrix_Is_3 {D : Nat} : OkF D F.matrix_Is_3 fn.matrix_Is_3:=fo Tryz.func255
abbrev F.matrix_window : FuncId:=256
noncomputable def fn.matrix_window : (Nat → Nat) → Eng.Fn:=mk 65 Tryz.f256 []
theorem ok.matrix_window {D : Nat} : OkF D F.matrix_window fn.matrix_window:=fo Tryz.func256
abbrev F.slices_ContainsFunc_int : FuncId:=257
noncomputable def fn.slices_ContainsFunc_int : (Nat → Nat) → Eng.Fn:=mk 9 Tryz.f257 []
theorem ok.slices_ContainsFunc_int {D : Nat} : OkF D F.slices_ContainsFunc_int fn.slices_ContainsFunc_int:=fo Tryz.func257
abbrev F.slices_ContainsFunc_Message : FuncId:=258
noncomputable def fn.slices_ContainsFunc_Message : (Nat → Nat) → Eng.Fn:=mk 9 Tryz.f258 []
theorem ok.slices_ContainsFunc_Message {D : Nat} : OkF D F.slices_ContainsFunc_Message fn.slices_ContainsFunc_Message:=fo Tryz.func258
abbrev F.slices_ContainsFunc_Window : FuncId:=259
noncomputable def fn.slices_ContainsFunc_Window : (Nat → Nat) → Eng.Fn:=mk 9 Tryz.f259 []
theorem ok.slices_ContainsFunc_Window {D : Nat} : OkF D F.slices_ContainsFunc_Window fn.slices_ContainsFunc_Window:=fo Tryz.func259
abbrev F.check_Units : FuncId:=260
noncomputable def fn.check_Units : (Nat → Nat) → Eng.Fn:=mk 26 Tryz.f260 []
theorem ok.check_Units {D : Nat} : OkF D F.check_Units fn.check_Units:=fo Tryz.func260
abbrev F.slices_IndexFunc_int : FuncId:=261
noncomputable def fn.slices_IndexFunc_int : (Nat → Nat) → Eng.Fn:=mk 19 Tryz.f261 []
theorem ok.slices_IndexFunc_int {D : Nat} : OkF D F.slices_IndexFunc_int fn.slices_IndexFunc_int:=fo Tryz.func261
abbrev F.check_who_1 : FuncId:=262
noncomputable def fn.check_who_1 : (Nat → Nat) → Eng.Fn:=mk 8 Tryz.f262 []
theorem ok.check_who_1 {D : Nat} : OkF D F.check_who_1 fn.check_who_1:=fo Tryz.func262
abbrev F.check_who_2 : FuncId:=263
noncomputable def fn.check_who_2 : (Nat → Nat) → Eng.Fn:=mk 9 Tryz.f263 []
theorem ok.check_who_2 {D : Nat} : OkF D F.check_who_2 fn.check_who_2:=fo Tryz.func263
abbrev F.check_twice_1 : FuncId:=264
noncomputable def fn.check_twice_1 : (Nat → Nat) → Eng.Fn:=mk 9 Tryz.f264 []
theorem ok.check_twice_1 {D : Nat} : OkF D F.check_twice_1 fn.check_twice_1:=fo Tryz.func264
abbrev F.check_Meet : FuncId:=265
noncomputable def fn.check_Meet : (Nat → Nat) → Eng.Fn:=mk 66 Tryz.f265 []
theorem ok.check_Meet {D : Nat} : OkF D F.check_Meet fn.check_Meet:=fo Tryz.func265
abbrev F.matrix_copied_int : FuncId:=266
noncomputable def fn.matrix_copied_int : (Nat → Nat) → Eng.Fn:=mk 13 Tryz.f266 []
theorem ok.matrix_copied_int {D : Nat} : OkF D F.matrix_copied_int fn.matrix_copied_int:=fo Tryz.func266
abbrev F.matrix_copied_Message : FuncId:=267
noncomputable def fn.matrix_copied_Message : (Nat → Nat) → Eng.Fn:=mk 13 Tryz.f267 []
theorem ok.matrix_copied_Message {D : Nat} : OkF D F.matrix_copied_Message fn.matrix_copied_Message:=fo Tryz.func267
abbrev F.matrix_copied_Window : FuncId:=268
noncomputable def fn.matrix_copied_Window : (Nat → Nat) → Eng.Fn:=mk 13 Tryz.f268 []
theorem ok.matrix_copied_Window {D : Nat} : OkF D F.matrix_copied_Window fn.matrix_copied_Window:=fo Tryz.func268
abbrev F.plan_window : FuncId:=269
noncomputable def fn.plan_window : (Nat → Nat) → Eng.Fn:=mk 50 Tryz.f269 [(1,(.op 0 (.op 1 (.op 2 (.op 3 (.op 4 (.op 5 (.op 6 (.op 7 (.op 8 (.op 9 (.op 10 (.ch 11 (.re 0 (.re 1 (.re 2 (.re 3 (.re 4 (.re 5 (.re 6 (.re 7 (.re 8 (.re 9 (.op 12 (.op 13 (.ch 14 (.re 0 (.re 1 (.re 2 (.re 3 (.re 4 (.re 5 (.re 6 (.re 7 (.re 8 (.re 9 (.re 12 (.re 13 (.ch 15 .stop .nil))))))))))))) .nil))))))))))))) (.ch 14 (.re 0 (.re 1 (.re 2 (.re 3 (.re 4 (.re 5 (.re 6 (.re 7 (.re 8 (.re 9 (.re 10 (.ch 11 (.re 0 (.re 1 (.re 2 (.re 3 (.re 4 (.re 5 (.re 6 (.re 7 (.re 8 (.re 9 (.op 12 (.op 13 (.ch 15 .stop .nil))))))))))))) .nil)))))))))))) .nil)))))))))))))),(5,(.op 0 (.op 1 (.op 2 (.op 3 (.op 4 (.op 5 (.ch 6 (.re 0 (.re 1 (.re 2 (.re 3 (.re 4 (.op 7 (.ch 8 .stop .nil))))))) .nil)))))))),(2,(.op 0 (.op 1 (.op 2 (.op 3 (.ch 4 (.re 0 (.re 1 (.re 2 (.op 5 (.ch 6 (.op 7 (.ch 8 .stop .nil)) .nil))))) .nil))))))]
theorem ok.plan_window {D : Nat} : OkF D F.plan_window fn.plan_window:=fo Tryz.func269
abbrev F.plan_Plan_1 : FuncId:=270
noncomputable def fn.plan_Plan_1 : (Nat → Nat) → Eng.Fn:=mk 14 Tryz.f270 []
theorem ok.plan_Plan_1 {D : Nat} : OkF D F.plan_Plan_1 fn.plan_Plan_1:=fo Tryz.func270
abbrev F.plan_Beat : FuncId:=271
noncomputable def fn.plan_Beat : (Nat → Nat) → Eng.Fn:=mk 26 Tryz.f271 [(5,(.op 0 (.op 1 (.op 2 (.op 3 (.op 4 (.ch 5 (.re 0 (.re 1 (.re 2 (.re 3 (.op 6 (.op 7 (.op 8 .stop))))))) .nil)))))))]
theorem ok.plan_Beat {D : Nat} : OkF D F.plan_Beat fn.plan_Beat:=fo Tryz.func271
abbrev F.plan_Watch : FuncId:=272
noncomputable def fn.plan_Watch : (Nat → Nat) → Eng.Fn:=mk 16 Tryz.f272 [(3,(.op 0 (.op 1 (.op 2 (.op 3 (.op 4 (.op 5 (.op 6 (.ch 7 (.re 0 (.re 1 (.re 2 (.re 3 (.re 4 (.re 5 (.op 8 (.op 9 (.op 10 .stop))))))))) .nil)))))))))]
theorem ok.plan_Watch {D : Nat} : OkF D F.plan_Watch fn.plan_Watch:=fo Tryz.func272
abbrev F.slices_SortStableFunc_Trigger : FuncId:=273
noncomputable def fn.slices_SortStableFunc_Trigger : (Nat → Nat) → Eng.Fn:=mk 9 Tryz.f273 []
theorem ok.slices_SortStableFunc_Trigger {D : Nat} : OkF D F.slices_SortStableFunc_Trigger fn.slices_SortStableFunc_Trigger:=fo Tryz.func273
abbrev F.plan_Plan_2 : FuncId:=274
noncomputable def fn.plan_Plan_2 : (Nat → Nat) → Eng.Fn:=mk 10 Tryz.f274 []
theorem ok.plan_Plan_2 {D : Nat} : OkF D F.plan_Plan_2 fn.plan_Plan_2:=fo Tryz.func274
abbrev F.cmp_Compare_int : FuncId:=275
noncomputable def fn.cmp_Compare_int : (Nat → Nat) → Eng.Fn:=mk 20 Tryz.f275 []
theorem ok.cmp_Compare_int {D : Nat} : OkF D F.cmp_Compare_int fn.cmp_Compare_int:=fo Tryz.func275
abbrev F.matrix_Comes : FuncId:=276
noncomputable def fn.matrix_Comes : (Nat → Nat) → Eng.Fn:=mk 26 Tryz.f276 []
theorem ok.matrix_Comes {D : Nat} : OkF D F.matrix_Comes fn.matrix_Comes:=fo Tryz.func276
abbrev F.level_of : FuncId:=277
noncomputable def fn.level_of : (Nat → Nat) → Eng.Fn:=mk 15 Tryz.f277 []
theorem ok.level_of {D : Nat} : OkF D F.level_of fn.level_of:=fo Tryz.func277
abbrev F.matrix_Frame : FuncId:=278
noncomputable def fn.matrix_Frame : (Nat → Nat) → Eng.Fn:=mk 31 Tryz.f278 []
theorem ok.matrix_Frame {D : Nat} : OkF D F.matrix_Frame fn.matrix_Frame:=fo Tryz.func278
abbrev F.mac_Mac_Ask : FuncId:=279
noncomputable def fn.mac_Mac_Ask : (Nat → Nat) → Eng.Fn:=mk 27 Tryz.f279 [(7,(.op 0 (.op 1 (.op 2 (.op 3 (.op 4 (.ch 5 (.re 1 (.re 2 (.op 6 (.op 7 (.ch 8 .stop .nil))))) .nil)))))))]
theorem ok.mac_Mac_Ask {D : Nat} : OkF D F.mac_Mac_Ask fn.mac_Mac_Ask:=fo Tryz.func279
abbrev F.status_Table_change : FuncId:=280
noncomputable def fn.status_Table_change : (Nat → Nat) → Eng.Fn:=mk 34 Tryz.f280 [(1,(.op 0 (.op 1 (.op 2 (.op 3 (.op 4 (.op 5 (.op 6 (.op 7 (.op 8 (.op 9 (.op 10 (.op 11 (.op 12 (.op 13 (.op 14 (.op 15 (.op 16 (.ch 17 .stop .nil)))))))))))))))))))]
theorem ok.status_Table_change {D : Nat} : OkF D F.status_Table_change fn.status_Table_change:=fo Tryz.func280
abbrev F.queue_Queue_Head : FuncId:=281
noncomputable def fn.queue_Queue_Head : (Nat → Nat) → Eng.Fn:=mk 14 Tryz.f281 []
theorem ok.queue_Queue_Head {D : Nat} : OkF D F.queue_Queue_Head fn.queue_Queue_Head:=fo Tryz.func281
abbrev F.master_Master_Watch : FuncId:=282
noncomputable def fn.master_Master_Watch : (Nat → Nat) → Eng.Fn:=mk 14 Tryz.f282 [(1,(.op 0 (.op 1 (.op 2 (.op 3 (.op 4 (.op 5 .stop)))))))]
theorem ok.master_Master_Watch {D : Nat} : OkF D F.master_Master_Watch fn.master_Master_Watch:=fo Tryz.func282
abbrev F.mark_Mark_Forget : FuncId:=283
noncomputable def fn.mark_Mark_Forget : (Nat → Nat) → Eng.Fn:=mk 5 Tryz.f283 []
theorem ok.mark_Mark_Forget {D : Nat} : OkF D F.mark_Mark_Forget fn.mark_Mark_Forget:=fo Tryz.func283
abbrev F.global_Global_Forget : FuncId:=284
noncomputable def fn.global_Global_Forget : (Nat → Nat) → Eng.Fn:=mk 5 Tryz.f284 []
theorem ok.global_Global_Forget {D : Nat} : OkF D F.global_Global_Forget fn.global_Global_Forget:=fo Tryz.func284
abbrev F.mac_Mac_done : FuncId:=285
noncomputable def fn.mac_Mac_done : (Nat → Nat) → Eng.Fn:=mk 13 Tryz.f285 []
theorem ok.mac_Mac_done {D : Nat} : OkF D F.mac_Mac_done fn.mac_Mac_done:=fo Tryz.func285
abbrev F.code_Reader_inBits : FuncId:=286
noncomputable def fn.code_Reader_inBits : (Nat → Nat) → Eng.Fn:=mk 20 Tryz.f286 [(1,(.op 0 (.op 1 (.op 2 (.op 3 (.op 4 (.op 5 (.op 6 (.op 7 (.op 8 (.op 9 (.op 10 (.op 11 (.op 12 (.op 13 (.op 14 (.op 15 (.op 16 (.op 17 .stop)))))))))))))))))))]
theorem ok.code_Reader_inBits {D : Nat} : OkF D F.code_Reader_inBits fn.code_Reader_inBits:=fo Tryz.func286
abbrev F.code_Reader_Push : FuncId:=287
noncomputable def fn.code_Reader_Push : (Nat → Nat) → Eng.Fn:=mk 57 Tryz.f287 []
theorem ok.code_Reader_Push {D : Nat} : OkF D F.code_Reader_Push fn.code_Reader_Push:=fo Tryz.func287
abbrev F.code_Encode : FuncId:=288
noncomputable def fn.code_Encode : (Nat → Nat) → Eng.Fn:=mk 37 Tryz.f288 []
theorem ok.code_Encode {D : Nat} : OkF D F.code_Encode fn.code_Encode:=fo Tryz.func288
abbrev F.stuff_Stuff : FuncId:=289
noncomputable def fn.stuff_Stuff : (Nat → Nat) → Eng.Fn:=mk 35 Tryz.f289 []
theorem ok.stuff_Stuff {D : Nat} : OkF D F.stuff_Stuff fn.stuff_Stuff:=fo Tryz.func289
abbrev F.frame_Arb : FuncId:=290
noncomputable def fn.frame_Arb : (Nat → Nat) → Eng.Fn:=mk 37 Tryz.f290 [(4,(.op 0 (.op 1 (.op 2 (.op 3 (.op 8 (.op 9 (.op 10 (.op 13 (.op 14 (.ch 4 (.re 8 (.re 9 (.re 10 (.re 13 (.re 14 (.op 5 (.op 6 (.op 7 (.ch 11 (.re 13 (.re 14 (.re 5 (.re 6 (.re 7 (.op 12 (.ch 15 (.re 5 (.re 6 (.re 7 (.re 12 (.op 16 (.op 17 .stop)))))) .nil))))))) .nil))))))))) .nil))))))))))),(5,(.op 0 (.op 1 (.op 2 (.op 5 (.op 6 (.ch 3 (.re 5 (.re 6 (.op 4 (.ch 7 (.re 4 (.op 8 (.op 9 (.op 10 .stop)))) .nil)))) .nil)))))))]
theorem ok.frame_Arb {D : Nat} : OkF D F.frame_Arb fn.frame_Arb:=fo Tryz.func290
abbrev F.mac_Mac_fails : FuncId:=291
noncomputable def fn.mac_Mac_fails : (Nat → Nat) → Eng.Fn:=mk 22 Tryz.f291 []
theorem ok.mac_Mac_fails {D : Nat} : OkF D F.mac_Mac_fails fn.mac_Mac_fails:=fo Tryz.func291
abbrev F.confine_Sent : FuncId:=292
noncomputable def fn.confine_Sent : (Nat → Nat) → Eng.Fn:=mk 21 Tryz.f292 []
theorem ok.confine_Sent {D : Nat} : OkF D F.confine_Sent fn.confine_Sent:=fo Tryz.func292
abbrev F.confine_Got : FuncId:=293
noncomputable def fn.confine_Got : (Nat → Nat) → Eng.Fn:=mk 28 Tryz.f293 []
theorem ok.confine_Got {D : Nat} : OkF D F.confine_Got fn.confine_Got:=fo Tryz.func293
abbrev F.mac_Mac_flags : FuncId:=294
noncomputable def fn.mac_Mac_flags : (Nat → Nat) → Eng.Fn:=mk 24 Tryz.f294 []
theorem ok.mac_Mac_flags {D : Nat} : OkF D F.mac_Mac_flags fn.mac_Mac_flags:=fo Tryz.func294
abbrev F.code_Reader_End : FuncId:=295
noncomputable def fn.code_Reader_End : (Nat → Nat) → Eng.Fn:=mk 9 Tryz.f295 []
theorem ok.code_Reader_End {D : Nat} : OkF D F.code_Reader_End fn.code_Reader_End:=fo Tryz.func295
abbrev F.code_Reader_Frame : FuncId:=296
noncomputable def fn.code_Reader_Frame : (Nat → Nat) → Eng.Fn:=mk 21 Tryz.f296 [(1,(.op 0 (.op 1 (.op 2 (.op 3 (.op 4 (.op 5 (.op 6 (.op 7 (.op 8 (.ch 9 (.op 10 (.op 11 (.op 12 (.op 13 (.ch 14 (.re 10 (.re 11 (.re 12 (.re 13 (.ch 15 (.re 12 (.re 13 (.op 16 (.op 17 .stop)))) .nil))))) .nil))))) (.ch 14 (.re 0 (.re 1 (.re 2 (.re 3 (.re 4 (.re 5 (.re 6 (.re 7 (.re 8 (.ch 9 (.op 10 (.op 11 (.op 12 (.op 13 (.ch 15 (.re 12 (.re 13 (.op 16 (.op 17 .stop)))) .nil))))) .nil)))))))))) .nil))))))))))))]
theorem ok.code_Reader_Frame {D : Nat} : OkF D F.code_Reader_Frame fn.code_Reader_Frame:=fo Tryz.func296
abbrev F.global_Global_Lengths : FuncId:=297
noncomputable def fn.global_Global_Lengths : (Nat → Nat) → Eng.Fn:=mk 36 Tryz.f297 [(3,(.op 0 (.op 1 (.op 2 (.op 3 (.op 4 (.op 5 (.op 6 (.op 7 (.op 8 (.op 9 (.op 10 (.op 11 (.op 13 (.op 14 (.op 15 (.op 16 (.op 17 (.op 18 (.op 19 (.op 20 (.op 21 (.op 22 (.op 23 (.op 24 (.ch 12 (.re 13 (.re 14 (.re 15 (.re 16 (.re 17 (.re 18 (.re 19 (.re 20 (.re 21 (.re 22 (.re 23 (.re 24 (.ch 25 (.op 26 (.op 27 (.op 28 .stop))) .nil))))))))))))) .nil))))))))))))))))))))))))))]
theorem ok.global_Global_Lengths {D : Nat} : OkF D F.global_Global_Lengths fn.global_Global_Lengths:=fo Tryz.func297
abbrev F.queue_Queue_Take : FuncId:=298
noncomputable def fn.queue_Queue_Take : (Nat → Nat) → Eng.Fn:=mk 15 Tryz.f298 []
theorem ok.queue_Queue_Take {D : Nat} : OkF D F.queue_Queue_Take fn.queue_Queue_Take:=fo Tryz.func298
abbrev F.slices_Max_int : FuncId:=299
noncomputable def fn.slices_Max_int : (Nat → Nat) → Eng.Fn:=mk 25 Tryz.f299 []
theorem ok.slices_Max_int {D : Nat} : OkF D F.slices_Max_int fn.slices_Max_int:=fo Tryz.func299
abbrev F.slices_Min_int : FuncId:=300
noncomputable def fn.slices_Min_int : (Nat → Nat) → Eng.Fn:=mk 25 Tryz.f300 []
theorem ok.slices_Min_int {D : Nat} : OkF D F.slices_Min_int fn.slices_Min_int:=fo Tryz.func300
abbrev F.ref12_Comes : FuncId:=301
noncomputable def fn.ref12_Comes : (Nat → Nat) → Eng.Fn:=mk 26 Tryz.f301 []
theorem ok.ref12_Comes {D : Nat} : OkF D F.ref12_Comes fn.ref12_Comes:=fo Tryz.func301
abbrev F.queue_Queue_All : FuncId:=320
noncomputable def fn.queue_Queue_All : (Nat → Nat) → Eng.Fn:=mk 28 Tryz.f320 [(6,(.op 0 (.op 1 (.op 2 (.op 3 (.op 4 (.ch 5 .stop .nil)))))))]
theorem ok.queue_Queue_All {D : Nat} : OkF D F.queue_Queue_All fn.queue_Queue_All:=fo Tryz.func320
abbrev F.matrix_power : FuncId:=322
noncomputable def fn.matrix_power : (Nat → Nat) → Eng.Fn:=mk 6 Tryz.f322 []
theorem ok.matrix_power {D : Nat} : OkF D F.matrix_power fn.matrix_power:=fo Tryz.func322
abbrev F.slices_IndexFunc_Window : FuncId:=323
noncomputable def fn.slices_IndexFunc_Window : (Nat → Nat) → Eng.Fn:=mk 19 Tryz.f323 []
theorem ok.slices_IndexFunc_Window {D : Nat} : OkF D F.slices_IndexFunc_Window fn.slices_IndexFunc_Window:=fo Tryz.func323
abbrev F.check_there : FuncId:=324
noncomputable def fn.check_there : (Nat → Nat) → Eng.Fn:=mk 21 Tryz.f324 []
theorem ok.check_there {D : Nat} : OkF D F.check_there fn.check_there:=fo Tryz.func324
abbrev F.slices_stableCmpFunc_Trigger : FuncId:=325
noncomputable def fn.slices_stableCmpFunc_Trigger : (Nat → Nat) → Eng.Fn:=mk 63 Tryz.f325 []
theorem ok.slices_stableCmpFunc_Trigger {D : Nat} : OkF D F.slices_stableCmpFunc_Trigger fn.slices_stableCmpFunc_Trigger:=fo Tryz.func325
abbrev F.cmp_isNaN_int : FuncId:=326
noncomputable def fn.cmp_isNaN_int : (Nat → Nat) → Eng.Fn:=mk 6 Tryz.f326 []
theorem ok.cmp_isNaN_int {D : Nat} : OkF D F.cmp_isNaN_int fn.cmp_isNaN_int:=fo Tryz.func326
abbrev F.level_levels : FuncId:=327
noncomputable def fn.level_levels : (Nat → Nat) → Eng.Fn:=mk 6 Tryz.f327 []
theorem ok.level_levels {D : Nat} : OkF D F.level_levels fn.level_levels:=fo Tryz.func327
abbrev F.frame_Is : FuncId:=328
noncomputable def fn.frame_Is : (Nat → Nat) → Eng.Fn:=mk 24 Tryz.f328 []
theorem ok.frame_Is {D : Nat} : OkF D F.frame_Is fn.frame_Is:=fo Tryz.func328
abbrev F.stuff_Run_Full : FuncId:=329
noncomputable def fn.stuff_Run_Full : (Nat → Nat) → Eng.Fn:=mk 8 Tryz.f329 []
theorem ok.stuff_Run_Full {D : Nat} : OkF D F.stuff_Run_Full fn.stuff_Run_Full:=fo Tryz.func329
abbrev F.stuff_Run_Other : FuncId:=330
noncomputable def fn.stuff_Run_Other : (Nat → Nat) → Eng.Fn:=mk 8 Tryz.f330 []
theorem ok.stuff_Run_Other {D : Nat} : OkF D F.stuff_Run_Other fn.stuff_Run_Other:=fo Tryz.func330
abbrev F.stuff_Run_Add : FuncId:=331
noncomputable def fn.stuff_Run_Add : (Nat → Nat) → Eng.Fn:=mk 28 Tryz.f331 []
theorem ok.stuff_Run_Add {D : Nat} : OkF D F.stuff_Run_Add fn.stuff_Run_Add:=fo Tryz.func331
abbrev F.code_Reader_add : FuncId:=332
noncomputable def fn.code_Reader_add : (Nat → Nat) → Eng.Fn:=mk 60 Tryz.f332 [(1,(.op 0 (.op 1 (.op 2 (.op 3 (.op 4 (.op 5 (.op 6 (.op 7 (.op 8 (.op 9 (.op 10 (.op 11 (.op 12 (.ch 13 (.re 0 (.re 1 (.re 2 (.re 3 (.re 4 (.re 5 (.re 6 (.re 7 (.re 8 (.re 9 (.re 10 (.re 11 (.ch 14 (.re 0 (.re 1 (.re 2 (.re 3 (.op 15 (.op 16 (.op 17 (.ch 18 .stop .nil)))))))) .nil))))))))))))) .nil))))))))))))))),(5,(.op 0 (.op 1 (.op 2 (.op 3 (.op 4 (.op 5 (.op 6 (.op 7 (.op 8 (.ch 9 (.op 10 (.op 11 (.op 12 (.op 13 (.op 14 .stop))))) .nil)))))))))))]
theorem ok.code_Reader_add {D : Nat} : OkF D F.code_Reader_add fn.code_Reader_add:=fo Tryz.func332
abbrev F.code_Reader_tail : FuncId:=333
noncomputable def fn.code_Reader_tail : (Nat → Nat) → Eng.Fn:=mk 32 Tryz.f333 []
theorem ok.code_Reader_tail {D : Nat} : OkF D F.code_Reader_tail fn.code_Reader_tail:=fo Tryz.func333
abbrev F.frame_Body : FuncId:=334
noncomputable def fn.frame_Body : (Nat → Nat) → Eng.Fn:=mk 23 Tryz.f334 [(6,(.op 0 (.op 2 (.op 4 (.op 5 (.op 6 (.op 7 (.op 10 (.op 11 (.ch 1 (.re 2 (.re 4 (.re 5 (.re 6 (.re 7 (.re 10 (.re 11 (.op 3 (.ch 8 (.re 2 (.re 10 (.re 11 (.re 3 (.op 9 (.ch 12 (.re 2 (.re 3 (.re 9 (.op 13 (.op 14 .stop))))) .nil)))))) .nil))))))))) .nil))))))))))]
theorem ok.frame_Body {D : Nat} : OkF D F.frame_Body fn.frame_Body:=fo Tryz.func334
abbrev F.bits_Of : FuncId:=335
noncomputable def fn.bits_Of : (Nat → Nat) → Eng.Fn:=mk 32 Tryz.f335 []
theorem ok.bits_Of {D : Nat} : OkF D F.bits_Of fn.bits_Of:=fo Tryz.func335
abbrev F.bits_CRC : FuncId:=336
noncomputable def fn.bits_CRC : (Nat → Nat) → Eng.Fn:=mk 18 Tryz.f336 []
theorem ok.bits_CRC {D : Nat} : OkF D F.bits_CRC fn.bits_CRC:=fo Tryz.func336
abbrev F.stuff_Most : FuncId:=337
noncomputable def fn.stuff_Most : (Nat → Nat) → Eng.Fn:=mk 15 Tryz.f337 []
theorem ok.stuff_Most {D : Nat} : OkF D F.stuff_Most fn.stuff_Most:=fo Tryz.func337
abbrev F.stuff_one : FuncId:=338
noncomputable def fn.stuff_one : (Nat → Nat) → Eng.Fn:=mk 13 Tryz.f338 []
theorem ok.stuff_one {D : Nat} : OkF D F.stuff_one fn.stuff_one:=fo Tryz.func338
abbrev F.frame_sign : FuncId:=339
noncomputable def fn.frame_sign : (Nat → Nat) → Eng.Fn:=mk 4 Tryz.f339 []
theorem ok.frame_sign {D : Nat} : OkF D F.frame_sign fn.frame_sign:=fo Tryz.func339
abbrev F.confine_Is : FuncId:=340
noncomputable def fn.confine_Is : (Nat → Nat) → Eng.Fn:=mk 16 Tryz.f340 []
theorem ok.confine_Is {D : Nat} : OkF D F.confine_Is fn.confine_Is:=fo Tryz.func340
abbrev F.frame_Parse : FuncId:=341
noncomputable def fn.frame_Parse : (Nat → Nat) → Eng.Fn:=mk 67 Tryz.f341 [(6,(.op 0 (.op 1 (.op 2 (.op 3 (.op 4 (.ch 5 (.re 0 (.re 1 (.re 2 (.op 6 (.op 7 (.ch 8 (.re 0 (.re 1 (.re 2 (.re 6 (.re 7 (.ch 9 .stop .nil)))))) .nil)))))) (.ch 8 (.re 0 (.re 1 (.re 2 (.re 3 (.re 4 (.ch 5 (.re 0 (.re 1 (.re 2 (.op 6 (.op 7 (.ch 9 .stop .nil)))))) .nil)))))) .nil)))))))),(10,(.op 0 (.op 1 (.op 2 (.op 3 (.op 4 (.ch 5 (.re 0 (.re 1 (.re 2 (.op 6 (.op 7 (.op 8 (.ch 9 .stop .nil))))))) .nil)))))))]
theorem ok.frame_Parse {D : Nat} : OkF D F.frame_Parse fn.frame_Parse:=fo Tryz.func341
abbrev F.slices_insertionSortCmpFunc_Trigger : FuncId:=363
noncomputable def fn.slices_insertionSortCmpFunc_Trigger : (Nat → Nat) → Eng.Fn:=mk 53 Tryz.f363 [(4,(.op 0 (.op 1 (.op 2 (.op 3 (.op 4 (.op 5 (.op 6 (.op 7 (.op 8 (.op 9 (.op 10 (.op 11 (.op 12 (.op 13 (.ch 14 (.op 15 (.op 16 .stop)) .nil)))))))))))))))),(6,(.op 0 (.op 1 (.op 2 (.op 3 (.op 4 (.op 5 (.op 6 (.op 7 (.op 8 (.op 9 (.op 10 (.op 11 (.op 12 (.op 13 (.op 14 (.ch 15 (.re 2 (.re 3 (.re 4 (.op 16 (.ch 17 .stop .nil))))) .nil)))))))))))))))))]
theorem ok.slices_insertionSortCmpFunc_Trigger {D : Nat} : OkF D F.slices_insertionSortCmpFunc_Trigger fn.slices_insertionSortCmpFunc_Trigger:=fo Tryz.func363
abbrev F.stuff_other : FuncId:=365
noncomputable def fn.stuff_other : (Nat → Nat) → Eng.Fn:=mk 5 Tryz.f365 []
theorem ok.stuff_other {D : Nat} : OkF D F.stuff_other fn.stuff_other:=fo Tryz.func365
abbrev F.bits_Add : FuncId:=366
noncomputable def fn.bits_Add : (Nat → Nat) → Eng.Fn:=mk 19 Tryz.f366 []
theorem ok.bits_Add {D : Nat} : OkF D F.bits_Add fn.bits_Add:=fo Tryz.func366
abbrev F.frame_Need : FuncId:=367
noncomputable def fn.frame_Need : (Nat → Nat) → Eng.Fn:=mk 53 Tryz.f367 [(14,(.op 0 (.op 1 (.op 2 (.op 3 (.op 4 (.op 5 (.op 6 (.op 7 (.ch 8 (.re 0 (.re 1 (.op 9 (.op 10 (.op 11 (.op 12 (.op 13 (.op 14 .stop)))))))) .nil))))))))))]
theorem ok.frame_Need {D : Nat} : OkF D F.frame_Need fn.frame_Need:=fo Tryz.func367
abbrev F.bits_FromBytes : FuncId:=368
noncomputable def fn.bits_FromBytes : (Nat → Nat) → Eng.Fn:=mk 24 Tryz.f368 []
theorem ok.bits_FromBytes {D : Nat} : OkF D F.bits_FromBytes fn.bits_FromBytes:=fo Tryz.func368
abbrev F.bits_sign : FuncId:=369
noncomputable def fn.bits_sign : (Nat → Nat) → Eng.Fn:=mk 4 Tryz.f369 []
theorem ok.bits_sign {D : Nat} : OkF D F.bits_sign fn.bits_sign:=fo Tryz.func369
abbrev F.bits_Turn : FuncId:=370
noncomputable def fn.bits_Turn : (Nat → Nat) → Eng.Fn:=mk 27 Tryz.f370 []
theorem ok.bits_Turn {D : Nat} : OkF D F.bits_Turn fn.bits_Turn:=fo Tryz.func370
abbrev F.bits_Num : FuncId:=371
noncomputable def fn.bits_Num : (Nat → Nat) → Eng.Fn:=mk 20 Tryz.f371 []
theorem ok.bits_Num {D : Nat} : OkF D F.bits_Num fn.bits_Num:=fo Tryz.func371
abbrev F.frame_forms : FuncId:=372
noncomputable def fn.frame_forms : (Nat → Nat) → Eng.Fn:=mk 4 Tryz.f372 []
theorem ok.frame_forms {D : Nat} : OkF D F.frame_forms fn.frame_forms:=fo Tryz.func372
abbrev F.bits_Bytes : FuncId:=373
noncomputable def fn.bits_Bytes : (Nat → Nat) → Eng.Fn:=mk 29 Tryz.f373 []
theorem ok.bits_Bytes {D : Nat} : OkF D F.bits_Bytes fn.bits_Bytes:=fo Tryz.func373
abbrev F.bits_clean : FuncId:=382
noncomputable def fn.bits_clean : (Nat → Nat) → Eng.Fn:=mk 27 Tryz.f382 []
theorem ok.bits_clean {D : Nat} : OkF D F.bits_clean fn.bits_clean:=fo Tryz.func382
end Go.Proofs.YtlckbdhpehkeoaaGreat.Tb
