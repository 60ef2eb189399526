/- The types of the printed functions, each held against the program by the kernel. Written by mx.py. -/
import Derived.Test.YtchonnaoojpdoaaProg
import Derived.Test.YtchonnaoojpdoaaMxSl
import Derived.Test.YtchonnaoojpdoaaMxPrim
set_option linter.unusedVariables false
set_option maxRecDepth 100000
namespace Go.Proofs.Ytchonnaoojpdoaa
open Go.Mx

abbrev ty_api_Code : Nat := 38
abbrev ty_field_Field : Nat := 158
abbrev ty_nand_Chip : Nat := 94

def tt : TT := tabT [(1, ⟨.fn, 1, 8, [.nilFunc], none⟩),
  (2, ⟨.int .i64, 1, 8, [.int .i64 0], none⟩),
  (3, ⟨.int .i64, 1, 8, [.int .i64 0], none⟩),
  (4, ⟨.bool, 1, 1, [.bool false], none⟩),
  (5, ⟨.int .u8, 1, 1, [.int .u8 0], none⟩),
  (9, ⟨.str, 1, 16, [.string .empty], none⟩),
  (21, ⟨.int .i32, 1, 4, [.int .i32 0], none⟩),
  (23, ⟨.struct [(3, 0), (3, 1), (2, 2), (3, 3), (4, 4)], 5, 40, ([.int .i64 0] ++ [.int .i64 0] ++ [.int .i64 0] ++ [.int .i64 0] ++ [.bool false]), some (([.int .i64] ++ [.int .i64] ++ [.int .i64] ++ [.int .i64] ++ [.bool]))⟩),
  (24, ⟨.slice 3, 1, 24, [.slice none 0 0], none⟩),
  (26, ⟨.ptr 36, 1, 8, [.pointer none], none⟩),
  (28, ⟨.slice 5, 1, 24, [.slice none 0 0], none⟩),
  (31, ⟨.iface, 1, 16, [.nilIface], none⟩),
  (32, ⟨.ptr 94, 1, 8, [.pointer none], none⟩),
  (33, ⟨.ptr 72, 1, 8, [.pointer none], none⟩),
  (34, ⟨.ptr 60, 1, 8, [.pointer none], none⟩),
  (36, ⟨.struct [(32, 0), (33, 1), (34, 2)], 3, 24, ([.pointer none] ++ [.pointer none] ++ [.pointer none]), none⟩),
  (38, ⟨.int .i64, 1, 8, [.int .i64 0], none⟩),
  (41, ⟨.array 4 3, 4, 32, (repl 4 [.int .i64 0]), none⟩),
  (45, ⟨.struct [(4, 0), (23, 1), (4, 6), (28, 7), (3, 8)], 9, 88, ([.bool false] ++ ([.int .i64 0] ++ [.int .i64 0] ++ [.int .i64 0] ++ [.int .i64 0] ++ [.bool false]) ++ [.bool false] ++ [.slice none 0 0] ++ [.int .i64 0]), none⟩),
  (57, ⟨.ptr 99, 1, 8, [.pointer none], none⟩),
  (60, ⟨.struct [(57, 0), (3, 1)], 2, 16, ([.pointer none] ++ [.int .i64 0]), none⟩),
  (63, ⟨.slice 28, 1, 24, [.slice none 0 0], none⟩),
  (65, ⟨.ptr 116, 1, 8, [.pointer none], none⟩),
  (67, ⟨.struct [], 0, 0, [], none⟩),
  (68, ⟨.struct [], 0, 0, [], none⟩),
  (70, ⟨.struct [(67, 0), (68, 0), (2, 0)], 1, 8, ([] ++ [] ++ [.int .i64 0]), none⟩),
  (72, ⟨.struct [(32, 0), (65, 1), (70, 2)], 3, 24, ([.pointer none] ++ [.pointer none] ++ ([] ++ [] ++ [.int .i64 0])), none⟩),
  (75, ⟨.ptr 80, 1, 8, [.pointer none], none⟩),
  (78, ⟨.array 64 5, 64, 64, (repl 64 [.int .u8 0]), none⟩),
  (80, ⟨.struct [(78, 0), (78, 64), (4, 128), (3, 129)], 130, 144, ((repl 64 [.int .u8 0]) ++ (repl 64 [.int .u8 0]) ++ [.bool false] ++ [.int .i64 0]), none⟩),
  (88, ⟨.array 4 80, 520, 576, (repl 4 ((repl 64 [.int .u8 0]) ++ (repl 64 [.int .u8 0]) ++ [.bool false] ++ [.int .i64 0])), none⟩),
  (89, ⟨.array 8 88, 4160, 4608, (repl 8 (repl 4 ((repl 64 [.int .u8 0]) ++ (repl 64 [.int .u8 0]) ++ [.bool false] ++ [.int .i64 0]))), none⟩),
  (91, ⟨.struct [(89, 0), (70, 4160), (4, 4161), (3, 4162), (4, 4163)], 4164, 4640, ((repl 8 (repl 4 ((repl 64 [.int .u8 0]) ++ (repl 64 [.int .u8 0]) ++ [.bool false] ++ [.int .i64 0]))) ++ ([] ++ [] ++ [.int .i64 0]) ++ [.bool false] ++ [.int .i64 0] ++ [.bool false]), none⟩),
  (92, ⟨.array 12 91, 49968, 55680, (repl 12 ((repl 8 (repl 4 ((repl 64 [.int .u8 0]) ++ (repl 64 [.int .u8 0]) ++ [.bool false] ++ [.int .i64 0]))) ++ ([] ++ [] ++ [.int .i64 0]) ++ [.bool false] ++ [.int .i64 0] ++ [.bool false])), none⟩),
  (94, ⟨.struct [(92, 0), (4, 49968), (4, 49969), (3, 49970), (3, 49971)], 49972, 55704, ((repl 12 ((repl 8 (repl 4 ((repl 64 [.int .u8 0]) ++ (repl 64 [.int .u8 0]) ++ [.bool false] ++ [.int .i64 0]))) ++ ([] ++ [] ++ [.int .i64 0]) ++ [.bool false] ++ [.int .i64 0] ++ [.bool false])) ++ [.bool false] ++ [.bool false] ++ [.int .i64 0] ++ [.int .i64 0]), none⟩),
  (97, ⟨.slice 103, 1, 24, [.slice none 0 0], none⟩),
  (99, ⟨.struct [(97, 0), (4, 1), (3, 2), (3, 3)], 4, 48, ([.slice none 0 0] ++ [.bool false] ++ [.int .i64 0] ++ [.int .i64 0]), none⟩),
  (100, ⟨.slice 129, 1, 24, [.slice none 0 0], none⟩),
  (103, ⟨.struct [(100, 0), (3, 1), (4, 2), (3, 3), (4, 4)], 5, 56, ([.slice none 0 0] ++ [.int .i64 0] ++ [.bool false] ++ [.int .i64 0] ++ [.bool false]), none⟩),
  (105, ⟨.ptr 107, 1, 8, [.pointer none], none⟩),
  (107, ⟨.struct [(23, 0), (28, 5)], 6, 64, (([.int .i64 0] ++ [.int .i64 0] ++ [.int .i64 0] ++ [.int .i64 0] ++ [.bool false]) ++ [.slice none 0 0]), none⟩),
  (108, ⟨.fn, 1, 8, [.nilFunc], none⟩),
  (109, ⟨.slice 108, 1, 24, [.slice none 0 0], none⟩),
  (112, ⟨.fn, 1, 8, [.nilFunc], none⟩),
  (114, ⟨.ptr 135, 1, 8, [.pointer none], none⟩),
  (116, ⟨.struct [(114, 0)], 1, 8, ([.pointer none]), none⟩),
  (117, ⟨.ptr 91, 1, 8, [.pointer none], none⟩),
  (118, ⟨.ptr 70, 1, 8, [.pointer none], none⟩),
  (120, ⟨.ptr 2, 1, 8, [.pointer none], none⟩),
  (121, ⟨.int .u64, 1, 8, [.int .u64 0], none⟩),
  (129, ⟨.struct [(28, 0), (28, 1), (4, 2), (3, 3)], 4, 64, ([.slice none 0 0] ++ [.slice none 0 0] ++ [.bool false] ++ [.int .i64 0]), none⟩),
  (132, ⟨.array 6 5, 6, 6, (repl 6 [.int .u8 0]), some ((List.replicate 6 (.int .u8)))⟩),
  (133, ⟨.ptr 158, 1, 8, [.pointer none], none⟩),
  (135, ⟨.struct [(133, 0), (28, 1)], 2, 32, ([.pointer none] ++ [.slice none 0 0]), none⟩),
  (145, ⟨.struct [], 0, 0, [], none⟩),
  (146, ⟨.int .u32, 1, 4, [.int .u32 0], none⟩),
  (148, ⟨.struct [(67, 0), (146, 0)], 1, 4, ([] ++ [.int .u32 0]), none⟩),
  (150, ⟨.struct [(21, 0), (146, 1)], 2, 8, ([.int .i32 0] ++ [.int .u32 0]), none⟩),
  (152, ⟨.struct [(145, 0), (150, 0)], 2, 8, ([] ++ ([.int .i32 0] ++ [.int .u32 0])), none⟩),
  (154, ⟨.struct [(145, 0), (148, 0), (152, 1)], 3, 12, ([] ++ ([] ++ [.int .u32 0]) ++ ([] ++ ([.int .i32 0] ++ [.int .u32 0]))), none⟩),
  (155, ⟨.array 510 5, 510, 510, (repl 510 [.int .u8 0]), none⟩),
  (156, ⟨.array 256 3, 256, 2048, (repl 256 [.int .i64 0]), none⟩),
  (158, ⟨.struct [(154, 0), (155, 3), (156, 513)], 769, 2576, (([] ++ ([] ++ [.int .u32 0]) ++ ([] ++ ([.int .i32 0] ++ [.int .u32 0]))) ++ (repl 510 [.int .u8 0]) ++ (repl 256 [.int .i64 0])), none⟩),
  (166, ⟨.array 2 3, 2, 16, (repl 2 [.int .i64 0]), none⟩),
  (168, ⟨.ptr 154, 1, 8, [.pointer none], none⟩)]

theorem tOk : TOk Try.prog tt := tabT_ok (by kernel_rfl)

theorem mixed : Try.prog.follows .mixedOrders = true := by kernel_rfl

end Go.Proofs.Ytchonnaoojpdoaa
