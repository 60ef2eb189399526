/- The types of the printed functions, each held against the program by the kernel. Written by mx.py. -/
import Derived.Test.YtlbbcgjfkpnilaaProg
import Derived.Test.YtlbbcgjfkpnilaaMxSl
import Derived.Test.YtlbbcgjfkpnilaaMxPrim
set_option linter.unusedVariables false
set_option maxRecDepth 100000
namespace Go.Proofs.Ytlbbcgjfkpnilaa
open Go.Mx

abbrev ty_api_Code : Nat := 44
abbrev ty_nand_Chip : Nat := 68

def tt : TT := tabT [(2, ⟨.int .i64, 1, 8, [.int .i64 0], none⟩),
  (3, ⟨.int .i64, 1, 8, [.int .i64 0], none⟩),
  (4, ⟨.bool, 1, 1, [.bool false], none⟩),
  (5, ⟨.int .u8, 1, 1, [.int .u8 0], none⟩),
  (22, ⟨.slice 35, 1, 24, [.slice none 0 0], none⟩),
  (24, ⟨.ptr 31, 1, 8, [.pointer none], none⟩),
  (25, ⟨.ptr 68, 1, 8, [.pointer none], none⟩),
  (27, ⟨.ptr 71, 1, 8, [.pointer none], none⟩),
  (29, ⟨.slice 33, 1, 24, [.slice none 0 0], none⟩),
  (31, ⟨.struct [(25, 0), (25, 1), (27, 2), (27, 3), (29, 4), (29, 5)], 6, 80, ([.pointer none] ++ [.pointer none] ++ [.pointer none] ++ [.pointer none] ++ [.slice none 0 0] ++ [.slice none 0 0]), none⟩),
  (33, ⟨.slice 5, 1, 24, [.slice none 0 0], none⟩),
  (35, ⟨.struct [(3, 0), (3, 1), (3, 2), (33, 3)], 4, 48, ([.int .i64 0] ++ [.int .i64 0] ++ [.int .i64 0] ++ [.slice none 0 0]), none⟩),
  (41, ⟨.iface, 1, 16, [.nilIface], none⟩),
  (44, ⟨.int .i64, 1, 8, [.int .i64 0], none⟩),
  (54, ⟨.array 64 5, 64, 64, (repl 64 [.int .u8 0]), none⟩),
  (56, ⟨.struct [(54, 0), (54, 64), (4, 128), (3, 129)], 130, 144, ((repl 64 [.int .u8 0]) ++ (repl 64 [.int .u8 0]) ++ [.bool false] ++ [.int .i64 0]), none⟩),
  (57, ⟨.array 4 56, 520, 576, (repl 4 ((repl 64 [.int .u8 0]) ++ (repl 64 [.int .u8 0]) ++ [.bool false] ++ [.int .i64 0])), none⟩),
  (58, ⟨.array 8 57, 4160, 4608, (repl 8 (repl 4 ((repl 64 [.int .u8 0]) ++ (repl 64 [.int .u8 0]) ++ [.bool false] ++ [.int .i64 0]))), none⟩),
  (60, ⟨.struct [], 0, 0, [], none⟩),
  (61, ⟨.struct [], 0, 0, [], none⟩),
  (63, ⟨.struct [(60, 0), (61, 0), (2, 0)], 1, 8, ([] ++ [] ++ [.int .i64 0]), none⟩),
  (65, ⟨.struct [(58, 0), (63, 4160), (4, 4161), (3, 4162), (4, 4163)], 4164, 4640, ((repl 8 (repl 4 ((repl 64 [.int .u8 0]) ++ (repl 64 [.int .u8 0]) ++ [.bool false] ++ [.int .i64 0]))) ++ ([] ++ [] ++ [.int .i64 0]) ++ [.bool false] ++ [.int .i64 0] ++ [.bool false]), none⟩),
  (66, ⟨.array 12 65, 49968, 55680, (repl 12 ((repl 8 (repl 4 ((repl 64 [.int .u8 0]) ++ (repl 64 [.int .u8 0]) ++ [.bool false] ++ [.int .i64 0]))) ++ ([] ++ [] ++ [.int .i64 0]) ++ [.bool false] ++ [.int .i64 0] ++ [.bool false])), none⟩),
  (68, ⟨.struct [(66, 0), (4, 49968), (4, 49969), (3, 49970), (3, 49971)], 49972, 55704, ((repl 12 ((repl 8 (repl 4 ((repl 64 [.int .u8 0]) ++ (repl 64 [.int .u8 0]) ++ [.bool false] ++ [.int .i64 0]))) ++ ([] ++ [] ++ [.int .i64 0]) ++ [.bool false] ++ [.int .i64 0] ++ [.bool false])) ++ [.bool false] ++ [.bool false] ++ [.int .i64 0] ++ [.int .i64 0]), none⟩),
  (69, ⟨.slice 75, 1, 24, [.slice none 0 0], none⟩),
  (71, ⟨.struct [(69, 0), (4, 1), (3, 2), (3, 3)], 4, 48, ([.slice none 0 0] ++ [.bool false] ++ [.int .i64 0] ++ [.int .i64 0]), none⟩),
  (72, ⟨.slice 99, 1, 24, [.slice none 0 0], none⟩),
  (75, ⟨.struct [(72, 0), (3, 1), (4, 2), (3, 3), (4, 4)], 5, 56, ([.slice none 0 0] ++ [.int .i64 0] ++ [.bool false] ++ [.int .i64 0] ++ [.bool false]), none⟩),
  (79, ⟨.ptr 103, 1, 8, [.pointer none], none⟩),
  (90, ⟨.ptr 56, 1, 8, [.pointer none], none⟩),
  (93, ⟨.ptr 65, 1, 8, [.pointer none], none⟩),
  (99, ⟨.struct [(33, 0), (33, 1), (4, 2), (3, 3)], 4, 64, ([.slice none 0 0] ++ [.slice none 0 0] ++ [.bool false] ++ [.int .i64 0]), none⟩),
  (103, ⟨.struct [(33, 0), (33, 1), (3, 2)], 3, 56, ([.slice none 0 0] ++ [.slice none 0 0] ++ [.int .i64 0]), none⟩),
  (104, ⟨.ptr 99, 1, 8, [.pointer none], none⟩),
  (118, ⟨.ptr 63, 1, 8, [.pointer none], none⟩),
  (120, ⟨.ptr 2, 1, 8, [.pointer none], none⟩)]

theorem tOk : TOk Try.prog tt := tabT_ok (by kernel_rfl)

theorem mixed : Try.prog.follows .mixedOrders = true := by kernel_rfl

end Go.Proofs.Ytlbbcgjfkpnilaa
