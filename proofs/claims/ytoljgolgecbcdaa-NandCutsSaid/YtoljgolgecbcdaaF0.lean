/- The types of the printed functions, each held against the program by the kernel. Written by mx.py. -/
import Derived.Test.YtoljgolgecbcdaaProg
import Derived.Test.YtoljgolgecbcdaaMxSl
import Derived.Test.YtoljgolgecbcdaaMxPrim
set_option linter.unusedVariables false
set_option maxRecDepth 100000
namespace Go.Proofs.Ytoljgolgecbcdaa
open Go.Mx

abbrev ty_api_Code : Nat := 35
abbrev ty_nand_Chip : Nat := 89

def tt : TT := tabT [(2, ⟨.int .i64, 1, 8, [.int .i64 0], none⟩),
  (3, ⟨.int .i64, 1, 8, [.int .i64 0], none⟩),
  (4, ⟨.bool, 1, 1, [.bool false], none⟩),
  (5, ⟨.int .u8, 1, 1, [.int .u8 0], none⟩),
  (22, ⟨.slice 3, 1, 24, [.slice none 0 0], none⟩),
  (24, ⟨.ptr 89, 1, 8, [.pointer none], none⟩),
  (28, ⟨.iface, 1, 16, [.nilIface], none⟩),
  (30, ⟨.slice 5, 1, 24, [.slice none 0 0], none⟩),
  (35, ⟨.int .i64, 1, 8, [.int .i64 0], none⟩),
  (40, ⟨.slice 49, 1, 24, [.slice none 0 0], none⟩),
  (41, ⟨.ptr 46, 1, 8, [.pointer none], none⟩),
  (42, ⟨.ptr 100, 1, 8, [.pointer none], none⟩),
  (44, ⟨.slice 30, 1, 24, [.slice none 0 0], none⟩),
  (46, ⟨.struct [(24, 0), (24, 1), (42, 2), (42, 3), (44, 4), (44, 5)], 6, 80, ([.pointer none] ++ [.pointer none] ++ [.pointer none] ++ [.pointer none] ++ [.slice none 0 0] ++ [.slice none 0 0]), none⟩),
  (49, ⟨.struct [(3, 0), (3, 1), (3, 2), (30, 3)], 4, 48, ([.int .i64 0] ++ [.int .i64 0] ++ [.int .i64 0] ++ [.slice none 0 0]), none⟩),
  (60, ⟨.ptr 121, 1, 8, [.pointer none], none⟩),
  (75, ⟨.array 64 5, 64, 64, (repl 64 [.int .u8 0]), none⟩),
  (77, ⟨.struct [(75, 0), (75, 64), (4, 128), (3, 129)], 130, 144, ((repl 64 [.int .u8 0]) ++ (repl 64 [.int .u8 0]) ++ [.bool false] ++ [.int .i64 0]), none⟩),
  (78, ⟨.array 4 77, 520, 576, (repl 4 ((repl 64 [.int .u8 0]) ++ (repl 64 [.int .u8 0]) ++ [.bool false] ++ [.int .i64 0])), none⟩),
  (79, ⟨.array 8 78, 4160, 4608, (repl 8 (repl 4 ((repl 64 [.int .u8 0]) ++ (repl 64 [.int .u8 0]) ++ [.bool false] ++ [.int .i64 0]))), none⟩),
  (81, ⟨.struct [], 0, 0, [], none⟩),
  (82, ⟨.struct [], 0, 0, [], none⟩),
  (84, ⟨.struct [(81, 0), (82, 0), (2, 0)], 1, 8, ([] ++ [] ++ [.int .i64 0]), none⟩),
  (86, ⟨.struct [(79, 0), (84, 4160), (4, 4161), (3, 4162), (4, 4163)], 4164, 4640, ((repl 8 (repl 4 ((repl 64 [.int .u8 0]) ++ (repl 64 [.int .u8 0]) ++ [.bool false] ++ [.int .i64 0]))) ++ ([] ++ [] ++ [.int .i64 0]) ++ [.bool false] ++ [.int .i64 0] ++ [.bool false]), none⟩),
  (87, ⟨.array 12 86, 49968, 55680, (repl 12 ((repl 8 (repl 4 ((repl 64 [.int .u8 0]) ++ (repl 64 [.int .u8 0]) ++ [.bool false] ++ [.int .i64 0]))) ++ ([] ++ [] ++ [.int .i64 0]) ++ [.bool false] ++ [.int .i64 0] ++ [.bool false])), none⟩),
  (89, ⟨.struct [(87, 0), (4, 49968), (4, 49969), (3, 49970), (3, 49971)], 49972, 55704, ((repl 12 ((repl 8 (repl 4 ((repl 64 [.int .u8 0]) ++ (repl 64 [.int .u8 0]) ++ [.bool false] ++ [.int .i64 0]))) ++ ([] ++ [] ++ [.int .i64 0]) ++ [.bool false] ++ [.int .i64 0] ++ [.bool false])) ++ [.bool false] ++ [.bool false] ++ [.int .i64 0] ++ [.int .i64 0]), none⟩),
  (90, ⟨.ptr 77, 1, 8, [.pointer none], none⟩),
  (94, ⟨.ptr 86, 1, 8, [.pointer none], none⟩),
  (98, ⟨.slice 104, 1, 24, [.slice none 0 0], none⟩),
  (100, ⟨.struct [(98, 0), (4, 1), (3, 2), (3, 3)], 4, 48, ([.slice none 0 0] ++ [.bool false] ++ [.int .i64 0] ++ [.int .i64 0]), none⟩),
  (101, ⟨.slice 138, 1, 24, [.slice none 0 0], none⟩),
  (104, ⟨.struct [(101, 0), (3, 1), (4, 2), (3, 3), (4, 4)], 5, 56, ([.slice none 0 0] ++ [.int .i64 0] ++ [.bool false] ++ [.int .i64 0] ++ [.bool false]), none⟩),
  (121, ⟨.struct [(30, 0), (30, 1), (3, 2)], 3, 56, ([.slice none 0 0] ++ [.slice none 0 0] ++ [.int .i64 0]), none⟩),
  (134, ⟨.ptr 84, 1, 8, [.pointer none], none⟩),
  (136, ⟨.ptr 2, 1, 8, [.pointer none], none⟩),
  (138, ⟨.struct [(30, 0), (30, 1), (4, 2), (3, 3)], 4, 64, ([.slice none 0 0] ++ [.slice none 0 0] ++ [.bool false] ++ [.int .i64 0]), none⟩),
  (141, ⟨.ptr 138, 1, 8, [.pointer none], none⟩)]

theorem tOk : TOk Try.prog tt := tabT_ok (by kernel_rfl)

theorem mixed : Try.prog.follows .mixedOrders = true := by kernel_rfl

end Go.Proofs.Ytoljgolgecbcdaa
