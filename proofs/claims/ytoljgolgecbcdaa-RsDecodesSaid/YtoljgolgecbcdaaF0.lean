/- The types of the printed functions, each held against the program by the kernel. Written by mx.py. -/
import Derived.Test.YtoljgolgecbcdaaProg
import Derived.Test.YtoljgolgecbcdaaMxSl
import Derived.Test.YtoljgolgecbcdaaMxPrim
set_option linter.unusedVariables false
set_option maxRecDepth 100000
namespace Go.Proofs.Ytoljgolgecbcdaa
open Go.Mx

abbrev ty_api_Code : Nat := 35
abbrev ty_field_Field : Nat := 166

def tt : TT := tabT [(1, ⟨.fn, 1, 8, [.nilFunc], none⟩),
  (3, ⟨.int .i64, 1, 8, [.int .i64 0], none⟩),
  (4, ⟨.bool, 1, 1, [.bool false], none⟩),
  (5, ⟨.int .u8, 1, 1, [.int .u8 0], none⟩),
  (21, ⟨.int .i32, 1, 4, [.int .i32 0], none⟩),
  (22, ⟨.slice 3, 1, 24, [.slice none 0 0], none⟩),
  (28, ⟨.iface, 1, 16, [.nilIface], none⟩),
  (30, ⟨.slice 5, 1, 24, [.slice none 0 0], none⟩),
  (35, ⟨.int .i64, 1, 8, [.int .i64 0], none⟩),
  (44, ⟨.slice 30, 1, 24, [.slice none 0 0], none⟩),
  (58, ⟨.ptr 119, 1, 8, [.pointer none], none⟩),
  (60, ⟨.ptr 121, 1, 8, [.pointer none], none⟩),
  (70, ⟨.slice 132, 1, 24, [.slice none 0 0], none⟩),
  (81, ⟨.struct [], 0, 0, [], none⟩),
  (114, ⟨.ptr 166, 1, 8, [.pointer none], none⟩),
  (119, ⟨.struct [(114, 0), (30, 1)], 2, 32, ([.pointer none] ++ [.slice none 0 0]), none⟩),
  (121, ⟨.struct [(30, 0), (30, 1), (3, 2)], 3, 56, ([.slice none 0 0] ++ [.slice none 0 0] ++ [.int .i64 0]), none⟩),
  (122, ⟨.array 6 5, 6, 6, (repl 6 [.int .u8 0]), some ((List.replicate 6 (.int .u8)))⟩),
  (132, ⟨.struct [(3, 0), (5, 1)], 2, 16, ([.int .i64 0] ++ [.int .u8 0]), none⟩),
  (153, ⟨.struct [], 0, 0, [], none⟩),
  (154, ⟨.int .u32, 1, 4, [.int .u32 0], none⟩),
  (156, ⟨.struct [(81, 0), (154, 0)], 1, 4, ([] ++ [.int .u32 0]), none⟩),
  (158, ⟨.struct [(21, 0), (154, 1)], 2, 8, ([.int .i32 0] ++ [.int .u32 0]), none⟩),
  (160, ⟨.struct [(153, 0), (158, 0)], 2, 8, ([] ++ ([.int .i32 0] ++ [.int .u32 0])), none⟩),
  (162, ⟨.struct [(153, 0), (156, 0), (160, 1)], 3, 12, ([] ++ ([] ++ [.int .u32 0]) ++ ([] ++ ([.int .i32 0] ++ [.int .u32 0]))), none⟩),
  (163, ⟨.array 510 5, 510, 510, (repl 510 [.int .u8 0]), none⟩),
  (164, ⟨.array 256 3, 256, 2048, (repl 256 [.int .i64 0]), none⟩),
  (166, ⟨.struct [(162, 0), (163, 3), (164, 513)], 769, 2576, (([] ++ ([] ++ [.int .u32 0]) ++ ([] ++ ([.int .i32 0] ++ [.int .u32 0]))) ++ (repl 510 [.int .u8 0]) ++ (repl 256 [.int .i64 0])), none⟩),
  (172, ⟨.array 2 3, 2, 16, (repl 2 [.int .i64 0]), none⟩),
  (175, ⟨.ptr 162, 1, 8, [.pointer none], none⟩)]

theorem tOk : TOk Try.prog tt := tabT_ok (by kernel_rfl)

theorem mixed : Try.prog.follows .mixedOrders = true := by kernel_rfl

end Go.Proofs.Ytoljgolgecbcdaa
