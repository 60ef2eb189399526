/- The types of the printed functions, each held against the program by the kernel. Written by mx.py. -/
import Derived.Test.YtoljgolgecbcdabProg
import Derived.Test.YtoljgolgecbcdabMxSl
import Derived.Test.YtoljgolgecbcdabMxPrim
set_option linter.unusedVariables false
set_option maxRecDepth 100000
namespace Go.Proofs.Ytoljgolgecbcdab
open Go.Mx

abbrev ty_api_Code : Nat := 34
abbrev ty_field_Field : Nat := 93

def tt : TT := tabT [(1, ⟨.fn, 1, 8, [.nilFunc], none⟩),
  (3, ⟨.int .i64, 1, 8, [.int .i64 0], none⟩),
  (4, ⟨.bool, 1, 1, [.bool false], none⟩),
  (5, ⟨.int .u8, 1, 1, [.int .u8 0], none⟩),
  (21, ⟨.int .i32, 1, 4, [.int .i32 0], none⟩),
  (22, ⟨.slice 5, 1, 24, [.slice none 0 0], none⟩),
  (24, ⟨.ptr 73, 1, 8, [.pointer none], none⟩),
  (27, ⟨.iface, 1, 16, [.nilIface], none⟩),
  (34, ⟨.int .i64, 1, 8, [.int .i64 0], none⟩),
  (37, ⟨.slice 95, 1, 24, [.slice none 0 0], none⟩),
  (38, ⟨.ptr 93, 1, 8, [.pointer none], none⟩),
  (73, ⟨.struct [(38, 0), (22, 1)], 2, 32, ([.pointer none] ++ [.slice none 0 0]), none⟩),
  (74, ⟨.array 6 5, 6, 6, (repl 6 [.int .u8 0]), some ((List.replicate 6 (.int .u8)))⟩),
  (79, ⟨.struct [], 0, 0, [], none⟩),
  (80, ⟨.struct [], 0, 0, [], none⟩),
  (81, ⟨.int .u32, 1, 4, [.int .u32 0], none⟩),
  (83, ⟨.struct [(80, 0), (81, 0)], 1, 4, ([] ++ [.int .u32 0]), none⟩),
  (85, ⟨.struct [(21, 0), (81, 1)], 2, 8, ([.int .i32 0] ++ [.int .u32 0]), none⟩),
  (87, ⟨.struct [(79, 0), (85, 0)], 2, 8, ([] ++ ([.int .i32 0] ++ [.int .u32 0])), none⟩),
  (89, ⟨.struct [(79, 0), (83, 0), (87, 1)], 3, 12, ([] ++ ([] ++ [.int .u32 0]) ++ ([] ++ ([.int .i32 0] ++ [.int .u32 0]))), none⟩),
  (90, ⟨.array 510 5, 510, 510, (repl 510 [.int .u8 0]), none⟩),
  (91, ⟨.array 256 3, 256, 2048, (repl 256 [.int .i64 0]), none⟩),
  (93, ⟨.struct [(89, 0), (90, 3), (91, 513)], 769, 2576, (([] ++ ([] ++ [.int .u32 0]) ++ ([] ++ ([.int .i32 0] ++ [.int .u32 0]))) ++ (repl 510 [.int .u8 0]) ++ (repl 256 [.int .i64 0])), none⟩),
  (95, ⟨.struct [(3, 0), (5, 1)], 2, 16, ([.int .i64 0] ++ [.int .u8 0]), none⟩),
  (138, ⟨.array 2 3, 2, 16, (repl 2 [.int .i64 0]), none⟩),
  (139, ⟨.ptr 89, 1, 8, [.pointer none], none⟩)]

theorem tOk : TOk Try.prog tt := tabT_ok (by kernel_rfl)

theorem mixed : Try.prog.follows .mixedOrders = true := by kernel_rfl

end Go.Proofs.Ytoljgolgecbcdab
