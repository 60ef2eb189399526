/- The types of the printed functions, each held against the program by the kernel. Written by mx.py. -/
import Derived.Test.YtnilidpafijdlacProg
import Derived.Test.YtnilidpafijdlacMxSl
import Derived.Test.YtnilidpafijdlacMxPrim
set_option linter.unusedVariables false
set_option maxRecDepth 100000
namespace Go.Proofs.Ytnilidpafijdlac
open Go.Mx

abbrev ty_api_Code : Nat := 49

def tt : TT := tabT [(2, ⟨.int .i64, 1, 8, [.int .i64 0], none⟩),
  (3, ⟨.int .i64, 1, 8, [.int .i64 0], none⟩),
  (4, ⟨.bool, 1, 1, [.bool false], none⟩),
  (5, ⟨.int .u8, 1, 1, [.int .u8 0], none⟩),
  (9, ⟨.str, 1, 16, [.string .empty], none⟩),
  (35, ⟨.iface, 1, 16, [.nilIface], none⟩),
  (49, ⟨.int .i64, 1, 8, [.int .i64 0], none⟩),
  (55, ⟨.slice 5, 1, 24, [.slice none 0 0], none⟩),
  (56, ⟨.array 24 2, 24, 192, (repl 24 [.int .i64 0]), none⟩),
  (57, ⟨.array 12 4, 12, 12, (repl 12 [.bool false]), none⟩),
  (58, ⟨.array 12 3, 12, 96, (repl 12 [.int .i64 0]), none⟩),
  (60, ⟨.struct [(56, 0), (2, 24), (57, 25), (3, 37), (58, 38), (58, 50)], 62, 416, ((repl 24 [.int .i64 0]) ++ [.int .i64 0] ++ (repl 12 [.bool false]) ++ [.int .i64 0] ++ (repl 12 [.int .i64 0]) ++ (repl 12 [.int .i64 0])), some (((List.replicate 24 (.int .i64)) ++ [.int .i64] ++ (List.replicate 12 (.bool)) ++ [.int .i64] ++ (List.replicate 12 (.int .i64)) ++ (List.replicate 12 (.int .i64))))⟩),
  (92, ⟨.ptr 94, 1, 8, [.pointer none], none⟩),
  (94, ⟨.struct [(55, 0)], 1, 24, ([.slice none 0 0]), none⟩),
  (99, ⟨.ptr 100, 1, 8, [.pointer none], none⟩),
  (100, ⟨.struct [(55, 0)], 1, 24, ([.slice none 0 0]), none⟩)]

theorem tOk : TOk Try.prog tt := tabT_ok (by kernel_rfl)

theorem mixed : Try.prog.follows .mixedOrders = true := by kernel_rfl

end Go.Proofs.Ytnilidpafijdlac
