/- The types of the printed functions, each held against the program by the kernel. Written by mx.py. -/
import Derived.Test.YtnilidpafijdlabProg
import Derived.Test.YtnilidpafijdlabMxSl
import Derived.Test.YtnilidpafijdlabMxPrim
set_option linter.unusedVariables false
set_option maxRecDepth 100000
namespace Go.Proofs.Ytnilidpafijdlab
open Go.Mx

abbrev ty_api_Code : Nat := 57

def tt : TT := tabT [(2, ⟨.int .i64, 1, 8, [.int .i64 0], none⟩),
  (3, ⟨.int .i64, 1, 8, [.int .i64 0], none⟩),
  (4, ⟨.bool, 1, 1, [.bool false], none⟩),
  (5, ⟨.int .u8, 1, 1, [.int .u8 0], none⟩),
  (9, ⟨.str, 1, 16, [.string .empty], none⟩),
  (22, ⟨.array 24 2, 24, 192, (repl 24 [.int .i64 0]), none⟩),
  (23, ⟨.array 12 4, 12, 12, (repl 12 [.bool false]), none⟩),
  (24, ⟨.array 12 3, 12, 96, (repl 12 [.int .i64 0]), none⟩),
  (26, ⟨.struct [(22, 0), (2, 24), (23, 25), (3, 37), (24, 38), (24, 50)], 62, 416, ((repl 24 [.int .i64 0]) ++ [.int .i64 0] ++ (repl 12 [.bool false]) ++ [.int .i64 0] ++ (repl 12 [.int .i64 0]) ++ (repl 12 [.int .i64 0])), none⟩),
  (28, ⟨.slice 5, 1, 24, [.slice none 0 0], none⟩),
  (30, ⟨.iface, 1, 16, [.nilIface], none⟩),
  (57, ⟨.int .i64, 1, 8, [.int .i64 0], none⟩),
  (77, ⟨.ptr 79, 1, 8, [.pointer none], none⟩),
  (79, ⟨.struct [(28, 0)], 1, 24, ([.slice none 0 0]), none⟩)]

theorem tOk : TOk Try.prog tt := tabT_ok (by kernel_rfl)

theorem mixed : Try.prog.follows .mixedOrders = true := by kernel_rfl

end Go.Proofs.Ytnilidpafijdlab
