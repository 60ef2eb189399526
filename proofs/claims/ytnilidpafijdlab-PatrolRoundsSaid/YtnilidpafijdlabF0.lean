/- The types of the printed functions, each held against the program by the kernel. Written by mx.py. -/
import Derived.Test.YtnilidpafijdlabProg
import Derived.Test.YtnilidpafijdlabMxSl
set_option linter.unusedVariables false
set_option maxRecDepth 100000
namespace Go.Proofs.Ytnilidpafijdlab
open Go.Mx

abbrev ty_api_Code : Nat := 57

def tt : TT := tabT [(2, ⟨.int .i64, 1, 8, [.int .i64 0]⟩),
  (3, ⟨.int .i64, 1, 8, [.int .i64 0]⟩),
  (4, ⟨.bool, 1, 1, [.bool false]⟩),
  (5, ⟨.int .u8, 1, 1, [.int .u8 0]⟩),
  (9, ⟨.str, 1, 16, [.string .empty]⟩),
  (22, ⟨.array 24 2, 24, 192, (repl 24 [.int .i64 0])⟩),
  (23, ⟨.array 12 4, 12, 12, (repl 12 [.bool false])⟩),
  (24, ⟨.array 12 3, 12, 96, (repl 12 [.int .i64 0])⟩),
  (26, ⟨.struct [(22, 0), (2, 24), (23, 25), (3, 37), (24, 38), (24, 50)], 62, 416, ((repl 24 [.int .i64 0]) ++ [.int .i64 0] ++ (repl 12 [.bool false]) ++ [.int .i64 0] ++ (repl 12 [.int .i64 0]) ++ (repl 12 [.int .i64 0]))⟩),
  (28, ⟨.slice 5, 1, 24, [.slice none 0 0]⟩),
  (30, ⟨.iface, 1, 16, [.nilIface]⟩),
  (56, ⟨.slice 3, 1, 24, [.slice none 0 0]⟩),
  (57, ⟨.int .i64, 1, 8, [.int .i64 0]⟩),
  (59, ⟨.slice 63, 1, 24, [.slice none 0 0]⟩),
  (60, ⟨.ptr 88, 1, 8, [.pointer none]⟩),
  (63, ⟨.struct [(3, 0), (3, 1), (3, 2)], 3, 24, ([.int .i64 0] ++ [.int .i64 0] ++ [.int .i64 0])⟩),
  (67, ⟨.ptr 91, 1, 8, [.pointer none]⟩),
  (71, ⟨.ptr 102, 1, 8, [.pointer none]⟩),
  (74, ⟨.array 96 3, 96, 768, (repl 96 [.int .i64 0])⟩),
  (75, ⟨.array 96 4, 96, 96, (repl 96 [.bool false])⟩),
  (77, ⟨.ptr 79, 1, 8, [.pointer none]⟩),
  (79, ⟨.struct [(28, 0)], 1, 24, ([.slice none 0 0])⟩),
  (88, ⟨.struct [(24, 0), (3, 12)], 13, 104, ((repl 12 [.int .i64 0]) ++ [.int .i64 0])⟩),
  (91, ⟨.struct [(24, 0), (3, 12)], 13, 104, ((repl 12 [.int .i64 0]) ++ [.int .i64 0])⟩),
  (93, ⟨.ptr 95, 1, 8, [.pointer none]⟩),
  (95, ⟨.struct [(56, 0)], 1, 24, ([.slice none 0 0])⟩),
  (102, ⟨.struct [(3, 0), (3, 1)], 2, 16, ([.int .i64 0] ++ [.int .i64 0])⟩)]

theorem tOk : TOk Try.prog tt := tabT_ok (by kernel_rfl)

theorem mixed : Try.prog.follows .mixedOrders = true := by kernel_rfl

end Go.Proofs.Ytnilidpafijdlab
