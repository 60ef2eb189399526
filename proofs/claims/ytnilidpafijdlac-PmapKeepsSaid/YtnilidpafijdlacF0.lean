/- The types of the printed functions, each held against the program by the kernel. Written by mx.py. -/
import Derived.Test.YtnilidpafijdlacProg
import Derived.Test.YtnilidpafijdlacMxSl
set_option linter.unusedVariables false
set_option maxRecDepth 100000
namespace Go.Proofs.Ytnilidpafijdlac
open Go.Mx

abbrev ty_api_Code : Nat := 49

def tt : TT := tabT [(2, ⟨.int .i64, 1, 8, [.int .i64 0]⟩),
  (3, ⟨.int .i64, 1, 8, [.int .i64 0]⟩),
  (4, ⟨.bool, 1, 1, [.bool false]⟩),
  (5, ⟨.int .u8, 1, 1, [.int .u8 0]⟩),
  (9, ⟨.str, 1, 16, [.string .empty]⟩),
  (22, ⟨.slice 33, 1, 24, [.slice none 0 0]⟩),
  (24, ⟨.ptr 27, 1, 8, [.pointer none]⟩),
  (25, ⟨.slice 3, 1, 24, [.slice none 0 0]⟩),
  (27, ⟨.struct [(25, 0)], 1, 24, ([.slice none 0 0])⟩),
  (28, ⟨.ptr 30, 1, 8, [.pointer none]⟩),
  (30, ⟨.struct [(25, 0)], 1, 24, ([.slice none 0 0])⟩),
  (33, ⟨.struct [(3, 0), (3, 1)], 2, 16, ([.int .i64 0] ++ [.int .i64 0])⟩),
  (35, ⟨.iface, 1, 16, [.nilIface]⟩),
  (43, ⟨.ptr 90, 1, 8, [.pointer none]⟩),
  (49, ⟨.int .i64, 1, 8, [.int .i64 0]⟩),
  (55, ⟨.slice 5, 1, 24, [.slice none 0 0]⟩),
  (56, ⟨.array 24 2, 24, 192, (repl 24 [.int .i64 0])⟩),
  (57, ⟨.array 12 4, 12, 12, (repl 12 [.bool false])⟩),
  (58, ⟨.array 12 3, 12, 96, (repl 12 [.int .i64 0])⟩),
  (60, ⟨.struct [(56, 0), (2, 24), (57, 25), (3, 37), (58, 38), (58, 50)], 62, 416, ((repl 24 [.int .i64 0]) ++ [.int .i64 0] ++ (repl 12 [.bool false]) ++ [.int .i64 0] ++ (repl 12 [.int .i64 0]) ++ (repl 12 [.int .i64 0]))⟩),
  (70, ⟨.slice 77, 1, 24, [.slice none 0 0]⟩),
  (71, ⟨.ptr 105, 1, 8, [.pointer none]⟩),
  (73, ⟨.ptr 107, 1, 8, [.pointer none]⟩),
  (77, ⟨.struct [(3, 0), (3, 1), (3, 2)], 3, 24, ([.int .i64 0] ++ [.int .i64 0] ++ [.int .i64 0])⟩),
  (90, ⟨.struct [(3, 0), (3, 1)], 2, 16, ([.int .i64 0] ++ [.int .i64 0])⟩),
  (92, ⟨.ptr 94, 1, 8, [.pointer none]⟩),
  (94, ⟨.struct [(55, 0)], 1, 24, ([.slice none 0 0])⟩),
  (99, ⟨.ptr 100, 1, 8, [.pointer none]⟩),
  (100, ⟨.struct [(55, 0)], 1, 24, ([.slice none 0 0])⟩),
  (102, ⟨.array 25 3, 25, 200, (repl 25 [.int .i64 0])⟩),
  (103, ⟨.array 96 3, 96, 768, (repl 96 [.int .i64 0])⟩),
  (105, ⟨.struct [(102, 0), (103, 25)], 121, 968, ((repl 25 [.int .i64 0]) ++ (repl 96 [.int .i64 0]))⟩),
  (107, ⟨.struct [(102, 0)], 25, 200, ((repl 25 [.int .i64 0]))⟩)]

theorem tOk : TOk Try.prog tt := tabT_ok (by kernel_rfl)

theorem mixed : Try.prog.follows .mixedOrders = true := by kernel_rfl

end Go.Proofs.Ytnilidpafijdlac
