/- The types of the printed functions, each held against the program by the kernel. Written by mx.py. -/
import Derived.Test.YtnilidpafijdlaaProg
import Derived.Test.YtnilidpafijdlaaMxOwn
set_option linter.unusedVariables false
set_option maxRecDepth 100000
namespace Go.Proofs.Ytnilidpafijdlaa
open Go.Mx

abbrev ty_api_Code : Nat := 55

def tt : TT := tabT [(3, ⟨.int .i64, 1, 8, [.int .i64 0]⟩),
  (4, ⟨.bool, 1, 1, [.bool false]⟩),
  (24, ⟨.iface, 1, 16, [.nilIface]⟩),
  (46, ⟨.slice 3, 1, 24, [.slice none 0 0]⟩),
  (47, ⟨.ptr 58, 1, 8, [.pointer none]⟩),
  (49, ⟨.array 12 4, 12, 12, (repl 12 [.bool false])⟩),
  (52, ⟨.array 12 3, 12, 96, (repl 12 [.int .i64 0])⟩),
  (55, ⟨.int .i64, 1, 8, [.int .i64 0]⟩),
  (58, ⟨.struct [(52, 0), (3, 12)], 13, 104, ((repl 12 [.int .i64 0]) ++ [.int .i64 0])⟩)]

theorem tOk : TOk Try.prog tt := tabT_ok (by kernel_rfl)

theorem mixed : Try.prog.follows .mixedOrders = true := by kernel_rfl

end Go.Proofs.Ytnilidpafijdlaa
