/- The types of the printed functions, each held against the program by the kernel. Written by mx.py. -/
import Derived.Test.YteilkkojcojaiaaProg
import Derived.Test.YteilkkojcojaiaaMxSl
import Derived.Test.YteilkkojcojaiaaMxPrim
set_option linter.unusedVariables false
set_option maxRecDepth 100000
namespace Go.Proofs.Yteilkkojcojaiaa
open Go.Mx

abbrev ty_api_Code : Nat := 47

def tt : TT := tabT [(3, ⟨.int .i64, 1, 8, [.int .i64 0], none⟩),
  (4, ⟨.bool, 1, 1, [.bool false], none⟩),
  (22, ⟨.slice 33, 1, 24, [.slice none 0 0], none⟩),
  (24, ⟨.ptr 27, 1, 8, [.pointer none], none⟩),
  (25, ⟨.slice 3, 1, 24, [.slice none 0 0], none⟩),
  (27, ⟨.struct [(25, 0)], 1, 24, ([.slice none 0 0]), none⟩),
  (28, ⟨.ptr 30, 1, 8, [.pointer none], none⟩),
  (30, ⟨.struct [(25, 0)], 1, 24, ([.slice none 0 0]), none⟩),
  (33, ⟨.struct [(3, 0), (3, 1)], 2, 16, ([.int .i64 0] ++ [.int .i64 0]), none⟩),
  (35, ⟨.iface, 1, 16, [.nilIface], none⟩),
  (43, ⟨.ptr 53, 1, 8, [.pointer none], none⟩),
  (47, ⟨.int .i64, 1, 8, [.int .i64 0], none⟩),
  (53, ⟨.struct [(3, 0), (3, 1)], 2, 16, ([.int .i64 0] ++ [.int .i64 0]), none⟩)]

theorem tOk : TOk Try.prog tt := tabT_ok (by kernel_rfl)

theorem mixed : Try.prog.follows .mixedOrders = true := by kernel_rfl

end Go.Proofs.Yteilkkojcojaiaa
