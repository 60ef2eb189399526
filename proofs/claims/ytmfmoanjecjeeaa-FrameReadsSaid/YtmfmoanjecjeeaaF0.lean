/- The types of the printed functions, each held against the program by the kernel. Written by mx.py. -/
import Derived.Test.YtmfmoanjecjeeaaProg
import Derived.Test.YtmfmoanjecjeeaaMxSl
import Derived.Test.YtmfmoanjecjeeaaMxPrim
set_option linter.unusedVariables false
set_option maxRecDepth 100000
namespace Go.Proofs.Ytmfmoanjecjeeaa
open Go.Mx

abbrev ty_api_Code : Nat := 36
abbrev ty_field_Field : Nat := 101

def tt : TT := tabT [(1, ⟨.fn, 1, 8, [.nilFunc], none⟩),
  (3, ⟨.int .i64, 1, 8, [.int .i64 0], none⟩),
  (4, ⟨.bool, 1, 1, [.bool false], none⟩),
  (5, ⟨.int .u8, 1, 1, [.int .u8 0], none⟩),
  (9, ⟨.str, 1, 16, [.string .empty], none⟩),
  (21, ⟨.int .i32, 1, 4, [.int .i32 0], none⟩),
  (22, ⟨.slice 5, 1, 24, [.slice none 0 0], none⟩),
  (24, ⟨.ptr 57, 1, 8, [.pointer none], none⟩),
  (26, ⟨.ptr 59, 1, 8, [.pointer none], none⟩),
  (28, ⟨.slice 22, 1, 24, [.slice none 0 0], none⟩),
  (30, ⟨.iface, 1, 16, [.nilIface], none⟩),
  (36, ⟨.int .i64, 1, 8, [.int .i64 0], none⟩),
  (54, ⟨.ptr 74, 1, 8, [.pointer none], none⟩),
  (57, ⟨.struct [(54, 0)], 1, 8, ([.pointer none]), none⟩),
  (59, ⟨.struct [(22, 0), (22, 1), (3, 2)], 3, 56, ([.slice none 0 0] ++ [.slice none 0 0] ++ [.int .i64 0]), none⟩),
  (63, ⟨.fn, 1, 8, [.nilFunc], none⟩),
  (69, ⟨.ptr 101, 1, 8, [.pointer none], none⟩),
  (74, ⟨.struct [(69, 0), (22, 1)], 2, 32, ([.pointer none] ++ [.slice none 0 0]), none⟩),
  (76, ⟨.array 6 5, 6, 6, (repl 6 [.int .u8 0]), some ((List.replicate 6 (.int .u8)))⟩),
  (81, ⟨.slice 3, 1, 24, [.slice none 0 0], none⟩),
  (87, ⟨.struct [], 0, 0, [], none⟩),
  (88, ⟨.struct [], 0, 0, [], none⟩),
  (89, ⟨.int .u32, 1, 4, [.int .u32 0], none⟩),
  (91, ⟨.struct [(88, 0), (89, 0)], 1, 4, ([] ++ [.int .u32 0]), none⟩),
  (93, ⟨.struct [(21, 0), (89, 1)], 2, 8, ([.int .i32 0] ++ [.int .u32 0]), none⟩),
  (95, ⟨.struct [(87, 0), (93, 0)], 2, 8, ([] ++ ([.int .i32 0] ++ [.int .u32 0])), none⟩),
  (97, ⟨.struct [(87, 0), (91, 0), (95, 1)], 3, 12, ([] ++ ([] ++ [.int .u32 0]) ++ ([] ++ ([.int .i32 0] ++ [.int .u32 0]))), none⟩),
  (98, ⟨.array 510 5, 510, 510, (repl 510 [.int .u8 0]), none⟩),
  (99, ⟨.array 256 3, 256, 2048, (repl 256 [.int .i64 0]), none⟩),
  (101, ⟨.struct [(97, 0), (98, 3), (99, 513)], 769, 2576, (([] ++ ([] ++ [.int .u32 0]) ++ ([] ++ ([.int .i32 0] ++ [.int .u32 0]))) ++ (repl 510 [.int .u8 0]) ++ (repl 256 [.int .i64 0])), none⟩),
  (109, ⟨.array 2 3, 2, 16, (repl 2 [.int .i64 0]), none⟩),
  (110, ⟨.ptr 97, 1, 8, [.pointer none], none⟩)]

theorem tOk : TOk Try.prog tt := tabT_ok (by kernel_rfl)

theorem mixed : Try.prog.follows .mixedOrders = true := by kernel_rfl

end Go.Proofs.Ytmfmoanjecjeeaa
