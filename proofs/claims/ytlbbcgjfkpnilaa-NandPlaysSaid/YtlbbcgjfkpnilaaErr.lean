/- Errors as numbers. -/
import Derived.Test.YtlbbcgjfkpnilaaFpatinalaw00
set_option linter.unusedVariables false
set_option linter.unusedSimpArgs false
namespace Go.Proofs.Ytlbbcgjfkpnilaa
open Go.Mx

def errC (c : Int) : Value := if c = 0 then .nilIface else .iface ty_api_Code (.int .i64 c)
theorem errC_zero : errC 0 = .nilIface := rfl
theorem errC_pos {c : Int} (h : c ≠ 0) : errC c = .iface ty_api_Code (.int .i64 c) := by simp [errC, h]
theorem isNil_errC (c : Int) : isNil (errC c) = some (decide (c = 0)) := by
  unfold errC; split <;> simp_all [isNil]
theorem ifEq_code (c d : Int) : ifEq tt (.iface ty_api_Code (.int .i64 c)) (.iface ty_api_Code (.int .i64 d)) = some (c == d) := by
  have h : (tt ty_api_Code).d = .int .i64 := rfl
  simp [ifEq, h]
theorem ifEq_errC (c d : Int) (hd : d ≠ 0) : ifEq tt (errC c) (.iface ty_api_Code (.int .i64 d)) = some (c == d) := by
  unfold errC
  split
  · rename_i h; subst h; simp [ifEq]; omega
  · exact ifEq_code c d
theorem code_is (k : Nat) (c : Int) (m : Mem) (hc : 0 ≤ c ∧ c < 20) : patinalaw00_Code k (errC c) m = some (c, m) := by
  have h : c = 0 ∨ c = 1 ∨ c = 2 ∨ c = 3 ∨ c = 4 ∨ c = 5 ∨ c = 6 ∨ c = 7 ∨ c = 8 ∨ c = 9 ∨ c = 10 ∨ c = 11 ∨ c = 12 ∨ c = 13 ∨ c = 14 ∨ c = 15 ∨ c = 16 ∨ c = 17 ∨ c = 18 ∨ c = 19 := by omega
  rcases h with rfl | rfl | rfl | rfl | rfl | rfl | rfl | rfl | rfl | rfl | rfl | rfl | rfl | rfl | rfl | rfl | rfl | rfl | rfl | rfl <;> rfl
end Go.Proofs.Ytlbbcgjfkpnilaa
