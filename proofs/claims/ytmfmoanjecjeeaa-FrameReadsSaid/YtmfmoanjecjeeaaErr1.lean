/- Errors' numbers, by the laws. -/
import Derived.Test.YtmfmoanjecjeeaaErr0
import Derived.Test.YtmfmoanjecjeeaaFpatinalaw00
set_option linter.unusedVariables false
namespace Go.Proofs.Ytmfmoanjecjeeaa
open Go.Mx
theorem code_is (k : Nat) (c : Int) (m : Mem) (hc : 0 ≤ c ∧ c < 20) : patinalaw00_Code k (errC c) m = some (c, m) := by
  have h : c = 0 ∨ c = 1 ∨ c = 2 ∨ c = 3 ∨ c = 4 ∨ c = 5 ∨ c = 6 ∨ c = 7 ∨ c = 8 ∨ c = 9 ∨ c = 10 ∨ c = 11 ∨ c = 12 ∨ c = 13 ∨ c = 14 ∨ c = 15 ∨ c = 16 ∨ c = 17 ∨ c = 18 ∨ c = 19 := by omega
  rcases h with rfl | rfl | rfl | rfl | rfl | rfl | rfl | rfl | rfl | rfl | rfl | rfl | rfl | rfl | rfl | rfl | rfl | rfl | rfl | rfl <;> rfl
end Go.Proofs.Ytmfmoanjecjeeaa
