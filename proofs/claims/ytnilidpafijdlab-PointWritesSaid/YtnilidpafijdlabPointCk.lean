/- A checkpoint as an argument. -/
import Derived.Test.YtnilidpafijdlabCk
set_option linter.unusedVariables false
set_option linter.unusedSectionVars false
set_option linter.unusedSimpArgs false
namespace Go.Proofs.Ytnilidpafijdlab
open Go.Mx

/-- an argument's cells -/
def boolAt' : Value → Bool
  | .bool b => b
  | _ => false
def ckOf (l : List Value) : Ck := ⟨fun i => intAt (l.getD i.toNat undef), intAt (l.getD 24 undef), fun i => boolAt' (l.getD (25 + i.toNat) undef), intAt (l.getD 37 undef), fun i => intAt (l.getD (38 + i.toNat) undef), fun i => intAt (l.getD (50 + i.toNat) undef)⟩
def ckL : List Leaf := List.replicate 25 (.int .i64) ++ List.replicate 12 .bool ++ List.replicate 25 (.int .i64)
theorem ckOf_is {l : List Value} (h : FlatOk ckL l) : l = ckC (ckOf l) := by
  have hl : l.length = 62 := h.1
  have hi : ∀ i, i < 62 → (i < 25 ∨ 37 ≤ i) → l[i]? = some (.int .i64 (intAt (l.getD i undef))) := by
    intro i h1 h2
    have hk : ckL[i]? = some (.int .i64) := by
      unfold ckL
      rcases h2 with h2 | h2
      · rw [List.getElem?_append_left (by simp; omega), List.getElem?_append_left (by simp; omega), List.getElem?_replicate, if_pos h2]
      · rw [List.getElem?_append_right (by simp; omega), List.getElem?_replicate, if_pos (by simp; omega)]
    obtain ⟨v, h3, n, rfl, _⟩ := h.2 i _ hk
    rw [List.getD_eq_getElem?_getD, h3]; rfl
  have hb : ∀ i, 25 ≤ i → i < 37 → l[i]? = some (.bool (boolAt' (l.getD i undef))) := by
    intro i h1 h2
    have hk : ckL[i]? = some .bool := by
      unfold ckL
      rw [List.getElem?_append_left (by simp; omega), List.getElem?_append_right (by simp; omega), List.getElem?_replicate, if_pos (by simp; omega)]
    obtain ⟨v, h3, n, rfl⟩ := h.2 i _ hk
    rw [List.getD_eq_getElem?_getD, h3]; rfl
  apply List.ext_getElem?
  intro i
  by_cases h1 : i < 24
  · rw [ck_fl h1, hi i (by omega) (by omega)]; rfl
  by_cases h2 : i = 24
  · subst h2; rw [ck_nx, hi 24 (by omega) (by omega)]; rfl
  by_cases h3 : i < 37
  · obtain ⟨j, rfl⟩ : ∃ j, i = 25 + j := ⟨i - 25, by omega⟩
    rw [ck_bad (by omega), hb (25 + j) (by omega) (by omega)]; rfl
  by_cases h4 : i = 37
  · subst h4; rw [ck_cu, hi 37 (by omega) (by omega)]; rfl
  by_cases h5 : i < 50
  · obtain ⟨j, rfl⟩ : ∃ j, i = 38 + j := ⟨i - 38, by omega⟩
    rw [ck_rd (by omega), hi (38 + j) (by omega) (by omega)]; rfl
  by_cases h6 : i < 62
  · obtain ⟨j, rfl⟩ : ∃ j, i = 50 + j := ⟨i - 50, by omega⟩
    rw [ck_sc (by omega), hi (50 + j) (by omega) (by omega)]; rfl
  rw [List.getElem?_eq_none (by omega), List.getElem?_eq_none (by simp; omega)]

end Go.Proofs.Ytnilidpafijdlab
