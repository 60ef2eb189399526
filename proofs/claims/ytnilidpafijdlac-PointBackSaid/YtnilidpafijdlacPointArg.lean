/- The checkpoints' bytes as an argument, and what is compared. -/
import Derived.Test.YtnilidpafijdlacPoint
set_option linter.unusedVariables false
set_option linter.unusedSectionVars false
set_option linter.unusedSimpArgs false
namespace Go.Proofs.Ytnilidpafijdlac
open Go.Mx

theorem str_arr (n : Nat) (f : Int → Int) : ∃ s, strOf (arr .u8 n f) = some s := by
  have h : ∀ l : List Nat, ∃ t, strOf.strGo (l.map fun i : Nat => Value.int .u8 (f (i : Int))) = some t := by
    intro l
    induction l with
    | nil => exact ⟨[], rfl⟩
    | cons x l ih =>
      obtain ⟨t, ht⟩ := ih
      exact ⟨UInt8.ofNat (f x).toNat :: t, by simp [strOf.strGo, ht]⟩
  obtain ⟨t, ht⟩ := h (List.range n)
  unfold arr strOf
  cases hr : (List.range n).map fun i : Nat => Value.int .u8 (f (i : Int)) with
  | nil => exact ⟨_, rfl⟩
  | cons v vs => rw [hr] at ht; exact ⟨⟨t.toArray⟩, by show Option.map _ (strOf.strGo (v :: vs)) = _; rw [ht]; rfl⟩
theorem strEq_self (s : ByteArray) : strEq s s = true := by unfold strEq; simp
def okK : EK → Value → Bool
  | .int k, .int a _ => decide (a = k)
  | .bool, .bool _ => true
  | _, _ => false
theorem cellsEq_self : ∀ (ks : List EK) (xs : List Value), ks.length = xs.length → (List.zipWith okK ks xs).all id = true → cellsEq ks xs xs = some true
  | [], [], _, _ => rfl
  | e :: ks, v :: xs, h, h2 => by
    simp only [List.zipWith_cons_cons, List.all_cons, id, Bool.and_eq_true] at h2
    have ih := cellsEq_self ks xs (by simpa using h) h2.2
    have h3 := h2.1
    unfold cellsEq
    have e1 : cellEq e v v = some true := by
      unfold okK at h3
      split at h3
      · simp only [decide_eq_true_eq] at h3; subst h3; simp [cellEq]
      · simp [cellEq]
      · cases h3
    rw [e1]; simpa using ih
theorem cellsEq_ck (σ : Ck) : cellsEq (eqK tt 60) (ckC σ) (ckC σ) = some true := by
  refine cellsEq_self _ _ ?_ ?_
  · rw [ckC_len]; kernel_rfl
  · kernel_rfl

/-- the bytes of an argument -/
def argF (N : Nat) (cs : List Value) : Int → Int := fun i => if 0 ≤ i ∧ i < N then intAt (cs.getD i.toNat undef) else 0
theorem arg_byt {o : MObj} {p : Option Addr} {i N : Nat} {cs : List Value} (h : Holds o i p N [.int .u8] cs) : Byt (argF N cs) := by
  intro x
  unfold argF
  split
  · rename_i h1
    have := h.wfI h1.1 h1.2
    generalize intAt (cs.getD x.toNat undef) = v at this ⊢
    simp [Lit.wf, IntKind.min, IntKind.max, IntKind.bits, IntKind.signed] at this
    omega
  · omega
theorem arg_has {o : MObj} {p : Option Addr} {i N : Nat} {cs : List Value} (h : Holds o i p N [.int .u8] cs) (h0 : 0 < N) : p = some ⟨i, 0, none⟩ ∧ Has o 0 N (argF N cs) := by
  obtain ⟨h1, cs', rfl, h2⟩ := h.2.2 h0
  have hl : ∀ j : Nat, j < N → cs'[j]? = some (.int .u8 (argF N cs j)) := by
    intro j hj
    have h3 := h.int (j := j) (q := 0) (k := .u8) hj rfl
    simp only [List.length_cons, List.length_nil, Nat.zero_add, Nat.mul_one, Nat.add_zero] at h3
    rw [h2 j (by simpa using hj), h3.2]
    unfold argF
    rw [if_pos (by omega), Int.toNat_natCast]
  refine ⟨h1, cs', rfl, ?_, fun j hj => by rw [Nat.zero_add]; exact hl j hj⟩
  rw [Nat.zero_add]
  apply Classical.byContradiction
  intro hno
  have := hl cs'.length (by omega)
  simp at this
theorem arg_rd {o : MObj} {p : Option Addr} {i N : Nat} {cs : List Value} {m : Mem} (h : Holds o i p N [.int .u8] cs) (hm : m[i]? = some o) : rdSl m p N 1 = some (arr .u8 N (argF N cs)) := by
  cases N with
  | zero => cases p <;> rfl
  | succ N =>
    obtain ⟨rfl, h2⟩ := arg_has h (by omega)
    exact h2.rd hm

end Go.Proofs.Ytnilidpafijdlac
