/- The field of 256 elements, plain: bytes, added bit by bit, multiplied by the powers of 2. -/
import Derived.KernelRfl
set_option linter.unusedVariables false
set_option linter.unusedSectionVars false
set_option linter.unusedSimpArgs false
namespace Go.Proofs.Ytlbbcgjfkpnilaa

def GF : Type := BitVec 8
instance : DecidableEq GF := inferInstanceAs (DecidableEq (BitVec 8))
instance : Inhabited GF := inferInstanceAs (Inhabited (BitVec 8))
instance (n : Nat) : OfNat GF n := ⟨BitVec.ofNat 8 n⟩
instance : Add GF := ⟨fun a b => BitVec.xor a b⟩
namespace GF
def v (a : GF) : Nat := BitVec.toNat (w := 8) a
def of (n : Nat) : GF := BitVec.ofNat 8 n
theorem v_lt (a : GF) : a.v < 256 := BitVec.isLt (w := 8) a
theorem of_v (a : GF) : of a.v = a := by unfold of v; exact BitVec.ofNat_toNat' a
where
  BitVec.ofNat_toNat' (a : BitVec 8) : BitVec.ofNat 8 a.toNat = a := by simp
theorem v_of {n : Nat} (h : n < 256) : (of n).v = n := by unfold of v; rw [BitVec.toNat_ofNat]; omega
theorem v_inj {a b : GF} (h : a.v = b.v) : a = b := by rw [← of_v a, ← of_v b, h]
theorem ext_all {p : GF → Prop} (h : ∀ n, n < 256 → p (of n)) (a : GF) : p a := by
  have := h a.v a.v_lt
  rwa [of_v] at this
theorem add_def (a b : GF) : a + b = (BitVec.xor a b : BitVec 8) := rfl
theorem add_comm (a b : GF) : a + b = b + a := BitVec.xor_comm (w := 8) a b
theorem add_assoc (a b c : GF) : a + b + c = a + (b + c) := BitVec.xor_assoc (w := 8) a b c
theorem add_left_comm (a b c : GF) : a + (b + c) = b + (a + c) := by rw [← add_assoc, add_comm a b, add_assoc]
theorem add_self (a : GF) : a + a = 0 := BitVec.xor_self (w := 8) (x := a)
theorem add_zero (a : GF) : a + 0 = a := BitVec.xor_zero (w := 8) (x := a)
theorem zero_add (a : GF) : 0 + a = a := BitVec.zero_xor (w := 8) (x := a)
theorem add_cancel (a b : GF) : a + (a + b) = b := by rw [← add_assoc, add_self, zero_add]
theorem add_eq_zero {a b : GF} : a + b = 0 ↔ a = b := by
  constructor
  · intro h
    have := congrArg (fun x => x + b) h
    simp only [add_assoc, add_self, add_zero, zero_add] at this
    exact this
  · rintro rfl; exact add_self a

/-- twice -/
def xt (x : GF) : GF := (BitVec.xor (BitVec.shiftLeft (n := 8) x 1) (if BitVec.msb (n := 8) x then (0x1d : BitVec 8) else (0 : BitVec 8)) : BitVec 8)
theorem xt_zero : xt 0 = 0 := by decide
theorem xt_add (x y : GF) : xt (x + y) = xt x + xt y := by
  have key : ∀ x y : BitVec 8, ((x ^^^ y) <<< 1 ^^^ (if (x ^^^ y).msb then (0x1d : BitVec 8) else 0)) = ((x <<< 1 ^^^ (if x.msb then (0x1d : BitVec 8) else 0)) ^^^ (y <<< 1 ^^^ (if y.msb then (0x1d : BitVec 8) else 0))) := by
    have lc : ∀ a b c : BitVec 8, a ^^^ (b ^^^ c) = b ^^^ (a ^^^ c) := fun a b c => by rw [← BitVec.xor_assoc, BitVec.xor_comm a b, BitVec.xor_assoc]
    have cn : ∀ a b : BitVec 8, a ^^^ (a ^^^ b) = b := fun a b => by rw [← BitVec.xor_assoc, BitVec.xor_self, BitVec.zero_xor]
    intro x y
    rw [BitVec.shiftLeft_xor_distrib, BitVec.msb_xor]
    generalize x <<< 1 = p
    generalize y <<< 1 = q
    have z : (0 : BitVec 8) = 0#8 := rfl
    generalize (29 : BitVec 8) = c
    cases x.msb <;> cases y.msb
    · show p ^^^ q ^^^ 0 = p ^^^ 0 ^^^ (q ^^^ 0)
      rw [z, BitVec.xor_zero, BitVec.xor_zero, BitVec.xor_zero]
    · show p ^^^ q ^^^ c = p ^^^ 0 ^^^ (q ^^^ c)
      rw [z, BitVec.xor_zero, BitVec.xor_assoc]
    · show p ^^^ q ^^^ c = p ^^^ c ^^^ (q ^^^ 0)
      rw [z, BitVec.xor_zero, BitVec.xor_assoc, BitVec.xor_assoc, BitVec.xor_comm q]
    · show p ^^^ q ^^^ 0 = p ^^^ c ^^^ (q ^^^ c)
      rw [z, BitVec.xor_zero, BitVec.xor_assoc, lc c q, BitVec.xor_self, BitVec.xor_zero]
  exact key x y
def xts : Nat → GF → GF
  | 0, x => x
  | n + 1, x => xts n (xt x)
theorem xts_zero (n : Nat) : xts n 0 = 0 := by
  induction n with
  | zero => rfl
  | succ n ih => rw [xts, xt_zero, ih]
theorem xts_add (n : Nat) (x y : GF) : xts n (x + y) = xts n x + xts n y := by
  induction n generalizing x y with
  | zero => rfl
  | succ n ih => rw [xts, xt_add, ih]; rfl
theorem xts_xts (m n : Nat) (x : GF) : xts m (xts n x) = xts (n + m) x := by
  induction n generalizing x with
  | zero => rw [Nat.zero_add]; rfl
  | succ n ih => rw [xts, ih, Nat.add_right_comm]; rfl
/-- the powers of 2 -/
def pw (n : Nat) : GF := xts n 1
theorem xts_pw (m n : Nat) : xts m (pw n) = pw (n + m) := xts_xts m n 1
theorem pw_succ (n : Nat) : pw (n + 1) = xt (pw n) := (xts_pw 1 n).symm
theorem pw_zero : pw 0 = 1 := rfl

/-- the table of powers, and the place of each element in it -/
def tabGo : Nat → GF → List Nat
  | 0, _ => []
  | n + 1, x => x.v :: tabGo n (xt x)
def tabE : List Nat := tabGo 255 1
theorem tabGo_get : ∀ (n : Nat) (x : GF) (i : Nat), i < n → (tabGo n x)[i]? = some (xts i x).v
  | n + 1, x, 0, _ => rfl
  | n + 1, x, i + 1, h => by
    rw [tabGo, List.getElem?_cons_succ, tabGo_get n (xt x) i (by omega)]; rfl
theorem tabE_get {i : Nat} (h : i < 255) : tabE[i]? = some (pw i).v := tabGo_get 255 1 i h
/-- which power of 2 an element is -/
def lg (a : GF) : Nat := tabE.idxOf a.v
theorem tabE_len : tabE.length = 255 := by decide +kernel
theorem tabE_all : (List.range 256).all (fun a => a == 0 || tabE.contains a) = true := by decide +kernel
theorem tabE_nodup : (List.range 255).all (fun i => tabE.idxOf (tabE.getD i 0) == i && tabE.getD i 0 != 0) = true := by decide +kernel
theorem pw_255 : pw 255 = 1 := by decide +kernel
theorem pw_mod (n : Nat) : pw (n % 255) = pw n := by
  have h : ∀ k r, pw (r + 255 * k) = pw r := by
    intro k
    induction k with
    | zero => intro r; simp
    | succ k ih =>
      intro r
      rw [Nat.mul_succ, Nat.add_comm, Nat.add_comm (255 * k), Nat.add_assoc, ← xts_pw, pw_255, ← pw_zero, xts_pw, Nat.zero_add, Nat.add_comm, ih]
  rw [← h (n / 255) (n % 255), Nat.mod_add_div]
theorem lg_pw {i : Nat} (h : i < 255) : lg (pw i) = i := by
  have h1 := List.all_eq_true.1 tabE_nodup i (List.mem_range.2 h)
  simp only [Bool.and_eq_true, beq_iff_eq, bne_iff_ne] at h1
  rw [List.getD_eq_getElem?_getD, tabE_get h] at h1
  exact h1.1
theorem pw_ne {n : Nat} : pw n ≠ 0 := by
  rw [← pw_mod]
  have h : n % 255 < 255 := Nat.mod_lt _ (by omega)
  have h1 := List.all_eq_true.1 tabE_nodup _ (List.mem_range.2 h)
  simp only [Bool.and_eq_true, beq_iff_eq, bne_iff_ne] at h1
  rw [List.getD_eq_getElem?_getD, tabE_get h] at h1
  intro h2
  rw [h2] at h1
  exact h1.2 rfl
theorem v_ne {a : GF} (h : a ≠ 0) : a.v ≠ 0 := fun h1 => h (v_inj (h1.trans rfl))
theorem lg_lt {a : GF} (h : a ≠ 0) : lg a < 255 := by
  have h1 := List.all_eq_true.1 tabE_all a.v (List.mem_range.2 a.v_lt)
  simp only [Bool.or_eq_true, beq_iff_eq, List.contains_iff_mem] at h1
  rcases h1 with h1 | h1
  · exact absurd h1 (v_ne h)
  · unfold lg
    rw [← tabE_len]
    exact List.idxOf_lt_length_iff.2 h1
theorem pw_lg {a : GF} (h : a ≠ 0) : pw (lg a) = a := by
  have h1 := lg_lt h
  have h2 := tabE_get h1
  have h3 : tabE[lg a]? = some a.v := by
    unfold lg at h1 ⊢
    rw [← tabE_len] at h1
    rw [List.getElem?_eq_getElem h1, List.getElem_idxOf h1]
  rw [h2] at h3
  exact v_inj (by simpa using h3)
theorem lg_pw' (n : Nat) : lg (pw n) = n % 255 := by rw [← pw_mod, lg_pw (Nat.mod_lt _ (by omega))]
theorem pw_inj {i j : Nat} (hi : i < 255) (hj : j < 255) (h : pw i = pw j) : i = j := by rw [← lg_pw hi, ← lg_pw hj, h]

instance : Mul GF := ⟨fun a b => if a = 0 then 0 else xts (lg a) b⟩
theorem mul_def (a b : GF) : a * b = if a = 0 then 0 else xts (lg a) b := rfl
theorem zero_mul (a : GF) : 0 * a = 0 := by rw [mul_def, if_pos rfl]
theorem mul_zero (a : GF) : a * 0 = 0 := by rw [mul_def]; split; rfl; exact xts_zero _
theorem xts_mod (n : Nat) (x : GF) : xts (n % 255) x = xts n x := by
  by_cases h : x = 0
  · rw [h, xts_zero, xts_zero]
  · rw [← pw_lg h, xts_pw, xts_pw, ← pw_mod, ← pw_mod (lg x + n), Nat.add_mod_mod]
theorem pw_mul (n : Nat) (x : GF) : pw n * x = xts n x := by rw [mul_def, if_neg pw_ne, lg_pw', xts_mod]
theorem pw_pw (m n : Nat) : pw m * pw n = pw (m + n) := by rw [pw_mul, xts_pw, Nat.add_comm]
theorem mul_add (a b c : GF) : a * (b + c) = a * b + a * c := by
  simp only [mul_def]
  split
  · rw [add_zero]
  · exact xts_add _ _ _
theorem mul_comm (a b : GF) : a * b = b * a := by
  by_cases ha : a = 0
  · rw [ha, zero_mul, mul_zero]
  · by_cases hb : b = 0
    · rw [hb, zero_mul, mul_zero]
    · rw [← pw_lg ha, ← pw_lg hb, pw_pw, pw_pw, Nat.add_comm]
theorem add_mul (a b c : GF) : (a + b) * c = a * c + b * c := by rw [mul_comm, mul_add, mul_comm c, mul_comm c]
theorem mul_assoc (a b c : GF) : a * b * c = a * (b * c) := by
  by_cases ha : a = 0
  · rw [ha, zero_mul, zero_mul, zero_mul]
  · by_cases hb : b = 0
    · rw [hb, mul_zero, zero_mul, mul_zero]
    · by_cases hc : c = 0
      · rw [hc, mul_zero, mul_zero, mul_zero]
      · rw [← pw_lg ha, ← pw_lg hb, ← pw_lg hc, pw_pw, pw_pw, pw_pw, pw_pw, Nat.add_assoc]
theorem mul_left_comm (a b c : GF) : a * (b * c) = b * (a * c) := by rw [← mul_assoc, mul_comm a b, mul_assoc]
theorem one_mul (a : GF) : 1 * a = a := by
  have := pw_mul 0 a
  rwa [pw_zero] at this
theorem mul_one (a : GF) : a * 1 = a := by rw [mul_comm, one_mul]
theorem mul_ne {a b : GF} (ha : a ≠ 0) (hb : b ≠ 0) : a * b ≠ 0 := by
  rw [← pw_lg ha, ← pw_lg hb, pw_pw]; exact pw_ne
theorem mul_eq_zero {a b : GF} (h : a * b = 0) : a = 0 ∨ b = 0 := by
  by_cases ha : a = 0
  · exact .inl ha
  · by_cases hb : b = 0
    · exact .inr hb
    · exact absurd h (mul_ne ha hb)
theorem mul_lg {a b : GF} (ha : a ≠ 0) (hb : b ≠ 0) : a * b = pw (lg a + lg b) := by rw [← pw_pw, pw_lg ha, pw_lg hb]
def inv (a : GF) : GF := pw (255 - lg a)
theorem mul_inv {a : GF} (h : a ≠ 0) : a * inv a = 1 := by
  have := lg_lt h
  have e : a * inv a = pw (lg a) * inv a := by rw [pw_lg h]
  rw [e]; unfold inv
  rw [pw_pw, show lg a + (255 - lg a) = 255 by omega, pw_255]
def div (a b : GF) : GF := a * inv b
theorem div_mul {a b : GF} (h : b ≠ 0) : div a b * b = a := by unfold div; rw [mul_assoc, mul_comm (inv b), mul_inv h, mul_one]
theorem mul_div {a b : GF} (h : b ≠ 0) : div (a * b) b = a := by unfold div; rw [mul_assoc, mul_inv h, mul_one]
theorem mul_cancel {a b c : GF} (h : c ≠ 0) (e : a * c = b * c) : a = b := by rw [← mul_div (a := a) h, e, mul_div h]
end GF
end Go.Proofs.Ytlbbcgjfkpnilaa
