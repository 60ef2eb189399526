/- A checkpoint's cells, and the numbers that its bytes are: no program in sight. -/
import Derived.Test.YtnilidpafijdlabMxFlat
set_option linter.unusedVariables false
set_option linter.unusedSectionVars false
set_option linter.unusedSimpArgs false
namespace Go.Proofs.Ytnilidpafijdlab
open Go.Mx

theorem okZ_is {b off : Nat} {sp : Option Nat} (h : sp = none ∨ sp = some 1) : sliceK.okZ (some ⟨b, off, sp⟩) 1 false = true := by
  rcases h with rfl | rfl <;> rfl
theorem clear_is {p : Option Addr} : sliceK.clear p false = p := rfl

def Has (o : MObj) (off n : Nat) (f : Int → Int) : Prop := ∃ cs, o.cells = some cs ∧ off + n ≤ cs.length ∧ ∀ i : Nat, i < n → cs[off + i]? = some (.int .u8 (f i))
theorem Has.cells {o : MObj} {off n : Nat} {f : Int → Int} {m : Mem} {b : Nat} (h : Has o off n f) (hm : m[b]? = some o) : ∃ cs, m.cells b = some cs ∧ off + n ≤ cs.length ∧ ∀ i : Nat, i < n → cs[off + i]? = some (.int .u8 (f i)) := by
  obtain ⟨cs, h1, h2⟩ := h
  exact ⟨cs, by simp [Mem.cells, hm, h1], h2⟩
theorem Has.ld {o : MObj} {off n : Nat} {f : Int → Int} {m : Mem} {b : Nat} {sp : Option Nat} (h : Has o off n f) (hm : m[b]? = some o) {i : Nat} (h1 : i < n) : ldInt .u8 m ⟨b, off + i, sp⟩ = some (f i) := by
  obtain ⟨cs, h2, h3, h4⟩ := h.cells hm
  simp [ldInt, h2, cInt, h4 i h1]
theorem Has.rd {o : MObj} {off n : Nat} {f : Int → Int} {m : Mem} {b : Nat} {sp : Option Nat} (h : Has o off n f) (hm : m[b]? = some o) : rdSl m (some ⟨b, off, sp⟩) n 1 = some (arr .u8 n f) := by
  obtain ⟨cs, h2, h3, h4⟩ := h.cells hm
  refine rdSl_ld ?_
  have e : (cs.drop off).take (n * 1) = arr .u8 n f := by
    apply List.ext_getElem?
    intro i
    rw [Nat.mul_one, List.getElem?_take]
    by_cases hi : i < n
    · rw [if_pos hi, List.getElem?_drop, h4 i hi, arr_get hi]
    · rw [if_neg hi, List.getElem?_eq_none (by simp; omega)]
  simp only [ldCells, h2, Option.bind_some, cCells]
  rw [if_pos (by omega), e]
theorem str_arr (n : Nat) (f : Int → Int) : ∃ s, strOf (arr .u8 n f) = some s := by
  have h : ∀ l : List Nat, ∃ t, strOf.strGo (l.map fun i : Nat => Value.int .u8 (f (i : Int))) = some t := by
    intro l
    induction l with
    | nil => exact ⟨[], rfl⟩
    | cons x l ih =>
      obtain ⟨t, ht⟩ := ih
      exact ⟨UInt8.ofNat (f x).toNat :: t, by simp [strOf.strGo, ht]⟩
  obtain ⟨t, ht⟩ := h (List.range n)
  unfold arr strOf
  cases hr : (List.range n).map fun i : Nat => Value.int .u8 (f (i : Int)) with
  | nil => exact ⟨_, rfl⟩
  | cons v vs => rw [hr] at ht; exact ⟨⟨t.toArray⟩, by show Option.map _ (strOf.strGo (v :: vs)) = _; rw [ht]; rfl⟩
theorem strEq_self (s : ByteArray) : strEq s s = true := by unfold strEq; simp
structure Ck where
  fl : Int → Int
  nx : Int
  bad : Int → Bool
  cu : Int
  rd : Int → Int
  sc : Int → Int
def ckC (σ : Ck) : List Value := arr .i64 24 σ.fl ++ [.int .i64 σ.nx] ++ barr 12 σ.bad ++ [.int .i64 σ.cu] ++ arr .i64 12 σ.rd ++ arr .i64 12 σ.sc
def zck : Ck := ⟨fun _ => 0, 0, fun _ => false, 0, fun _ => 0, fun _ => 0⟩
theorem zck_cells : ((repl 24 [Value.int .i64 0]) ++ [Value.int .i64 0] ++ (repl 12 [Value.bool false]) ++ [Value.int .i64 0] ++ (repl 12 [Value.int .i64 0]) ++ (repl 12 [Value.int .i64 0])) = ckC zck := by
  rw [repl_int, repl_int, repl_bool]; rfl
@[simp] theorem ckC_len {σ : Ck} : (ckC σ).length = 62 := by simp [ckC]

section
variable {σ : Ck} {i : Nat}
theorem ck_fl (h : i < 24) : (ckC σ)[i]? = some (.int .i64 (σ.fl i)) := by
  unfold ckC
  rw [List.getElem?_append_left (by simp; omega), List.getElem?_append_left (by simp; omega), List.getElem?_append_left (by simp; omega), List.getElem?_append_left (by simp; omega), List.getElem?_append_left (by simp; omega), arr_get h]
theorem ck_nx : (ckC σ)[24]? = some (.int .i64 σ.nx) := by
  unfold ckC
  rw [List.getElem?_append_left (by simp), List.getElem?_append_left (by simp), List.getElem?_append_left (by simp), List.getElem?_append_left (by simp), List.getElem?_append_right (by simp)]
  simp
theorem ck_bad (h : i < 12) : (ckC σ)[25 + i]? = some (.bool (σ.bad i)) := by
  unfold ckC
  rw [List.getElem?_append_left (by simp; omega), List.getElem?_append_left (by simp; omega), List.getElem?_append_left (by simp; omega), List.getElem?_append_right (by simp)]
  simp only [List.length_append, arr_length, List.length_cons, List.length_nil]
  rw [show 25 + i - (24 + (0 + 1)) = i by omega, barr_get h]
theorem ck_cu : (ckC σ)[37]? = some (.int .i64 σ.cu) := by
  unfold ckC
  rw [List.getElem?_append_left (by simp), List.getElem?_append_left (by simp), List.getElem?_append_right (by simp)]
  simp
theorem ck_rd (h : i < 12) : (ckC σ)[38 + i]? = some (.int .i64 (σ.rd i)) := by
  unfold ckC
  rw [List.getElem?_append_left (by simp; omega), List.getElem?_append_right (by simp)]
  simp only [List.length_append, arr_length, barr_length, List.length_cons, List.length_nil]
  rw [show 38 + i - (24 + (0 + 1) + 12 + (0 + 1)) = i by omega, arr_get h]
theorem ck_sc (h : i < 12) : (ckC σ)[50 + i]? = some (.int .i64 (σ.sc i)) := by
  unfold ckC
  rw [List.getElem?_append_right (by simp)]
  simp only [List.length_append, arr_length, barr_length, List.length_cons, List.length_nil]
  rw [show 50 + i - (24 + (0 + 1) + 12 + (0 + 1) + 12) = i by omega, arr_get h]
theorem ck_sfl (v : Int) (h : i < 24) : (ckC σ).set i (.int .i64 v) = ckC { σ with fl := upd σ.fl i v } := by
  unfold ckC
  rw [List.set_append_left _ _ (by simp; omega), List.set_append_left _ _ (by simp; omega), List.set_append_left _ _ (by simp; omega), List.set_append_left _ _ (by simp; omega), List.set_append_left _ _ (by simp; omega)]
  have := arr_set (k := .i64) (n := 24) (f := σ.fl) (x := i) (v := v) (by omega)
  rw [Int.toNat_natCast] at this
  rw [this]
theorem ck_snx (v : Int) : (ckC σ).set 24 (.int .i64 v) = ckC { σ with nx := v } := by
  unfold ckC
  rw [List.set_append_left _ _ (by simp), List.set_append_left _ _ (by simp), List.set_append_left _ _ (by simp), List.set_append_left _ _ (by simp), List.set_append_right _ _ (by simp)]
  simp
theorem ck_sbad (v : Bool) (h : i < 12) : (ckC σ).set (25 + i) (.bool v) = ckC { σ with bad := upd σ.bad i v } := by
  unfold ckC
  rw [List.set_append_left _ _ (by simp; omega), List.set_append_left _ _ (by simp; omega), List.set_append_left _ _ (by simp; omega), List.set_append_right _ _ (by simp)]
  have := barr_set (n := 12) (f := σ.bad) (x := i) (v := v) (by omega)
  rw [Int.toNat_natCast] at this
  simp only [List.length_append, arr_length, barr_length, List.length_cons, List.length_nil]
  rw [show 25 + i - (24 + (0 + 1)) = i by omega, this]
theorem ck_scu (v : Int) : (ckC σ).set 37 (.int .i64 v) = ckC { σ with cu := v } := by
  unfold ckC
  rw [List.set_append_left _ _ (by simp), List.set_append_left _ _ (by simp), List.set_append_right _ _ (by simp)]
  simp
theorem ck_srd (v : Int) (h : i < 12) : (ckC σ).set (38 + i) (.int .i64 v) = ckC { σ with rd := upd σ.rd i v } := by
  unfold ckC
  rw [List.set_append_left _ _ (by simp; omega), List.set_append_right _ _ (by simp)]
  have := arr_set (k := .i64) (n := 12) (f := σ.rd) (x := i) (v := v) (by omega)
  rw [Int.toNat_natCast] at this
  simp only [List.length_append, arr_length, barr_length, List.length_cons, List.length_nil]
  rw [show 38 + i - (24 + (0 + 1) + 12 + (0 + 1)) = i by omega, this]
theorem ck_ssc (v : Int) (h : i < 12) : (ckC σ).set (50 + i) (.int .i64 v) = ckC { σ with sc := upd σ.sc i v } := by
  unfold ckC
  rw [List.set_append_right _ _ (by simp)]
  have := arr_set (k := .i64) (n := 12) (f := σ.sc) (x := i) (v := v) (by omega)
  rw [Int.toNat_natCast] at this
  simp only [List.length_append, arr_length, barr_length, List.length_cons, List.length_nil]
  rw [show 50 + i - (24 + (0 + 1) + 12 + (0 + 1) + 12) = i by omega, this]
theorem ck_tfl : ((ckC σ).drop 0).take 24 = arr .i64 24 σ.fl := by
  unfold ckC
  rw [List.drop_zero]; simp only [List.append_assoc]; exact arr_take
theorem ck_tbad : ((ckC σ).drop 25).take 12 = barr 12 σ.bad := by
  unfold ckC
  simp only [List.append_assoc]
  rw [← List.append_assoc, List.drop_left' (by simp), List.take_left' (by simp)]
theorem ck_trd : ((ckC σ).drop 38).take 12 = arr .i64 12 σ.rd := by
  unfold ckC
  rw [List.append_assoc, List.drop_left' (by simp)]; exact arr_take
theorem ck_tsc : ((ckC σ).drop 50).take 12 = arr .i64 12 σ.sc := by
  unfold ckC
  rw [List.drop_left' (by simp), List.take_of_length_le (by simp)]
end

/-- two checkpoints that tell the same have the same cells -/
theorem ckC_congr {σ τ : Ck} (h1 : ∀ i : Int, 0 ≤ i → i < 24 → σ.fl i = τ.fl i) (h2 : σ.nx = τ.nx) (h3 : ∀ i : Int, 0 ≤ i → i < 12 → σ.bad i = τ.bad i) (h4 : σ.cu = τ.cu) (h5 : ∀ i : Int, 0 ≤ i → i < 12 → σ.rd i = τ.rd i) (h6 : ∀ i : Int, 0 ≤ i → i < 12 → σ.sc i = τ.sc i) : ckC σ = ckC τ := by
  have e : barr 12 σ.bad = barr 12 τ.bad := by
    unfold barr
    refine List.map_congr_left fun i hi => ?_
    rw [h3 i (by omega) (by have := List.mem_range.1 hi; omega)]
  unfold ckC
  rw [arr_congr h1, h2, e, h4, arr_congr h5, arr_congr h6]

/-! ## numbers of bytes -/
def num (f : Int → Int) (o : Int) : Nat → Int
  | 0 => 0
  | n + 1 => num f o n + f (o + n) * 256 ^ n
theorem pow_succ' (n : Nat) : (256 : Int) ^ (n + 1) = 256 * 256 ^ n := by rw [Int.pow_succ, Int.mul_comm]
theorem num_front (f : Int → Int) : ∀ (n : Nat) (o : Int), num f o (n + 1) = f o + 256 * num f (o + 1) n
  | 0, o => by simp [num]
  | n + 1, o => by
    have h := num_front f n o
    rw [num, h, num, pow_succ', show o + ((n + 1 : Nat) : Int) = o + 1 + n by omega]
    generalize f (o + 1 + n) = x
    generalize (256 : Int) ^ n = y
    rw [Int.mul_add, show x * (256 * y) = 256 * (x * y) by rw [Int.mul_left_comm]]
    omega
def Byt (f : Int → Int) : Prop := ∀ i, 0 ≤ f i ∧ f i < 256
theorem num_bd {f : Int → Int} (hf : Byt f) : ∀ (n : Nat) (o : Int), 0 ≤ num f o n ∧ num f o n < 256 ^ n
  | 0, o => by simp [num]
  | n + 1, o => by
    have h := num_bd hf n (o + 1)
    have h2 := hf o
    rw [num_front, pow_succ']
    omega
theorem num_congr {f g : Int → Int} : ∀ {n : Nat} {o p : Int}, (∀ i : Int, 0 ≤ i → i < n → f (o + i) = g (p + i)) → num f o n = num g p n
  | 0, o, p, _ => rfl
  | n + 1, o, p, h => by
    rw [num, num, num_congr fun i h1 h2 => h i h1 (by omega), h n (by omega) (by omega)]
theorem num_bd5 {f : Int → Int} (hf : Byt f) {n : Nat} (hn : n ≤ 5) (o : Int) : 0 ≤ num f o n ∧ num f o n < 1099511627776 := by
  have h := num_bd hf n o
  have h2 : (256 : Int) ^ n ≤ 1099511627776 := by
    have h3 : n = 0 ∨ n = 1 ∨ n = 2 ∨ n = 3 ∨ n = 4 ∨ n = 5 := by omega
    rcases h3 with rfl | rfl | rfl | rfl | rfl | rfl <;> decide
  omega
/-- the byte of a number at a place -/
def byteAt (v : Int) (i : Int) : Int := v / 256 ^ i.toNat % 256
theorem byteAt_bd (v i : Int) : 0 ≤ byteAt v i ∧ byteAt v i < 256 := by unfold byteAt; omega
theorem byteAt_succ (v : Int) (i : Nat) : byteAt v ((i + 1 : Nat) : Int) = byteAt (v / 256) i := by
  unfold byteAt
  rw [Int.toNat_natCast, Int.toNat_natCast, pow_succ', Int.ediv_ediv_of_nonneg (by omega)]
theorem byteAt_zero (v : Int) : byteAt v 0 = v % 256 := by unfold byteAt; simp
/-- a number is that of its bytes -/
theorem num_byteAt : ∀ (n : Nat) (v : Int), 0 ≤ v → v < 256 ^ n → num (byteAt v) 0 n = v
  | 0, v, h1, h2 => by simp at h2; simp [num]; omega
  | n + 1, v, h1, h2 => by
    rw [pow_succ'] at h2
    rw [num_front, byteAt_zero, num_congr (g := byteAt (v / 256)) (p := 0) fun i h3 h4 => by
      rw [show 0 + 1 + i = ((i.toNat + 1 : Nat) : Int) by omega, byteAt_succ, show ((i.toNat : Nat) : Int) = 0 + i by omega], num_byteAt n _ (by omega) (by omega)]
    omega
/-- the bytes of a number are those that it is of -/
theorem byteAt_num {f : Int → Int} (hf : Byt f) : ∀ (n : Nat) (o : Int) (i : Nat), i < n → byteAt (num f o n) i = f (o + i)
  | n + 1, o, 0, h => by
    have h2 := hf o
    rw [num_front]
    simp only [Int.natCast_zero, Int.add_zero]
    rw [byteAt_zero]; omega
  | n + 1, o, i + 1, h => by
    have h2 := hf o
    rw [byteAt_succ, num_front, show (f o + 256 * num f (o + 1) n) / 256 = num f (o + 1) n by omega, byteAt_num hf n (o + 1) i (by omega)]
    congr 1; omega

theorem shr_small {v : Int} {i : Int} (h0 : 0 ≤ i) (h1 : i ≤ 5) : shrI .i64 v (8 * i) = v / 256 ^ i.toNat := by
  have h3 : i = 0 ∨ i = 1 ∨ i = 2 ∨ i = 3 ∨ i = 4 ∨ i = 5 := by omega
  unfold shrI
  rw [Int.fdiv_eq_ediv_of_nonneg _ (by
    rcases h3 with rfl | rfl | rfl | rfl | rfl | rfl <;> decide)]
  rcases h3 with rfl | rfl | rfl | rfl | rfl | rfl <;> rfl
theorem wrap_u8 (x : Int) : IntKind.wrap .u8 x = x % 256 := by
  simp [IntKind.wrap, IntKind.bits, IntKind.signed]
theorem or_disj {x t : Nat} {j : Nat} (hx : x < 2 ^ j) : x ||| (t * 2 ^ j) = x + t * 2 ^ j := by
  have := Nat.shiftLeft_add_eq_or_of_lt hx t
  rw [Nat.shiftLeft_eq] at this
  rw [Nat.or_comm, ← this, Nat.add_comm]
theorem bit_or {x y : Int} (hx : 0 ≤ x) (hx2 : x < 9223372036854775808) (hy : 0 ≤ y) (hy2 : y < 9223372036854775808) : bitI .or .i64 x y = ((x.toNat ||| y.toNat : Nat) : Int) := by
  obtain ⟨a, rfl⟩ := Int.eq_ofNat_of_zero_le hx
  obtain ⟨b, rfl⟩ := Int.eq_ofNat_of_zero_le hy
  show IntKind.wrap .i64 (((BitVec.ofInt 64 (a : Int) ||| BitVec.ofInt 64 (b : Int)).toNat : Nat) : Int) = _
  rw [BitVec.toNat_or]
  have e : ∀ n : Nat, n < 9223372036854775808 → (BitVec.ofInt 64 (n : Int)).toNat = n := by
    intro n hn
    rw [BitVec.toNat_ofInt]
    simp only [Nat.reducePow]
    omega
  rw [e a (by omega), e b (by omega)]
  have h : a ||| b < 2 ^ 63 := Nat.or_lt_two_pow (by omega) (by omega)
  rw [wrap_i64 (by omega) (by omega)]
  simp
theorem bit_and {x y : Int} (hx : 0 ≤ x) (hx2 : x < 9223372036854775808) (hy : 0 ≤ y) (hy2 : y < 9223372036854775808) : bitI .and .i64 x y = ((x.toNat &&& y.toNat : Nat) : Int) := by
  obtain ⟨a, rfl⟩ := Int.eq_ofNat_of_zero_le hx
  obtain ⟨b, rfl⟩ := Int.eq_ofNat_of_zero_le hy
  show IntKind.wrap .i64 (((BitVec.ofInt 64 (a : Int) &&& BitVec.ofInt 64 (b : Int)).toNat : Nat) : Int) = _
  rw [BitVec.toNat_and]
  have e : ∀ n : Nat, n < 9223372036854775808 → (BitVec.ofInt 64 (n : Int)).toNat = n := by
    intro n hn
    rw [BitVec.toNat_ofInt]
    simp only [Nat.reducePow]
    omega
  rw [e a (by omega), e b (by omega)]
  have h : a &&& b < 2 ^ 63 := Nat.and_lt_two_pow _ (by omega)
  rw [wrap_i64 (by omega) (by omega)]
  simp
theorem or_step {x t : Int} {i : Nat} (hi : i ≤ 5) (hx : 0 ≤ x) (hx2 : x < 256 ^ i) (ht : 0 ≤ t) (ht2 : t < 256) : bitI .or .i64 x (shlI .i64 t (8 * (i : Int))) = x + t * 256 ^ i := by
  have h3 : i = 0 ∨ i = 1 ∨ i = 2 ∨ i = 3 ∨ i = 4 ∨ i = 5 := by omega
  have e : shlI .i64 t (8 * (i : Int)) = t * 256 ^ i := by
    unfold shlI
    rcases h3 with rfl | rfl | rfl | rfl | rfl | rfl <;> simp [IntKind.bits] <;> exact wrap_i64 (by omega) (by omega)
  rw [e]
  rcases h3 with rfl | rfl | rfl | rfl | rfl | rfl
  all_goals
    simp only [Int.reducePow] at hx2 ⊢
    rw [bit_or hx (by omega) (by omega) (by omega)]
  · have := @or_disj x.toNat t.toNat 0 (by simp; omega)
    simp only [Nat.reducePow] at this
    rw [show (t * 1).toNat = t.toNat * 1 by omega, this]; omega
  · have := @or_disj x.toNat t.toNat 8 (by simp; omega)
    simp only [Nat.reducePow] at this
    rw [show (t * 256).toNat = t.toNat * 256 by omega, this]; omega
  · have := @or_disj x.toNat t.toNat 16 (by simp; omega)
    simp only [Nat.reducePow] at this
    rw [show (t * 65536).toNat = t.toNat * 65536 by omega, this]; omega
  · have := @or_disj x.toNat t.toNat 24 (by simp; omega)
    simp only [Nat.reducePow] at this
    rw [show (t * 16777216).toNat = t.toNat * 16777216 by omega, this]; omega
  · have := @or_disj x.toNat t.toNat 32 (by simp; omega)
    simp only [Nat.reducePow] at this
    rw [show (t * 4294967296).toNat = t.toNat * 4294967296 by omega, this]; omega
  · have := @or_disj x.toNat t.toNat 40 (by simp; omega)
    simp only [Nat.reducePow] at this
    rw [show (t * 1099511627776).toNat = t.toNat * 1099511627776 by omega, this]; omega

/-- what bytes tell -/
def dec (f : Int → Int) : Ck := ⟨fun i => num f (5 * i) 5, num f 120 5, fun i => num f 125 2 / 2 ^ i.toNat % 2 == 1, f 127, fun i => num f (128 + 2 * i) 2, fun i => f (152 + i)⟩
def good (f : Int → Int) : Bool := decide (f 126 ≤ 15) && decide (f 127 ≤ 95) && decide (∀ j : Nat, j < 10 → f (164 + j) = 0)
theorem num_one (f : Int → Int) (o : Int) : num f o 1 = f o := by simp [num]
theorem num_two (f : Int → Int) (o : Int) : num f o 2 = f o + 256 * f (o + 1) := by simp [num]; omega
theorem pow2_12 {i : Nat} (h : i ≤ 12) : i = 0 ∨ i = 1 ∨ i = 2 ∨ i = 3 ∨ i = 4 ∨ i = 5 ∨ i = 6 ∨ i = 7 ∨ i = 8 ∨ i = 9 ∨ i = 10 ∨ i = 11 ∨ i = 12 := by omega
theorem shr_bit {v : Int} {i : Nat} (hi : i ≤ 12) : shrI .i64 v i = v / 2 ^ i := by
  unfold shrI
  have e : min (i : Int).toNat IntKind.i64.bits = i := by simp [IntKind.bits]; omega
  rw [e, Int.fdiv_eq_ediv_of_nonneg _ (by rcases pow2_12 hi with rfl | rfl | rfl | rfl | rfl | rfl | rfl | rfl | rfl | rfl | rfl | rfl | rfl <;> decide)]
theorem bit_is {v : Int} (h0 : 0 ≤ v) (h1 : v < 65536) {i : Nat} (hi : i ≤ 12) : bitI .and .i64 (shrI .i64 v i) 1 = v / 2 ^ i % 2 := by
  rw [shr_bit hi]
  have h2 : 0 ≤ v / 2 ^ i ∧ v / 2 ^ i < 65536 := by
    rcases pow2_12 hi with rfl | rfl | rfl | rfl | rfl | rfl | rfl | rfl | rfl | rfl | rfl | rfl | rfl <;> simp only [Int.reducePow] <;> omega
  generalize v / 2 ^ i = x at h2
  rw [bit_and (by omega) (by omega) (by omega) (by omega)]
  have e : Int.toNat 1 = 1 := rfl
  rw [e, Nat.and_one_is_mod]; omega
theorem half_pow {v : Int} (i : Nat) : v / 2 ^ i / 2 = v / 2 ^ (i + 1) := by
  rw [Int.ediv_ediv_of_nonneg (by
    have : (0 : Int) < 2 ^ i := Int.pow_pos (by omega)
    omega), Int.pow_succ]
end Go.Proofs.Ytnilidpafijdlab
