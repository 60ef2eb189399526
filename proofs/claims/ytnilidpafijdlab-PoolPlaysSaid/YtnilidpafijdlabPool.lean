/- What the block table's functions do. -/
import Derived.Test.YtnilidpafijdlabFpool
import Derived.Test.YtnilidpafijdlabErr
set_option linter.unusedVariables false
set_option linter.unusedSimpArgs false
namespace Go.Proofs.Ytnilidpafijdlab
open Go.Mx

def freeFrom (s : Int → Int) (nx : Int) (i : Int) : Nat → Option Int
  | 0 => none
  | d + 1 => if s ((nx + i) % 12) = 0 then some ((nx + i) % 12) else freeFrom s nx (i + 1) d
theorem freeFrom_zero {s : Int → Int} {nx b : Int} (hn : 0 ≤ nx ∧ nx ≤ 12) : ∀ (d : Nat) (i : Int), 0 ≤ i → freeFrom s nx i d = some b → 0 ≤ b ∧ b < 12 ∧ s b = 0
  | 0, i, h2, h => by simp [freeFrom] at h
  | d + 1, i, h2, h => by
    unfold freeFrom at h
    split at h
    · rename_i h3
      simp only [Option.some.injEq] at h; subst h
      exact ⟨by omega, by omega, h3⟩
    · exact freeFrom_zero hn d (i + 1) (by omega) h

structure PoolS where
  s : Int → Int
  nx : Int
def poolC (σ : PoolS) : List Value := arr .i64 12 σ.s ++ [.int .i64 σ.nx]
structure PoolS.Wf (σ : PoolS) : Prop where
  nx : 0 ≤ σ.nx ∧ σ.nx ≤ 12
  s : ∀ b, 0 ≤ b → b < 12 → 0 ≤ σ.s b ∧ σ.s b ≤ 3

theorem poolC_len (σ : PoolS) : (poolC σ).length = 13 := by simp [poolC]
theorem poolC_s (σ : PoolS) {x : Int} (h0 : 0 ≤ x) (h : x < 12) : (poolC σ)[x.toNat]? = some (.int .i64 (σ.s x)) := by
  unfold poolC; rw [List.getElem?_append_left (by simp; omega)]; exact arr_getI h0 (by omega)
theorem poolC_nx (σ : PoolS) : (poolC σ)[12]? = some (.int .i64 σ.nx) := by simp [poolC]
theorem poolC_set (σ : PoolS) {x v : Int} (h0 : 0 ≤ x) (h : x < 12) : (poolC σ).set x.toNat (.int .i64 v) = poolC { σ with s := upd σ.s x v } := by
  unfold poolC; rw [List.set_append_left _ _ (by simp; omega), arr_set h0]
theorem poolC_setnx (σ : PoolS) (v : Int) : (poolC σ).set 12 (.int .i64 v) = poolC { σ with nx := v } := by simp [poolC]

def countTo (s : Int → Int) (v : Int) : Nat → Int
  | 0 => 0
  | n + 1 => countTo s v n + if s n = v then 1 else 0
theorem countTo_le (s : Int → Int) (v : Int) (n : Nat) : 0 ≤ countTo s v n ∧ countTo s v n ≤ n := by
  induction n with
  | zero => simp [countTo]
  | succ n ih => unfold countTo; split <;> omega

section
variable (k : Nat) {m : Mem} {p : Nat} {σ : PoolS} (h : m[p]? = some (.live (poolC σ)))
include h

theorem pool_ld (x : Int) (h0 : 0 ≤ x) (h1 : x < 12) : ldInt .i64 m ⟨p, x.toNat, none⟩ = some (σ.s x) :=
  ldInt_of h (poolC_s σ h0 h1)
theorem pool_ldnx : ldInt .i64 m ⟨p, 12, none⟩ = some σ.nx := ldInt_of h (poolC_nx σ)
theorem pool_st (x v : Int) (h0 : 0 ≤ x) (h1 : x < 12) : st m ⟨p, x.toNat, none⟩ (.int .i64 v) = some (wr m p (poolC { σ with s := upd σ.s x v })) := by
  rw [st_wr h (by rw [poolC_len]; omega), poolC_set σ h0 h1]
theorem pool_stnx (v : Int) : st m ⟨p, 12, none⟩ (.int .i64 v) = some (wr m p (poolC { σ with nx := v })) := by
  rw [st_wr h (by rw [poolC_len]; omega), poolC_setnx]

omit h in
theorem poolNew_is (k : Nat) (m : Mem) : pool_New k m = some (some ⟨m.length, 0, none⟩, m ++ [.live (poolC ⟨fun _ => 0, 0⟩)]) := rfl
/-- Set -/
def PoolS.setCode (σ : PoolS) (b v : Int) : Int := if b < 0 ∨ b ≥ 12 ∨ v < 0 ∨ v > 3 then 1 else if σ.s b = 3 ∧ v ≠ 3 then 12 else 0
def PoolS.setTo (σ : PoolS) (b v : Int) : PoolS := if σ.setCode b v = 0 then { σ with s := upd σ.s b v } else σ

theorem pool_Set_eq (b v : Int) : pool_Pool_Set k (some ⟨p, 0, none⟩) b v m = some (errC (σ.setCode b v), wr m p (poolC (σ.setTo b v))) := by
  have := wr_same h
  have := pool_ld h
  have := pool_st h
  unfold pool_Pool_Set pool_is
  simp only [pool_Pool_Set_j1, Option.bind_some, cond_eq_ite, plus, Nat.mul_one, Nat.zero_add]
  grind [errC, PoolS.setTo, PoolS.setCode, inRange]

/-! Take -/
theorem take_loop (hn : 0 ≤ σ.nx ∧ σ.nx ≤ 12) (kx0 : Int → Value → Mem → Option (Int × Value × Mem)) (kx2 : Mem → Option (Int × Value × Mem)) : ∀ (d n : Nat) (i : Int), i + d = 12 → 0 ≤ i → d < n →
    pool_Pool_Take_l0 k kx0 kx2 n (some ⟨p, 0, none⟩) i m = match freeFrom σ.s σ.nx i d with
      | some b => kx0 b .nilIface (wr m p (poolC ⟨upd σ.s b 1, b + 1⟩))
      | none => kx2 m
  | 0, n + 1, i, h1, h2, h3 => by
    unfold pool_Pool_Take_l0 pool_Pool_Take_l0_b freeFrom
    grind
  | d + 1, n + 1, i, h1, h2, h3 => by
    have ih := take_loop hn kx0 kx2 d n (i + 1) (by omega) (by omega) (by omega)
    unfold pool_Pool_Take_l0 pool_Pool_Take_l0_b freeFrom
    simp (disch := omega) only [Option.bind_some, Option.map_some, cond_true, cond_false, wrap_i64, tmod_pos, tdiv_pos, inRange_yes, inUpto_yes, isZero_no, decide_eq_true, decide_eq_false, Bool.not_true, Bool.not_false, Int.toNat_natCast, Nat.mul_one, beqI_yes, beqI_no, bneI_yes, bneI_no, isNil, wr_wr, Option.isNone_none, Option.isNone_some, plus, Nat.zero_add, Nat.add_zero, pool_ld h, pool_ldnx h, pool_st h, pool_stnx (wr_get h), ih, cond_eq_ite, beq_iff_eq]
    grind
theorem pool_Take_eq (hn : 0 ≤ σ.nx ∧ σ.nx ≤ 12) (hk : 12 < k) : pool_Pool_Take k (some ⟨p, 0, none⟩) m = match freeFrom σ.s σ.nx 0 12 with
      | some b => some (b, .nilIface, wr m p (poolC ⟨upd σ.s b 1, b + 1⟩))
      | none => some (0, .iface ty_api_Code (.int .i64 10), m) := take_loop k h hn _ _ 12 k 0 rfl (by omega) hk

/-! Count -/
omit h in
theorem count_loop (v : Int) (kx2 : Int → Mem → Option (Int × Mem)) (s : Int → Int) : ∀ (d n i : Nat), i + d = 12 → d < n →
    pool_Pool_Count_l0 k kx2 n v (countTo s v i) (arr .i64 12 s) i m = kx2 (countTo s v 12) m
  | 0, n + 1, i, h1, h3 => by
    have : i = 12 := by omega
    subst this
    unfold pool_Pool_Count_l0 pool_Pool_Count_l0_b
    rfl
  | d + 1, n + 1, i, h1, h3 => by
    have ih := count_loop v kx2 s d n (i + 1) (by omega) (by omega)
    have hc := countTo_le s v i
    have hg : cInt .i64 (arr .i64 12 s) i = some (s i) := by simp [cInt, arr_get (show i < 12 by omega)]
    unfold pool_Pool_Count_l0 pool_Pool_Count_l0_b
    simp (disch := omega) only [Option.bind_some, Option.map_some, cond_true, cond_false, wrap_i64, tmod_pos, tdiv_pos, inRange_yes, inUpto_yes, isZero_no, decide_eq_true, decide_eq_false, Bool.not_true, Bool.not_false, Int.toNat_natCast, Nat.mul_one, beqI_yes, beqI_no, bneI_yes, bneI_no, isNil, wr_wr, Option.isNone_none, Option.isNone_some, plus, Nat.zero_add, Nat.add_zero, hg, pool_Pool_Count_j1, cond_eq_ite, beq_iff_eq]
    rw [show countTo s v (i + 1) = countTo s v i + if s i = v then 1 else 0 from rfl] at ih
    grind
theorem pool_cells : ldCells m (plus ⟨p, 0, none⟩ 0) 12 = some (arr .i64 12 σ.s) := by
  rw [show plus ⟨p, 0, none⟩ 0 = ⟨p, 0, none⟩ from rfl, ldCells_of h (by rw [poolC_len]; omega)]
  simp [poolC]
theorem pool_Count_eq (v : Int) (hk : 12 < k) : pool_Pool_Count k (some ⟨p, 0, none⟩) v m = some (countTo σ.s v 12, m) := by
  unfold pool_Pool_Count
  simp only [Option.bind_some, pool_cells h]
  exact count_loop k v _ σ.s 12 k 0 rfl hk
theorem pool_Worn_eq (hk : 12 < k) : pool_Pool_Worn k (some ⟨p, 0, none⟩) m = some (decide (countTo σ.s 3 12 > 2), m) := by
  unfold pool_Pool_Worn
  simp only [pool_Count_eq k h 3 hk, Option.bind_some]
def PoolS.bound (σ : PoolS) : Int := if countTo σ.s 3 12 > 2 then 0 else 1 + 2 * (2 - countTo σ.s 3 12)
theorem pool_Bound_eq (hk : 12 < k) : pool_Pool_Bound k (some ⟨p, 0, none⟩) m = some (σ.bound, m) := by
  unfold pool_Pool_Bound PoolS.bound
  have := countTo_le σ.s 3 12
  simp (disch := omega) only [Option.bind_some, Option.map_some, cond_true, cond_false, wrap_i64, tmod_pos, tdiv_pos, inRange_yes, inUpto_yes, isZero_no, decide_eq_true, decide_eq_false, Bool.not_true, Bool.not_false, Int.toNat_natCast, Nat.mul_one, beqI_yes, beqI_no, bneI_yes, bneI_no, isNil, wr_wr, Option.isNone_none, Option.isNone_some, plus, Nat.zero_add, Nat.add_zero, pool_Worn_eq k h hk, pool_Count_eq k h 3 hk]
  grind

/-- State -/
theorem pool_State_is (b : Int) : pool_Pool_State k (some ⟨p, 0, none⟩) b m = some (if 0 ≤ b ∧ b < 12 then (σ.s b, .nilIface, m) else (0, errC 1, m)) := by
  have := pool_ld h b
  unfold pool_Pool_State pool_is
  simp only [Option.bind_some, cond_eq_ite, plus, Nat.mul_one, Nat.zero_add]
  grind [errC, inRange]
/-- States -/
theorem pool_States_is : ∃ sp, pool_Pool_States k (some ⟨p, 0, none⟩) m = some (⟨some ⟨m.length + 1, 0, sp⟩, 12, 12⟩, m ++ [.live [], .live (arr .i64 12 σ.s)]) := by
  refine ⟨some 1, ?_⟩
  have h1 : rdSl (m ++ [MObj.live []]) (some ⟨p, 0, none⟩) 12 1 = some (arr .i64 12 σ.s) := by
    refine rdSl_grow ?_
    rw [rdSl_live h (by rw [poolC_len]; omega)]
    simp [poolC]
  unfold pool_Pool_States slices_Clone_int_int sliceK.clear
  have h2 : (m ++ [MObj.live []])[m.length]? = some (MObj.live []) := get_new
  simp (disch := omega) only [Option.bind_some, Option.map_some, cond_true, cond_false, wrap_i64, tmod_pos, tdiv_pos, inRange_yes, inUpto_yes, isZero_no, decide_eq_true, decide_eq_false, Bool.not_true, Bool.not_false, Int.toNat_natCast, Nat.mul_one, beqI_yes, beqI_no, bneI_yes, bneI_no, isNil, wr_wr, Option.isNone_none, Option.isNone_some, plus, Nat.zero_add, Nat.add_zero, h1, appM_make h2 (show 0 < 12 by decide) (show 12 * 8 ≤ most by decide) (show 12 ≤ most by decide)]
  simp
end
end Go.Proofs.Ytnilidpafijdlab
