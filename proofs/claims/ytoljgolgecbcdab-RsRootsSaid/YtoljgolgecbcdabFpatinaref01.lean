/- The program's functions as plain Lean functions over a clean memory, each held against the program by the kernel. Written by mx.py. -/
import Derived.Test.YtoljgolgecbcdabF0
set_option linter.unusedVariables false
set_option maxRecDepth 100000
namespace Go.Proofs.Ytoljgolgecbcdab
open Go.Mx

/-! ### patinaref01_Same -/
def patinaref01_Same_l0_b (k : Nat) (nx : Option Addr → Nat → Nat → Option Addr → Nat → Nat → Int → Mem → Option (Bool × Mem)) (kx0 : Bool → Mem → Option (Bool × Mem)) (kx2 : Mem → Option (Bool × Mem)) (x0a : Option Addr) (x0n : Nat) (x0c : Nat) (x1a : Option Addr) (x1n : Nat) (x1c : Nat) (x5 : Int) (m : Mem) : Option (Bool × Mem) :=
  bif decide (x5 < ((x0n : Nat) : Int)) then (
  bif inRange x5 x0n then (
  (x0a).bind fun a1 =>
  (ldInt .u8 m (plus a1 (Int.toNat x5 * 1))).bind fun t2 =>
  bif inRange x5 x1n then (
  (x1a).bind fun a3 =>
  (ldInt .u8 m (plus a3 (Int.toNat x5 * 1))).bind fun t4 =>
  bif t2 != t4 then (
  kx0 false m) else (
  nx x0a x0n x0c x1a x1n x1c (IntKind.wrap .i64 (x5 + 1)) m)) else none) else none) else (
  kx2  m)

def patinaref01_Same_l0 (k : Nat) (kx0 : Bool → Mem → Option (Bool × Mem)) (kx2 : Mem → Option (Bool × Mem)) : Nat → Option Addr → Nat → Nat → Option Addr → Nat → Nat → Int → Mem → Option (Bool × Mem)
  | 0, _, _, _, _, _, _, _, _ => none
  | n + 1, x0a, x0n, x0c, x1a, x1n, x1c, x5, m => patinaref01_Same_l0_b k (fun x0a x0n x0c x1a x1n x1c x5 m => patinaref01_Same_l0 k kx0 kx2 n x0a x0n x0c x1a x1n x1c x5 m) kx0 kx2 x0a x0n x0c x1a x1n x1c x5 m

theorem patinaref01_Same_l0_rule (k : Nat) (kx0 : Bool → Mem → Option (Bool × Mem)) (kx2 : Mem → Option (Bool × Mem)) {P : (Bool × Mem) → Prop} (I : Nat → Option Addr → Nat → Nat → Option Addr → Nat → Nat → Int → Mem → Prop)
    (step : ∀ d (nx : Option Addr → Nat → Nat → Option Addr → Nat → Nat → Int → Mem → Option (Bool × Mem)) (x0a : Option Addr) (x0n : Nat) (x0c : Nat) (x1a : Option Addr) (x1n : Nat) (x1c : Nat) (x5 : Int) (m : Mem), I d x0a x0n x0c x1a x1n x1c x5 m → (∀ d' (x0a : Option Addr) (x0n : Nat) (x0c : Nat) (x1a : Option Addr) (x1n : Nat) (x1c : Nat) (x5 : Int) (m : Mem), d' < d → I d' x0a x0n x0c x1a x1n x1c x5 m → Ok (nx x0a x0n x0c x1a x1n x1c x5 m) P) → Ok (patinaref01_Same_l0_b k nx kx0 kx2 x0a x0n x0c x1a x1n x1c x5 m) P) :
    ∀ n d (x0a : Option Addr) (x0n : Nat) (x0c : Nat) (x1a : Option Addr) (x1n : Nat) (x1c : Nat) (x5 : Int) (m : Mem), d < n → I d x0a x0n x0c x1a x1n x1c x5 m → Ok (patinaref01_Same_l0 k kx0 kx2 n x0a x0n x0c x1a x1n x1c x5 m) P
  | 0, d, x0a, x0n, x0c, x1a, x1n, x1c, x5, m, h, _ => absurd h (Nat.not_lt_zero _)
  | n + 1, d, x0a, x0n, x0c, x1a, x1n, x1c, x5, m, h, hI => step d _ x0a x0n x0c x1a x1n x1c x5 m hI fun d' x0a x0n x0c x1a x1n x1c x5 m h' hI' => patinaref01_Same_l0_rule k kx0 kx2 I step n d' x0a x0n x0c x1a x1n x1c x5 m (by omega) hI'

def patinaref01_Same (k : Nat) (p0a : Option Addr) (p0n : Nat) (p0c : Nat) (p1a : Option Addr) (p1n : Nat) (p1c : Nat) (m : Mem) : Option (Bool × Mem) :=
  bif ((p0n : Nat) : Int) != ((p1n : Nat) : Int) then (
  some (false, m)) else (
  patinaref01_Same_l0 k (fun y4 m5 => 
  some (y4, m5)) (fun m6 => 
  some (true, m6)) k p0a p0n p0c p1a p1n p1c 0 m)

def patinaref01_Same_call {R : Type} (k : Nat) : Fun R := callNil

theorem patinaref01_Same_callOk {R : Type} (k : Nat) : CallOk Try.prog (patinaref01_Same_call (R := R) k) := callOk_nil

def patinaref01_Same_l0_L (k : Nat) (K : Nat → List Value → Mem → Option (Bool × Mem)) (n : Nat) (vs : List Value) (m : Mem) : Option (Bool × Mem) := match vs with
  | [.slice x0a x0n x0c, .slice x1a x1n x1c, .int .i64 x5] => patinaref01_Same_l0 k (fun y4 m => K 0 [(Value.bool y4)] m) (fun m => K 2 [] m) n x0a x0n x0c x1a x1n x1c x5 m
  | _ => none

def patinaref01_Same_loop (k : Nat) : Nat → List Value → Mem → (Nat → List Value → Mem → Option (Bool × Mem)) → Option (Bool × Mem) := fun cur vs m K => match cur with
  | 0 => patinaref01_Same_l0_L k K k vs m
  | _ => none

def patinaref01_Same_C (k : Nat) : Ctx (Bool × Mem) := ⟨tt, patinaref01_Same_call k, patinaref01_Same_loop k, [(0, [0, 1, 5])], [(0, [4]), (2, [])]⟩

noncomputable def patinaref01_Same_l0_c : Code := ((loopsOf 0 (body Try.f15)).map (·.2)).getD 0 .skip

theorem patinaref01_Same_loops : loopsOf 0 (body Try.f15) = [(0, patinaref01_Same_l0_c)] := by kernel_rfl

theorem patinaref01_Same_l0_ok (k : Nat) : LoopOk (patinaref01_Same_C k) 0 patinaref01_Same_l0_c := by
  refine ⟨[0, 1, 5], by kernel_rfl, fun K r => ⟨patinaref01_Same_l0_L k K, fun vs m h => ⟨k, h⟩, ?_⟩⟩
  intro n vs m h
  unfold patinaref01_Same_l0_L at h
  split at h
  · cases n with
    | zero => cases h
    | succ n => exact ⟨n, rfl, Eq.trans (by kernel_rfl) h⟩
  · cases h

def patinaref01_Same_dec : Value → Mem → Option (Bool × Mem) := fun v m => match v with
  | .bool q0 => some (q0, m)
  | _ => none

theorem patinaref01_Same_eq (k : Nat) (p0a : Option Addr) (p0n : Nat) (p0c : Nat) (p1a : Option Addr) (p1n : Nat) (p1c : Nat) (m : Mem) : fnX (patinaref01_Same_C k) Try.f15 [(Value.slice p0a p0n p0c), (Value.slice p1a p1n p1c)] m patinaref01_Same_dec = patinaref01_Same k p0a p0n p0c p1a p1n p1c m := by kernel_rfl

theorem patinaref01_Same_ok {k : Nat} {p0a : Option Addr} {p0n : Nat} {p0c : Nat} {p1a : Option Addr} {p1n : Nat} {p1c : Nat} {m : Mem} {r : (Bool × Mem)} (h : patinaref01_Same k p0a p0n p0c p1a p1n p1c m = some r) : CallP Try.prog 15 [(Value.slice p0a p0n p0c), (Value.slice p1a p1n p1c)] m fun v m' => v = (Value.bool r.1) ∧ m' = r.2 := by
  refine (fn_sound (C := patinaref01_Same_C k) (c := body Try.f15) tOk mixed (patinaref01_Same_callOk k) Try.func15 (by kernel_rfl) (by kernel_rfl) (by kernel_rfl) (by kernel_rfl) ?_ (Eq.trans (patinaref01_Same_eq k p0a p0n p0c p1a p1n p1c m) h)).mono ?_
  · intro p hp
    rw [patinaref01_Same_loops] at hp
    simp only [List.mem_cons, List.not_mem_nil, or_false] at hp
    rcases hp with rfl
    · exact patinaref01_Same_l0_ok k
  · intro v m' hp
    unfold patinaref01_Same_dec at hp
    split at hp
    · simp only [Option.some.injEq] at hp; subst hp; exact ⟨rfl, rfl⟩
    · cases hp

def patinaref01_Same_arm {R : Type} (k : Nat) : Arm R := fun vs m K => match vs with
  | [.slice p0a p0n p0c, .slice p1a p1n p1c] => (patinaref01_Same k p0a p0n p0c p1a p1n p1c m).bind fun r => K (Value.bool r.1) r.2
  | _ => none

theorem patinaref01_Same_armOk {R : Type} (k : Nat) : ArmOk Try.prog 15 (patinaref01_Same_arm (R := R) k) := by
  intro vs m K r h
  unfold patinaref01_Same_arm at h
  split at h
  · obtain ⟨r, h1, h2⟩ := Option.bind_eq_some_iff.1 h; exact ⟨_, _, h2, fun K' => by simp only [patinaref01_Same_arm, h1, Option.bind_some], patinaref01_Same_ok h1⟩
  · cases h

/-! ### patinaref01_Mul -/
def patinaref01_Mul_j1 (k : Nat) (x1 : Int) (x5 : Int) (x7 : Int) (nx : Int → Int → Int → Int → Mem → Option (Int × Mem)) (x6_ : Int) (mj : Mem) : Option (Int × Mem) :=
  nx x1 x5 x6_ (IntKind.wrap .i64 (x7 + 1)) mj

def patinaref01_Mul_l0_b (k : Nat) (nx : Int → Int → Int → Int → Mem → Option (Int × Mem)) (kx2 : Int → Mem → Option (Int × Mem)) (x1 : Int) (x5 : Int) (x6 : Int) (x7 : Int) (m : Mem) : Option (Int × Mem) :=
  bif decide (x7 < 8) then (
  bif decide (x7 < 0) then none else (
  bif (bitI .and .i64 (shrI .i64 (IntKind.wrap .i64 x1) x7) 1) == 1 then (
  bif decide (x7 < 0) then none else (
  patinaref01_Mul_j1 k x1 x5 x7 nx (bitI .xor .i64 x6 (shlI .i64 x5 x7)) m)) else (
  patinaref01_Mul_j1 k x1 x5 x7 nx x6 m))) else (
  kx2 x6 m)

def patinaref01_Mul_l0 (k : Nat) (kx2 : Int → Mem → Option (Int × Mem)) : Nat → Int → Int → Int → Int → Mem → Option (Int × Mem)
  | 0, _, _, _, _, _ => none
  | n + 1, x1, x5, x6, x7, m => patinaref01_Mul_l0_b k (fun x1 x5 x6 x7 m => patinaref01_Mul_l0 k kx2 n x1 x5 x6 x7 m) kx2 x1 x5 x6 x7 m

theorem patinaref01_Mul_l0_rule (k : Nat) (kx2 : Int → Mem → Option (Int × Mem)) {P : (Int × Mem) → Prop} (I : Nat → Int → Int → Int → Int → Mem → Prop)
    (step : ∀ d (nx : Int → Int → Int → Int → Mem → Option (Int × Mem)) (x1 : Int) (x5 : Int) (x6 : Int) (x7 : Int) (m : Mem), I d x1 x5 x6 x7 m → (∀ d' (x1 : Int) (x5 : Int) (x6 : Int) (x7 : Int) (m : Mem), d' < d → I d' x1 x5 x6 x7 m → Ok (nx x1 x5 x6 x7 m) P) → Ok (patinaref01_Mul_l0_b k nx kx2 x1 x5 x6 x7 m) P) :
    ∀ n d (x1 : Int) (x5 : Int) (x6 : Int) (x7 : Int) (m : Mem), d < n → I d x1 x5 x6 x7 m → Ok (patinaref01_Mul_l0 k kx2 n x1 x5 x6 x7 m) P
  | 0, d, x1, x5, x6, x7, m, h, _ => absurd h (Nat.not_lt_zero _)
  | n + 1, d, x1, x5, x6, x7, m, h, hI => step d _ x1 x5 x6 x7 m hI fun d' x1 x5 x6 x7 m h' hI' => patinaref01_Mul_l0_rule k kx2 I step n d' x1 x5 x6 x7 m (by omega) hI'

def patinaref01_Mul_j2 (k : Nat) (x8 : Int) (nx : Int → Int → Mem → Option (Int × Mem)) (x6_ : Int) (mj : Mem) : Option (Int × Mem) :=
  nx x6_ (IntKind.wrap .i64 (x8 - 1)) mj

def patinaref01_Mul_l2_b (k : Nat) (nx : Int → Int → Mem → Option (Int × Mem)) (kx4 : Int → Mem → Option (Int × Mem)) (x6 : Int) (x8 : Int) (m : Mem) : Option (Int × Mem) :=
  bif decide (x8 ≥ 8) then (
  bif decide (x8 < 0) then none else (
  bif (bitI .and .i64 (shrI .i64 x6 x8) 1) == 1 then (
  bif decide ((IntKind.wrap .i64 (x8 - 8)) < 0) then none else (
  patinaref01_Mul_j2 k x8 nx (bitI .xor .i64 x6 (shlI .i64 285 (IntKind.wrap .i64 (x8 - 8)))) m)) else (
  patinaref01_Mul_j2 k x8 nx x6 m))) else (
  kx4 x6 m)

def patinaref01_Mul_l2 (k : Nat) (kx4 : Int → Mem → Option (Int × Mem)) : Nat → Int → Int → Mem → Option (Int × Mem)
  | 0, _, _, _ => none
  | n + 1, x6, x8, m => patinaref01_Mul_l2_b k (fun x6 x8 m => patinaref01_Mul_l2 k kx4 n x6 x8 m) kx4 x6 x8 m

theorem patinaref01_Mul_l2_rule (k : Nat) (kx4 : Int → Mem → Option (Int × Mem)) {P : (Int × Mem) → Prop} (I : Nat → Int → Int → Mem → Prop)
    (step : ∀ d (nx : Int → Int → Mem → Option (Int × Mem)) (x6 : Int) (x8 : Int) (m : Mem), I d x6 x8 m → (∀ d' (x6 : Int) (x8 : Int) (m : Mem), d' < d → I d' x6 x8 m → Ok (nx x6 x8 m) P) → Ok (patinaref01_Mul_l2_b k nx kx4 x6 x8 m) P) :
    ∀ n d (x6 : Int) (x8 : Int) (m : Mem), d < n → I d x6 x8 m → Ok (patinaref01_Mul_l2 k kx4 n x6 x8 m) P
  | 0, d, x6, x8, m, h, _ => absurd h (Nat.not_lt_zero _)
  | n + 1, d, x6, x8, m, h, hI => step d _ x6 x8 m hI fun d' x6 x8 m h' hI' => patinaref01_Mul_l2_rule k kx4 I step n d' x6 x8 m (by omega) hI'

def patinaref01_Mul (k : Nat) (p0 : Int) (p1 : Int) (m : Mem) : Option (Int × Mem) :=
  patinaref01_Mul_l0 k (fun y6 m1 => 
  patinaref01_Mul_l2 k (fun y6 m2 => 
  some (IntKind.wrap .u8 y6, m2)) k y6 14 m1) k p1 (IntKind.wrap .i64 p0) 0 0 m

def patinaref01_Mul_call {R : Type} (k : Nat) : Fun R := callNil

theorem patinaref01_Mul_callOk {R : Type} (k : Nat) : CallOk Try.prog (patinaref01_Mul_call (R := R) k) := callOk_nil

def patinaref01_Mul_l0_L (k : Nat) (K : Nat → List Value → Mem → Option (Int × Mem)) (n : Nat) (vs : List Value) (m : Mem) : Option (Int × Mem) := match vs with
  | [.int .u8 x1, .int .i64 x5, .int .i64 x6, .int .i64 x7] => patinaref01_Mul_l0 k (fun y6 m => K 2 [(Value.int .i64 y6)] m) n x1 x5 x6 x7 m
  | _ => none

def patinaref01_Mul_l2_L (k : Nat) (K : Nat → List Value → Mem → Option (Int × Mem)) (n : Nat) (vs : List Value) (m : Mem) : Option (Int × Mem) := match vs with
  | [.int .i64 x6, .int .i64 x8] => patinaref01_Mul_l2 k (fun y6 m => K 4 [(Value.int .i64 y6)] m) n x6 x8 m
  | _ => none

def patinaref01_Mul_loop (k : Nat) : Nat → List Value → Mem → (Nat → List Value → Mem → Option (Int × Mem)) → Option (Int × Mem) := fun cur vs m K => match cur with
  | 0 => patinaref01_Mul_l0_L k K k vs m
  | 2 => patinaref01_Mul_l2_L k K k vs m
  | _ => none

def patinaref01_Mul_C (k : Nat) : Ctx (Int × Mem) := ⟨tt, patinaref01_Mul_call k, patinaref01_Mul_loop k, [(0, [1, 5, 6, 7]), (2, [6, 8])], [(2, [6]), (4, [6])]⟩

noncomputable def patinaref01_Mul_l0_c : Code := ((loopsOf 0 (body Try.f38)).map (·.2)).getD 0 .skip

noncomputable def patinaref01_Mul_l2_c : Code := ((loopsOf 0 (body Try.f38)).map (·.2)).getD 1 .skip

theorem patinaref01_Mul_loops : loopsOf 0 (body Try.f38) = [(0, patinaref01_Mul_l0_c), (2, patinaref01_Mul_l2_c)] := by kernel_rfl

theorem patinaref01_Mul_l0_ok (k : Nat) : LoopOk (patinaref01_Mul_C k) 0 patinaref01_Mul_l0_c := by
  refine ⟨[1, 5, 6, 7], by kernel_rfl, fun K r => ⟨patinaref01_Mul_l0_L k K, fun vs m h => ⟨k, h⟩, ?_⟩⟩
  intro n vs m h
  unfold patinaref01_Mul_l0_L at h
  split at h
  · cases n with
    | zero => cases h
    | succ n => exact ⟨n, rfl, Eq.trans (by kernel_rfl) h⟩
  · cases h

theorem patinaref01_Mul_l2_ok (k : Nat) : LoopOk (patinaref01_Mul_C k) 2 patinaref01_Mul_l2_c := by
  refine ⟨[6, 8], by kernel_rfl, fun K r => ⟨patinaref01_Mul_l2_L k K, fun vs m h => ⟨k, h⟩, ?_⟩⟩
  intro n vs m h
  unfold patinaref01_Mul_l2_L at h
  split at h
  · cases n with
    | zero => cases h
    | succ n => exact ⟨n, rfl, Eq.trans (by kernel_rfl) h⟩
  · cases h

def patinaref01_Mul_dec : Value → Mem → Option (Int × Mem) := fun v m => match v with
  | .int .u8 q0 => some (q0, m)
  | _ => none

theorem patinaref01_Mul_eq (k : Nat) (p0 : Int) (p1 : Int) (m : Mem) : fnX (patinaref01_Mul_C k) Try.f38 [(Value.int .u8 p0), (Value.int .u8 p1)] m patinaref01_Mul_dec = patinaref01_Mul k p0 p1 m := by kernel_rfl

theorem patinaref01_Mul_ok {k : Nat} {p0 : Int} {p1 : Int} {m : Mem} {r : (Int × Mem)} (h : patinaref01_Mul k p0 p1 m = some r) : CallP Try.prog 38 [(Value.int .u8 p0), (Value.int .u8 p1)] m fun v m' => v = (Value.int .u8 r.1) ∧ m' = r.2 := by
  refine (fn_sound (C := patinaref01_Mul_C k) (c := body Try.f38) tOk mixed (patinaref01_Mul_callOk k) Try.func38 (by kernel_rfl) (by kernel_rfl) (by kernel_rfl) (by kernel_rfl) ?_ (Eq.trans (patinaref01_Mul_eq k p0 p1 m) h)).mono ?_
  · intro p hp
    rw [patinaref01_Mul_loops] at hp
    simp only [List.mem_cons, List.not_mem_nil, or_false] at hp
    rcases hp with rfl | rfl
    · exact patinaref01_Mul_l0_ok k
    · exact patinaref01_Mul_l2_ok k
  · intro v m' hp
    unfold patinaref01_Mul_dec at hp
    split at hp
    · simp only [Option.some.injEq] at hp; subst hp; exact ⟨rfl, rfl⟩
    · cases hp

def patinaref01_Mul_arm {R : Type} (k : Nat) : Arm R := fun vs m K => match vs with
  | [.int .u8 p0, .int .u8 p1] => (patinaref01_Mul k p0 p1 m).bind fun r => K (Value.int .u8 r.1) r.2
  | _ => none

theorem patinaref01_Mul_armOk {R : Type} (k : Nat) : ArmOk Try.prog 38 (patinaref01_Mul_arm (R := R) k) := by
  intro vs m K r h
  unfold patinaref01_Mul_arm at h
  split at h
  · obtain ⟨r, h1, h2⟩ := Option.bind_eq_some_iff.1 h; exact ⟨_, _, h2, fun K' => by simp only [patinaref01_Mul_arm, h1, Option.bind_some], patinaref01_Mul_ok h1⟩
  · cases h

/-! ### patinaref01_Eval -/
def patinaref01_Eval_l0_b (k : Nat) (nx : Option Addr → Nat → Nat → Int → Int → Int → Int → Mem → Option (Int × Mem)) (kx2 : Int → Mem → Option (Int × Mem)) (x0a : Option Addr) (x0n : Nat) (x0c : Nat) (x1 : Int) (x5 : Int) (x6 : Int) (x7 : Int) (m : Mem) : Option (Int × Mem) :=
  bif decide (x7 ≥ 0) then (
  bif inRange x7 x0n then (
  (x0a).bind fun a1 =>
  (ldInt .u8 m (plus a1 (Int.toNat x7 * 1))).bind fun t2 =>
  (patinaref01_Mul k t2 x6 m).bind fun r3 =>
  (patinaref01_Mul k x6 x1 r3.2).bind fun r4 =>
  nx x0a x0n x0c x1 (bitI .xor .u8 x5 r3.1) r4.1 (IntKind.wrap .i64 (x7 - 1)) r4.2) else none) else (
  kx2 x5 m)

def patinaref01_Eval_l0 (k : Nat) (kx2 : Int → Mem → Option (Int × Mem)) : Nat → Option Addr → Nat → Nat → Int → Int → Int → Int → Mem → Option (Int × Mem)
  | 0, _, _, _, _, _, _, _, _ => none
  | n + 1, x0a, x0n, x0c, x1, x5, x6, x7, m => patinaref01_Eval_l0_b k (fun x0a x0n x0c x1 x5 x6 x7 m => patinaref01_Eval_l0 k kx2 n x0a x0n x0c x1 x5 x6 x7 m) kx2 x0a x0n x0c x1 x5 x6 x7 m

theorem patinaref01_Eval_l0_rule (k : Nat) (kx2 : Int → Mem → Option (Int × Mem)) {P : (Int × Mem) → Prop} (I : Nat → Option Addr → Nat → Nat → Int → Int → Int → Int → Mem → Prop)
    (step : ∀ d (nx : Option Addr → Nat → Nat → Int → Int → Int → Int → Mem → Option (Int × Mem)) (x0a : Option Addr) (x0n : Nat) (x0c : Nat) (x1 : Int) (x5 : Int) (x6 : Int) (x7 : Int) (m : Mem), I d x0a x0n x0c x1 x5 x6 x7 m → (∀ d' (x0a : Option Addr) (x0n : Nat) (x0c : Nat) (x1 : Int) (x5 : Int) (x6 : Int) (x7 : Int) (m : Mem), d' < d → I d' x0a x0n x0c x1 x5 x6 x7 m → Ok (nx x0a x0n x0c x1 x5 x6 x7 m) P) → Ok (patinaref01_Eval_l0_b k nx kx2 x0a x0n x0c x1 x5 x6 x7 m) P) :
    ∀ n d (x0a : Option Addr) (x0n : Nat) (x0c : Nat) (x1 : Int) (x5 : Int) (x6 : Int) (x7 : Int) (m : Mem), d < n → I d x0a x0n x0c x1 x5 x6 x7 m → Ok (patinaref01_Eval_l0 k kx2 n x0a x0n x0c x1 x5 x6 x7 m) P
  | 0, d, x0a, x0n, x0c, x1, x5, x6, x7, m, h, _ => absurd h (Nat.not_lt_zero _)
  | n + 1, d, x0a, x0n, x0c, x1, x5, x6, x7, m, h, hI => step d _ x0a x0n x0c x1 x5 x6 x7 m hI fun d' x0a x0n x0c x1 x5 x6 x7 m h' hI' => patinaref01_Eval_l0_rule k kx2 I step n d' x0a x0n x0c x1 x5 x6 x7 m (by omega) hI'

def patinaref01_Eval (k : Nat) (p0a : Option Addr) (p0n : Nat) (p0c : Nat) (p1 : Int) (m : Mem) : Option (Int × Mem) :=
  patinaref01_Eval_l0 k (fun y5 m5 => 
  some (y5, m5)) k p0a p0n p0c p1 0 1 (IntKind.wrap .i64 (((p0n : Nat) : Int) - 1)) m

def patinaref01_Eval_call {R : Type} (k : Nat) : Fun R := callCons 38 (patinaref01_Mul_arm k) (callNil)

theorem patinaref01_Eval_callOk {R : Type} (k : Nat) : CallOk Try.prog (patinaref01_Eval_call (R := R) k) := callOk_cons (patinaref01_Mul_armOk k) (callOk_nil)

def patinaref01_Eval_l0_L (k : Nat) (K : Nat → List Value → Mem → Option (Int × Mem)) (n : Nat) (vs : List Value) (m : Mem) : Option (Int × Mem) := match vs with
  | [.slice x0a x0n x0c, .int .u8 x1, .int .u8 x5, .int .u8 x6, .int .i64 x7] => patinaref01_Eval_l0 k (fun y5 m => K 2 [(Value.int .u8 y5)] m) n x0a x0n x0c x1 x5 x6 x7 m
  | _ => none

def patinaref01_Eval_loop (k : Nat) : Nat → List Value → Mem → (Nat → List Value → Mem → Option (Int × Mem)) → Option (Int × Mem) := fun cur vs m K => match cur with
  | 0 => patinaref01_Eval_l0_L k K k vs m
  | _ => none

def patinaref01_Eval_C (k : Nat) : Ctx (Int × Mem) := ⟨tt, patinaref01_Eval_call k, patinaref01_Eval_loop k, [(0, [0, 1, 5, 6, 7])], [(2, [5])]⟩

noncomputable def patinaref01_Eval_l0_c : Code := ((loopsOf 0 (body Try.f37)).map (·.2)).getD 0 .skip

theorem patinaref01_Eval_loops : loopsOf 0 (body Try.f37) = [(0, patinaref01_Eval_l0_c)] := by kernel_rfl

theorem patinaref01_Eval_l0_ok (k : Nat) : LoopOk (patinaref01_Eval_C k) 0 patinaref01_Eval_l0_c := by
  refine ⟨[0, 1, 5, 6, 7], by kernel_rfl, fun K r => ⟨patinaref01_Eval_l0_L k K, fun vs m h => ⟨k, h⟩, ?_⟩⟩
  intro n vs m h
  unfold patinaref01_Eval_l0_L at h
  split at h
  · cases n with
    | zero => cases h
    | succ n => exact ⟨n, rfl, Eq.trans (by kernel_rfl) h⟩
  · cases h

def patinaref01_Eval_dec : Value → Mem → Option (Int × Mem) := fun v m => match v with
  | .int .u8 q0 => some (q0, m)
  | _ => none

theorem patinaref01_Eval_eq (k : Nat) (p0a : Option Addr) (p0n : Nat) (p0c : Nat) (p1 : Int) (m : Mem) : fnX (patinaref01_Eval_C k) Try.f37 [(Value.slice p0a p0n p0c), (Value.int .u8 p1)] m patinaref01_Eval_dec = patinaref01_Eval k p0a p0n p0c p1 m := by kernel_rfl

theorem patinaref01_Eval_ok {k : Nat} {p0a : Option Addr} {p0n : Nat} {p0c : Nat} {p1 : Int} {m : Mem} {r : (Int × Mem)} (h : patinaref01_Eval k p0a p0n p0c p1 m = some r) : CallP Try.prog 37 [(Value.slice p0a p0n p0c), (Value.int .u8 p1)] m fun v m' => v = (Value.int .u8 r.1) ∧ m' = r.2 := by
  refine (fn_sound (C := patinaref01_Eval_C k) (c := body Try.f37) tOk mixed (patinaref01_Eval_callOk k) Try.func37 (by kernel_rfl) (by kernel_rfl) (by kernel_rfl) (by kernel_rfl) ?_ (Eq.trans (patinaref01_Eval_eq k p0a p0n p0c p1 m) h)).mono ?_
  · intro p hp
    rw [patinaref01_Eval_loops] at hp
    simp only [List.mem_cons, List.not_mem_nil, or_false] at hp
    rcases hp with rfl
    · exact patinaref01_Eval_l0_ok k
  · intro v m' hp
    unfold patinaref01_Eval_dec at hp
    split at hp
    · simp only [Option.some.injEq] at hp; subst hp; exact ⟨rfl, rfl⟩
    · cases hp

def patinaref01_Eval_arm {R : Type} (k : Nat) : Arm R := fun vs m K => match vs with
  | [.slice p0a p0n p0c, .int .u8 p1] => (patinaref01_Eval k p0a p0n p0c p1 m).bind fun r => K (Value.int .u8 r.1) r.2
  | _ => none

theorem patinaref01_Eval_armOk {R : Type} (k : Nat) : ArmOk Try.prog 37 (patinaref01_Eval_arm (R := R) k) := by
  intro vs m K r h
  unfold patinaref01_Eval_arm at h
  split at h
  · obtain ⟨r, h1, h2⟩ := Option.bind_eq_some_iff.1 h; exact ⟨_, _, h2, fun K' => by simp only [patinaref01_Eval_arm, h1, Option.bind_some], patinaref01_Eval_ok h1⟩
  · cases h

end Go.Proofs.Ytoljgolgecbcdab
