/- The program's functions as plain Lean functions over a clean memory, each held against the program by the kernel. Written by mx.py. -/
import Derived.Test.YtnilidpafijdlacF0
set_option linter.unusedVariables false
set_option maxRecDepth 100000
namespace Go.Proofs.Ytnilidpafijdlac
open Go.Mx

/-! ### patinaref09_number -/
def patinaref09_number_l0_b (k : Nat) (nx : Option Addr → Nat → Nat → Int → Int → Mem → Option (Int × Mem)) (kx2 : Int → Mem → Option (Int × Mem)) (x0a : Option Addr) (x0n : Nat) (x0c : Nat) (x3 : Int) (x4 : Int) (m : Mem) : Option (Int × Mem) :=
  bif decide (x4 ≥ 0) then (
  bif inRange x4 x0n then (
  (x0a).bind fun a1 =>
  (ldInt .u8 m (plus a1 (Int.toNat x4 * 1))).bind fun t2 =>
  nx x0a x0n x0c (IntKind.wrap .i64 ((IntKind.wrap .i64 (256 * x3)) + (IntKind.wrap .i64 t2))) (IntKind.wrap .i64 (x4 - 1)) m) else none) else (
  kx2 x3 m)

def patinaref09_number_l0 (k : Nat) (kx2 : Int → Mem → Option (Int × Mem)) : Nat → Option Addr → Nat → Nat → Int → Int → Mem → Option (Int × Mem)
  | 0, _, _, _, _, _, _ => none
  | n + 1, x0a, x0n, x0c, x3, x4, m => patinaref09_number_l0_b k (fun x0a x0n x0c x3 x4 m => patinaref09_number_l0 k kx2 n x0a x0n x0c x3 x4 m) kx2 x0a x0n x0c x3 x4 m

theorem patinaref09_number_l0_rule (k : Nat) (kx2 : Int → Mem → Option (Int × Mem)) {P : (Int × Mem) → Prop} (I : Nat → Option Addr → Nat → Nat → Int → Int → Mem → Prop)
    (step : ∀ d (nx : Option Addr → Nat → Nat → Int → Int → Mem → Option (Int × Mem)) (x0a : Option Addr) (x0n : Nat) (x0c : Nat) (x3 : Int) (x4 : Int) (m : Mem), I d x0a x0n x0c x3 x4 m → (∀ d' (x0a : Option Addr) (x0n : Nat) (x0c : Nat) (x3 : Int) (x4 : Int) (m : Mem), d' < d → I d' x0a x0n x0c x3 x4 m → Ok (nx x0a x0n x0c x3 x4 m) P) → Ok (patinaref09_number_l0_b k nx kx2 x0a x0n x0c x3 x4 m) P) :
    ∀ n d (x0a : Option Addr) (x0n : Nat) (x0c : Nat) (x3 : Int) (x4 : Int) (m : Mem), d < n → I d x0a x0n x0c x3 x4 m → Ok (patinaref09_number_l0 k kx2 n x0a x0n x0c x3 x4 m) P
  | 0, d, x0a, x0n, x0c, x3, x4, m, h, _ => absurd h (Nat.not_lt_zero _)
  | n + 1, d, x0a, x0n, x0c, x3, x4, m, h, hI => step d _ x0a x0n x0c x3 x4 m hI fun d' x0a x0n x0c x3 x4 m h' hI' => patinaref09_number_l0_rule k kx2 I step n d' x0a x0n x0c x3 x4 m (by omega) hI'

def patinaref09_number (k : Nat) (p0a : Option Addr) (p0n : Nat) (p0c : Nat) (m : Mem) : Option (Int × Mem) :=
  patinaref09_number_l0 k (fun y3 m3 => 
  some (y3, m3)) k p0a p0n p0c 0 (IntKind.wrap .i64 (((p0n : Nat) : Int) - 1)) m

def patinaref09_number_call {R : Type} (k : Nat) : Fun R := callNil

theorem patinaref09_number_callOk {R : Type} (k : Nat) : CallOk Try.prog (patinaref09_number_call (R := R) k) := callOk_nil

def patinaref09_number_l0_L (k : Nat) (K : Nat → List Value → Mem → Option (Int × Mem)) (n : Nat) (vs : List Value) (m : Mem) : Option (Int × Mem) := match vs with
  | [.slice x0a x0n x0c, .int .i64 x3, .int .i64 x4] => patinaref09_number_l0 k (fun y3 m => K 2 [(Value.int .i64 y3)] m) n x0a x0n x0c x3 x4 m
  | _ => none

def patinaref09_number_loop (k : Nat) : Nat → List Value → Mem → (Nat → List Value → Mem → Option (Int × Mem)) → Option (Int × Mem) := fun cur vs m K => match cur with
  | 0 => patinaref09_number_l0_L k K k vs m
  | _ => none

def patinaref09_number_C (k : Nat) : Ctx (Int × Mem) := ⟨tt, patinaref09_number_call k, patinaref09_number_loop k, [(0, [0, 3, 4])], [(2, [3])]⟩

noncomputable def patinaref09_number_l0_c : Code := ((loopsOf 0 (body Try.f49)).map (·.2)).getD 0 .skip

theorem patinaref09_number_loops : loopsOf 0 (body Try.f49) = [(0, patinaref09_number_l0_c)] := by kernel_rfl

theorem patinaref09_number_l0_ok (k : Nat) : LoopOk (patinaref09_number_C k) 0 patinaref09_number_l0_c := by
  refine ⟨[0, 3, 4], by kernel_rfl, fun K r => ⟨patinaref09_number_l0_L k K, fun vs m h => ⟨k, h⟩, ?_⟩⟩
  intro n vs m h
  unfold patinaref09_number_l0_L at h
  split at h
  · cases n with
    | zero => cases h
    | succ n => exact ⟨n, rfl, Eq.trans (by kernel_rfl) h⟩
  · cases h

def patinaref09_number_dec : Value → Mem → Option (Int × Mem) := fun v m => match v with
  | .int .i64 q0 => some (q0, m)
  | _ => none

theorem patinaref09_number_eq (k : Nat) (p0a : Option Addr) (p0n : Nat) (p0c : Nat) (m : Mem) : fnX (patinaref09_number_C k) Try.f49 [(Value.slice p0a p0n p0c)] m patinaref09_number_dec = patinaref09_number k p0a p0n p0c m := by kernel_rfl

theorem patinaref09_number_ok {k : Nat} {p0a : Option Addr} {p0n : Nat} {p0c : Nat} {m : Mem} {r : (Int × Mem)} (h : patinaref09_number k p0a p0n p0c m = some r) : CallP Try.prog 49 [(Value.slice p0a p0n p0c)] m fun v m' => v = (Value.int .i64 r.1) ∧ m' = r.2 := by
  refine (fn_sound (C := patinaref09_number_C k) (c := body Try.f49) tOk mixed (patinaref09_number_callOk k) Try.func49 (by kernel_rfl) (by kernel_rfl) (by kernel_rfl) (by kernel_rfl) ?_ (Eq.trans (patinaref09_number_eq k p0a p0n p0c m) h)).mono ?_
  · intro p hp
    rw [patinaref09_number_loops] at hp
    simp only [List.mem_cons, List.not_mem_nil, or_false] at hp
    rcases hp with rfl
    · exact patinaref09_number_l0_ok k
  · intro v m' hp
    unfold patinaref09_number_dec at hp
    split at hp
    · simp only [Option.some.injEq] at hp; subst hp; exact ⟨rfl, rfl⟩
    · cases hp

def patinaref09_number_arm {R : Type} (k : Nat) : Arm R := fun vs m K => match vs with
  | [.slice p0a p0n p0c] => (patinaref09_number k p0a p0n p0c m).bind fun r => K (Value.int .i64 r.1) r.2
  | _ => none

theorem patinaref09_number_armOk {R : Type} (k : Nat) : ArmOk Try.prog 49 (patinaref09_number_arm (R := R) k) := by
  intro vs m K r h
  unfold patinaref09_number_arm at h
  split at h
  · obtain ⟨r, h1, h2⟩ := Option.bind_eq_some_iff.1 h; exact ⟨_, _, h2, fun K' => by simp only [patinaref09_number_arm, h1, Option.bind_some], patinaref09_number_ok h1⟩
  · cases h

/-! ### patinaref09_Read -/
def patinaref09_Read_l0_b (k : Nat) (nx : Option Addr → Nat → Nat → Addr → Addr → Int → Mem → Option ((List Value) × Int × Mem)) (kx0 : Addr → Int → Mem → Option ((List Value) × Int × Mem)) (kx2 : Option Addr → Nat → Nat → Addr → Addr → Mem → Option ((List Value) × Int × Mem)) (x0a : Option Addr) (x0n : Nat) (x0c : Nat) (x2 : Addr) (x4 : Addr) (x5 : Int) (m : Mem) : Option ((List Value) × Int × Mem) :=
  bif decide (x5 < 174) then (
  bif inRange x5 x0n then (
  (x0a).bind fun a17 =>
  (ldInt .u8 m (plus a17 (Int.toNat x5 * 1))).bind fun t18 =>
  bif t18 != 0 then (
  (ldCells m x4 62).bind fun t19 =>
  bif Nat.beq (List.length t19) 62 then (
  (stCells m x2 t19).bind fun m20 =>
  kx0 x2 3 m20) else none) else (
  nx x0a x0n x0c x2 x4 (IntKind.wrap .i64 (x5 + 1)) m)) else none) else (
  kx2 x0a x0n x0c x2 x4 m)

def patinaref09_Read_l0 (k : Nat) (kx0 : Addr → Int → Mem → Option ((List Value) × Int × Mem)) (kx2 : Option Addr → Nat → Nat → Addr → Addr → Mem → Option ((List Value) × Int × Mem)) : Nat → Option Addr → Nat → Nat → Addr → Addr → Int → Mem → Option ((List Value) × Int × Mem)
  | 0, _, _, _, _, _, _, _ => none
  | n + 1, x0a, x0n, x0c, x2, x4, x5, m => patinaref09_Read_l0_b k (fun x0a x0n x0c x2 x4 x5 m => patinaref09_Read_l0 k kx0 kx2 n x0a x0n x0c x2 x4 x5 m) kx0 kx2 x0a x0n x0c x2 x4 x5 m

theorem patinaref09_Read_l0_rule (k : Nat) (kx0 : Addr → Int → Mem → Option ((List Value) × Int × Mem)) (kx2 : Option Addr → Nat → Nat → Addr → Addr → Mem → Option ((List Value) × Int × Mem)) {P : ((List Value) × Int × Mem) → Prop} (I : Nat → Option Addr → Nat → Nat → Addr → Addr → Int → Mem → Prop)
    (step : ∀ d (nx : Option Addr → Nat → Nat → Addr → Addr → Int → Mem → Option ((List Value) × Int × Mem)) (x0a : Option Addr) (x0n : Nat) (x0c : Nat) (x2 : Addr) (x4 : Addr) (x5 : Int) (m : Mem), I d x0a x0n x0c x2 x4 x5 m → (∀ d' (x0a : Option Addr) (x0n : Nat) (x0c : Nat) (x2 : Addr) (x4 : Addr) (x5 : Int) (m : Mem), d' < d → I d' x0a x0n x0c x2 x4 x5 m → Ok (nx x0a x0n x0c x2 x4 x5 m) P) → Ok (patinaref09_Read_l0_b k nx kx0 kx2 x0a x0n x0c x2 x4 x5 m) P) :
    ∀ n d (x0a : Option Addr) (x0n : Nat) (x0c : Nat) (x2 : Addr) (x4 : Addr) (x5 : Int) (m : Mem), d < n → I d x0a x0n x0c x2 x4 x5 m → Ok (patinaref09_Read_l0 k kx0 kx2 n x0a x0n x0c x2 x4 x5 m) P
  | 0, d, x0a, x0n, x0c, x2, x4, x5, m, h, _ => absurd h (Nat.not_lt_zero _)
  | n + 1, d, x0a, x0n, x0c, x2, x4, x5, m, h, hI => step d _ x0a x0n x0c x2 x4 x5 m hI fun d' x0a x0n x0c x2 x4 x5 m h' hI' => patinaref09_Read_l0_rule k kx0 kx2 I step n d' x0a x0n x0c x2 x4 x5 m (by omega) hI'

def patinaref09_Read_l2_b (k : Nat) (nx : Option Addr → Nat → Nat → Addr → Addr → Int → Mem → Option ((List Value) × Int × Mem)) (kx4 : Option Addr → Nat → Nat → Addr → Addr → Mem → Option ((List Value) × Int × Mem)) (x0a : Option Addr) (x0n : Nat) (x0c : Nat) (x2 : Addr) (x4 : Addr) (x6 : Int) (m : Mem) : Option ((List Value) × Int × Mem) :=
  bif decide (x6 < 24) then (
  bif sliceK.okZ x0a 1 false && inUpto (IntKind.wrap .i64 ((IntKind.wrap .i64 (5 * x6)) + 5)) x0c && inUpto (IntKind.wrap .i64 (5 * x6)) (Int.toNat (IntKind.wrap .i64 ((IntKind.wrap .i64 (5 * x6)) + 5))) then (
  (patinaref09_number k ((sliceK.clear x0a false).map fun a => plus a ((Int.toNat (IntKind.wrap .i64 (5 * x6))) * 1)) ((Int.toNat (IntKind.wrap .i64 ((IntKind.wrap .i64 (5 * x6)) + 5))) - (Int.toNat (IntKind.wrap .i64 (5 * x6)))) (x0c - (Int.toNat (IntKind.wrap .i64 (5 * x6)))) m).bind fun r24 =>
  bif inRange x6 24 then (
  (st r24.2 (plus (plus x4 0) (Int.toNat x6 * 1)) (Value.int .i64 r24.1)).bind fun m25 =>
  nx x0a x0n x0c x2 x4 (IntKind.wrap .i64 (x6 + 1)) m25) else none) else none) else (
  kx4 x0a x0n x0c x2 x4 m)

def patinaref09_Read_l2 (k : Nat) (kx4 : Option Addr → Nat → Nat → Addr → Addr → Mem → Option ((List Value) × Int × Mem)) : Nat → Option Addr → Nat → Nat → Addr → Addr → Int → Mem → Option ((List Value) × Int × Mem)
  | 0, _, _, _, _, _, _, _ => none
  | n + 1, x0a, x0n, x0c, x2, x4, x6, m => patinaref09_Read_l2_b k (fun x0a x0n x0c x2 x4 x6 m => patinaref09_Read_l2 k kx4 n x0a x0n x0c x2 x4 x6 m) kx4 x0a x0n x0c x2 x4 x6 m

theorem patinaref09_Read_l2_rule (k : Nat) (kx4 : Option Addr → Nat → Nat → Addr → Addr → Mem → Option ((List Value) × Int × Mem)) {P : ((List Value) × Int × Mem) → Prop} (I : Nat → Option Addr → Nat → Nat → Addr → Addr → Int → Mem → Prop)
    (step : ∀ d (nx : Option Addr → Nat → Nat → Addr → Addr → Int → Mem → Option ((List Value) × Int × Mem)) (x0a : Option Addr) (x0n : Nat) (x0c : Nat) (x2 : Addr) (x4 : Addr) (x6 : Int) (m : Mem), I d x0a x0n x0c x2 x4 x6 m → (∀ d' (x0a : Option Addr) (x0n : Nat) (x0c : Nat) (x2 : Addr) (x4 : Addr) (x6 : Int) (m : Mem), d' < d → I d' x0a x0n x0c x2 x4 x6 m → Ok (nx x0a x0n x0c x2 x4 x6 m) P) → Ok (patinaref09_Read_l2_b k nx kx4 x0a x0n x0c x2 x4 x6 m) P) :
    ∀ n d (x0a : Option Addr) (x0n : Nat) (x0c : Nat) (x2 : Addr) (x4 : Addr) (x6 : Int) (m : Mem), d < n → I d x0a x0n x0c x2 x4 x6 m → Ok (patinaref09_Read_l2 k kx4 n x0a x0n x0c x2 x4 x6 m) P
  | 0, d, x0a, x0n, x0c, x2, x4, x6, m, h, _ => absurd h (Nat.not_lt_zero _)
  | n + 1, d, x0a, x0n, x0c, x2, x4, x6, m, h, hI => step d _ x0a x0n x0c x2 x4 x6 m hI fun d' x0a x0n x0c x2 x4 x6 m h' hI' => patinaref09_Read_l2_rule k kx4 I step n d' x0a x0n x0c x2 x4 x6 m (by omega) hI'

def patinaref09_Read_l4_b (k : Nat) (nx : Option Addr → Nat → Nat → Addr → Addr → Int → Int → Mem → Option ((List Value) × Int × Mem)) (kx6 : Option Addr → Nat → Nat → Addr → Addr → Mem → Option ((List Value) × Int × Mem)) (x0a : Option Addr) (x0n : Nat) (x0c : Nat) (x2 : Addr) (x4 : Addr) (x7 : Int) (x8 : Int) (m : Mem) : Option ((List Value) × Int × Mem) :=
  bif decide (x8 < 12) then (
  bif inRange x8 12 then (
  (st m (plus (plus x4 25) (Int.toNat x8 * 1)) (Value.bool ((Int.tmod x7 2) == 1))).bind fun m30 =>
  nx x0a x0n x0c x2 x4 (IntKind.wrap .i64 (Int.tdiv x7 2)) (IntKind.wrap .i64 (x8 + 1)) m30) else none) else (
  kx6 x0a x0n x0c x2 x4 m)

def patinaref09_Read_l4 (k : Nat) (kx6 : Option Addr → Nat → Nat → Addr → Addr → Mem → Option ((List Value) × Int × Mem)) : Nat → Option Addr → Nat → Nat → Addr → Addr → Int → Int → Mem → Option ((List Value) × Int × Mem)
  | 0, _, _, _, _, _, _, _, _ => none
  | n + 1, x0a, x0n, x0c, x2, x4, x7, x8, m => patinaref09_Read_l4_b k (fun x0a x0n x0c x2 x4 x7 x8 m => patinaref09_Read_l4 k kx6 n x0a x0n x0c x2 x4 x7 x8 m) kx6 x0a x0n x0c x2 x4 x7 x8 m

theorem patinaref09_Read_l4_rule (k : Nat) (kx6 : Option Addr → Nat → Nat → Addr → Addr → Mem → Option ((List Value) × Int × Mem)) {P : ((List Value) × Int × Mem) → Prop} (I : Nat → Option Addr → Nat → Nat → Addr → Addr → Int → Int → Mem → Prop)
    (step : ∀ d (nx : Option Addr → Nat → Nat → Addr → Addr → Int → Int → Mem → Option ((List Value) × Int × Mem)) (x0a : Option Addr) (x0n : Nat) (x0c : Nat) (x2 : Addr) (x4 : Addr) (x7 : Int) (x8 : Int) (m : Mem), I d x0a x0n x0c x2 x4 x7 x8 m → (∀ d' (x0a : Option Addr) (x0n : Nat) (x0c : Nat) (x2 : Addr) (x4 : Addr) (x7 : Int) (x8 : Int) (m : Mem), d' < d → I d' x0a x0n x0c x2 x4 x7 x8 m → Ok (nx x0a x0n x0c x2 x4 x7 x8 m) P) → Ok (patinaref09_Read_l4_b k nx kx6 x0a x0n x0c x2 x4 x7 x8 m) P) :
    ∀ n d (x0a : Option Addr) (x0n : Nat) (x0c : Nat) (x2 : Addr) (x4 : Addr) (x7 : Int) (x8 : Int) (m : Mem), d < n → I d x0a x0n x0c x2 x4 x7 x8 m → Ok (patinaref09_Read_l4 k kx6 n x0a x0n x0c x2 x4 x7 x8 m) P
  | 0, d, x0a, x0n, x0c, x2, x4, x7, x8, m, h, _ => absurd h (Nat.not_lt_zero _)
  | n + 1, d, x0a, x0n, x0c, x2, x4, x7, x8, m, h, hI => step d _ x0a x0n x0c x2 x4 x7 x8 m hI fun d' x0a x0n x0c x2 x4 x7 x8 m h' hI' => patinaref09_Read_l4_rule k kx6 I step n d' x0a x0n x0c x2 x4 x7 x8 m (by omega) hI'

def patinaref09_Read_l6_b (k : Nat) (nx : Option Addr → Nat → Nat → Addr → Addr → Int → Mem → Option ((List Value) × Int × Mem)) (kx8 : Addr → Addr → Mem → Option ((List Value) × Int × Mem)) (x0a : Option Addr) (x0n : Nat) (x0c : Nat) (x2 : Addr) (x4 : Addr) (x9 : Int) (m : Mem) : Option ((List Value) × Int × Mem) :=
  bif decide (x9 < 12) then (
  bif sliceK.okZ x0a 1 false && inUpto (IntKind.wrap .i64 (130 + (IntKind.wrap .i64 (2 * x9)))) x0c && inUpto (IntKind.wrap .i64 (128 + (IntKind.wrap .i64 (2 * x9)))) (Int.toNat (IntKind.wrap .i64 (130 + (IntKind.wrap .i64 (2 * x9))))) then (
  (patinaref09_number k ((sliceK.clear x0a false).map fun a => plus a ((Int.toNat (IntKind.wrap .i64 (128 + (IntKind.wrap .i64 (2 * x9))))) * 1)) ((Int.toNat (IntKind.wrap .i64 (130 + (IntKind.wrap .i64 (2 * x9))))) - (Int.toNat (IntKind.wrap .i64 (128 + (IntKind.wrap .i64 (2 * x9)))))) (x0c - (Int.toNat (IntKind.wrap .i64 (128 + (IntKind.wrap .i64 (2 * x9)))))) m).bind fun r35 =>
  bif inRange x9 12 then (
  (st r35.2 (plus (plus x4 38) (Int.toNat x9 * 1)) (Value.int .i64 r35.1)).bind fun m36 =>
  bif inRange (IntKind.wrap .i64 (152 + x9)) x0n then (
  (x0a).bind fun a37 =>
  (ldInt .u8 m36 (plus a37 (Int.toNat (IntKind.wrap .i64 (152 + x9)) * 1))).bind fun t38 =>
  bif inRange x9 12 then (
  (st m36 (plus (plus x4 50) (Int.toNat x9 * 1)) (Value.int .i64 (IntKind.wrap .i64 t38))).bind fun m39 =>
  nx x0a x0n x0c x2 x4 (IntKind.wrap .i64 (x9 + 1)) m39) else none) else none) else none) else none) else (
  kx8 x2 x4 m)

def patinaref09_Read_l6 (k : Nat) (kx8 : Addr → Addr → Mem → Option ((List Value) × Int × Mem)) : Nat → Option Addr → Nat → Nat → Addr → Addr → Int → Mem → Option ((List Value) × Int × Mem)
  | 0, _, _, _, _, _, _, _ => none
  | n + 1, x0a, x0n, x0c, x2, x4, x9, m => patinaref09_Read_l6_b k (fun x0a x0n x0c x2 x4 x9 m => patinaref09_Read_l6 k kx8 n x0a x0n x0c x2 x4 x9 m) kx8 x0a x0n x0c x2 x4 x9 m

theorem patinaref09_Read_l6_rule (k : Nat) (kx8 : Addr → Addr → Mem → Option ((List Value) × Int × Mem)) {P : ((List Value) × Int × Mem) → Prop} (I : Nat → Option Addr → Nat → Nat → Addr → Addr → Int → Mem → Prop)
    (step : ∀ d (nx : Option Addr → Nat → Nat → Addr → Addr → Int → Mem → Option ((List Value) × Int × Mem)) (x0a : Option Addr) (x0n : Nat) (x0c : Nat) (x2 : Addr) (x4 : Addr) (x9 : Int) (m : Mem), I d x0a x0n x0c x2 x4 x9 m → (∀ d' (x0a : Option Addr) (x0n : Nat) (x0c : Nat) (x2 : Addr) (x4 : Addr) (x9 : Int) (m : Mem), d' < d → I d' x0a x0n x0c x2 x4 x9 m → Ok (nx x0a x0n x0c x2 x4 x9 m) P) → Ok (patinaref09_Read_l6_b k nx kx8 x0a x0n x0c x2 x4 x9 m) P) :
    ∀ n d (x0a : Option Addr) (x0n : Nat) (x0c : Nat) (x2 : Addr) (x4 : Addr) (x9 : Int) (m : Mem), d < n → I d x0a x0n x0c x2 x4 x9 m → Ok (patinaref09_Read_l6 k kx8 n x0a x0n x0c x2 x4 x9 m) P
  | 0, d, x0a, x0n, x0c, x2, x4, x9, m, h, _ => absurd h (Nat.not_lt_zero _)
  | n + 1, d, x0a, x0n, x0c, x2, x4, x9, m, h, hI => step d _ x0a x0n x0c x2 x4 x9 m hI fun d' x0a x0n x0c x2 x4 x9 m h' hI' => patinaref09_Read_l6_rule k kx8 I step n d' x0a x0n x0c x2 x4 x9 m (by omega) hI'

def patinaref09_Read (k : Nat) (p0a : Option Addr) (p0n : Nat) (p0c : Nat) (m : Mem) : Option ((List Value) × Int × Mem) :=
  let m1 : Mem := m ++ [.live ((repl 24 [.int .i64 0]) ++ [.int .i64 0] ++ (repl 12 [.bool false]) ++ [.int .i64 0] ++ (repl 12 [.int .i64 0]) ++ (repl 12 [.int .i64 0]))]
  let m2 : Mem := m1 ++ [.live ((repl 24 [.int .i64 0]) ++ [.int .i64 0] ++ (repl 12 [.bool false]) ++ [.int .i64 0] ++ (repl 12 [.int .i64 0]) ++ (repl 12 [.int .i64 0]))]
  (stCells m2 ⟨List.length m1, 0, Option.none⟩ ((repl 24 [.int .i64 0]) ++ [.int .i64 0] ++ (repl 12 [.bool false]) ++ [.int .i64 0] ++ (repl 12 [.int .i64 0]) ++ (repl 12 [.int .i64 0]))).bind fun m3 =>
  bif ((p0n : Nat) : Int) != 174 then (
  (ldCells m3 ⟨List.length m1, 0, Option.none⟩ 62).bind fun t4 =>
  bif Nat.beq (List.length t4) 62 then (
  (stCells m3 ⟨List.length m, 0, Option.none⟩ t4).bind fun m5 =>
  (ldCells m5 ⟨List.length m, 0, Option.none⟩ 62).bind fun t6 =>
  some (t6, 3, m5)) else none) else (
  bif inRange 126 p0n then (
  (p0a).bind fun a7 =>
  (ldInt .u8 m3 (plus a7 (Int.toNat 126 * 1))).bind fun t8 =>
  bif decide (t8 > 15) then (
  (ldCells m3 ⟨List.length m1, 0, Option.none⟩ 62).bind fun t9 =>
  bif Nat.beq (List.length t9) 62 then (
  (stCells m3 ⟨List.length m, 0, Option.none⟩ t9).bind fun m10 =>
  (ldCells m10 ⟨List.length m, 0, Option.none⟩ 62).bind fun t11 =>
  some (t11, 3, m10)) else none) else (
  bif inRange 127 p0n then (
  (p0a).bind fun a12 =>
  (ldInt .u8 m3 (plus a12 (Int.toNat 127 * 1))).bind fun t13 =>
  bif decide (t13 > 95) then (
  (ldCells m3 ⟨List.length m1, 0, Option.none⟩ 62).bind fun t14 =>
  bif Nat.beq (List.length t14) 62 then (
  (stCells m3 ⟨List.length m, 0, Option.none⟩ t14).bind fun m15 =>
  (ldCells m15 ⟨List.length m, 0, Option.none⟩ 62).bind fun t16 =>
  some (t16, 3, m15)) else none) else (
  patinaref09_Read_l0 k (fun y2 y3 m21 => 
  (ldCells m21 y2 62).bind fun t22 =>
  some (t22, y3, m21)) (fun y0a y0n y0c y2 y4 m23 => 
  patinaref09_Read_l2 k (fun y0a y0n y0c y2 y4 m26 => 
  bif sliceK.okZ y0a 1 false && inUpto 125 y0c && inUpto 120 (Int.toNat 125) then (
  (patinaref09_number k ((sliceK.clear y0a false).map fun a => plus a ((Int.toNat 120) * 1)) ((Int.toNat 125) - (Int.toNat 120)) (y0c - (Int.toNat 120)) m26).bind fun r27 =>
  (st r27.2 (plus y4 24) (Value.int .i64 r27.1)).bind fun m28 =>
  bif sliceK.okZ y0a 1 false && inUpto 127 y0c && inUpto 125 (Int.toNat 127) then (
  (patinaref09_number k ((sliceK.clear y0a false).map fun a => plus a ((Int.toNat 125) * 1)) ((Int.toNat 127) - (Int.toNat 125)) (y0c - (Int.toNat 125)) m28).bind fun r29 =>
  patinaref09_Read_l4 k (fun y0a y0n y0c y2 y4 m31 => 
  bif inRange 127 y0n then (
  (y0a).bind fun a32 =>
  (ldInt .u8 m31 (plus a32 (Int.toNat 127 * 1))).bind fun t33 =>
  (st m31 (plus y4 37) (Value.int .i64 (IntKind.wrap .i64 t33))).bind fun m34 =>
  patinaref09_Read_l6 k (fun y2 y4 m40 => 
  (ldCells m40 y4 62).bind fun t41 =>
  bif Nat.beq (List.length t41) 62 then (
  (stCells m40 y2 t41).bind fun m42 =>
  (ldCells m42 y2 62).bind fun t43 =>
  some (t43, 0, m42)) else none) k y0a y0n y0c y2 y4 0 m34) else none) k y0a y0n y0c y2 y4 r29.1 0 r29.2) else none) else none) k y0a y0n y0c y2 y4 0 m23) k p0a p0n p0c ⟨List.length m, 0, Option.none⟩ ⟨List.length m1, 0, Option.none⟩ 164 m3)) else none)) else none)

def patinaref09_Read_call {R : Type} (k : Nat) : Fun R := callCons 49 (patinaref09_number_arm k) (callNil)

theorem patinaref09_Read_callOk {R : Type} (k : Nat) : CallOk Try.prog (patinaref09_Read_call (R := R) k) := callOk_cons (patinaref09_number_armOk k) (callOk_nil)

def patinaref09_Read_l0_L (k : Nat) (K : Nat → List Value → Mem → Option ((List Value) × Int × Mem)) (n : Nat) (vs : List Value) (m : Mem) : Option ((List Value) × Int × Mem) := match vs with
  | [.slice x0a x0n x0c, .pointer (some x2), .pointer (some x4), .int .i64 x5] => patinaref09_Read_l0 k (fun y2 y3 m => K 0 [(Value.pointer (some y2)), (Value.int .i64 y3)] m) (fun y0a y0n y0c y2 y4 m => K 2 [(Value.slice y0a y0n y0c), (Value.pointer (some y2)), (Value.pointer (some y4))] m) n x0a x0n x0c x2 x4 x5 m
  | _ => none

def patinaref09_Read_l2_L (k : Nat) (K : Nat → List Value → Mem → Option ((List Value) × Int × Mem)) (n : Nat) (vs : List Value) (m : Mem) : Option ((List Value) × Int × Mem) := match vs with
  | [.slice x0a x0n x0c, .pointer (some x2), .pointer (some x4), .int .i64 x6] => patinaref09_Read_l2 k (fun y0a y0n y0c y2 y4 m => K 4 [(Value.slice y0a y0n y0c), (Value.pointer (some y2)), (Value.pointer (some y4))] m) n x0a x0n x0c x2 x4 x6 m
  | _ => none

def patinaref09_Read_l4_L (k : Nat) (K : Nat → List Value → Mem → Option ((List Value) × Int × Mem)) (n : Nat) (vs : List Value) (m : Mem) : Option ((List Value) × Int × Mem) := match vs with
  | [.slice x0a x0n x0c, .pointer (some x2), .pointer (some x4), .int .i64 x7, .int .i64 x8] => patinaref09_Read_l4 k (fun y0a y0n y0c y2 y4 m => K 6 [(Value.slice y0a y0n y0c), (Value.pointer (some y2)), (Value.pointer (some y4))] m) n x0a x0n x0c x2 x4 x7 x8 m
  | _ => none

def patinaref09_Read_l6_L (k : Nat) (K : Nat → List Value → Mem → Option ((List Value) × Int × Mem)) (n : Nat) (vs : List Value) (m : Mem) : Option ((List Value) × Int × Mem) := match vs with
  | [.slice x0a x0n x0c, .pointer (some x2), .pointer (some x4), .int .i64 x9] => patinaref09_Read_l6 k (fun y2 y4 m => K 8 [(Value.pointer (some y2)), (Value.pointer (some y4))] m) n x0a x0n x0c x2 x4 x9 m
  | _ => none

def patinaref09_Read_loop (k : Nat) : Nat → List Value → Mem → (Nat → List Value → Mem → Option ((List Value) × Int × Mem)) → Option ((List Value) × Int × Mem) := fun cur vs m K => match cur with
  | 0 => patinaref09_Read_l0_L k K k vs m
  | 2 => patinaref09_Read_l2_L k K k vs m
  | 4 => patinaref09_Read_l4_L k K k vs m
  | 6 => patinaref09_Read_l6_L k K k vs m
  | _ => none

def patinaref09_Read_C (k : Nat) : Ctx ((List Value) × Int × Mem) := ⟨tt, patinaref09_Read_call k, patinaref09_Read_loop k, [(0, [0, 2, 4, 5]), (2, [0, 2, 4, 6]), (4, [0, 2, 4, 7, 8]), (6, [0, 2, 4, 9])], [(0, [2, 3]), (2, [0, 2, 4]), (4, [0, 2, 4]), (6, [0, 2, 4]), (8, [2, 4])]⟩

noncomputable def patinaref09_Read_l0_c : Code := ((loopsOf 0 (body Try.f28)).map (·.2)).getD 0 .skip

noncomputable def patinaref09_Read_l2_c : Code := ((loopsOf 0 (body Try.f28)).map (·.2)).getD 1 .skip

noncomputable def patinaref09_Read_l4_c : Code := ((loopsOf 0 (body Try.f28)).map (·.2)).getD 2 .skip

noncomputable def patinaref09_Read_l6_c : Code := ((loopsOf 0 (body Try.f28)).map (·.2)).getD 3 .skip

theorem patinaref09_Read_loops : loopsOf 0 (body Try.f28) = [(0, patinaref09_Read_l0_c), (2, patinaref09_Read_l2_c), (4, patinaref09_Read_l4_c), (6, patinaref09_Read_l6_c)] := by kernel_rfl

theorem patinaref09_Read_l0_ok (k : Nat) : LoopOk (patinaref09_Read_C k) 0 patinaref09_Read_l0_c := by
  refine ⟨[0, 2, 4, 5], by kernel_rfl, fun K r => ⟨patinaref09_Read_l0_L k K, fun vs m h => ⟨k, h⟩, ?_⟩⟩
  intro n vs m h
  unfold patinaref09_Read_l0_L at h
  split at h
  · cases n with
    | zero => cases h
    | succ n => exact ⟨n, rfl, Eq.trans (by kernel_rfl) h⟩
  · cases h

theorem patinaref09_Read_l2_ok (k : Nat) : LoopOk (patinaref09_Read_C k) 2 patinaref09_Read_l2_c := by
  refine ⟨[0, 2, 4, 6], by kernel_rfl, fun K r => ⟨patinaref09_Read_l2_L k K, fun vs m h => ⟨k, h⟩, ?_⟩⟩
  intro n vs m h
  unfold patinaref09_Read_l2_L at h
  split at h
  · cases n with
    | zero => cases h
    | succ n => exact ⟨n, rfl, Eq.trans (by kernel_rfl) h⟩
  · cases h

theorem patinaref09_Read_l4_ok (k : Nat) : LoopOk (patinaref09_Read_C k) 4 patinaref09_Read_l4_c := by
  refine ⟨[0, 2, 4, 7, 8], by kernel_rfl, fun K r => ⟨patinaref09_Read_l4_L k K, fun vs m h => ⟨k, h⟩, ?_⟩⟩
  intro n vs m h
  unfold patinaref09_Read_l4_L at h
  split at h
  · cases n with
    | zero => cases h
    | succ n => exact ⟨n, rfl, Eq.trans (by kernel_rfl) h⟩
  · cases h

theorem patinaref09_Read_l6_ok (k : Nat) : LoopOk (patinaref09_Read_C k) 6 patinaref09_Read_l6_c := by
  refine ⟨[0, 2, 4, 9], by kernel_rfl, fun K r => ⟨patinaref09_Read_l6_L k K, fun vs m h => ⟨k, h⟩, ?_⟩⟩
  intro n vs m h
  unfold patinaref09_Read_l6_L at h
  split at h
  · cases n with
    | zero => cases h
    | succ n => exact ⟨n, rfl, Eq.trans (by kernel_rfl) h⟩
  · cases h

def patinaref09_Read_dec : Value → Mem → Option ((List Value) × Int × Mem) := fun v m => match v with
  | .tuple ⟨[.agg ⟨q0⟩, .int .i64 q1]⟩ => some (q0, q1, m)
  | _ => none

theorem patinaref09_Read_eq (k : Nat) (p0a : Option Addr) (p0n : Nat) (p0c : Nat) (m : Mem) : fnX (patinaref09_Read_C k) Try.f28 [(Value.slice p0a p0n p0c)] m patinaref09_Read_dec = patinaref09_Read k p0a p0n p0c m := by kernel_rfl

theorem patinaref09_Read_ok {k : Nat} {p0a : Option Addr} {p0n : Nat} {p0c : Nat} {m : Mem} {r : ((List Value) × Int × Mem)} (h : patinaref09_Read k p0a p0n p0c m = some r) : CallP Try.prog 28 [(Value.slice p0a p0n p0c)] m fun v m' => v = (Value.tuple ⟨[(Value.agg ⟨r.1⟩), (Value.int .i64 r.2.1)]⟩) ∧ m' = r.2.2 := by
  refine (fn_sound (C := patinaref09_Read_C k) (c := body Try.f28) tOk mixed (patinaref09_Read_callOk k) Try.func28 (by kernel_rfl) (by kernel_rfl) (by kernel_rfl) (by kernel_rfl) ?_ (Eq.trans (patinaref09_Read_eq k p0a p0n p0c m) h)).mono ?_
  · intro p hp
    rw [patinaref09_Read_loops] at hp
    simp only [List.mem_cons, List.not_mem_nil, or_false] at hp
    rcases hp with rfl | rfl | rfl | rfl
    · exact patinaref09_Read_l0_ok k
    · exact patinaref09_Read_l2_ok k
    · exact patinaref09_Read_l4_ok k
    · exact patinaref09_Read_l6_ok k
  · intro v m' hp
    unfold patinaref09_Read_dec at hp
    split at hp
    · simp only [Option.some.injEq] at hp; subst hp; exact ⟨rfl, rfl⟩
    · cases hp

def patinaref09_Read_arm {R : Type} (k : Nat) : Arm R := fun vs m K => match vs with
  | [.slice p0a p0n p0c] => (patinaref09_Read k p0a p0n p0c m).bind fun r => K (Value.tuple ⟨[(Value.agg ⟨r.1⟩), (Value.int .i64 r.2.1)]⟩) r.2.2
  | _ => none

theorem patinaref09_Read_armOk {R : Type} (k : Nat) : ArmOk Try.prog 28 (patinaref09_Read_arm (R := R) k) := by
  intro vs m K r h
  unfold patinaref09_Read_arm at h
  split at h
  · obtain ⟨r, h1, h2⟩ := Option.bind_eq_some_iff.1 h; exact ⟨_, _, h2, fun K' => by simp only [patinaref09_Read_arm, h1, Option.bind_some], patinaref09_Read_ok h1⟩
  · cases h

/-! ### patinaref09_Same -/
def patinaref09_Same (k : Nat) (p0a : Option Addr) (p0n : Nat) (p0c : Nat) (p1a : Option Addr) (p1n : Nat) (p1c : Nat) (m : Mem) : Option (Bool × Mem) :=
  (rdSl m p0a p0n 1).bind fun l1 =>
  (strOf l1).bind fun s2 =>
  (rdSl m p1a p1n 1).bind fun l3 =>
  (strOf l3).bind fun s4 =>
  some (strEq s2 s4, m)

def patinaref09_Same_call {R : Type} (k : Nat) : Fun R := callNil

theorem patinaref09_Same_callOk {R : Type} (k : Nat) : CallOk Try.prog (patinaref09_Same_call (R := R) k) := callOk_nil

def patinaref09_Same_loop (k : Nat) : Nat → List Value → Mem → (Nat → List Value → Mem → Option (Bool × Mem)) → Option (Bool × Mem) := fun _ _ _ _ => none

def patinaref09_Same_C (k : Nat) : Ctx (Bool × Mem) := ⟨tt, patinaref09_Same_call k, patinaref09_Same_loop k, [], []⟩

def patinaref09_Same_dec : Value → Mem → Option (Bool × Mem) := fun v m => match v with
  | .bool q0 => some (q0, m)
  | _ => none

theorem patinaref09_Same_eq (k : Nat) (p0a : Option Addr) (p0n : Nat) (p0c : Nat) (p1a : Option Addr) (p1n : Nat) (p1c : Nat) (m : Mem) : fnX (patinaref09_Same_C k) Try.f29 [(Value.slice p0a p0n p0c), (Value.slice p1a p1n p1c)] m patinaref09_Same_dec = patinaref09_Same k p0a p0n p0c p1a p1n p1c m := by kernel_rfl

theorem patinaref09_Same_ok {k : Nat} {p0a : Option Addr} {p0n : Nat} {p0c : Nat} {p1a : Option Addr} {p1n : Nat} {p1c : Nat} {m : Mem} {r : (Bool × Mem)} (h : patinaref09_Same k p0a p0n p0c p1a p1n p1c m = some r) : CallP Try.prog 29 [(Value.slice p0a p0n p0c), (Value.slice p1a p1n p1c)] m fun v m' => v = (Value.bool r.1) ∧ m' = r.2 := by
  refine (fn_sound (C := patinaref09_Same_C k) (c := body Try.f29) tOk mixed (patinaref09_Same_callOk k) Try.func29 (by kernel_rfl) (by kernel_rfl) (by kernel_rfl) (by kernel_rfl) ?_ (Eq.trans (patinaref09_Same_eq k p0a p0n p0c p1a p1n p1c m) h)).mono ?_
  · intro p hp; rw [show loopsOf 0 (body Try.f29) = [] by kernel_rfl] at hp; cases hp
  · intro v m' hp
    unfold patinaref09_Same_dec at hp
    split at hp
    · simp only [Option.some.injEq] at hp; subst hp; exact ⟨rfl, rfl⟩
    · cases hp

def patinaref09_Same_arm {R : Type} (k : Nat) : Arm R := fun vs m K => match vs with
  | [.slice p0a p0n p0c, .slice p1a p1n p1c] => (patinaref09_Same k p0a p0n p0c p1a p1n p1c m).bind fun r => K (Value.bool r.1) r.2
  | _ => none

theorem patinaref09_Same_armOk {R : Type} (k : Nat) : ArmOk Try.prog 29 (patinaref09_Same_arm (R := R) k) := by
  intro vs m K r h
  unfold patinaref09_Same_arm at h
  split at h
  · obtain ⟨r, h1, h2⟩ := Option.bind_eq_some_iff.1 h; exact ⟨_, _, h2, fun K' => by simp only [patinaref09_Same_arm, h1, Option.bind_some], patinaref09_Same_ok h1⟩
  · cases h

end Go.Proofs.Ytnilidpafijdlac
