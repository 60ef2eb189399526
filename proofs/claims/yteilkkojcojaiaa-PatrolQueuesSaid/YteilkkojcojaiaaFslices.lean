/- The program's functions as plain Lean functions over a clean memory, each held against the program by the kernel. Written by mx.py. -/
import Derived.Test.YteilkkojcojaiaaF0
set_option linter.unusedVariables false
set_option maxRecDepth 100000
namespace Go.Proofs.Yteilkkojcojaiaa
open Go.Mx

/-! ### slices_Index_int_int -/
def slices_Index_int_int_l0_b (k : Nat) (nx : Option Addr → Nat → Nat → Int → Int → Int → Mem → Option (Int × Mem)) (kx0 : Int → Mem → Option (Int × Mem)) (kx2 : Mem → Option (Int × Mem)) (x0a : Option Addr) (x0n : Nat) (x0c : Nat) (x1 : Int) (x7 : Int) (x8 : Int) (m : Mem) : Option (Int × Mem) :=
  bif decide (x8 < x7) then (
  bif inRange x8 x0n then (
  (x0a).bind fun a1 =>
  (ldInt .i64 m (plus a1 (Int.toNat x8 * 1))).bind fun t2 =>
  bif x1 == t2 then (
  kx0 x8 m) else (
  nx x0a x0n x0c x1 x7 (IntKind.wrap .i64 (x8 + 1)) m)) else none) else (
  kx2  m)

def slices_Index_int_int_l0 (k : Nat) (kx0 : Int → Mem → Option (Int × Mem)) (kx2 : Mem → Option (Int × Mem)) : Nat → Option Addr → Nat → Nat → Int → Int → Int → Mem → Option (Int × Mem)
  | 0, _, _, _, _, _, _, _ => none
  | n + 1, x0a, x0n, x0c, x1, x7, x8, m => slices_Index_int_int_l0_b k (fun x0a x0n x0c x1 x7 x8 m => slices_Index_int_int_l0 k kx0 kx2 n x0a x0n x0c x1 x7 x8 m) kx0 kx2 x0a x0n x0c x1 x7 x8 m

theorem slices_Index_int_int_l0_rule (k : Nat) (kx0 : Int → Mem → Option (Int × Mem)) (kx2 : Mem → Option (Int × Mem)) {P : (Int × Mem) → Prop} (I : Nat → Option Addr → Nat → Nat → Int → Int → Int → Mem → Prop)
    (step : ∀ d (nx : Option Addr → Nat → Nat → Int → Int → Int → Mem → Option (Int × Mem)) (x0a : Option Addr) (x0n : Nat) (x0c : Nat) (x1 : Int) (x7 : Int) (x8 : Int) (m : Mem), I d x0a x0n x0c x1 x7 x8 m → (∀ d' (x0a : Option Addr) (x0n : Nat) (x0c : Nat) (x1 : Int) (x7 : Int) (x8 : Int) (m : Mem), d' < d → I d' x0a x0n x0c x1 x7 x8 m → Ok (nx x0a x0n x0c x1 x7 x8 m) P) → Ok (slices_Index_int_int_l0_b k nx kx0 kx2 x0a x0n x0c x1 x7 x8 m) P) :
    ∀ n d (x0a : Option Addr) (x0n : Nat) (x0c : Nat) (x1 : Int) (x7 : Int) (x8 : Int) (m : Mem), d < n → I d x0a x0n x0c x1 x7 x8 m → Ok (slices_Index_int_int_l0 k kx0 kx2 n x0a x0n x0c x1 x7 x8 m) P
  | 0, d, x0a, x0n, x0c, x1, x7, x8, m, h, _ => absurd h (Nat.not_lt_zero _)
  | n + 1, d, x0a, x0n, x0c, x1, x7, x8, m, h, hI => step d _ x0a x0n x0c x1 x7 x8 m hI fun d' x0a x0n x0c x1 x7 x8 m h' hI' => slices_Index_int_int_l0_rule k kx0 kx2 I step n d' x0a x0n x0c x1 x7 x8 m (by omega) hI'

def slices_Index_int_int (k : Nat) (p0a : Option Addr) (p0n : Nat) (p0c : Nat) (p1 : Int) (m : Mem) : Option (Int × Mem) :=
  slices_Index_int_int_l0 k (fun y4 m3 => 
  some (y4, m3)) (fun m4 => 
  some ((-1), m4)) k p0a p0n p0c p1 ((p0n : Nat) : Int) 0 m

def slices_Index_int_int_call {R : Type} (k : Nat) : Fun R := callNil

theorem slices_Index_int_int_callOk {R : Type} (k : Nat) : CallOk Try.prog (slices_Index_int_int_call (R := R) k) := callOk_nil

def slices_Index_int_int_l0_L (k : Nat) (K : Nat → List Value → Mem → Option (Int × Mem)) (n : Nat) (vs : List Value) (m : Mem) : Option (Int × Mem) := match vs with
  | [.slice x0a x0n x0c, .int .i64 x1, .int .i64 x7, .int .i64 x8] => slices_Index_int_int_l0 k (fun y4 m => K 0 [(Value.int .i64 y4)] m) (fun m => K 2 [] m) n x0a x0n x0c x1 x7 x8 m
  | _ => none

def slices_Index_int_int_loop (k : Nat) : Nat → List Value → Mem → (Nat → List Value → Mem → Option (Int × Mem)) → Option (Int × Mem) := fun cur vs m K => match cur with
  | 0 => slices_Index_int_int_l0_L k K k vs m
  | _ => none

def slices_Index_int_int_C (k : Nat) : Ctx (Int × Mem) := ⟨tt, slices_Index_int_int_call k, slices_Index_int_int_loop k, [(0, [0, 1, 7, 8])], [(0, [4]), (2, [])]⟩

noncomputable def slices_Index_int_int_l0_c : Code := ((loopsOf 0 (body Try.f21)).map (·.2)).getD 0 .skip

theorem slices_Index_int_int_loops : loopsOf 0 (body Try.f21) = [(0, slices_Index_int_int_l0_c)] := by kernel_rfl

theorem slices_Index_int_int_l0_ok (k : Nat) : LoopOk (slices_Index_int_int_C k) 0 slices_Index_int_int_l0_c := by
  refine ⟨[0, 1, 7, 8], by kernel_rfl, fun K r => ⟨slices_Index_int_int_l0_L k K, fun vs m h => ⟨k, h⟩, ?_⟩⟩
  intro n vs m h
  unfold slices_Index_int_int_l0_L at h
  split at h
  · cases n with
    | zero => cases h
    | succ n => exact ⟨n, rfl, Eq.trans (by kernel_rfl) h⟩
  · cases h

def slices_Index_int_int_dec : Value → Mem → Option (Int × Mem) := fun v m => match v with
  | .int .i64 q0 => some (q0, m)
  | _ => none

theorem slices_Index_int_int_eq (k : Nat) (p0a : Option Addr) (p0n : Nat) (p0c : Nat) (p1 : Int) (m : Mem) : fnX (slices_Index_int_int_C k) Try.f21 [(Value.slice p0a p0n p0c), (Value.int .i64 p1)] m slices_Index_int_int_dec = slices_Index_int_int k p0a p0n p0c p1 m := by kernel_rfl

theorem slices_Index_int_int_ok {k : Nat} {p0a : Option Addr} {p0n : Nat} {p0c : Nat} {p1 : Int} {m : Mem} {r : (Int × Mem)} (h : slices_Index_int_int k p0a p0n p0c p1 m = some r) : CallP Try.prog 21 [(Value.slice p0a p0n p0c), (Value.int .i64 p1)] m fun v m' => v = (Value.int .i64 r.1) ∧ m' = r.2 := by
  refine (fn_sound (C := slices_Index_int_int_C k) (c := body Try.f21) tOk mixed (slices_Index_int_int_callOk k) Try.func21 (by kernel_rfl) (by kernel_rfl) (by kernel_rfl) (by kernel_rfl) ?_ (Eq.trans (slices_Index_int_int_eq k p0a p0n p0c p1 m) h)).mono ?_
  · intro p hp
    rw [slices_Index_int_int_loops] at hp
    simp only [List.mem_cons, List.not_mem_nil, or_false] at hp
    rcases hp with rfl
    · exact slices_Index_int_int_l0_ok k
  · intro v m' hp
    unfold slices_Index_int_int_dec at hp
    split at hp
    · simp only [Option.some.injEq] at hp; subst hp; exact ⟨rfl, rfl⟩
    · cases hp

def slices_Index_int_int_arm {R : Type} (k : Nat) : Arm R := fun vs m K => match vs with
  | [.slice p0a p0n p0c, .int .i64 p1] => (slices_Index_int_int k p0a p0n p0c p1 m).bind fun r => K (Value.int .i64 r.1) r.2
  | _ => none

theorem slices_Index_int_int_armOk {R : Type} (k : Nat) : ArmOk Try.prog 21 (slices_Index_int_int_arm (R := R) k) := by
  intro vs m K r h
  unfold slices_Index_int_int_arm at h
  split at h
  · obtain ⟨r, h1, h2⟩ := Option.bind_eq_some_iff.1 h; exact ⟨_, _, h2, fun K' => by simp only [slices_Index_int_int_arm, h1, Option.bind_some], slices_Index_int_int_ok h1⟩
  · cases h

/-! ### slices_Contains_int_int -/
def slices_Contains_int_int (k : Nat) (p0a : Option Addr) (p0n : Nat) (p0c : Nat) (p1 : Int) (m : Mem) : Option (Bool × Mem) :=
  (slices_Index_int_int k p0a p0n p0c p1 m).bind fun r1 =>
  some (decide (r1.1 ≥ 0), r1.2)

def slices_Contains_int_int_call {R : Type} (k : Nat) : Fun R := callCons 21 (slices_Index_int_int_arm k) (callNil)

theorem slices_Contains_int_int_callOk {R : Type} (k : Nat) : CallOk Try.prog (slices_Contains_int_int_call (R := R) k) := callOk_cons (slices_Index_int_int_armOk k) (callOk_nil)

def slices_Contains_int_int_loop (k : Nat) : Nat → List Value → Mem → (Nat → List Value → Mem → Option (Bool × Mem)) → Option (Bool × Mem) := fun _ _ _ _ => none

def slices_Contains_int_int_C (k : Nat) : Ctx (Bool × Mem) := ⟨tt, slices_Contains_int_int_call k, slices_Contains_int_int_loop k, [], []⟩

def slices_Contains_int_int_dec : Value → Mem → Option (Bool × Mem) := fun v m => match v with
  | .bool q0 => some (q0, m)
  | _ => none

theorem slices_Contains_int_int_eq (k : Nat) (p0a : Option Addr) (p0n : Nat) (p0c : Nat) (p1 : Int) (m : Mem) : fnX (slices_Contains_int_int_C k) Try.f16 [(Value.slice p0a p0n p0c), (Value.int .i64 p1)] m slices_Contains_int_int_dec = slices_Contains_int_int k p0a p0n p0c p1 m := by kernel_rfl

theorem slices_Contains_int_int_ok {k : Nat} {p0a : Option Addr} {p0n : Nat} {p0c : Nat} {p1 : Int} {m : Mem} {r : (Bool × Mem)} (h : slices_Contains_int_int k p0a p0n p0c p1 m = some r) : CallP Try.prog 16 [(Value.slice p0a p0n p0c), (Value.int .i64 p1)] m fun v m' => v = (Value.bool r.1) ∧ m' = r.2 := by
  refine (fn_sound (C := slices_Contains_int_int_C k) (c := body Try.f16) tOk mixed (slices_Contains_int_int_callOk k) Try.func16 (by kernel_rfl) (by kernel_rfl) (by kernel_rfl) (by kernel_rfl) ?_ (Eq.trans (slices_Contains_int_int_eq k p0a p0n p0c p1 m) h)).mono ?_
  · intro p hp; rw [show loopsOf 0 (body Try.f16) = [] by kernel_rfl] at hp; cases hp
  · intro v m' hp
    unfold slices_Contains_int_int_dec at hp
    split at hp
    · simp only [Option.some.injEq] at hp; subst hp; exact ⟨rfl, rfl⟩
    · cases hp

def slices_Contains_int_int_arm {R : Type} (k : Nat) : Arm R := fun vs m K => match vs with
  | [.slice p0a p0n p0c, .int .i64 p1] => (slices_Contains_int_int k p0a p0n p0c p1 m).bind fun r => K (Value.bool r.1) r.2
  | _ => none

theorem slices_Contains_int_int_armOk {R : Type} (k : Nat) : ArmOk Try.prog 16 (slices_Contains_int_int_arm (R := R) k) := by
  intro vs m K r h
  unfold slices_Contains_int_int_arm at h
  split at h
  · obtain ⟨r, h1, h2⟩ := Option.bind_eq_some_iff.1 h; exact ⟨_, _, h2, fun K' => by simp only [slices_Contains_int_int_arm, h1, Option.bind_some], slices_Contains_int_int_ok h1⟩
  · cases h

/-! ### slices_Clone_int_int -/
def slices_Clone_int_int (k : Nat) (p0a : Option Addr) (p0n : Nat) (p0c : Nat) (m : Mem) : Option (Sl × Mem) :=
  bif Option.isNone p0a then (
  some ((⟨none, 0, 0⟩ : Sl), m)) else (
  let m1 : Mem := m ++ [.live []]
  (rdSl m1 p0a p0n 1).bind fun l2 =>
  (appM 1 8 m1 (some ⟨List.length m, 0, Option.none⟩) 0 0 p0n l2).bind fun r3 =>
  some ((⟨r3.1.a, r3.1.len, r3.1.cap⟩ : Sl), r3.2))

def slices_Clone_int_int_call {R : Type} (k : Nat) : Fun R := callNil

theorem slices_Clone_int_int_callOk {R : Type} (k : Nat) : CallOk Try.prog (slices_Clone_int_int_call (R := R) k) := callOk_nil

def slices_Clone_int_int_loop (k : Nat) : Nat → List Value → Mem → (Nat → List Value → Mem → Option (Sl × Mem)) → Option (Sl × Mem) := fun _ _ _ _ => none

def slices_Clone_int_int_C (k : Nat) : Ctx (Sl × Mem) := ⟨tt, slices_Clone_int_int_call k, slices_Clone_int_int_loop k, [], []⟩

def slices_Clone_int_int_dec : Value → Mem → Option (Sl × Mem) := fun v m => match v with
  | .slice q0a q0n q0c => some ((⟨q0a, q0n, q0c⟩ : Sl), m)
  | _ => none

theorem slices_Clone_int_int_eq (k : Nat) (p0a : Option Addr) (p0n : Nat) (p0c : Nat) (m : Mem) : fnX (slices_Clone_int_int_C k) Try.f18 [(Value.slice p0a p0n p0c)] m slices_Clone_int_int_dec = slices_Clone_int_int k p0a p0n p0c m := by kernel_rfl

theorem slices_Clone_int_int_ok {k : Nat} {p0a : Option Addr} {p0n : Nat} {p0c : Nat} {m : Mem} {r : (Sl × Mem)} (h : slices_Clone_int_int k p0a p0n p0c m = some r) : CallP Try.prog 18 [(Value.slice p0a p0n p0c)] m fun v m' => v = (Value.slice r.1.a r.1.len r.1.cap) ∧ m' = r.2 := by
  refine (fn_sound (C := slices_Clone_int_int_C k) (c := body Try.f18) tOk mixed (slices_Clone_int_int_callOk k) Try.func18 (by kernel_rfl) (by kernel_rfl) (by kernel_rfl) (by kernel_rfl) ?_ (Eq.trans (slices_Clone_int_int_eq k p0a p0n p0c m) h)).mono ?_
  · intro p hp; rw [show loopsOf 0 (body Try.f18) = [] by kernel_rfl] at hp; cases hp
  · intro v m' hp
    unfold slices_Clone_int_int_dec at hp
    split at hp
    · simp only [Option.some.injEq] at hp; subst hp; exact ⟨rfl, rfl⟩
    · cases hp

def slices_Clone_int_int_arm {R : Type} (k : Nat) : Arm R := fun vs m K => match vs with
  | [.slice p0a p0n p0c] => (slices_Clone_int_int k p0a p0n p0c m).bind fun r => K (Value.slice r.1.a r.1.len r.1.cap) r.2
  | _ => none

theorem slices_Clone_int_int_armOk {R : Type} (k : Nat) : ArmOk Try.prog 18 (slices_Clone_int_int_arm (R := R) k) := by
  intro vs m K r h
  unfold slices_Clone_int_int_arm at h
  split at h
  · obtain ⟨r, h1, h2⟩ := Option.bind_eq_some_iff.1 h; exact ⟨_, _, h2, fun K' => by simp only [slices_Clone_int_int_arm, h1, Option.bind_some], slices_Clone_int_int_ok h1⟩
  · cases h

end Go.Proofs.Yteilkkojcojaiaa
