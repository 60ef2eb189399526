/- The program's functions as plain Lean functions over a clean memory, each held against the program by the kernel. Written by mx.py. -/
import Derived.Test.YtlbbcgjfkpnilaaF0
set_option linter.unusedVariables false
set_option maxRecDepth 100000
namespace Go.Proofs.Ytlbbcgjfkpnilaa
open Go.Mx

/-! ### patinaref01_Same -/
def patinaref01_Same_l0_b (k : Nat) (nx : Option Addr → Nat → Nat → Option Addr → Nat → Nat → Int → Mem → Option (Bool × Mem)) (kx0 : Bool → Mem → Option (Bool × Mem)) (kx2 : Mem → Option (Bool × Mem)) (x0a : Option Addr) (x0n : Nat) (x0c : Nat) (x1a : Option Addr) (x1n : Nat) (x1c : Nat) (x5 : Int) (m : Mem) : Option (Bool × Mem) :=
  bif decide (x5 < ((x0n : Nat) : Int)) then (
  bif inRange x5 x0n then (
  (x0a).bind fun a1 =>
  (ldInt .u8 m (plus a1 (Int.toNat x5 * 1))).bind fun t2 =>
  bif inRange x5 x1n then (
  (x1a).bind fun a3 =>
  (ldInt .u8 m (plus a3 (Int.toNat x5 * 1))).bind fun t4 =>
  bif t2 != t4 then (
  kx0 false m) else (
  nx x0a x0n x0c x1a x1n x1c (IntKind.wrap .i64 (x5 + 1)) m)) else none) else none) else (
  kx2  m)

def patinaref01_Same_l0 (k : Nat) (kx0 : Bool → Mem → Option (Bool × Mem)) (kx2 : Mem → Option (Bool × Mem)) : Nat → Option Addr → Nat → Nat → Option Addr → Nat → Nat → Int → Mem → Option (Bool × Mem)
  | 0, _, _, _, _, _, _, _, _ => none
  | n + 1, x0a, x0n, x0c, x1a, x1n, x1c, x5, m => patinaref01_Same_l0_b k (fun x0a x0n x0c x1a x1n x1c x5 m => patinaref01_Same_l0 k kx0 kx2 n x0a x0n x0c x1a x1n x1c x5 m) kx0 kx2 x0a x0n x0c x1a x1n x1c x5 m
termination_by structural x => x

theorem patinaref01_Same_l0_rule (k : Nat) (kx0 : Bool → Mem → Option (Bool × Mem)) (kx2 : Mem → Option (Bool × Mem)) {P : (Bool × Mem) → Prop} (I : Nat → Option Addr → Nat → Nat → Option Addr → Nat → Nat → Int → Mem → Prop)
    (step : ∀ d (nx : Option Addr → Nat → Nat → Option Addr → Nat → Nat → Int → Mem → Option (Bool × Mem)) (x0a : Option Addr) (x0n : Nat) (x0c : Nat) (x1a : Option Addr) (x1n : Nat) (x1c : Nat) (x5 : Int) (m : Mem), I d x0a x0n x0c x1a x1n x1c x5 m → (∀ d' (x0a : Option Addr) (x0n : Nat) (x0c : Nat) (x1a : Option Addr) (x1n : Nat) (x1c : Nat) (x5 : Int) (m : Mem), d' < d → I d' x0a x0n x0c x1a x1n x1c x5 m → Ok (nx x0a x0n x0c x1a x1n x1c x5 m) P) → Ok (patinaref01_Same_l0_b k nx kx0 kx2 x0a x0n x0c x1a x1n x1c x5 m) P) :
    ∀ n d (x0a : Option Addr) (x0n : Nat) (x0c : Nat) (x1a : Option Addr) (x1n : Nat) (x1c : Nat) (x5 : Int) (m : Mem), d < n → I d x0a x0n x0c x1a x1n x1c x5 m → Ok (patinaref01_Same_l0 k kx0 kx2 n x0a x0n x0c x1a x1n x1c x5 m) P
  | 0, d, x0a, x0n, x0c, x1a, x1n, x1c, x5, m, h, _ => absurd h (Nat.not_lt_zero _)
  | n + 1, d, x0a, x0n, x0c, x1a, x1n, x1c, x5, m, h, hI => step d _ x0a x0n x0c x1a x1n x1c x5 m hI fun d' x0a x0n x0c x1a x1n x1c x5 m h' hI' => patinaref01_Same_l0_rule k kx0 kx2 I step n d' x0a x0n x0c x1a x1n x1c x5 m (by omega) hI'

def patinaref01_Same (k : Nat) (p0a : Option Addr) (p0n : Nat) (p0c : Nat) (p1a : Option Addr) (p1n : Nat) (p1c : Nat) (m : Mem) : Option (Bool × Mem) :=
  bif ((p0n : Nat) : Int) != ((p1n : Nat) : Int) then (
  some (false, m)) else (
  patinaref01_Same_l0 k (fun y4 m5 => 
  some (y4, m5)) (fun m6 => 
  some (true, m6)) k p0a p0n p0c p1a p1n p1c 0 m)

def patinaref01_Same_call {R : Type} (k : Nat) : Fun R := callNil

theorem patinaref01_Same_callOk {R : Type} (k : Nat) : CallOk Try.prog (patinaref01_Same_call (R := R) k) := callOk_nil

def patinaref01_Same_l0_L (k : Nat) (K : Nat → List Value → Mem → Option (Bool × Mem)) (n : Nat) (vs : List Value) (m : Mem) : Option (Bool × Mem) := match vs with
  | [.slice x0a x0n x0c, .slice x1a x1n x1c, .int .i64 x5] => patinaref01_Same_l0 k (fun y4 m => K 0 [(Value.bool y4)] m) (fun m => K 2 [] m) n x0a x0n x0c x1a x1n x1c x5 m
  | _ => none

def patinaref01_Same_loop (k : Nat) : Nat → List Value → Mem → (Nat → List Value → Mem → Option (Bool × Mem)) → Option (Bool × Mem) := fun cur vs m K => match cur with
  | 0 => patinaref01_Same_l0_L k K k vs m
  | _ => none

def patinaref01_Same_C (k : Nat) : Ctx (Bool × Mem) := ⟨tt, patinaref01_Same_call k, patinaref01_Same_loop k, [(0, [0, 1, 5])], [(0, [4]), (2, [])]⟩

noncomputable def patinaref01_Same_l0_c : Code := ((loopsOf 0 (body Try.f9)).map (·.2)).getD 0 .skip

theorem patinaref01_Same_loops : loopsOf 0 (body Try.f9) = [(0, patinaref01_Same_l0_c)] := by kernel_rfl

theorem patinaref01_Same_l0_ok (k : Nat) : LoopOk (patinaref01_Same_C k) 0 patinaref01_Same_l0_c := by
  refine ⟨[0, 1, 5], by kernel_rfl, fun K r => ⟨patinaref01_Same_l0_L k K, fun vs m h => ⟨k, h⟩, ?_⟩⟩
  intro n vs m h
  unfold patinaref01_Same_l0_L at h
  split at h
  · cases n with
    | zero => cases h
    | succ n => exact ⟨n, rfl, Eq.trans (by kernel_rfl) h⟩
  · cases h

def patinaref01_Same_dec : Value → Mem → Option (Bool × Mem) := fun v m => match v with
  | .bool q0 => some (q0, m)
  | _ => none

theorem patinaref01_Same_eq (k : Nat) (p0a : Option Addr) (p0n : Nat) (p0c : Nat) (p1a : Option Addr) (p1n : Nat) (p1c : Nat) (m : Mem) : fnX (patinaref01_Same_C k) Try.f9 [(Value.slice p0a p0n p0c), (Value.slice p1a p1n p1c)] m patinaref01_Same_dec = patinaref01_Same k p0a p0n p0c p1a p1n p1c m := by kernel_rfl

theorem patinaref01_Same_ok {k : Nat} {p0a : Option Addr} {p0n : Nat} {p0c : Nat} {p1a : Option Addr} {p1n : Nat} {p1c : Nat} {m : Mem} {r : (Bool × Mem)} (h : patinaref01_Same k p0a p0n p0c p1a p1n p1c m = some r) : CallP Try.prog 9 [(Value.slice p0a p0n p0c), (Value.slice p1a p1n p1c)] m fun v m' => v = (Value.bool r.1) ∧ m' = r.2 := by
  refine (fn_sound (C := patinaref01_Same_C k) (c := body Try.f9) tOk mixed (patinaref01_Same_callOk k) Try.func9 (by kernel_rfl) (by kernel_rfl) (by kernel_rfl) (by kernel_rfl) ?_ ?_ (Eq.trans (patinaref01_Same_eq k p0a p0n p0c p1a p1n p1c m) h)).mono ?_
  · intro p hp
    rw [patinaref01_Same_loops] at hp
    simp only [List.mem_cons, List.not_mem_nil, or_false] at hp
    rcases hp with rfl
    · exact patinaref01_Same_l0_ok k
  · intro p hp; rw [show rangesOf 0 (body Try.f9) = [] by kernel_rfl] at hp; cases hp
  · intro v m' hp
    unfold patinaref01_Same_dec at hp
    split at hp
    · simp only [Option.some.injEq] at hp; subst hp; exact ⟨rfl, rfl⟩
    · cases hp

def patinaref01_Same_arm {R : Type} (k : Nat) : Arm R := fun vs m K => match vs with
  | [.slice p0a p0n p0c, .slice p1a p1n p1c] => (patinaref01_Same k p0a p0n p0c p1a p1n p1c m).bind fun r => K (Value.bool r.1) r.2
  | _ => none

theorem patinaref01_Same_armOk {R : Type} (k : Nat) : ArmOk Try.prog 9 (patinaref01_Same_arm (R := R) k) := by
  intro vs m K r h
  unfold patinaref01_Same_arm at h
  split at h
  · obtain ⟨r, h1, h2⟩ := Option.bind_eq_some_iff.1 h; exact ⟨_, _, h2, fun K' => by simp only [patinaref01_Same_arm, h1, Option.bind_some], patinaref01_Same_ok h1⟩
  · cases h

/-! ### patinaref01_Lend -/
def patinaref01_Lend_l0_b (k : Nat) (nx : Addr → Int → Mem → Option ((Option Addr) × Mem)) (kx2 : Addr → Mem → Option ((Option Addr) × Mem)) (x3 : Addr) (x4 : Int) (m : Mem) : Option ((Option Addr) × Mem) :=
  bif decide (x4 < 5) then (
  (ldSl m (plus x3 0)).bind fun t6 =>
  let m7 : Mem := m ++ [.live [(Value.int .u8 (IntKind.wrap .u8 (IntKind.wrap .i64 (70 + x4))))]]
  (rdSl m7 (some ⟨List.length m, 0, Option.none⟩) 1 1).bind fun l8 =>
  (appM 1 1 m7 t6.a t6.len t6.cap 1 l8).bind fun r9 =>
  (st r9.2 (plus x3 0) (Value.slice r9.1.a r9.1.len r9.1.cap)).bind fun m10 =>
  nx x3 (IntKind.wrap .i64 (x4 + 1)) m10) else (
  kx2 x3 m)

def patinaref01_Lend_l0 (k : Nat) (kx2 : Addr → Mem → Option ((Option Addr) × Mem)) : Nat → Addr → Int → Mem → Option ((Option Addr) × Mem)
  | 0, _, _, _ => none
  | n + 1, x3, x4, m => patinaref01_Lend_l0_b k (fun x3 x4 m => patinaref01_Lend_l0 k kx2 n x3 x4 m) kx2 x3 x4 m
termination_by structural x => x

theorem patinaref01_Lend_l0_rule (k : Nat) (kx2 : Addr → Mem → Option ((Option Addr) × Mem)) {P : ((Option Addr) × Mem) → Prop} (I : Nat → Addr → Int → Mem → Prop)
    (step : ∀ d (nx : Addr → Int → Mem → Option ((Option Addr) × Mem)) (x3 : Addr) (x4 : Int) (m : Mem), I d x3 x4 m → (∀ d' (x3 : Addr) (x4 : Int) (m : Mem), d' < d → I d' x3 x4 m → Ok (nx x3 x4 m) P) → Ok (patinaref01_Lend_l0_b k nx kx2 x3 x4 m) P) :
    ∀ n d (x3 : Addr) (x4 : Int) (m : Mem), d < n → I d x3 x4 m → Ok (patinaref01_Lend_l0 k kx2 n x3 x4 m) P
  | 0, d, x3, x4, m, h, _ => absurd h (Nat.not_lt_zero _)
  | n + 1, d, x3, x4, m, h, hI => step d _ x3 x4 m hI fun d' x3 x4 m h' hI' => patinaref01_Lend_l0_rule k kx2 I step n d' x3 x4 m (by omega) hI'

def patinaref01_Lend (k : Nat) (p0a : Option Addr) (p0n : Nat) (p0c : Nat) (m : Mem) : Option ((Option Addr) × Mem) :=
  let m1 : Mem := m ++ [.live [.slice none 0 0, .slice none 0 0, (Value.int .i64 ((p0n : Nat) : Int))]]
  (ldSl m1 (plus ⟨List.length m, 0, Option.none⟩ 0)).bind fun t2 =>
  (rdSl m1 p0a p0n 1).bind fun l3 =>
  (appM 1 1 m1 t2.a t2.len t2.cap p0n l3).bind fun r4 =>
  (st r4.2 (plus ⟨List.length m, 0, Option.none⟩ 0) (Value.slice r4.1.a r4.1.len r4.1.cap)).bind fun m5 =>
  patinaref01_Lend_l0 k (fun y3 m11 => 
  (ldSl m11 (plus y3 1)).bind fun t12 =>
  (ldSl m11 (plus y3 0)).bind fun t13 =>
  (rdSl m11 t13.a t13.len 1).bind fun l14 =>
  (appM 1 1 m11 t12.a t12.len t12.cap t13.len l14).bind fun r15 =>
  (st r15.2 (plus y3 1) (Value.slice r15.1.a r15.1.len r15.1.cap)).bind fun m16 =>
  some ((some y3), m16)) k ⟨List.length m, 0, Option.none⟩ 0 m5

def patinaref01_Lend_call {R : Type} (k : Nat) : Fun R := callNil

theorem patinaref01_Lend_callOk {R : Type} (k : Nat) : CallOk Try.prog (patinaref01_Lend_call (R := R) k) := callOk_nil

def patinaref01_Lend_l0_L (k : Nat) (K : Nat → List Value → Mem → Option ((Option Addr) × Mem)) (n : Nat) (vs : List Value) (m : Mem) : Option ((Option Addr) × Mem) := match vs with
  | [.pointer (some x3), .int .i64 x4] => patinaref01_Lend_l0 k (fun y3 m => K 2 [(Value.pointer (some y3))] m) n x3 x4 m
  | _ => none

def patinaref01_Lend_loop (k : Nat) : Nat → List Value → Mem → (Nat → List Value → Mem → Option ((Option Addr) × Mem)) → Option ((Option Addr) × Mem) := fun cur vs m K => match cur with
  | 0 => patinaref01_Lend_l0_L k K k vs m
  | _ => none

def patinaref01_Lend_C (k : Nat) : Ctx ((Option Addr) × Mem) := ⟨tt, patinaref01_Lend_call k, patinaref01_Lend_loop k, [(0, [3, 4])], [(2, [3])]⟩

noncomputable def patinaref01_Lend_l0_c : Code := ((loopsOf 0 (body Try.f25)).map (·.2)).getD 0 .skip

theorem patinaref01_Lend_loops : loopsOf 0 (body Try.f25) = [(0, patinaref01_Lend_l0_c)] := by kernel_rfl

theorem patinaref01_Lend_l0_ok (k : Nat) : LoopOk (patinaref01_Lend_C k) 0 patinaref01_Lend_l0_c := by
  refine ⟨[3, 4], by kernel_rfl, fun K r => ⟨patinaref01_Lend_l0_L k K, fun vs m h => ⟨k, h⟩, ?_⟩⟩
  intro n vs m h
  unfold patinaref01_Lend_l0_L at h
  split at h
  · cases n with
    | zero => cases h
    | succ n => exact ⟨n, rfl, Eq.trans (by kernel_rfl) h⟩
  · cases h

def patinaref01_Lend_dec : Value → Mem → Option ((Option Addr) × Mem) := fun v m => match v with
  | .pointer q0 => some (q0, m)
  | _ => none

theorem patinaref01_Lend_eq (k : Nat) (p0a : Option Addr) (p0n : Nat) (p0c : Nat) (m : Mem) : fnX (patinaref01_Lend_C k) Try.f25 [(Value.slice p0a p0n p0c)] m patinaref01_Lend_dec = patinaref01_Lend k p0a p0n p0c m := by kernel_rfl

theorem patinaref01_Lend_ok {k : Nat} {p0a : Option Addr} {p0n : Nat} {p0c : Nat} {m : Mem} {r : ((Option Addr) × Mem)} (h : patinaref01_Lend k p0a p0n p0c m = some r) : CallP Try.prog 25 [(Value.slice p0a p0n p0c)] m fun v m' => v = (Value.pointer r.1) ∧ m' = r.2 := by
  refine (fn_sound (C := patinaref01_Lend_C k) (c := body Try.f25) tOk mixed (patinaref01_Lend_callOk k) Try.func25 (by kernel_rfl) (by kernel_rfl) (by kernel_rfl) (by kernel_rfl) ?_ ?_ (Eq.trans (patinaref01_Lend_eq k p0a p0n p0c m) h)).mono ?_
  · intro p hp
    rw [patinaref01_Lend_loops] at hp
    simp only [List.mem_cons, List.not_mem_nil, or_false] at hp
    rcases hp with rfl
    · exact patinaref01_Lend_l0_ok k
  · intro p hp; rw [show rangesOf 0 (body Try.f25) = [] by kernel_rfl] at hp; cases hp
  · intro v m' hp
    unfold patinaref01_Lend_dec at hp
    split at hp
    · simp only [Option.some.injEq] at hp; subst hp; exact ⟨rfl, rfl⟩
    · cases hp

def patinaref01_Lend_arm {R : Type} (k : Nat) : Arm R := fun vs m K => match vs with
  | [.slice p0a p0n p0c] => (patinaref01_Lend k p0a p0n p0c m).bind fun r => K (Value.pointer r.1) r.2
  | _ => none

theorem patinaref01_Lend_armOk {R : Type} (k : Nat) : ArmOk Try.prog 25 (patinaref01_Lend_arm (R := R) k) := by
  intro vs m K r h
  unfold patinaref01_Lend_arm at h
  split at h
  · obtain ⟨r, h1, h2⟩ := Option.bind_eq_some_iff.1 h; exact ⟨_, _, h2, fun K' => by simp only [patinaref01_Lend_arm, h1, Option.bind_some], patinaref01_Lend_ok h1⟩
  · cases h

/-! ### patinaref01_Lent_Bytes -/
def patinaref01_Lent_Bytes (k : Nat) (p0 : Option Addr) (m : Mem) : Option (Sl × Mem) :=
  (p0).bind fun a1 =>
  (ldSl m (plus a1 0)).bind fun t2 =>
  (p0).bind fun a3 =>
  (ldInt .i64 m (plus a3 2)).bind fun t4 =>
  bif inUpto t4 t2.cap then (
  some ((⟨(sliceK.clear t2.a false), (Int.toNat t4), t2.cap⟩ : Sl), m)) else none

def patinaref01_Lent_Bytes_call {R : Type} (k : Nat) : Fun R := callNil

theorem patinaref01_Lent_Bytes_callOk {R : Type} (k : Nat) : CallOk Try.prog (patinaref01_Lent_Bytes_call (R := R) k) := callOk_nil

def patinaref01_Lent_Bytes_loop (k : Nat) : Nat → List Value → Mem → (Nat → List Value → Mem → Option (Sl × Mem)) → Option (Sl × Mem) := fun _ _ _ _ => none

def patinaref01_Lent_Bytes_C (k : Nat) : Ctx (Sl × Mem) := ⟨tt, patinaref01_Lent_Bytes_call k, patinaref01_Lent_Bytes_loop k, [], []⟩

def patinaref01_Lent_Bytes_dec : Value → Mem → Option (Sl × Mem) := fun v m => match v with
  | .slice q0a q0n q0c => some ((⟨q0a, q0n, q0c⟩ : Sl), m)
  | _ => none

theorem patinaref01_Lent_Bytes_eq (k : Nat) (p0 : Option Addr) (m : Mem) : fnX (patinaref01_Lent_Bytes_C k) Try.f26 [(Value.pointer p0)] m patinaref01_Lent_Bytes_dec = patinaref01_Lent_Bytes k p0 m := by kernel_rfl

theorem patinaref01_Lent_Bytes_ok {k : Nat} {p0 : Option Addr} {m : Mem} {r : (Sl × Mem)} (h : patinaref01_Lent_Bytes k p0 m = some r) : CallP Try.prog 26 [(Value.pointer p0)] m fun v m' => v = (Value.slice r.1.a r.1.len r.1.cap) ∧ m' = r.2 := by
  refine (fn_sound (C := patinaref01_Lent_Bytes_C k) (c := body Try.f26) tOk mixed (patinaref01_Lent_Bytes_callOk k) Try.func26 (by kernel_rfl) (by kernel_rfl) (by kernel_rfl) (by kernel_rfl) ?_ ?_ (Eq.trans (patinaref01_Lent_Bytes_eq k p0 m) h)).mono ?_
  · intro p hp; rw [show loopsOf 0 (body Try.f26) = [] by kernel_rfl] at hp; cases hp
  · intro p hp; rw [show rangesOf 0 (body Try.f26) = [] by kernel_rfl] at hp; cases hp
  · intro v m' hp
    unfold patinaref01_Lent_Bytes_dec at hp
    split at hp
    · simp only [Option.some.injEq] at hp; subst hp; exact ⟨rfl, rfl⟩
    · cases hp

def patinaref01_Lent_Bytes_arm {R : Type} (k : Nat) : Arm R := fun vs m K => match vs with
  | [.pointer p0] => (patinaref01_Lent_Bytes k p0 m).bind fun r => K (Value.slice r.1.a r.1.len r.1.cap) r.2
  | _ => none

theorem patinaref01_Lent_Bytes_armOk {R : Type} (k : Nat) : ArmOk Try.prog 26 (patinaref01_Lent_Bytes_arm (R := R) k) := by
  intro vs m K r h
  unfold patinaref01_Lent_Bytes_arm at h
  split at h
  · obtain ⟨r, h1, h2⟩ := Option.bind_eq_some_iff.1 h; exact ⟨_, _, h2, fun K' => by simp only [patinaref01_Lent_Bytes_arm, h1, Option.bind_some], patinaref01_Lent_Bytes_ok h1⟩
  · cases h

/-! ### patinaref01_Lent_Kept -/
def patinaref01_Lent_Kept (k : Nat) (p0 : Option Addr) (m : Mem) : Option (Bool × Mem) :=
  (p0).bind fun a1 =>
  (ldSl m (plus a1 0)).bind fun t2 =>
  (p0).bind fun a3 =>
  (ldSl m (plus a3 1)).bind fun t4 =>
  (patinaref01_Same k t2.a t2.len t2.cap t4.a t4.len t4.cap m).bind fun r5 =>
  some (r5.1, r5.2)

def patinaref01_Lent_Kept_call {R : Type} (k : Nat) : Fun R := callCons 9 (patinaref01_Same_arm k) (callNil)

theorem patinaref01_Lent_Kept_callOk {R : Type} (k : Nat) : CallOk Try.prog (patinaref01_Lent_Kept_call (R := R) k) := callOk_cons (patinaref01_Same_armOk k) (callOk_nil)

def patinaref01_Lent_Kept_loop (k : Nat) : Nat → List Value → Mem → (Nat → List Value → Mem → Option (Bool × Mem)) → Option (Bool × Mem) := fun _ _ _ _ => none

def patinaref01_Lent_Kept_C (k : Nat) : Ctx (Bool × Mem) := ⟨tt, patinaref01_Lent_Kept_call k, patinaref01_Lent_Kept_loop k, [], []⟩

def patinaref01_Lent_Kept_dec : Value → Mem → Option (Bool × Mem) := fun v m => match v with
  | .bool q0 => some (q0, m)
  | _ => none

theorem patinaref01_Lent_Kept_eq (k : Nat) (p0 : Option Addr) (m : Mem) : fnX (patinaref01_Lent_Kept_C k) Try.f27 [(Value.pointer p0)] m patinaref01_Lent_Kept_dec = patinaref01_Lent_Kept k p0 m := by kernel_rfl

theorem patinaref01_Lent_Kept_ok {k : Nat} {p0 : Option Addr} {m : Mem} {r : (Bool × Mem)} (h : patinaref01_Lent_Kept k p0 m = some r) : CallP Try.prog 27 [(Value.pointer p0)] m fun v m' => v = (Value.bool r.1) ∧ m' = r.2 := by
  refine (fn_sound (C := patinaref01_Lent_Kept_C k) (c := body Try.f27) tOk mixed (patinaref01_Lent_Kept_callOk k) Try.func27 (by kernel_rfl) (by kernel_rfl) (by kernel_rfl) (by kernel_rfl) ?_ ?_ (Eq.trans (patinaref01_Lent_Kept_eq k p0 m) h)).mono ?_
  · intro p hp; rw [show loopsOf 0 (body Try.f27) = [] by kernel_rfl] at hp; cases hp
  · intro p hp; rw [show rangesOf 0 (body Try.f27) = [] by kernel_rfl] at hp; cases hp
  · intro v m' hp
    unfold patinaref01_Lent_Kept_dec at hp
    split at hp
    · simp only [Option.some.injEq] at hp; subst hp; exact ⟨rfl, rfl⟩
    · cases hp

def patinaref01_Lent_Kept_arm {R : Type} (k : Nat) : Arm R := fun vs m K => match vs with
  | [.pointer p0] => (patinaref01_Lent_Kept k p0 m).bind fun r => K (Value.bool r.1) r.2
  | _ => none

theorem patinaref01_Lent_Kept_armOk {R : Type} (k : Nat) : ArmOk Try.prog 27 (patinaref01_Lent_Kept_arm (R := R) k) := by
  intro vs m K r h
  unfold patinaref01_Lent_Kept_arm at h
  split at h
  · obtain ⟨r, h1, h2⟩ := Option.bind_eq_some_iff.1 h; exact ⟨_, _, h2, fun K' => by simp only [patinaref01_Lent_Kept_arm, h1, Option.bind_some], patinaref01_Lent_Kept_ok h1⟩
  · cases h

/-! ### patinaref01_Lent_Turn -/
def patinaref01_Lent_Turn_l0_b (k : Nat) (nx : Option Addr → Int → Mem → Option Mem) (kx2 : Mem → Option Mem) (x0 : Option Addr) (x2 : Int) (m : Mem) : Option Mem :=
  (x0).bind fun a1 =>
  (ldSl m (plus a1 0)).bind fun t2 =>
  bif decide (x2 < ((t2.len : Nat) : Int)) then (
  (x0).bind fun a3 =>
  (ldSl m (plus a3 0)).bind fun t4 =>
  bif inRange x2 t4.len then (
  (t4.a).bind fun a5 =>
  (st m (plus a5 (Int.toNat x2 * 1)) (Value.int .u8 (IntKind.wrap .u8 (IntKind.wrap .i64 (90 + x2))))).bind fun m6 =>
  (x0).bind fun a7 =>
  (ldSl m6 (plus a7 1)).bind fun t8 =>
  (x0).bind fun a9 =>
  (ldSl m6 (plus a9 0)).bind fun t10 =>
  bif inRange x2 t10.len then (
  (t10.a).bind fun a11 =>
  (ldInt .u8 m6 (plus a11 (Int.toNat x2 * 1))).bind fun t12 =>
  bif inRange x2 t8.len then (
  (t8.a).bind fun a13 =>
  (st m6 (plus a13 (Int.toNat x2 * 1)) (Value.int .u8 t12)).bind fun m14 =>
  nx x0 (IntKind.wrap .i64 (x2 + 1)) m14) else none) else none) else none) else (
  kx2  m)

def patinaref01_Lent_Turn_l0 (k : Nat) (kx2 : Mem → Option Mem) : Nat → Option Addr → Int → Mem → Option Mem
  | 0, _, _, _ => none
  | n + 1, x0, x2, m => patinaref01_Lent_Turn_l0_b k (fun x0 x2 m => patinaref01_Lent_Turn_l0 k kx2 n x0 x2 m) kx2 x0 x2 m
termination_by structural x => x

theorem patinaref01_Lent_Turn_l0_rule (k : Nat) (kx2 : Mem → Option Mem) {P : Mem → Prop} (I : Nat → Option Addr → Int → Mem → Prop)
    (step : ∀ d (nx : Option Addr → Int → Mem → Option Mem) (x0 : Option Addr) (x2 : Int) (m : Mem), I d x0 x2 m → (∀ d' (x0 : Option Addr) (x2 : Int) (m : Mem), d' < d → I d' x0 x2 m → Ok (nx x0 x2 m) P) → Ok (patinaref01_Lent_Turn_l0_b k nx kx2 x0 x2 m) P) :
    ∀ n d (x0 : Option Addr) (x2 : Int) (m : Mem), d < n → I d x0 x2 m → Ok (patinaref01_Lent_Turn_l0 k kx2 n x0 x2 m) P
  | 0, d, x0, x2, m, h, _ => absurd h (Nat.not_lt_zero _)
  | n + 1, d, x0, x2, m, h, hI => step d _ x0 x2 m hI fun d' x0 x2 m h' hI' => patinaref01_Lent_Turn_l0_rule k kx2 I step n d' x0 x2 m (by omega) hI'

def patinaref01_Lent_Turn (k : Nat) (p0 : Option Addr) (m : Mem) : Option Mem :=
  patinaref01_Lent_Turn_l0 k (fun m15 => 
  some (m15)) k p0 0 m

def patinaref01_Lent_Turn_call {R : Type} (k : Nat) : Fun R := callNil

theorem patinaref01_Lent_Turn_callOk {R : Type} (k : Nat) : CallOk Try.prog (patinaref01_Lent_Turn_call (R := R) k) := callOk_nil

def patinaref01_Lent_Turn_l0_L (k : Nat) (K : Nat → List Value → Mem → Option Mem) (n : Nat) (vs : List Value) (m : Mem) : Option Mem := match vs with
  | [.pointer x0, .int .i64 x2] => patinaref01_Lent_Turn_l0 k (fun m => K 2 [] m) n x0 x2 m
  | _ => none

def patinaref01_Lent_Turn_loop (k : Nat) : Nat → List Value → Mem → (Nat → List Value → Mem → Option Mem) → Option Mem := fun cur vs m K => match cur with
  | 0 => patinaref01_Lent_Turn_l0_L k K k vs m
  | _ => none

def patinaref01_Lent_Turn_C (k : Nat) : Ctx Mem := ⟨tt, patinaref01_Lent_Turn_call k, patinaref01_Lent_Turn_loop k, [(0, [0, 2])], [(2, [])]⟩

noncomputable def patinaref01_Lent_Turn_l0_c : Code := ((loopsOf 0 (body Try.f28)).map (·.2)).getD 0 .skip

theorem patinaref01_Lent_Turn_loops : loopsOf 0 (body Try.f28) = [(0, patinaref01_Lent_Turn_l0_c)] := by kernel_rfl

theorem patinaref01_Lent_Turn_l0_ok (k : Nat) : LoopOk (patinaref01_Lent_Turn_C k) 0 patinaref01_Lent_Turn_l0_c := by
  refine ⟨[0, 2], by kernel_rfl, fun K r => ⟨patinaref01_Lent_Turn_l0_L k K, fun vs m h => ⟨k, h⟩, ?_⟩⟩
  intro n vs m h
  unfold patinaref01_Lent_Turn_l0_L at h
  split at h
  · cases n with
    | zero => cases h
    | succ n => exact ⟨n, rfl, Eq.trans (by kernel_rfl) h⟩
  · cases h

def patinaref01_Lent_Turn_dec : Value → Mem → Option Mem := fun v m => match v with
  | .tuple ⟨[]⟩ => some (m)
  | _ => none

theorem patinaref01_Lent_Turn_eq (k : Nat) (p0 : Option Addr) (m : Mem) : fnX (patinaref01_Lent_Turn_C k) Try.f28 [(Value.pointer p0)] m patinaref01_Lent_Turn_dec = patinaref01_Lent_Turn k p0 m := by kernel_rfl

theorem patinaref01_Lent_Turn_ok {k : Nat} {p0 : Option Addr} {m : Mem} {r : Mem} (h : patinaref01_Lent_Turn k p0 m = some r) : CallP Try.prog 28 [(Value.pointer p0)] m fun v m' => v = (Value.tuple ⟨[]⟩) ∧ m' = r := by
  refine (fn_sound (C := patinaref01_Lent_Turn_C k) (c := body Try.f28) tOk mixed (patinaref01_Lent_Turn_callOk k) Try.func28 (by kernel_rfl) (by kernel_rfl) (by kernel_rfl) (by kernel_rfl) ?_ ?_ (Eq.trans (patinaref01_Lent_Turn_eq k p0 m) h)).mono ?_
  · intro p hp
    rw [patinaref01_Lent_Turn_loops] at hp
    simp only [List.mem_cons, List.not_mem_nil, or_false] at hp
    rcases hp with rfl
    · exact patinaref01_Lent_Turn_l0_ok k
  · intro p hp; rw [show rangesOf 0 (body Try.f28) = [] by kernel_rfl] at hp; cases hp
  · intro v m' hp
    unfold patinaref01_Lent_Turn_dec at hp
    split at hp
    · simp only [Option.some.injEq] at hp; subst hp; exact ⟨rfl, rfl⟩
    · cases hp

def patinaref01_Lent_Turn_arm {R : Type} (k : Nat) : Arm R := fun vs m K => match vs with
  | [.pointer p0] => (patinaref01_Lent_Turn k p0 m).bind fun r => K (Value.tuple ⟨[]⟩) r
  | _ => none

theorem patinaref01_Lent_Turn_armOk {R : Type} (k : Nat) : ArmOk Try.prog 28 (patinaref01_Lent_Turn_arm (R := R) k) := by
  intro vs m K r h
  unfold patinaref01_Lent_Turn_arm at h
  split at h
  · obtain ⟨r, h1, h2⟩ := Option.bind_eq_some_iff.1 h; exact ⟨_, _, h2, fun K' => by simp only [patinaref01_Lent_Turn_arm, h1, Option.bind_some], patinaref01_Lent_Turn_ok h1⟩
  · cases h

/-! ### patinaref01_Apart -/
def patinaref01_Apart_l2_b (k : Nat) (nx : Option Addr → Nat → Nat → Option Addr → Nat → Nat → Int → Int → Mem → Option (Bool × Mem)) (kx4 : Option Addr → Nat → Nat → Option Addr → Nat → Nat → Int → Mem → Option (Bool × Mem)) (x0a : Option Addr) (x0n : Nat) (x0c : Nat) (x3a : Option Addr) (x3n : Nat) (x3c : Nat) (x4 : Int) (x5 : Int) (m : Mem) : Option (Bool × Mem) :=
  bif inRange x4 x0n then (
  (x0a).bind fun a1 =>
  (ldSl m (plus a1 (Int.toNat x4 * 1))).bind fun t2 =>
  bif decide (x5 < ((t2.len : Nat) : Int)) then (
  bif inRange x4 x0n then (
  (x0a).bind fun a3 =>
  (ldSl m (plus a3 (Int.toNat x4 * 1))).bind fun t4 =>
  bif inRange x5 t4.len then (
  (t4.a).bind fun a5 =>
  (st m (plus a5 (Int.toNat x5 * 1)) (Value.int .u8 (IntKind.wrap .u8 (IntKind.wrap .i64 ((IntKind.wrap .i64 (37 * x4)) + x5))))).bind fun m6 =>
  nx x0a x0n x0c x3a x3n x3c x4 (IntKind.wrap .i64 (x5 + 1)) m6) else none) else none) else (
  kx4 x0a x0n x0c x3a x3n x3c x4 m)) else none

def patinaref01_Apart_l2 (k : Nat) (kx4 : Option Addr → Nat → Nat → Option Addr → Nat → Nat → Int → Mem → Option (Bool × Mem)) : Nat → Option Addr → Nat → Nat → Option Addr → Nat → Nat → Int → Int → Mem → Option (Bool × Mem)
  | 0, _, _, _, _, _, _, _, _, _ => none
  | n + 1, x0a, x0n, x0c, x3a, x3n, x3c, x4, x5, m => patinaref01_Apart_l2_b k (fun x0a x0n x0c x3a x3n x3c x4 x5 m => patinaref01_Apart_l2 k kx4 n x0a x0n x0c x3a x3n x3c x4 x5 m) kx4 x0a x0n x0c x3a x3n x3c x4 x5 m
termination_by structural x => x

theorem patinaref01_Apart_l2_rule (k : Nat) (kx4 : Option Addr → Nat → Nat → Option Addr → Nat → Nat → Int → Mem → Option (Bool × Mem)) {P : (Bool × Mem) → Prop} (I : Nat → Option Addr → Nat → Nat → Option Addr → Nat → Nat → Int → Int → Mem → Prop)
    (step : ∀ d (nx : Option Addr → Nat → Nat → Option Addr → Nat → Nat → Int → Int → Mem → Option (Bool × Mem)) (x0a : Option Addr) (x0n : Nat) (x0c : Nat) (x3a : Option Addr) (x3n : Nat) (x3c : Nat) (x4 : Int) (x5 : Int) (m : Mem), I d x0a x0n x0c x3a x3n x3c x4 x5 m → (∀ d' (x0a : Option Addr) (x0n : Nat) (x0c : Nat) (x3a : Option Addr) (x3n : Nat) (x3c : Nat) (x4 : Int) (x5 : Int) (m : Mem), d' < d → I d' x0a x0n x0c x3a x3n x3c x4 x5 m → Ok (nx x0a x0n x0c x3a x3n x3c x4 x5 m) P) → Ok (patinaref01_Apart_l2_b k nx kx4 x0a x0n x0c x3a x3n x3c x4 x5 m) P) :
    ∀ n d (x0a : Option Addr) (x0n : Nat) (x0c : Nat) (x3a : Option Addr) (x3n : Nat) (x3c : Nat) (x4 : Int) (x5 : Int) (m : Mem), d < n → I d x0a x0n x0c x3a x3n x3c x4 x5 m → Ok (patinaref01_Apart_l2 k kx4 n x0a x0n x0c x3a x3n x3c x4 x5 m) P
  | 0, d, x0a, x0n, x0c, x3a, x3n, x3c, x4, x5, m, h, _ => absurd h (Nat.not_lt_zero _)
  | n + 1, d, x0a, x0n, x0c, x3a, x3n, x3c, x4, x5, m, h, hI => step d _ x0a x0n x0c x3a x3n x3c x4 x5 m hI fun d' x0a x0n x0c x3a x3n x3c x4 x5 m h' hI' => patinaref01_Apart_l2_rule k kx4 I step n d' x0a x0n x0c x3a x3n x3c x4 x5 m (by omega) hI'

def patinaref01_Apart_l4_b (k : Nat) (nx : Option Addr → Nat → Nat → Option Addr → Nat → Nat → Int → Option Addr → Nat → Nat → Int → Mem → Option (Bool × Mem)) (kx6 : Option Addr → Nat → Nat → Option Addr → Nat → Nat → Int → Option Addr → Nat → Nat → Mem → Option (Bool × Mem)) (x0a : Option Addr) (x0n : Nat) (x0c : Nat) (x3a : Option Addr) (x3n : Nat) (x3c : Nat) (x4 : Int) (x6a : Option Addr) (x6n : Nat) (x6c : Nat) (x7 : Int) (m : Mem) : Option (Bool × Mem) :=
  bif decide (x7 < 7) then (
  let m10 : Mem := m ++ [.live [(Value.int .u8 (IntKind.wrap .u8 (IntKind.wrap .i64 ((IntKind.wrap .i64 (100 + (IntKind.wrap .i64 (37 * x4)))) + x7))))]]
  (rdSl m10 (some ⟨List.length m, 0, Option.none⟩) 1 1).bind fun l11 =>
  (appM 1 1 m10 x6a x6n x6c 1 l11).bind fun r12 =>
  nx x0a x0n x0c x3a x3n x3c x4 r12.1.a r12.1.len r12.1.cap (IntKind.wrap .i64 (x7 + 1)) r12.2) else (
  kx6 x0a x0n x0c x3a x3n x3c x4 x6a x6n x6c m)

def patinaref01_Apart_l4 (k : Nat) (kx6 : Option Addr → Nat → Nat → Option Addr → Nat → Nat → Int → Option Addr → Nat → Nat → Mem → Option (Bool × Mem)) : Nat → Option Addr → Nat → Nat → Option Addr → Nat → Nat → Int → Option Addr → Nat → Nat → Int → Mem → Option (Bool × Mem)
  | 0, _, _, _, _, _, _, _, _, _, _, _, _ => none
  | n + 1, x0a, x0n, x0c, x3a, x3n, x3c, x4, x6a, x6n, x6c, x7, m => patinaref01_Apart_l4_b k (fun x0a x0n x0c x3a x3n x3c x4 x6a x6n x6c x7 m => patinaref01_Apart_l4 k kx6 n x0a x0n x0c x3a x3n x3c x4 x6a x6n x6c x7 m) kx6 x0a x0n x0c x3a x3n x3c x4 x6a x6n x6c x7 m
termination_by structural x => x

theorem patinaref01_Apart_l4_rule (k : Nat) (kx6 : Option Addr → Nat → Nat → Option Addr → Nat → Nat → Int → Option Addr → Nat → Nat → Mem → Option (Bool × Mem)) {P : (Bool × Mem) → Prop} (I : Nat → Option Addr → Nat → Nat → Option Addr → Nat → Nat → Int → Option Addr → Nat → Nat → Int → Mem → Prop)
    (step : ∀ d (nx : Option Addr → Nat → Nat → Option Addr → Nat → Nat → Int → Option Addr → Nat → Nat → Int → Mem → Option (Bool × Mem)) (x0a : Option Addr) (x0n : Nat) (x0c : Nat) (x3a : Option Addr) (x3n : Nat) (x3c : Nat) (x4 : Int) (x6a : Option Addr) (x6n : Nat) (x6c : Nat) (x7 : Int) (m : Mem), I d x0a x0n x0c x3a x3n x3c x4 x6a x6n x6c x7 m → (∀ d' (x0a : Option Addr) (x0n : Nat) (x0c : Nat) (x3a : Option Addr) (x3n : Nat) (x3c : Nat) (x4 : Int) (x6a : Option Addr) (x6n : Nat) (x6c : Nat) (x7 : Int) (m : Mem), d' < d → I d' x0a x0n x0c x3a x3n x3c x4 x6a x6n x6c x7 m → Ok (nx x0a x0n x0c x3a x3n x3c x4 x6a x6n x6c x7 m) P) → Ok (patinaref01_Apart_l4_b k nx kx6 x0a x0n x0c x3a x3n x3c x4 x6a x6n x6c x7 m) P) :
    ∀ n d (x0a : Option Addr) (x0n : Nat) (x0c : Nat) (x3a : Option Addr) (x3n : Nat) (x3c : Nat) (x4 : Int) (x6a : Option Addr) (x6n : Nat) (x6c : Nat) (x7 : Int) (m : Mem), d < n → I d x0a x0n x0c x3a x3n x3c x4 x6a x6n x6c x7 m → Ok (patinaref01_Apart_l4 k kx6 n x0a x0n x0c x3a x3n x3c x4 x6a x6n x6c x7 m) P
  | 0, d, x0a, x0n, x0c, x3a, x3n, x3c, x4, x6a, x6n, x6c, x7, m, h, _ => absurd h (Nat.not_lt_zero _)
  | n + 1, d, x0a, x0n, x0c, x3a, x3n, x3c, x4, x6a, x6n, x6c, x7, m, h, hI => step d _ x0a x0n x0c x3a x3n x3c x4 x6a x6n x6c x7 m hI fun d' x0a x0n x0c x3a x3n x3c x4 x6a x6n x6c x7 m h' hI' => patinaref01_Apart_l4_rule k kx6 I step n d' x0a x0n x0c x3a x3n x3c x4 x6a x6n x6c x7 m (by omega) hI'

def patinaref01_Apart_l0_b (k : Nat) (nx : Option Addr → Nat → Nat → Option Addr → Nat → Nat → Int → Mem → Option (Bool × Mem)) (kx2 : Option Addr → Nat → Nat → Option Addr → Nat → Nat → Mem → Option (Bool × Mem)) (x0a : Option Addr) (x0n : Nat) (x0c : Nat) (x3a : Option Addr) (x3n : Nat) (x3c : Nat) (x4 : Int) (m : Mem) : Option (Bool × Mem) :=
  bif decide (x4 < ((x0n : Nat) : Int)) then (
  patinaref01_Apart_l2 k (fun y0a y0n y0c y3a y3n y3c y4 m7 => 
  bif inRange y4 y0n then (
  (y0a).bind fun a8 =>
  (ldSl m7 (plus a8 (Int.toNat y4 * 1))).bind fun t9 =>
  patinaref01_Apart_l4 k (fun y0a y0n y0c y3a y3n y3c y4 y6a y6n y6c m13 => 
  let m14 : Mem := m13 ++ [.live [(Value.slice y6a y6n y6c)]]
  (rdSl m14 (some ⟨List.length m13, 0, Option.none⟩) 1 1).bind fun l15 =>
  (appM 1 24 m14 y3a y3n y3c 1 l15).bind fun r16 =>
  nx y0a y0n y0c r16.1.a r16.1.len r16.1.cap (IntKind.wrap .i64 (y4 + 1)) r16.2) k y0a y0n y0c y3a y3n y3c y4 t9.a t9.len t9.cap 0 m7) else none) k x0a x0n x0c x3a x3n x3c x4 0 m) else (
  kx2 x0a x0n x0c x3a x3n x3c m)

def patinaref01_Apart_l0 (k : Nat) (kx2 : Option Addr → Nat → Nat → Option Addr → Nat → Nat → Mem → Option (Bool × Mem)) : Nat → Option Addr → Nat → Nat → Option Addr → Nat → Nat → Int → Mem → Option (Bool × Mem)
  | 0, _, _, _, _, _, _, _, _ => none
  | n + 1, x0a, x0n, x0c, x3a, x3n, x3c, x4, m => patinaref01_Apart_l0_b k (fun x0a x0n x0c x3a x3n x3c x4 m => patinaref01_Apart_l0 k kx2 n x0a x0n x0c x3a x3n x3c x4 m) kx2 x0a x0n x0c x3a x3n x3c x4 m
termination_by structural x => x

theorem patinaref01_Apart_l0_rule (k : Nat) (kx2 : Option Addr → Nat → Nat → Option Addr → Nat → Nat → Mem → Option (Bool × Mem)) {P : (Bool × Mem) → Prop} (I : Nat → Option Addr → Nat → Nat → Option Addr → Nat → Nat → Int → Mem → Prop)
    (step : ∀ d (nx : Option Addr → Nat → Nat → Option Addr → Nat → Nat → Int → Mem → Option (Bool × Mem)) (x0a : Option Addr) (x0n : Nat) (x0c : Nat) (x3a : Option Addr) (x3n : Nat) (x3c : Nat) (x4 : Int) (m : Mem), I d x0a x0n x0c x3a x3n x3c x4 m → (∀ d' (x0a : Option Addr) (x0n : Nat) (x0c : Nat) (x3a : Option Addr) (x3n : Nat) (x3c : Nat) (x4 : Int) (m : Mem), d' < d → I d' x0a x0n x0c x3a x3n x3c x4 m → Ok (nx x0a x0n x0c x3a x3n x3c x4 m) P) → Ok (patinaref01_Apart_l0_b k nx kx2 x0a x0n x0c x3a x3n x3c x4 m) P) :
    ∀ n d (x0a : Option Addr) (x0n : Nat) (x0c : Nat) (x3a : Option Addr) (x3n : Nat) (x3c : Nat) (x4 : Int) (m : Mem), d < n → I d x0a x0n x0c x3a x3n x3c x4 m → Ok (patinaref01_Apart_l0 k kx2 n x0a x0n x0c x3a x3n x3c x4 m) P
  | 0, d, x0a, x0n, x0c, x3a, x3n, x3c, x4, m, h, _ => absurd h (Nat.not_lt_zero _)
  | n + 1, d, x0a, x0n, x0c, x3a, x3n, x3c, x4, m, h, hI => step d _ x0a x0n x0c x3a x3n x3c x4 m hI fun d' x0a x0n x0c x3a x3n x3c x4 m h' hI' => patinaref01_Apart_l0_rule k kx2 I step n d' x0a x0n x0c x3a x3n x3c x4 m (by omega) hI'

def patinaref01_Apart_l8_b (k : Nat) (nx : Option Addr → Nat → Nat → Option Addr → Nat → Nat → Int → Int → Int → Mem → Option (Bool × Mem)) (kx0 : Bool → Mem → Option (Bool × Mem)) (kx10 : Option Addr → Nat → Nat → Option Addr → Nat → Nat → Int → Int → Mem → Option (Bool × Mem)) (x0a : Option Addr) (x0n : Nat) (x0c : Nat) (x3a : Option Addr) (x3n : Nat) (x3c : Nat) (x8 : Int) (x9 : Int) (x10 : Int) (m : Mem) : Option (Bool × Mem) :=
  bif decide (x10 < x9) then (
  bif inRange x8 x0n then (
  (x0a).bind fun a20 =>
  (ldSl m (plus a20 (Int.toNat x8 * 1))).bind fun t21 =>
  bif inRange x10 t21.len then (
  (t21.a).bind fun a22 =>
  (ldInt .u8 m (plus a22 (Int.toNat x10 * 1))).bind fun t23 =>
  bif t23 != (IntKind.wrap .u8 (IntKind.wrap .i64 ((IntKind.wrap .i64 (37 * x8)) + x10))) then (
  kx0 false m) else (
  bif inRange x8 x3n then (
  (x3a).bind fun a24 =>
  (ldSl m (plus a24 (Int.toNat x8 * 1))).bind fun t25 =>
  bif inRange x10 t25.len then (
  (t25.a).bind fun a26 =>
  (ldInt .u8 m (plus a26 (Int.toNat x10 * 1))).bind fun t27 =>
  bif t27 != (IntKind.wrap .u8 (IntKind.wrap .i64 ((IntKind.wrap .i64 (37 * x8)) + x10))) then (
  kx0 false m) else (
  nx x0a x0n x0c x3a x3n x3c x8 x9 (IntKind.wrap .i64 (x10 + 1)) m)) else none) else none)) else none) else none) else (
  kx10 x0a x0n x0c x3a x3n x3c x8 x9 m)

def patinaref01_Apart_l8 (k : Nat) (kx0 : Bool → Mem → Option (Bool × Mem)) (kx10 : Option Addr → Nat → Nat → Option Addr → Nat → Nat → Int → Int → Mem → Option (Bool × Mem)) : Nat → Option Addr → Nat → Nat → Option Addr → Nat → Nat → Int → Int → Int → Mem → Option (Bool × Mem)
  | 0, _, _, _, _, _, _, _, _, _, _ => none
  | n + 1, x0a, x0n, x0c, x3a, x3n, x3c, x8, x9, x10, m => patinaref01_Apart_l8_b k (fun x0a x0n x0c x3a x3n x3c x8 x9 x10 m => patinaref01_Apart_l8 k kx0 kx10 n x0a x0n x0c x3a x3n x3c x8 x9 x10 m) kx0 kx10 x0a x0n x0c x3a x3n x3c x8 x9 x10 m
termination_by structural x => x

theorem patinaref01_Apart_l8_rule (k : Nat) (kx0 : Bool → Mem → Option (Bool × Mem)) (kx10 : Option Addr → Nat → Nat → Option Addr → Nat → Nat → Int → Int → Mem → Option (Bool × Mem)) {P : (Bool × Mem) → Prop} (I : Nat → Option Addr → Nat → Nat → Option Addr → Nat → Nat → Int → Int → Int → Mem → Prop)
    (step : ∀ d (nx : Option Addr → Nat → Nat → Option Addr → Nat → Nat → Int → Int → Int → Mem → Option (Bool × Mem)) (x0a : Option Addr) (x0n : Nat) (x0c : Nat) (x3a : Option Addr) (x3n : Nat) (x3c : Nat) (x8 : Int) (x9 : Int) (x10 : Int) (m : Mem), I d x0a x0n x0c x3a x3n x3c x8 x9 x10 m → (∀ d' (x0a : Option Addr) (x0n : Nat) (x0c : Nat) (x3a : Option Addr) (x3n : Nat) (x3c : Nat) (x8 : Int) (x9 : Int) (x10 : Int) (m : Mem), d' < d → I d' x0a x0n x0c x3a x3n x3c x8 x9 x10 m → Ok (nx x0a x0n x0c x3a x3n x3c x8 x9 x10 m) P) → Ok (patinaref01_Apart_l8_b k nx kx0 kx10 x0a x0n x0c x3a x3n x3c x8 x9 x10 m) P) :
    ∀ n d (x0a : Option Addr) (x0n : Nat) (x0c : Nat) (x3a : Option Addr) (x3n : Nat) (x3c : Nat) (x8 : Int) (x9 : Int) (x10 : Int) (m : Mem), d < n → I d x0a x0n x0c x3a x3n x3c x8 x9 x10 m → Ok (patinaref01_Apart_l8 k kx0 kx10 n x0a x0n x0c x3a x3n x3c x8 x9 x10 m) P
  | 0, d, x0a, x0n, x0c, x3a, x3n, x3c, x8, x9, x10, m, h, _ => absurd h (Nat.not_lt_zero _)
  | n + 1, d, x0a, x0n, x0c, x3a, x3n, x3c, x8, x9, x10, m, h, hI => step d _ x0a x0n x0c x3a x3n x3c x8 x9 x10 m hI fun d' x0a x0n x0c x3a x3n x3c x8 x9 x10 m h' hI' => patinaref01_Apart_l8_rule k kx0 kx10 I step n d' x0a x0n x0c x3a x3n x3c x8 x9 x10 m (by omega) hI'

def patinaref01_Apart_l10_b (k : Nat) (nx : Option Addr → Nat → Nat → Option Addr → Nat → Nat → Int → Int → Int → Mem → Option (Bool × Mem)) (kx0 : Bool → Mem → Option (Bool × Mem)) (kx12 : Option Addr → Nat → Nat → Option Addr → Nat → Nat → Int → Mem → Option (Bool × Mem)) (x0a : Option Addr) (x0n : Nat) (x0c : Nat) (x3a : Option Addr) (x3n : Nat) (x3c : Nat) (x8 : Int) (x9 : Int) (x11 : Int) (m : Mem) : Option (Bool × Mem) :=
  bif decide (x11 < 7) then (
  bif inRange x8 x3n then (
  (x3a).bind fun a30 =>
  (ldSl m (plus a30 (Int.toNat x8 * 1))).bind fun t31 =>
  bif inRange (IntKind.wrap .i64 (x9 + x11)) t31.len then (
  (t31.a).bind fun a32 =>
  (ldInt .u8 m (plus a32 (Int.toNat (IntKind.wrap .i64 (x9 + x11)) * 1))).bind fun t33 =>
  bif t33 != (IntKind.wrap .u8 (IntKind.wrap .i64 ((IntKind.wrap .i64 (100 + (IntKind.wrap .i64 (37 * x8)))) + x11))) then (
  kx0 false m) else (
  nx x0a x0n x0c x3a x3n x3c x8 x9 (IntKind.wrap .i64 (x11 + 1)) m)) else none) else none) else (
  kx12 x0a x0n x0c x3a x3n x3c x8 m)

def patinaref01_Apart_l10 (k : Nat) (kx0 : Bool → Mem → Option (Bool × Mem)) (kx12 : Option Addr → Nat → Nat → Option Addr → Nat → Nat → Int → Mem → Option (Bool × Mem)) : Nat → Option Addr → Nat → Nat → Option Addr → Nat → Nat → Int → Int → Int → Mem → Option (Bool × Mem)
  | 0, _, _, _, _, _, _, _, _, _, _ => none
  | n + 1, x0a, x0n, x0c, x3a, x3n, x3c, x8, x9, x11, m => patinaref01_Apart_l10_b k (fun x0a x0n x0c x3a x3n x3c x8 x9 x11 m => patinaref01_Apart_l10 k kx0 kx12 n x0a x0n x0c x3a x3n x3c x8 x9 x11 m) kx0 kx12 x0a x0n x0c x3a x3n x3c x8 x9 x11 m
termination_by structural x => x

theorem patinaref01_Apart_l10_rule (k : Nat) (kx0 : Bool → Mem → Option (Bool × Mem)) (kx12 : Option Addr → Nat → Nat → Option Addr → Nat → Nat → Int → Mem → Option (Bool × Mem)) {P : (Bool × Mem) → Prop} (I : Nat → Option Addr → Nat → Nat → Option Addr → Nat → Nat → Int → Int → Int → Mem → Prop)
    (step : ∀ d (nx : Option Addr → Nat → Nat → Option Addr → Nat → Nat → Int → Int → Int → Mem → Option (Bool × Mem)) (x0a : Option Addr) (x0n : Nat) (x0c : Nat) (x3a : Option Addr) (x3n : Nat) (x3c : Nat) (x8 : Int) (x9 : Int) (x11 : Int) (m : Mem), I d x0a x0n x0c x3a x3n x3c x8 x9 x11 m → (∀ d' (x0a : Option Addr) (x0n : Nat) (x0c : Nat) (x3a : Option Addr) (x3n : Nat) (x3c : Nat) (x8 : Int) (x9 : Int) (x11 : Int) (m : Mem), d' < d → I d' x0a x0n x0c x3a x3n x3c x8 x9 x11 m → Ok (nx x0a x0n x0c x3a x3n x3c x8 x9 x11 m) P) → Ok (patinaref01_Apart_l10_b k nx kx0 kx12 x0a x0n x0c x3a x3n x3c x8 x9 x11 m) P) :
    ∀ n d (x0a : Option Addr) (x0n : Nat) (x0c : Nat) (x3a : Option Addr) (x3n : Nat) (x3c : Nat) (x8 : Int) (x9 : Int) (x11 : Int) (m : Mem), d < n → I d x0a x0n x0c x3a x3n x3c x8 x9 x11 m → Ok (patinaref01_Apart_l10 k kx0 kx12 n x0a x0n x0c x3a x3n x3c x8 x9 x11 m) P
  | 0, d, x0a, x0n, x0c, x3a, x3n, x3c, x8, x9, x11, m, h, _ => absurd h (Nat.not_lt_zero _)
  | n + 1, d, x0a, x0n, x0c, x3a, x3n, x3c, x8, x9, x11, m, h, hI => step d _ x0a x0n x0c x3a x3n x3c x8 x9 x11 m hI fun d' x0a x0n x0c x3a x3n x3c x8 x9 x11 m h' hI' => patinaref01_Apart_l10_rule k kx0 kx12 I step n d' x0a x0n x0c x3a x3n x3c x8 x9 x11 m (by omega) hI'

def patinaref01_Apart_l6_b (k : Nat) (nx : Option Addr → Nat → Nat → Option Addr → Nat → Nat → Int → Mem → Option (Bool × Mem)) (kx0 : Bool → Mem → Option (Bool × Mem)) (kx8 : Mem → Option (Bool × Mem)) (x0a : Option Addr) (x0n : Nat) (x0c : Nat) (x3a : Option Addr) (x3n : Nat) (x3c : Nat) (x8 : Int) (m : Mem) : Option (Bool × Mem) :=
  bif decide (x8 < ((x0n : Nat) : Int)) then (
  bif inRange x8 x0n then (
  (x0a).bind fun a18 =>
  (ldSl m (plus a18 (Int.toNat x8 * 1))).bind fun t19 =>
  patinaref01_Apart_l8 k (fun y2 m28 => 
  kx0 y2 m28) (fun y0a y0n y0c y3a y3n y3c y8 y9 m29 => 
  patinaref01_Apart_l10 k (fun y2 m34 => 
  kx0 y2 m34) (fun y0a y0n y0c y3a y3n y3c y8 m35 => 
  nx y0a y0n y0c y3a y3n y3c (IntKind.wrap .i64 (y8 + 1)) m35) k y0a y0n y0c y3a y3n y3c y8 y9 0 m29) k x0a x0n x0c x3a x3n x3c x8 ((t19.len : Nat) : Int) 0 m) else none) else (
  kx8  m)

def patinaref01_Apart_l6 (k : Nat) (kx0 : Bool → Mem → Option (Bool × Mem)) (kx8 : Mem → Option (Bool × Mem)) : Nat → Option Addr → Nat → Nat → Option Addr → Nat → Nat → Int → Mem → Option (Bool × Mem)
  | 0, _, _, _, _, _, _, _, _ => none
  | n + 1, x0a, x0n, x0c, x3a, x3n, x3c, x8, m => patinaref01_Apart_l6_b k (fun x0a x0n x0c x3a x3n x3c x8 m => patinaref01_Apart_l6 k kx0 kx8 n x0a x0n x0c x3a x3n x3c x8 m) kx0 kx8 x0a x0n x0c x3a x3n x3c x8 m
termination_by structural x => x

theorem patinaref01_Apart_l6_rule (k : Nat) (kx0 : Bool → Mem → Option (Bool × Mem)) (kx8 : Mem → Option (Bool × Mem)) {P : (Bool × Mem) → Prop} (I : Nat → Option Addr → Nat → Nat → Option Addr → Nat → Nat → Int → Mem → Prop)
    (step : ∀ d (nx : Option Addr → Nat → Nat → Option Addr → Nat → Nat → Int → Mem → Option (Bool × Mem)) (x0a : Option Addr) (x0n : Nat) (x0c : Nat) (x3a : Option Addr) (x3n : Nat) (x3c : Nat) (x8 : Int) (m : Mem), I d x0a x0n x0c x3a x3n x3c x8 m → (∀ d' (x0a : Option Addr) (x0n : Nat) (x0c : Nat) (x3a : Option Addr) (x3n : Nat) (x3c : Nat) (x8 : Int) (m : Mem), d' < d → I d' x0a x0n x0c x3a x3n x3c x8 m → Ok (nx x0a x0n x0c x3a x3n x3c x8 m) P) → Ok (patinaref01_Apart_l6_b k nx kx0 kx8 x0a x0n x0c x3a x3n x3c x8 m) P) :
    ∀ n d (x0a : Option Addr) (x0n : Nat) (x0c : Nat) (x3a : Option Addr) (x3n : Nat) (x3c : Nat) (x8 : Int) (m : Mem), d < n → I d x0a x0n x0c x3a x3n x3c x8 m → Ok (patinaref01_Apart_l6 k kx0 kx8 n x0a x0n x0c x3a x3n x3c x8 m) P
  | 0, d, x0a, x0n, x0c, x3a, x3n, x3c, x8, m, h, _ => absurd h (Nat.not_lt_zero _)
  | n + 1, d, x0a, x0n, x0c, x3a, x3n, x3c, x8, m, h, hI => step d _ x0a x0n x0c x3a x3n x3c x8 m hI fun d' x0a x0n x0c x3a x3n x3c x8 m h' hI' => patinaref01_Apart_l6_rule k kx0 kx8 I step n d' x0a x0n x0c x3a x3n x3c x8 m (by omega) hI'

def patinaref01_Apart (k : Nat) (p0a : Option Addr) (p0n : Nat) (p0c : Nat) (m : Mem) : Option (Bool × Mem) :=
  patinaref01_Apart_l0 k (fun y0a y0n y0c y3a y3n y3c m17 => 
  patinaref01_Apart_l6 k (fun y2 m36 => 
  some (y2, m36)) (fun m37 => 
  some (true, m37)) k y0a y0n y0c y3a y3n y3c 0 m17) k p0a p0n p0c none 0 0 0 m

def patinaref01_Apart_call {R : Type} (k : Nat) : Fun R := callNil

theorem patinaref01_Apart_callOk {R : Type} (k : Nat) : CallOk Try.prog (patinaref01_Apart_call (R := R) k) := callOk_nil

def patinaref01_Apart_l0_L (k : Nat) (K : Nat → List Value → Mem → Option (Bool × Mem)) (n : Nat) (vs : List Value) (m : Mem) : Option (Bool × Mem) := match vs with
  | [.slice x0a x0n x0c, .slice x3a x3n x3c, .int .i64 x4] => patinaref01_Apart_l0 k (fun y0a y0n y0c y3a y3n y3c m => K 2 [(Value.slice y0a y0n y0c), (Value.slice y3a y3n y3c)] m) n x0a x0n x0c x3a x3n x3c x4 m
  | _ => none

def patinaref01_Apart_l2_L (k : Nat) (K : Nat → List Value → Mem → Option (Bool × Mem)) (n : Nat) (vs : List Value) (m : Mem) : Option (Bool × Mem) := match vs with
  | [.slice x0a x0n x0c, .slice x3a x3n x3c, .int .i64 x4, .int .i64 x5] => patinaref01_Apart_l2 k (fun y0a y0n y0c y3a y3n y3c y4 m => K 4 [(Value.slice y0a y0n y0c), (Value.slice y3a y3n y3c), (Value.int .i64 y4)] m) n x0a x0n x0c x3a x3n x3c x4 x5 m
  | _ => none

def patinaref01_Apart_l4_L (k : Nat) (K : Nat → List Value → Mem → Option (Bool × Mem)) (n : Nat) (vs : List Value) (m : Mem) : Option (Bool × Mem) := match vs with
  | [.slice x0a x0n x0c, .slice x3a x3n x3c, .int .i64 x4, .slice x6a x6n x6c, .int .i64 x7] => patinaref01_Apart_l4 k (fun y0a y0n y0c y3a y3n y3c y4 y6a y6n y6c m => K 6 [(Value.slice y0a y0n y0c), (Value.slice y3a y3n y3c), (Value.int .i64 y4), (Value.slice y6a y6n y6c)] m) n x0a x0n x0c x3a x3n x3c x4 x6a x6n x6c x7 m
  | _ => none

def patinaref01_Apart_l6_L (k : Nat) (K : Nat → List Value → Mem → Option (Bool × Mem)) (n : Nat) (vs : List Value) (m : Mem) : Option (Bool × Mem) := match vs with
  | [.slice x0a x0n x0c, .slice x3a x3n x3c, .int .i64 x8] => patinaref01_Apart_l6 k (fun y2 m => K 0 [(Value.bool y2)] m) (fun m => K 8 [] m) n x0a x0n x0c x3a x3n x3c x8 m
  | _ => none

def patinaref01_Apart_l8_L (k : Nat) (K : Nat → List Value → Mem → Option (Bool × Mem)) (n : Nat) (vs : List Value) (m : Mem) : Option (Bool × Mem) := match vs with
  | [.slice x0a x0n x0c, .slice x3a x3n x3c, .int .i64 x8, .int .i64 x9, .int .i64 x10] => patinaref01_Apart_l8 k (fun y2 m => K 0 [(Value.bool y2)] m) (fun y0a y0n y0c y3a y3n y3c y8 y9 m => K 10 [(Value.slice y0a y0n y0c), (Value.slice y3a y3n y3c), (Value.int .i64 y8), (Value.int .i64 y9)] m) n x0a x0n x0c x3a x3n x3c x8 x9 x10 m
  | _ => none

def patinaref01_Apart_l10_L (k : Nat) (K : Nat → List Value → Mem → Option (Bool × Mem)) (n : Nat) (vs : List Value) (m : Mem) : Option (Bool × Mem) := match vs with
  | [.slice x0a x0n x0c, .slice x3a x3n x3c, .int .i64 x8, .int .i64 x9, .int .i64 x11] => patinaref01_Apart_l10 k (fun y2 m => K 0 [(Value.bool y2)] m) (fun y0a y0n y0c y3a y3n y3c y8 m => K 12 [(Value.slice y0a y0n y0c), (Value.slice y3a y3n y3c), (Value.int .i64 y8)] m) n x0a x0n x0c x3a x3n x3c x8 x9 x11 m
  | _ => none

def patinaref01_Apart_loop (k : Nat) : Nat → List Value → Mem → (Nat → List Value → Mem → Option (Bool × Mem)) → Option (Bool × Mem) := fun cur vs m K => match cur with
  | 0 => patinaref01_Apart_l0_L k K k vs m
  | 2 => patinaref01_Apart_l2_L k K k vs m
  | 4 => patinaref01_Apart_l4_L k K k vs m
  | 6 => patinaref01_Apart_l6_L k K k vs m
  | 8 => patinaref01_Apart_l8_L k K k vs m
  | 10 => patinaref01_Apart_l10_L k K k vs m
  | _ => none

def patinaref01_Apart_C (k : Nat) : Ctx (Bool × Mem) := ⟨tt, patinaref01_Apart_call k, patinaref01_Apart_loop k, [(0, [0, 3, 4]), (2, [0, 3, 4, 5]), (4, [0, 3, 4, 6, 7]), (6, [0, 3, 8]), (8, [0, 3, 8, 9, 10]), (10, [0, 3, 8, 9, 11])], [(0, [2]), (2, [0, 3]), (4, [0, 3, 4]), (6, [0, 3, 4, 6]), (8, []), (10, [0, 3, 8, 9]), (12, [0, 3, 8])]⟩

noncomputable def patinaref01_Apart_l0_c : Code := ((loopsOf 0 (body Try.f10)).map (·.2)).getD 0 .skip

noncomputable def patinaref01_Apart_l2_c : Code := ((loopsOf 0 (body Try.f10)).map (·.2)).getD 1 .skip

noncomputable def patinaref01_Apart_l4_c : Code := ((loopsOf 0 (body Try.f10)).map (·.2)).getD 2 .skip

noncomputable def patinaref01_Apart_l6_c : Code := ((loopsOf 0 (body Try.f10)).map (·.2)).getD 3 .skip

noncomputable def patinaref01_Apart_l8_c : Code := ((loopsOf 0 (body Try.f10)).map (·.2)).getD 4 .skip

noncomputable def patinaref01_Apart_l10_c : Code := ((loopsOf 0 (body Try.f10)).map (·.2)).getD 5 .skip

theorem patinaref01_Apart_loops : loopsOf 0 (body Try.f10) = [(0, patinaref01_Apart_l0_c), (2, patinaref01_Apart_l2_c), (4, patinaref01_Apart_l4_c), (6, patinaref01_Apart_l6_c), (8, patinaref01_Apart_l8_c), (10, patinaref01_Apart_l10_c)] := by kernel_rfl

theorem patinaref01_Apart_l0_ok (k : Nat) : LoopOk (patinaref01_Apart_C k) 0 patinaref01_Apart_l0_c := by
  refine ⟨[0, 3, 4], by kernel_rfl, fun K r => ⟨patinaref01_Apart_l0_L k K, fun vs m h => ⟨k, h⟩, ?_⟩⟩
  intro n vs m h
  unfold patinaref01_Apart_l0_L at h
  split at h
  · cases n with
    | zero => cases h
    | succ n => exact ⟨n, rfl, Eq.trans (by kernel_rfl) h⟩
  · cases h

theorem patinaref01_Apart_l2_ok (k : Nat) : LoopOk (patinaref01_Apart_C k) 2 patinaref01_Apart_l2_c := by
  refine ⟨[0, 3, 4, 5], by kernel_rfl, fun K r => ⟨patinaref01_Apart_l2_L k K, fun vs m h => ⟨k, h⟩, ?_⟩⟩
  intro n vs m h
  unfold patinaref01_Apart_l2_L at h
  split at h
  · cases n with
    | zero => cases h
    | succ n => exact ⟨n, rfl, Eq.trans (by kernel_rfl) h⟩
  · cases h

theorem patinaref01_Apart_l4_ok (k : Nat) : LoopOk (patinaref01_Apart_C k) 4 patinaref01_Apart_l4_c := by
  refine ⟨[0, 3, 4, 6, 7], by kernel_rfl, fun K r => ⟨patinaref01_Apart_l4_L k K, fun vs m h => ⟨k, h⟩, ?_⟩⟩
  intro n vs m h
  unfold patinaref01_Apart_l4_L at h
  split at h
  · cases n with
    | zero => cases h
    | succ n => exact ⟨n, rfl, Eq.trans (by kernel_rfl) h⟩
  · cases h

theorem patinaref01_Apart_l6_ok (k : Nat) : LoopOk (patinaref01_Apart_C k) 6 patinaref01_Apart_l6_c := by
  refine ⟨[0, 3, 8], by kernel_rfl, fun K r => ⟨patinaref01_Apart_l6_L k K, fun vs m h => ⟨k, h⟩, ?_⟩⟩
  intro n vs m h
  unfold patinaref01_Apart_l6_L at h
  split at h
  · cases n with
    | zero => cases h
    | succ n => exact ⟨n, rfl, Eq.trans (by kernel_rfl) h⟩
  · cases h

theorem patinaref01_Apart_l8_ok (k : Nat) : LoopOk (patinaref01_Apart_C k) 8 patinaref01_Apart_l8_c := by
  refine ⟨[0, 3, 8, 9, 10], by kernel_rfl, fun K r => ⟨patinaref01_Apart_l8_L k K, fun vs m h => ⟨k, h⟩, ?_⟩⟩
  intro n vs m h
  unfold patinaref01_Apart_l8_L at h
  split at h
  · cases n with
    | zero => cases h
    | succ n => exact ⟨n, rfl, Eq.trans (by kernel_rfl) h⟩
  · cases h

theorem patinaref01_Apart_l10_ok (k : Nat) : LoopOk (patinaref01_Apart_C k) 10 patinaref01_Apart_l10_c := by
  refine ⟨[0, 3, 8, 9, 11], by kernel_rfl, fun K r => ⟨patinaref01_Apart_l10_L k K, fun vs m h => ⟨k, h⟩, ?_⟩⟩
  intro n vs m h
  unfold patinaref01_Apart_l10_L at h
  split at h
  · cases n with
    | zero => cases h
    | succ n => exact ⟨n, rfl, Eq.trans (by kernel_rfl) h⟩
  · cases h

def patinaref01_Apart_dec : Value → Mem → Option (Bool × Mem) := fun v m => match v with
  | .bool q0 => some (q0, m)
  | _ => none

theorem patinaref01_Apart_eq (k : Nat) (p0a : Option Addr) (p0n : Nat) (p0c : Nat) (m : Mem) : fnX (patinaref01_Apart_C k) Try.f10 [(Value.slice p0a p0n p0c)] m patinaref01_Apart_dec = patinaref01_Apart k p0a p0n p0c m := by kernel_rfl

theorem patinaref01_Apart_ok {k : Nat} {p0a : Option Addr} {p0n : Nat} {p0c : Nat} {m : Mem} {r : (Bool × Mem)} (h : patinaref01_Apart k p0a p0n p0c m = some r) : CallP Try.prog 10 [(Value.slice p0a p0n p0c)] m fun v m' => v = (Value.bool r.1) ∧ m' = r.2 := by
  refine (fn_sound (C := patinaref01_Apart_C k) (c := body Try.f10) tOk mixed (patinaref01_Apart_callOk k) Try.func10 (by kernel_rfl) (by kernel_rfl) (by kernel_rfl) (by kernel_rfl) ?_ ?_ (Eq.trans (patinaref01_Apart_eq k p0a p0n p0c m) h)).mono ?_
  · intro p hp
    rw [patinaref01_Apart_loops] at hp
    simp only [List.mem_cons, List.not_mem_nil, or_false] at hp
    rcases hp with rfl | rfl | rfl | rfl | rfl | rfl
    · exact patinaref01_Apart_l0_ok k
    · exact patinaref01_Apart_l2_ok k
    · exact patinaref01_Apart_l4_ok k
    · exact patinaref01_Apart_l6_ok k
    · exact patinaref01_Apart_l8_ok k
    · exact patinaref01_Apart_l10_ok k
  · intro p hp; rw [show rangesOf 0 (body Try.f10) = [] by kernel_rfl] at hp; cases hp
  · intro v m' hp
    unfold patinaref01_Apart_dec at hp
    split at hp
    · simp only [Option.some.injEq] at hp; subst hp; exact ⟨rfl, rfl⟩
    · cases hp

def patinaref01_Apart_arm {R : Type} (k : Nat) : Arm R := fun vs m K => match vs with
  | [.slice p0a p0n p0c] => (patinaref01_Apart k p0a p0n p0c m).bind fun r => K (Value.bool r.1) r.2
  | _ => none

theorem patinaref01_Apart_armOk {R : Type} (k : Nat) : ArmOk Try.prog 10 (patinaref01_Apart_arm (R := R) k) := by
  intro vs m K r h
  unfold patinaref01_Apart_arm at h
  split at h
  · obtain ⟨r, h1, h2⟩ := Option.bind_eq_some_iff.1 h; exact ⟨_, _, h2, fun K' => by simp only [patinaref01_Apart_arm, h1, Option.bind_some], patinaref01_Apart_ok h1⟩
  · cases h

end Go.Proofs.Ytlbbcgjfkpnilaa
