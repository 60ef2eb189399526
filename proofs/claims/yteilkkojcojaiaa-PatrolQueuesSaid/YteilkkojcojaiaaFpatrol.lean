/- The program's functions as plain Lean functions over a clean memory, each held against the program by the kernel. Written by mx.py. -/
import Derived.Test.YteilkkojcojaiaaF0
import Derived.Test.YteilkkojcojaiaaFgeom
import Derived.Test.YteilkkojcojaiaaFslices
set_option linter.unusedVariables false
set_option maxRecDepth 100000
namespace Go.Proofs.Yteilkkojcojaiaa
open Go.Mx

/-! ### patrol_Queue_Add -/
def patrol_Queue_Add_j1 (k : Nat) (mj : Mem) : Option (Value × Mem) :=
  some (Value.nilIface, mj)

def patrol_Queue_Add (k : Nat) (p0 : Option Addr) (p1 : Int) (m : Mem) : Option (Value × Mem) :=
  bif decide (p1 < 0) then (
  some ((Value.iface ty_api_Code (Value.int .i64 1)), m)) else (
  bif decide (p1 ≥ 12) then (
  some ((Value.iface ty_api_Code (Value.int .i64 1)), m)) else (
  (p0).bind fun a1 =>
  (ldSl m (plus a1 0)).bind fun t2 =>
  (slices_Contains_int_int k t2.a t2.len t2.cap p1 m).bind fun r3 =>
  bif !r3.1 then (
  (p0).bind fun a4 =>
  (ldSl r3.2 (plus a4 0)).bind fun t5 =>
  let m6 : Mem := r3.2 ++ [.live [(Value.int .i64 p1)]]
  (rdSl m6 (some ⟨List.length r3.2, 0, Option.none⟩) 1 1).bind fun l7 =>
  (appM 1 8 m6 t5.a t5.len t5.cap 1 l7).bind fun r8 =>
  (p0).bind fun a9 =>
  (st r8.2 (plus a9 0) (Value.slice r8.1.a r8.1.len r8.1.cap)).bind fun m10 =>
  patrol_Queue_Add_j1 k  m10) else (
  patrol_Queue_Add_j1 k  r3.2)))

def patrol_Queue_Add_call {R : Type} (k : Nat) : Fun R := callCons 16 (slices_Contains_int_int_arm k) (callNil)

theorem patrol_Queue_Add_callOk {R : Type} (k : Nat) : CallOk Try.prog (patrol_Queue_Add_call (R := R) k) := callOk_cons (slices_Contains_int_int_armOk k) (callOk_nil)

def patrol_Queue_Add_loop (k : Nat) : Nat → List Value → Mem → (Nat → List Value → Mem → Option (Value × Mem)) → Option (Value × Mem) := fun _ _ _ _ => none

def patrol_Queue_Add_C (k : Nat) : Ctx (Value × Mem) := ⟨tt, patrol_Queue_Add_call k, patrol_Queue_Add_loop k, [], []⟩

def patrol_Queue_Add_dec : Value → Mem → Option (Value × Mem) := fun v m => match v with
  | q0 => some (q0, m)

theorem patrol_Queue_Add_eq (k : Nat) (p0 : Option Addr) (p1 : Int) (m : Mem) : fnX (patrol_Queue_Add_C k) Try.f6 [(Value.pointer p0), (Value.int .i64 p1)] m patrol_Queue_Add_dec = patrol_Queue_Add k p0 p1 m := by kernel_rfl

theorem patrol_Queue_Add_ok {k : Nat} {p0 : Option Addr} {p1 : Int} {m : Mem} {r : (Value × Mem)} (h : patrol_Queue_Add k p0 p1 m = some r) : CallP Try.prog 6 [(Value.pointer p0), (Value.int .i64 p1)] m fun v m' => v = r.1 ∧ m' = r.2 := by
  refine (fn_sound (C := patrol_Queue_Add_C k) (c := body Try.f6) tOk mixed (patrol_Queue_Add_callOk k) Try.func6 (by kernel_rfl) (by kernel_rfl) (by kernel_rfl) (by kernel_rfl) ?_ (Eq.trans (patrol_Queue_Add_eq k p0 p1 m) h)).mono ?_
  · intro p hp; rw [show loopsOf 0 (body Try.f6) = [] by kernel_rfl] at hp; cases hp
  · intro v m' hp
    simp only [patrol_Queue_Add_dec, Option.some.injEq] at hp; subst hp; exact ⟨rfl, rfl⟩

def patrol_Queue_Add_arm {R : Type} (k : Nat) : Arm R := fun vs m K => match vs with
  | [.pointer p0, .int .i64 p1] => (patrol_Queue_Add k p0 p1 m).bind fun r => K r.1 r.2
  | _ => none

theorem patrol_Queue_Add_armOk {R : Type} (k : Nat) : ArmOk Try.prog 6 (patrol_Queue_Add_arm (R := R) k) := by
  intro vs m K r h
  unfold patrol_Queue_Add_arm at h
  split at h
  · obtain ⟨r, h1, h2⟩ := Option.bind_eq_some_iff.1 h; exact ⟨_, _, h2, fun K' => by simp only [patrol_Queue_Add_arm, h1, Option.bind_some], patrol_Queue_Add_ok h1⟩
  · cases h

/-! ### patrol_Queue_Next -/
def patrol_Queue_Next (k : Nat) (p0 : Option Addr) (m : Mem) : Option (Int × Bool × Mem) :=
  (p0).bind fun a1 =>
  (ldSl m (plus a1 0)).bind fun t2 =>
  bif ((t2.len : Nat) : Int) == 0 then (
  some (0, false, m)) else (
  (p0).bind fun a3 =>
  (ldSl m (plus a3 0)).bind fun t4 =>
  bif inRange 0 t4.len then (
  (t4.a).bind fun a5 =>
  (ldInt .i64 m (plus a5 (Int.toNat 0 * 1))).bind fun t6 =>
  (p0).bind fun a7 =>
  (ldSl m (plus a7 0)).bind fun t8 =>
  bif sliceK.okZ t8.a 1 false && inUpto 1 t8.len then (
  (slices_Clone_int_int k ((sliceK.clear t8.a false).map fun a => plus a ((Int.toNat 1) * 1)) (t8.len - (Int.toNat 1)) (t8.cap - (Int.toNat 1)) m).bind fun r9 =>
  (p0).bind fun a10 =>
  (st r9.2 (plus a10 0) (Value.slice r9.1.a r9.1.len r9.1.cap)).bind fun m11 =>
  some (t6, true, m11)) else none) else none)

def patrol_Queue_Next_call {R : Type} (k : Nat) : Fun R := callCons 18 (slices_Clone_int_int_arm k) (callNil)

theorem patrol_Queue_Next_callOk {R : Type} (k : Nat) : CallOk Try.prog (patrol_Queue_Next_call (R := R) k) := callOk_cons (slices_Clone_int_int_armOk k) (callOk_nil)

def patrol_Queue_Next_loop (k : Nat) : Nat → List Value → Mem → (Nat → List Value → Mem → Option (Int × Bool × Mem)) → Option (Int × Bool × Mem) := fun _ _ _ _ => none

def patrol_Queue_Next_C (k : Nat) : Ctx (Int × Bool × Mem) := ⟨tt, patrol_Queue_Next_call k, patrol_Queue_Next_loop k, [], []⟩

def patrol_Queue_Next_dec : Value → Mem → Option (Int × Bool × Mem) := fun v m => match v with
  | .tuple ⟨[.int .i64 q0, .bool q1]⟩ => some (q0, q1, m)
  | _ => none

theorem patrol_Queue_Next_eq (k : Nat) (p0 : Option Addr) (m : Mem) : fnX (patrol_Queue_Next_C k) Try.f9 [(Value.pointer p0)] m patrol_Queue_Next_dec = patrol_Queue_Next k p0 m := by kernel_rfl

theorem patrol_Queue_Next_ok {k : Nat} {p0 : Option Addr} {m : Mem} {r : (Int × Bool × Mem)} (h : patrol_Queue_Next k p0 m = some r) : CallP Try.prog 9 [(Value.pointer p0)] m fun v m' => v = (Value.tuple ⟨[(Value.int .i64 r.1), (Value.bool r.2.1)]⟩) ∧ m' = r.2.2 := by
  refine (fn_sound (C := patrol_Queue_Next_C k) (c := body Try.f9) tOk mixed (patrol_Queue_Next_callOk k) Try.func9 (by kernel_rfl) (by kernel_rfl) (by kernel_rfl) (by kernel_rfl) ?_ (Eq.trans (patrol_Queue_Next_eq k p0 m) h)).mono ?_
  · intro p hp; rw [show loopsOf 0 (body Try.f9) = [] by kernel_rfl] at hp; cases hp
  · intro v m' hp
    unfold patrol_Queue_Next_dec at hp
    split at hp
    · simp only [Option.some.injEq] at hp; subst hp; exact ⟨rfl, rfl⟩
    · cases hp

def patrol_Queue_Next_arm {R : Type} (k : Nat) : Arm R := fun vs m K => match vs with
  | [.pointer p0] => (patrol_Queue_Next k p0 m).bind fun r => K (Value.tuple ⟨[(Value.int .i64 r.1), (Value.bool r.2.1)]⟩) r.2.2
  | _ => none

theorem patrol_Queue_Next_armOk {R : Type} (k : Nat) : ArmOk Try.prog 9 (patrol_Queue_Next_arm (R := R) k) := by
  intro vs m K r h
  unfold patrol_Queue_Next_arm at h
  split at h
  · obtain ⟨r, h1, h2⟩ := Option.bind_eq_some_iff.1 h; exact ⟨_, _, h2, fun K' => by simp only [patrol_Queue_Next_arm, h1, Option.bind_some], patrol_Queue_Next_ok h1⟩
  · cases h

/-! ### patrol_New -/
def patrol_New (k : Nat) (p0 : Int) (m : Mem) : Option ((Option Addr) × Value × Mem) :=
  (geom_Parts k p0 m).bind fun r1 =>
  (isNil r1.2.2.1).bind fun b2 =>
  bif !b2 then (
  some (none, r1.2.2.1, r1.2.2.2)) else (
  let m3 : Mem := r1.2.2.2 ++ [.live [(Value.int .i64 p0), .int .i64 0]]
  some ((some ⟨List.length r1.2.2.2, 0, Option.none⟩), Value.nilIface, m3))

def patrol_New_call {R : Type} (k : Nat) : Fun R := callCons 19 (geom_Parts_arm k) (callNil)

theorem patrol_New_callOk {R : Type} (k : Nat) : CallOk Try.prog (patrol_New_call (R := R) k) := callOk_cons (geom_Parts_armOk k) (callOk_nil)

def patrol_New_loop (k : Nat) : Nat → List Value → Mem → (Nat → List Value → Mem → Option ((Option Addr) × Value × Mem)) → Option ((Option Addr) × Value × Mem) := fun _ _ _ _ => none

def patrol_New_C (k : Nat) : Ctx ((Option Addr) × Value × Mem) := ⟨tt, patrol_New_call k, patrol_New_loop k, [], []⟩

def patrol_New_dec : Value → Mem → Option ((Option Addr) × Value × Mem) := fun v m => match v with
  | .tuple ⟨[.pointer q0, q1]⟩ => some (q0, q1, m)
  | _ => none

theorem patrol_New_eq (k : Nat) (p0 : Int) (m : Mem) : fnX (patrol_New_C k) Try.f12 [(Value.int .i64 p0)] m patrol_New_dec = patrol_New k p0 m := by kernel_rfl

theorem patrol_New_ok {k : Nat} {p0 : Int} {m : Mem} {r : ((Option Addr) × Value × Mem)} (h : patrol_New k p0 m = some r) : CallP Try.prog 12 [(Value.int .i64 p0)] m fun v m' => v = (Value.tuple ⟨[(Value.pointer r.1), r.2.1]⟩) ∧ m' = r.2.2 := by
  refine (fn_sound (C := patrol_New_C k) (c := body Try.f12) tOk mixed (patrol_New_callOk k) Try.func12 (by kernel_rfl) (by kernel_rfl) (by kernel_rfl) (by kernel_rfl) ?_ (Eq.trans (patrol_New_eq k p0 m) h)).mono ?_
  · intro p hp; rw [show loopsOf 0 (body Try.f12) = [] by kernel_rfl] at hp; cases hp
  · intro v m' hp
    unfold patrol_New_dec at hp
    split at hp
    · simp only [Option.some.injEq] at hp; subst hp; exact ⟨rfl, rfl⟩
    · cases hp

def patrol_New_arm {R : Type} (k : Nat) : Arm R := fun vs m K => match vs with
  | [.int .i64 p0] => (patrol_New k p0 m).bind fun r => K (Value.tuple ⟨[(Value.pointer r.1), r.2.1]⟩) r.2.2
  | _ => none

theorem patrol_New_armOk {R : Type} (k : Nat) : ArmOk Try.prog 12 (patrol_New_arm (R := R) k) := by
  intro vs m K r h
  unfold patrol_New_arm at h
  split at h
  · obtain ⟨r, h1, h2⟩ := Option.bind_eq_some_iff.1 h; exact ⟨_, _, h2, fun K' => by simp only [patrol_New_arm, h1, Option.bind_some], patrol_New_ok h1⟩
  · cases h

/-! ### patrol_Patrol_Step -/
def patrol_Patrol_Step_l0_b (k : Nat) (nx : Option Addr → Option Addr → Nat → Nat → Int → Int → Mem → Option (Sl × Mem)) (kx2 : Option Addr → Option Addr → Nat → Nat → Mem → Option (Sl × Mem)) (x0 : Option Addr) (x3a : Option Addr) (x3n : Nat) (x3c : Nat) (x7 : Int) (x8 : Int) (m : Mem) : Option (Sl × Mem) :=
  bif decide (x8 < x7) then (
  (x0).bind fun a2 =>
  (ldInt .i64 m (plus a2 0)).bind fun t3 =>
  bif inRange x8 x3n then (
  (x3a).bind fun a4 =>
  (st m (plus a4 (Int.toNat x8 * 1)) (Value.int .i64 t3)).bind fun m5 =>
  (x0).bind fun a6 =>
  (ldInt .i64 m5 (plus a6 0)).bind fun t7 =>
  (geom_On k t7 1 m5).bind fun r8 =>
  (x0).bind fun a9 =>
  (st r8.2.2 (plus a9 0) (Value.int .i64 r8.1)).bind fun m10 =>
  nx x0 x3a x3n x3c x7 (IntKind.wrap .i64 (x8 + 1)) m10) else none) else (
  kx2 x0 x3a x3n x3c m)

def patrol_Patrol_Step_l0 (k : Nat) (kx2 : Option Addr → Option Addr → Nat → Nat → Mem → Option (Sl × Mem)) : Nat → Option Addr → Option Addr → Nat → Nat → Int → Int → Mem → Option (Sl × Mem)
  | 0, _, _, _, _, _, _, _ => none
  | n + 1, x0, x3a, x3n, x3c, x7, x8, m => patrol_Patrol_Step_l0_b k (fun x0 x3a x3n x3c x7 x8 m => patrol_Patrol_Step_l0 k kx2 n x0 x3a x3n x3c x7 x8 m) kx2 x0 x3a x3n x3c x7 x8 m

theorem patrol_Patrol_Step_l0_rule (k : Nat) (kx2 : Option Addr → Option Addr → Nat → Nat → Mem → Option (Sl × Mem)) {P : (Sl × Mem) → Prop} (I : Nat → Option Addr → Option Addr → Nat → Nat → Int → Int → Mem → Prop)
    (step : ∀ d (nx : Option Addr → Option Addr → Nat → Nat → Int → Int → Mem → Option (Sl × Mem)) (x0 : Option Addr) (x3a : Option Addr) (x3n : Nat) (x3c : Nat) (x7 : Int) (x8 : Int) (m : Mem), I d x0 x3a x3n x3c x7 x8 m → (∀ d' (x0 : Option Addr) (x3a : Option Addr) (x3n : Nat) (x3c : Nat) (x7 : Int) (x8 : Int) (m : Mem), d' < d → I d' x0 x3a x3n x3c x7 x8 m → Ok (nx x0 x3a x3n x3c x7 x8 m) P) → Ok (patrol_Patrol_Step_l0_b k nx kx2 x0 x3a x3n x3c x7 x8 m) P) :
    ∀ n d (x0 : Option Addr) (x3a : Option Addr) (x3n : Nat) (x3c : Nat) (x7 : Int) (x8 : Int) (m : Mem), d < n → I d x0 x3a x3n x3c x7 x8 m → Ok (patrol_Patrol_Step_l0 k kx2 n x0 x3a x3n x3c x7 x8 m) P
  | 0, d, x0, x3a, x3n, x3c, x7, x8, m, h, _ => absurd h (Nat.not_lt_zero _)
  | n + 1, d, x0, x3a, x3n, x3c, x7, x8, m, h, hI => step d _ x0 x3a x3n x3c x7 x8 m hI fun d' x0 x3a x3n x3c x7 x8 m h' hI' => patrol_Patrol_Step_l0_rule k kx2 I step n d' x0 x3a x3n x3c x7 x8 m (by omega) hI'

def patrol_Patrol_Step (k : Nat) (p0 : Option Addr) (m : Mem) : Option (Sl × Mem) :=
  let m1 : Mem := m ++ [.live (repl (Int.toNat 8) [.int .i64 0])]
  patrol_Patrol_Step_l0 k (fun y0 y3a y3n y3c m11 => 
  (y0).bind fun a12 =>
  (ldInt .i64 m11 (plus a12 1)).bind fun t13 =>
  (y0).bind fun a14 =>
  (st m11 (plus a14 1) (Value.int .i64 (IntKind.wrap .i64 (t13 + 1)))).bind fun m15 =>
  some ((⟨y3a, y3n, y3c⟩ : Sl), m15)) k p0 (some ⟨List.length m, 0, Option.none⟩) (Int.toNat 8) (Int.toNat 8) (((Int.toNat 8) : Nat) : Int) 0 m1

def patrol_Patrol_Step_call {R : Type} (k : Nat) : Fun R := callCons 20 (geom_On_arm k) (callNil)

theorem patrol_Patrol_Step_callOk {R : Type} (k : Nat) : CallOk Try.prog (patrol_Patrol_Step_call (R := R) k) := callOk_cons (geom_On_armOk k) (callOk_nil)

def patrol_Patrol_Step_l0_L (k : Nat) (K : Nat → List Value → Mem → Option (Sl × Mem)) (n : Nat) (vs : List Value) (m : Mem) : Option (Sl × Mem) := match vs with
  | [.pointer x0, .slice x3a x3n x3c, .int .i64 x7, .int .i64 x8] => patrol_Patrol_Step_l0 k (fun y0 y3a y3n y3c m => K 2 [(Value.pointer y0), (Value.slice y3a y3n y3c)] m) n x0 x3a x3n x3c x7 x8 m
  | _ => none

def patrol_Patrol_Step_loop (k : Nat) : Nat → List Value → Mem → (Nat → List Value → Mem → Option (Sl × Mem)) → Option (Sl × Mem) := fun cur vs m K => match cur with
  | 0 => patrol_Patrol_Step_l0_L k K k vs m
  | _ => none

def patrol_Patrol_Step_C (k : Nat) : Ctx (Sl × Mem) := ⟨tt, patrol_Patrol_Step_call k, patrol_Patrol_Step_loop k, [(0, [0, 3, 7, 8])], [(2, [0, 3])]⟩

noncomputable def patrol_Patrol_Step_l0_c : Code := ((loopsOf 0 (body Try.f13)).map (·.2)).getD 0 .skip

theorem patrol_Patrol_Step_loops : loopsOf 0 (body Try.f13) = [(0, patrol_Patrol_Step_l0_c)] := by kernel_rfl

theorem patrol_Patrol_Step_l0_ok (k : Nat) : LoopOk (patrol_Patrol_Step_C k) 0 patrol_Patrol_Step_l0_c := by
  refine ⟨[0, 3, 7, 8], by kernel_rfl, fun K r => ⟨patrol_Patrol_Step_l0_L k K, fun vs m h => ⟨k, h⟩, ?_⟩⟩
  intro n vs m h
  unfold patrol_Patrol_Step_l0_L at h
  split at h
  · cases n with
    | zero => cases h
    | succ n => exact ⟨n, rfl, Eq.trans (by kernel_rfl) h⟩
  · cases h

def patrol_Patrol_Step_dec : Value → Mem → Option (Sl × Mem) := fun v m => match v with
  | .slice q0a q0n q0c => some ((⟨q0a, q0n, q0c⟩ : Sl), m)
  | _ => none

theorem patrol_Patrol_Step_eq (k : Nat) (p0 : Option Addr) (m : Mem) : fnX (patrol_Patrol_Step_C k) Try.f13 [(Value.pointer p0)] m patrol_Patrol_Step_dec = patrol_Patrol_Step k p0 m := by kernel_rfl

theorem patrol_Patrol_Step_ok {k : Nat} {p0 : Option Addr} {m : Mem} {r : (Sl × Mem)} (h : patrol_Patrol_Step k p0 m = some r) : CallP Try.prog 13 [(Value.pointer p0)] m fun v m' => v = (Value.slice r.1.a r.1.len r.1.cap) ∧ m' = r.2 := by
  refine (fn_sound (C := patrol_Patrol_Step_C k) (c := body Try.f13) tOk mixed (patrol_Patrol_Step_callOk k) Try.func13 (by kernel_rfl) (by kernel_rfl) (by kernel_rfl) (by kernel_rfl) ?_ (Eq.trans (patrol_Patrol_Step_eq k p0 m) h)).mono ?_
  · intro p hp
    rw [patrol_Patrol_Step_loops] at hp
    simp only [List.mem_cons, List.not_mem_nil, or_false] at hp
    rcases hp with rfl
    · exact patrol_Patrol_Step_l0_ok k
  · intro v m' hp
    unfold patrol_Patrol_Step_dec at hp
    split at hp
    · simp only [Option.some.injEq] at hp; subst hp; exact ⟨rfl, rfl⟩
    · cases hp

def patrol_Patrol_Step_arm {R : Type} (k : Nat) : Arm R := fun vs m K => match vs with
  | [.pointer p0] => (patrol_Patrol_Step k p0 m).bind fun r => K (Value.slice r.1.a r.1.len r.1.cap) r.2
  | _ => none

theorem patrol_Patrol_Step_armOk {R : Type} (k : Nat) : ArmOk Try.prog 13 (patrol_Patrol_Step_arm (R := R) k) := by
  intro vs m K r h
  unfold patrol_Patrol_Step_arm at h
  split at h
  · obtain ⟨r, h1, h2⟩ := Option.bind_eq_some_iff.1 h; exact ⟨_, _, h2, fun K' => by simp only [patrol_Patrol_Step_arm, h1, Option.bind_some], patrol_Patrol_Step_ok h1⟩
  · cases h

/-! ### patrol_Patrol_Cursor -/
def patrol_Patrol_Cursor (k : Nat) (p0 : Option Addr) (m : Mem) : Option (Int × Mem) :=
  (p0).bind fun a1 =>
  (ldInt .i64 m (plus a1 0)).bind fun t2 =>
  some (t2, m)

def patrol_Patrol_Cursor_call {R : Type} (k : Nat) : Fun R := callNil

theorem patrol_Patrol_Cursor_callOk {R : Type} (k : Nat) : CallOk Try.prog (patrol_Patrol_Cursor_call (R := R) k) := callOk_nil

def patrol_Patrol_Cursor_loop (k : Nat) : Nat → List Value → Mem → (Nat → List Value → Mem → Option (Int × Mem)) → Option (Int × Mem) := fun _ _ _ _ => none

def patrol_Patrol_Cursor_C (k : Nat) : Ctx (Int × Mem) := ⟨tt, patrol_Patrol_Cursor_call k, patrol_Patrol_Cursor_loop k, [], []⟩

def patrol_Patrol_Cursor_dec : Value → Mem → Option (Int × Mem) := fun v m => match v with
  | .int .i64 q0 => some (q0, m)
  | _ => none

theorem patrol_Patrol_Cursor_eq (k : Nat) (p0 : Option Addr) (m : Mem) : fnX (patrol_Patrol_Cursor_C k) Try.f14 [(Value.pointer p0)] m patrol_Patrol_Cursor_dec = patrol_Patrol_Cursor k p0 m := by kernel_rfl

theorem patrol_Patrol_Cursor_ok {k : Nat} {p0 : Option Addr} {m : Mem} {r : (Int × Mem)} (h : patrol_Patrol_Cursor k p0 m = some r) : CallP Try.prog 14 [(Value.pointer p0)] m fun v m' => v = (Value.int .i64 r.1) ∧ m' = r.2 := by
  refine (fn_sound (C := patrol_Patrol_Cursor_C k) (c := body Try.f14) tOk mixed (patrol_Patrol_Cursor_callOk k) Try.func14 (by kernel_rfl) (by kernel_rfl) (by kernel_rfl) (by kernel_rfl) ?_ (Eq.trans (patrol_Patrol_Cursor_eq k p0 m) h)).mono ?_
  · intro p hp; rw [show loopsOf 0 (body Try.f14) = [] by kernel_rfl] at hp; cases hp
  · intro v m' hp
    unfold patrol_Patrol_Cursor_dec at hp
    split at hp
    · simp only [Option.some.injEq] at hp; subst hp; exact ⟨rfl, rfl⟩
    · cases hp

def patrol_Patrol_Cursor_arm {R : Type} (k : Nat) : Arm R := fun vs m K => match vs with
  | [.pointer p0] => (patrol_Patrol_Cursor k p0 m).bind fun r => K (Value.int .i64 r.1) r.2
  | _ => none

theorem patrol_Patrol_Cursor_armOk {R : Type} (k : Nat) : ArmOk Try.prog 14 (patrol_Patrol_Cursor_arm (R := R) k) := by
  intro vs m K r h
  unfold patrol_Patrol_Cursor_arm at h
  split at h
  · obtain ⟨r, h1, h2⟩ := Option.bind_eq_some_iff.1 h; exact ⟨_, _, h2, fun K' => by simp only [patrol_Patrol_Cursor_arm, h1, Option.bind_some], patrol_Patrol_Cursor_ok h1⟩
  · cases h

/-! ### patrol_Patrol_Calls -/
def patrol_Patrol_Calls (k : Nat) (p0 : Option Addr) (m : Mem) : Option (Int × Mem) :=
  (p0).bind fun a1 =>
  (ldInt .i64 m (plus a1 1)).bind fun t2 =>
  some (t2, m)

def patrol_Patrol_Calls_call {R : Type} (k : Nat) : Fun R := callNil

theorem patrol_Patrol_Calls_callOk {R : Type} (k : Nat) : CallOk Try.prog (patrol_Patrol_Calls_call (R := R) k) := callOk_nil

def patrol_Patrol_Calls_loop (k : Nat) : Nat → List Value → Mem → (Nat → List Value → Mem → Option (Int × Mem)) → Option (Int × Mem) := fun _ _ _ _ => none

def patrol_Patrol_Calls_C (k : Nat) : Ctx (Int × Mem) := ⟨tt, patrol_Patrol_Calls_call k, patrol_Patrol_Calls_loop k, [], []⟩

def patrol_Patrol_Calls_dec : Value → Mem → Option (Int × Mem) := fun v m => match v with
  | .int .i64 q0 => some (q0, m)
  | _ => none

theorem patrol_Patrol_Calls_eq (k : Nat) (p0 : Option Addr) (m : Mem) : fnX (patrol_Patrol_Calls_C k) Try.f15 [(Value.pointer p0)] m patrol_Patrol_Calls_dec = patrol_Patrol_Calls k p0 m := by kernel_rfl

theorem patrol_Patrol_Calls_ok {k : Nat} {p0 : Option Addr} {m : Mem} {r : (Int × Mem)} (h : patrol_Patrol_Calls k p0 m = some r) : CallP Try.prog 15 [(Value.pointer p0)] m fun v m' => v = (Value.int .i64 r.1) ∧ m' = r.2 := by
  refine (fn_sound (C := patrol_Patrol_Calls_C k) (c := body Try.f15) tOk mixed (patrol_Patrol_Calls_callOk k) Try.func15 (by kernel_rfl) (by kernel_rfl) (by kernel_rfl) (by kernel_rfl) ?_ (Eq.trans (patrol_Patrol_Calls_eq k p0 m) h)).mono ?_
  · intro p hp; rw [show loopsOf 0 (body Try.f15) = [] by kernel_rfl] at hp; cases hp
  · intro v m' hp
    unfold patrol_Patrol_Calls_dec at hp
    split at hp
    · simp only [Option.some.injEq] at hp; subst hp; exact ⟨rfl, rfl⟩
    · cases hp

def patrol_Patrol_Calls_arm {R : Type} (k : Nat) : Arm R := fun vs m K => match vs with
  | [.pointer p0] => (patrol_Patrol_Calls k p0 m).bind fun r => K (Value.int .i64 r.1) r.2
  | _ => none

theorem patrol_Patrol_Calls_armOk {R : Type} (k : Nat) : ArmOk Try.prog 15 (patrol_Patrol_Calls_arm (R := R) k) := by
  intro vs m K r h
  unfold patrol_Patrol_Calls_arm at h
  split at h
  · obtain ⟨r, h1, h2⟩ := Option.bind_eq_some_iff.1 h; exact ⟨_, _, h2, fun K' => by simp only [patrol_Patrol_Calls_arm, h1, Option.bind_some], patrol_Patrol_Calls_ok h1⟩
  · cases h

/-! ### patrol_Queue_Len -/
def patrol_Queue_Len (k : Nat) (p0 : Option Addr) (m : Mem) : Option (Int × Mem) :=
  (p0).bind fun a1 =>
  (ldSl m (plus a1 0)).bind fun t2 =>
  some (((t2.len : Nat) : Int), m)

def patrol_Queue_Len_call {R : Type} (k : Nat) : Fun R := callNil

theorem patrol_Queue_Len_callOk {R : Type} (k : Nat) : CallOk Try.prog (patrol_Queue_Len_call (R := R) k) := callOk_nil

def patrol_Queue_Len_loop (k : Nat) : Nat → List Value → Mem → (Nat → List Value → Mem → Option (Int × Mem)) → Option (Int × Mem) := fun _ _ _ _ => none

def patrol_Queue_Len_C (k : Nat) : Ctx (Int × Mem) := ⟨tt, patrol_Queue_Len_call k, patrol_Queue_Len_loop k, [], []⟩

def patrol_Queue_Len_dec : Value → Mem → Option (Int × Mem) := fun v m => match v with
  | .int .i64 q0 => some (q0, m)
  | _ => none

theorem patrol_Queue_Len_eq (k : Nat) (p0 : Option Addr) (m : Mem) : fnX (patrol_Queue_Len_C k) Try.f11 [(Value.pointer p0)] m patrol_Queue_Len_dec = patrol_Queue_Len k p0 m := by kernel_rfl

theorem patrol_Queue_Len_ok {k : Nat} {p0 : Option Addr} {m : Mem} {r : (Int × Mem)} (h : patrol_Queue_Len k p0 m = some r) : CallP Try.prog 11 [(Value.pointer p0)] m fun v m' => v = (Value.int .i64 r.1) ∧ m' = r.2 := by
  refine (fn_sound (C := patrol_Queue_Len_C k) (c := body Try.f11) tOk mixed (patrol_Queue_Len_callOk k) Try.func11 (by kernel_rfl) (by kernel_rfl) (by kernel_rfl) (by kernel_rfl) ?_ (Eq.trans (patrol_Queue_Len_eq k p0 m) h)).mono ?_
  · intro p hp; rw [show loopsOf 0 (body Try.f11) = [] by kernel_rfl] at hp; cases hp
  · intro v m' hp
    unfold patrol_Queue_Len_dec at hp
    split at hp
    · simp only [Option.some.injEq] at hp; subst hp; exact ⟨rfl, rfl⟩
    · cases hp

def patrol_Queue_Len_arm {R : Type} (k : Nat) : Arm R := fun vs m K => match vs with
  | [.pointer p0] => (patrol_Queue_Len k p0 m).bind fun r => K (Value.int .i64 r.1) r.2
  | _ => none

theorem patrol_Queue_Len_armOk {R : Type} (k : Nat) : ArmOk Try.prog 11 (patrol_Queue_Len_arm (R := R) k) := by
  intro vs m K r h
  unfold patrol_Queue_Len_arm at h
  split at h
  · obtain ⟨r, h1, h2⟩ := Option.bind_eq_some_iff.1 h; exact ⟨_, _, h2, fun K' => by simp only [patrol_Queue_Len_arm, h1, Option.bind_some], patrol_Queue_Len_ok h1⟩
  · cases h

end Go.Proofs.Yteilkkojcojaiaa
