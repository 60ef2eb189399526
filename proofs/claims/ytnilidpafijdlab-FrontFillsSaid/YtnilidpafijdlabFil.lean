/- The program's functions as plain Lean functions over a clean memory, each held against the program by the kernel. Written by mx.py. -/
import Derived.Test.YtnilidpafijdlabProg
import Derived.Test.YtnilidpafijdlabMxTab
set_option linter.unusedVariables false
set_option maxRecDepth 100000
namespace Go.Proofs.Ytnilidpafijdlab
open Go.Mx

def tt : TT := tabT [(3, ⟨.int .i64, 1, 8, [.int .i64 0]⟩),
  (4, ⟨.bool, 1, 1, [.bool false]⟩),
  (30, ⟨.iface, 1, 16, [.nilIface]⟩),
  (39, ⟨.ptr 41, 1, 8, [.pointer none]⟩),
  (41, ⟨.struct [(4, 0), (3, 1), (3, 2)], 3, 24, ([.bool false] ++ [.int .i64 0] ++ [.int .i64 0])⟩),
  (56, ⟨.slice 3, 1, 24, [.slice none 0 0]⟩),
  (57, ⟨.int .i64, 1, 8, [.int .i64 0]⟩)]

theorem tOk : TOk Try.prog tt := tabT_ok (by kernel_rfl)

theorem mixed : Try.prog.follows .mixedOrders = true := by kernel_rfl

/-! ### front_Front_Open -/
def front_Front_Open (k : Nat) (p0 : Option Addr) (p1 : Int) (p2 : Int) (m : Mem) : Option (Value × Mem) :=
  bif decide (p1 < 0) then (
  some ((Value.iface 57 (Value.int .i64 1)), m)) else (
  bif decide (p1 ≥ 12) then (
  some ((Value.iface 57 (Value.int .i64 1)), m)) else (
  bif decide (p2 < 0) then (
  some ((Value.iface 57 (Value.int .i64 1)), m)) else (
  bif decide (p2 > 8) then (
  some ((Value.iface 57 (Value.int .i64 1)), m)) else (
  (p0).bind fun a1 =>
  bif Nat.beq (List.length (putAt (putAt (putAt ((tt 41).zero) 0 1 [(Value.bool true)]) 1 1 [(Value.int .i64 p1)]) 2 1 [(Value.int .i64 p2)])) 3 then (
  (stCells m a1 (putAt (putAt (putAt ((tt 41).zero) 0 1 [(Value.bool true)]) 1 1 [(Value.int .i64 p1)]) 2 1 [(Value.int .i64 p2)])).bind fun m2 =>
  some (Value.nilIface, m2)) else none))))

def front_Front_Open_call {R : Type} (k : Nat) : Fun R := fun _ _ _ _ => none

theorem front_Front_Open_callOk {R : Type} (k : Nat) : CallOk Try.prog (front_Front_Open_call (R := R) k) := by
  intro f vs m K r h
  unfold front_Front_Open_call at h
  cases h

def front_Front_Open_loop (k : Nat) : Nat → List Value → Mem → (Nat → List Value → Mem → Option (Value × Mem)) → Option (Value × Mem) := fun _ _ _ _ => none

def front_Front_Open_C (k : Nat) : Ctx (Value × Mem) := ⟨tt, front_Front_Open_call k, front_Front_Open_loop k, [], []⟩

def front_Front_Open_dec : Value → Mem → Option (Value × Mem) := fun v m => match v with
  | q0 => some (q0, m)

theorem front_Front_Open_eq (k : Nat) (p0 : Option Addr) (p1 : Int) (p2 : Int) (m : Mem) : fnX (front_Front_Open_C k) Try.f16 [(Value.pointer p0), (Value.int .i64 p1), (Value.int .i64 p2)] m front_Front_Open_dec = front_Front_Open k p0 p1 p2 m := by kernel_rfl

theorem front_Front_Open_ok {k : Nat} {p0 : Option Addr} {p1 : Int} {p2 : Int} {m : Mem} {r : (Value × Mem)} (h : front_Front_Open k p0 p1 p2 m = some r) : CallP Try.prog 16 [(Value.pointer p0), (Value.int .i64 p1), (Value.int .i64 p2)] m fun v m' => v = r.1 ∧ m' = r.2 := by
  refine (fn_sound (C := front_Front_Open_C k) (c := body Try.f16) tOk mixed (front_Front_Open_callOk k) Try.func16 (by kernel_rfl) (by kernel_rfl) (by kernel_rfl) (by kernel_rfl) ?_ (Eq.trans (front_Front_Open_eq k p0 p1 p2 m) h)).mono ?_
  · intro p hp; rw [show loopsOf 0 (body Try.f16) = [] by kernel_rfl] at hp; cases hp
  · intro v m' hp
    simp only [front_Front_Open_dec, Option.some.injEq] at hp; subst hp; exact ⟨rfl, rfl⟩

/-! ### geom_Place -/
def geom_Place (k : Nat) (p0 : Int) (p1 : Int) (m : Mem) : Option (Int × Value × Mem) :=
  bif decide (p0 < 0) then (
  some (0, (Value.iface 57 (Value.int .i64 1)), m)) else (
  bif decide (p0 ≥ 12) then (
  some (0, (Value.iface 57 (Value.int .i64 1)), m)) else (
  bif decide (p1 < 0) then (
  some (0, (Value.iface 57 (Value.int .i64 1)), m)) else (
  bif decide (p1 ≥ 8) then (
  some (0, (Value.iface 57 (Value.int .i64 1)), m)) else (
  some (IntKind.wrap .i64 ((IntKind.wrap .i64 (p0 * 8)) + p1), Value.nilIface, m)))))

def geom_Place_call {R : Type} (k : Nat) : Fun R := fun _ _ _ _ => none

theorem geom_Place_callOk {R : Type} (k : Nat) : CallOk Try.prog (geom_Place_call (R := R) k) := by
  intro f vs m K r h
  unfold geom_Place_call at h
  cases h

def geom_Place_loop (k : Nat) : Nat → List Value → Mem → (Nat → List Value → Mem → Option (Int × Value × Mem)) → Option (Int × Value × Mem) := fun _ _ _ _ => none

def geom_Place_C (k : Nat) : Ctx (Int × Value × Mem) := ⟨tt, geom_Place_call k, geom_Place_loop k, [], []⟩

def geom_Place_dec : Value → Mem → Option (Int × Value × Mem) := fun v m => match v with
  | .tuple ⟨[.int .i64 q0, q1]⟩ => some (q0, q1, m)
  | _ => none

theorem geom_Place_eq (k : Nat) (p0 : Int) (p1 : Int) (m : Mem) : fnX (geom_Place_C k) Try.f47 [(Value.int .i64 p0), (Value.int .i64 p1)] m geom_Place_dec = geom_Place k p0 p1 m := by kernel_rfl

theorem geom_Place_ok {k : Nat} {p0 : Int} {p1 : Int} {m : Mem} {r : (Int × Value × Mem)} (h : geom_Place k p0 p1 m = some r) : CallP Try.prog 47 [(Value.int .i64 p0), (Value.int .i64 p1)] m fun v m' => v = (Value.tuple ⟨[(Value.int .i64 r.1), r.2.1]⟩) ∧ m' = r.2.2 := by
  refine (fn_sound (C := geom_Place_C k) (c := body Try.f47) tOk mixed (geom_Place_callOk k) Try.func47 (by kernel_rfl) (by kernel_rfl) (by kernel_rfl) (by kernel_rfl) ?_ (Eq.trans (geom_Place_eq k p0 p1 m) h)).mono ?_
  · intro p hp; rw [show loopsOf 0 (body Try.f47) = [] by kernel_rfl] at hp; cases hp
  · intro v m' hp
    unfold geom_Place_dec at hp
    split at hp
    · simp only [Option.some.injEq] at hp; subst hp; exact ⟨rfl, rfl⟩
    · cases hp

/-! ### geom_is -/
def geom_is (k : Nat) (p0 : Int) (m : Mem) : Option (Bool × Mem) :=
  bif decide (p0 ≥ 0) then (
  some (decide (p0 < 96), m)) else (
  some (false, m))

def geom_is_call {R : Type} (k : Nat) : Fun R := fun _ _ _ _ => none

theorem geom_is_callOk {R : Type} (k : Nat) : CallOk Try.prog (geom_is_call (R := R) k) := by
  intro f vs m K r h
  unfold geom_is_call at h
  cases h

def geom_is_loop (k : Nat) : Nat → List Value → Mem → (Nat → List Value → Mem → Option (Bool × Mem)) → Option (Bool × Mem) := fun _ _ _ _ => none

def geom_is_C (k : Nat) : Ctx (Bool × Mem) := ⟨tt, geom_is_call k, geom_is_loop k, [], []⟩

def geom_is_dec : Value → Mem → Option (Bool × Mem) := fun v m => match v with
  | .bool q0 => some (q0, m)
  | _ => none

theorem geom_is_eq (k : Nat) (p0 : Int) (m : Mem) : fnX (geom_is_C k) Try.f67 [(Value.int .i64 p0)] m geom_is_dec = geom_is k p0 m := by kernel_rfl

theorem geom_is_ok {k : Nat} {p0 : Int} {m : Mem} {r : (Bool × Mem)} (h : geom_is k p0 m = some r) : CallP Try.prog 67 [(Value.int .i64 p0)] m fun v m' => v = (Value.bool r.1) ∧ m' = r.2 := by
  refine (fn_sound (C := geom_is_C k) (c := body Try.f67) tOk mixed (geom_is_callOk k) Try.func67 (by kernel_rfl) (by kernel_rfl) (by kernel_rfl) (by kernel_rfl) ?_ (Eq.trans (geom_is_eq k p0 m) h)).mono ?_
  · intro p hp; rw [show loopsOf 0 (body Try.f67) = [] by kernel_rfl] at hp; cases hp
  · intro v m' hp
    unfold geom_is_dec at hp
    split at hp
    · simp only [Option.some.injEq] at hp; subst hp; exact ⟨rfl, rfl⟩
    · cases hp

/-! ### geom_Holds -/
def geom_Holds (k : Nat) (p0 : Int) (p1 : Int) (m : Mem) : Option (Bool × Value × Mem) :=
  (geom_is k p0 m).bind fun r1 =>
  bif !r1.1 then (
  some (false, (Value.iface 57 (Value.int .i64 1)), r1.2)) else (
  bif decide (p1 < 0) then (
  some (false, (Value.iface 57 (Value.int .i64 1)), r1.2)) else (
  bif decide (p1 > 24) then (
  some (false, (Value.iface 57 (Value.int .i64 1)), r1.2)) else (
  bif p1 == 24 then (
  some (true, Value.nilIface, r1.2)) else (
  some (decide ((Int.tmod p0 8) < 6), Value.nilIface, r1.2)))))

def geom_Holds_call {R : Type} (k : Nat) : Fun R := fun f args m K => match f, args with
  | 67, [.int .i64 p0] => (geom_is k p0 m).bind fun r => K (Value.bool r.1) r.2
  | _, _ => none

theorem geom_Holds_callOk {R : Type} (k : Nat) : CallOk Try.prog (geom_Holds_call (R := R) k) := by
  intro f vs m K r h
  unfold geom_Holds_call at h
  split at h
  · obtain ⟨r, h1, h2⟩ := Option.bind_eq_some_iff.1 h; exact ⟨_, _, h2, fun K' => by simp only [geom_Holds_call, h1, Option.bind_some], geom_is_ok h1⟩
  · cases h

def geom_Holds_loop (k : Nat) : Nat → List Value → Mem → (Nat → List Value → Mem → Option (Bool × Value × Mem)) → Option (Bool × Value × Mem) := fun _ _ _ _ => none

def geom_Holds_C (k : Nat) : Ctx (Bool × Value × Mem) := ⟨tt, geom_Holds_call k, geom_Holds_loop k, [], []⟩

def geom_Holds_dec : Value → Mem → Option (Bool × Value × Mem) := fun v m => match v with
  | .tuple ⟨[.bool q0, q1]⟩ => some (q0, q1, m)
  | _ => none

theorem geom_Holds_eq (k : Nat) (p0 : Int) (p1 : Int) (m : Mem) : fnX (geom_Holds_C k) Try.f48 [(Value.int .i64 p0), (Value.int .i64 p1)] m geom_Holds_dec = geom_Holds k p0 p1 m := by kernel_rfl

theorem geom_Holds_ok {k : Nat} {p0 : Int} {p1 : Int} {m : Mem} {r : (Bool × Value × Mem)} (h : geom_Holds k p0 p1 m = some r) : CallP Try.prog 48 [(Value.int .i64 p0), (Value.int .i64 p1)] m fun v m' => v = (Value.tuple ⟨[(Value.bool r.1), r.2.1]⟩) ∧ m' = r.2.2 := by
  refine (fn_sound (C := geom_Holds_C k) (c := body Try.f48) tOk mixed (geom_Holds_callOk k) Try.func48 (by kernel_rfl) (by kernel_rfl) (by kernel_rfl) (by kernel_rfl) ?_ (Eq.trans (geom_Holds_eq k p0 p1 m) h)).mono ?_
  · intro p hp; rw [show loopsOf 0 (body Try.f48) = [] by kernel_rfl] at hp; cases hp
  · intro v m' hp
    unfold geom_Holds_dec at hp
    split at hp
    · simp only [Option.some.injEq] at hp; subst hp; exact ⟨rfl, rfl⟩
    · cases hp

/-! ### front_Front_Room -/
def front_Front_Room (k : Nat) (p0 : Option Addr) (p1 : Int) (m : Mem) : Option (Bool × Mem) :=
  (p0).bind fun a1 =>
  (ldInt .i64 m (plus a1 1)).bind fun t2 =>
  (p0).bind fun a3 =>
  (ldInt .i64 m (plus a3 2)).bind fun t4 =>
  (geom_Place k t2 t4 m).bind fun r5 =>
  (p0).bind fun a6 =>
  (ldBool r5.2.2 (plus a6 0)).bind fun t7 =>
  bif !t7 then (
  some (false, r5.2.2)) else (
  (isNil r5.2.1).bind fun b8 =>
  bif !b8 then (
  some (false, r5.2.2)) else (
  (geom_Holds k r5.1 p1 r5.2.2).bind fun r9 =>
  bif r9.1 then (
  (isNil r9.2.1).bind fun b10 =>
  some (b10, r9.2.2)) else (
  some (false, r9.2.2))))

def front_Front_Room_call {R : Type} (k : Nat) : Fun R := fun f args m K => match f, args with
  | 47, [.int .i64 p0, .int .i64 p1] => (geom_Place k p0 p1 m).bind fun r => K (Value.tuple ⟨[(Value.int .i64 r.1), r.2.1]⟩) r.2.2
  | 48, [.int .i64 p0, .int .i64 p1] => (geom_Holds k p0 p1 m).bind fun r => K (Value.tuple ⟨[(Value.bool r.1), r.2.1]⟩) r.2.2
  | _, _ => none

theorem front_Front_Room_callOk {R : Type} (k : Nat) : CallOk Try.prog (front_Front_Room_call (R := R) k) := by
  intro f vs m K r h
  unfold front_Front_Room_call at h
  split at h
  · obtain ⟨r, h1, h2⟩ := Option.bind_eq_some_iff.1 h; exact ⟨_, _, h2, fun K' => by simp only [front_Front_Room_call, h1, Option.bind_some], geom_Place_ok h1⟩
  · obtain ⟨r, h1, h2⟩ := Option.bind_eq_some_iff.1 h; exact ⟨_, _, h2, fun K' => by simp only [front_Front_Room_call, h1, Option.bind_some], geom_Holds_ok h1⟩
  · cases h

def front_Front_Room_loop (k : Nat) : Nat → List Value → Mem → (Nat → List Value → Mem → Option (Bool × Mem)) → Option (Bool × Mem) := fun _ _ _ _ => none

def front_Front_Room_C (k : Nat) : Ctx (Bool × Mem) := ⟨tt, front_Front_Room_call k, front_Front_Room_loop k, [], []⟩

def front_Front_Room_dec : Value → Mem → Option (Bool × Mem) := fun v m => match v with
  | .bool q0 => some (q0, m)
  | _ => none

theorem front_Front_Room_eq (k : Nat) (p0 : Option Addr) (p1 : Int) (m : Mem) : fnX (front_Front_Room_C k) Try.f20 [(Value.pointer p0), (Value.int .i64 p1)] m front_Front_Room_dec = front_Front_Room k p0 p1 m := by kernel_rfl

theorem front_Front_Room_ok {k : Nat} {p0 : Option Addr} {p1 : Int} {m : Mem} {r : (Bool × Mem)} (h : front_Front_Room k p0 p1 m = some r) : CallP Try.prog 20 [(Value.pointer p0), (Value.int .i64 p1)] m fun v m' => v = (Value.bool r.1) ∧ m' = r.2 := by
  refine (fn_sound (C := front_Front_Room_C k) (c := body Try.f20) tOk mixed (front_Front_Room_callOk k) Try.func20 (by kernel_rfl) (by kernel_rfl) (by kernel_rfl) (by kernel_rfl) ?_ (Eq.trans (front_Front_Room_eq k p0 p1 m) h)).mono ?_
  · intro p hp; rw [show loopsOf 0 (body Try.f20) = [] by kernel_rfl] at hp; cases hp
  · intro v m' hp
    unfold front_Front_Room_dec at hp
    split at hp
    · simp only [Option.some.injEq] at hp; subst hp; exact ⟨rfl, rfl⟩
    · cases hp

/-! ### front_Front_Take -/
def front_Front_Take (k : Nat) (p0 : Option Addr) (p1 : Int) (m : Mem) : Option (Int × Value × Mem) :=
  bif decide (p1 < 0) then (
  some (0, (Value.iface 57 (Value.int .i64 1)), m)) else (
  bif decide (p1 > 24) then (
  some (0, (Value.iface 57 (Value.int .i64 1)), m)) else (
  (p0).bind fun a1 =>
  (ldBool m (plus a1 0)).bind fun t2 =>
  bif !t2 then (
  some (0, (Value.iface 57 (Value.int .i64 11)), m)) else (
  (front_Front_Room k p0 p1 m).bind fun r3 =>
  bif !r3.1 then (
  some (0, (Value.iface 57 (Value.int .i64 10)), r3.2)) else (
  (p0).bind fun a4 =>
  (ldInt .i64 r3.2 (plus a4 2)).bind fun t5 =>
  (p0).bind fun a6 =>
  (st r3.2 (plus a6 2) (Value.int .i64 (IntKind.wrap .i64 (t5 + 1)))).bind fun m7 =>
  (p0).bind fun a8 =>
  (ldInt .i64 m7 (plus a8 1)).bind fun t9 =>
  (p0).bind fun a10 =>
  (ldInt .i64 m7 (plus a10 2)).bind fun t11 =>
  (geom_Place k t9 (IntKind.wrap .i64 (t11 - 1)) m7).bind fun r12 =>
  some (r12.1, r12.2.1, r12.2.2)))))

def front_Front_Take_call {R : Type} (k : Nat) : Fun R := fun f args m K => match f, args with
  | 20, [.pointer p0, .int .i64 p1] => (front_Front_Room k p0 p1 m).bind fun r => K (Value.bool r.1) r.2
  | 47, [.int .i64 p0, .int .i64 p1] => (geom_Place k p0 p1 m).bind fun r => K (Value.tuple ⟨[(Value.int .i64 r.1), r.2.1]⟩) r.2.2
  | _, _ => none

theorem front_Front_Take_callOk {R : Type} (k : Nat) : CallOk Try.prog (front_Front_Take_call (R := R) k) := by
  intro f vs m K r h
  unfold front_Front_Take_call at h
  split at h
  · obtain ⟨r, h1, h2⟩ := Option.bind_eq_some_iff.1 h; exact ⟨_, _, h2, fun K' => by simp only [front_Front_Take_call, h1, Option.bind_some], front_Front_Room_ok h1⟩
  · obtain ⟨r, h1, h2⟩ := Option.bind_eq_some_iff.1 h; exact ⟨_, _, h2, fun K' => by simp only [front_Front_Take_call, h1, Option.bind_some], geom_Place_ok h1⟩
  · cases h

def front_Front_Take_loop (k : Nat) : Nat → List Value → Mem → (Nat → List Value → Mem → Option (Int × Value × Mem)) → Option (Int × Value × Mem) := fun _ _ _ _ => none

def front_Front_Take_C (k : Nat) : Ctx (Int × Value × Mem) := ⟨tt, front_Front_Take_call k, front_Front_Take_loop k, [], []⟩

def front_Front_Take_dec : Value → Mem → Option (Int × Value × Mem) := fun v m => match v with
  | .tuple ⟨[.int .i64 q0, q1]⟩ => some (q0, q1, m)
  | _ => none

theorem front_Front_Take_eq (k : Nat) (p0 : Option Addr) (p1 : Int) (m : Mem) : fnX (front_Front_Take_C k) Try.f18 [(Value.pointer p0), (Value.int .i64 p1)] m front_Front_Take_dec = front_Front_Take k p0 p1 m := by kernel_rfl

theorem front_Front_Take_ok {k : Nat} {p0 : Option Addr} {p1 : Int} {m : Mem} {r : (Int × Value × Mem)} (h : front_Front_Take k p0 p1 m = some r) : CallP Try.prog 18 [(Value.pointer p0), (Value.int .i64 p1)] m fun v m' => v = (Value.tuple ⟨[(Value.int .i64 r.1), r.2.1]⟩) ∧ m' = r.2.2 := by
  refine (fn_sound (C := front_Front_Take_C k) (c := body Try.f18) tOk mixed (front_Front_Take_callOk k) Try.func18 (by kernel_rfl) (by kernel_rfl) (by kernel_rfl) (by kernel_rfl) ?_ (Eq.trans (front_Front_Take_eq k p0 p1 m) h)).mono ?_
  · intro p hp; rw [show loopsOf 0 (body Try.f18) = [] by kernel_rfl] at hp; cases hp
  · intro v m' hp
    unfold front_Front_Take_dec at hp
    split at hp
    · simp only [Option.some.injEq] at hp; subst hp; exact ⟨rfl, rfl⟩
    · cases hp

/-! ### front_Front_Block -/
def front_Front_Block (k : Nat) (p0 : Option Addr) (m : Mem) : Option (Int × Mem) :=
  (p0).bind fun a1 =>
  (ldBool m (plus a1 0)).bind fun t2 =>
  bif !t2 then (
  some ((-1), m)) else (
  (p0).bind fun a3 =>
  (ldInt .i64 m (plus a3 1)).bind fun t4 =>
  some (t4, m))

def front_Front_Block_call {R : Type} (k : Nat) : Fun R := fun _ _ _ _ => none

theorem front_Front_Block_callOk {R : Type} (k : Nat) : CallOk Try.prog (front_Front_Block_call (R := R) k) := by
  intro f vs m K r h
  unfold front_Front_Block_call at h
  cases h

def front_Front_Block_loop (k : Nat) : Nat → List Value → Mem → (Nat → List Value → Mem → Option (Int × Mem)) → Option (Int × Mem) := fun _ _ _ _ => none

def front_Front_Block_C (k : Nat) : Ctx (Int × Mem) := ⟨tt, front_Front_Block_call k, front_Front_Block_loop k, [], []⟩

def front_Front_Block_dec : Value → Mem → Option (Int × Mem) := fun v m => match v with
  | .int .i64 q0 => some (q0, m)
  | _ => none

theorem front_Front_Block_eq (k : Nat) (p0 : Option Addr) (m : Mem) : fnX (front_Front_Block_C k) Try.f23 [(Value.pointer p0)] m front_Front_Block_dec = front_Front_Block k p0 m := by kernel_rfl

theorem front_Front_Block_ok {k : Nat} {p0 : Option Addr} {m : Mem} {r : (Int × Mem)} (h : front_Front_Block k p0 m = some r) : CallP Try.prog 23 [(Value.pointer p0)] m fun v m' => v = (Value.int .i64 r.1) ∧ m' = r.2 := by
  refine (fn_sound (C := front_Front_Block_C k) (c := body Try.f23) tOk mixed (front_Front_Block_callOk k) Try.func23 (by kernel_rfl) (by kernel_rfl) (by kernel_rfl) (by kernel_rfl) ?_ (Eq.trans (front_Front_Block_eq k p0 m) h)).mono ?_
  · intro p hp; rw [show loopsOf 0 (body Try.f23) = [] by kernel_rfl] at hp; cases hp
  · intro v m' hp
    unfold front_Front_Block_dec at hp
    split at hp
    · simp only [Option.some.injEq] at hp; subst hp; exact ⟨rfl, rfl⟩
    · cases hp

/-! ### patinalaw13_up -/
def patinalaw13_up (k : Nat) (m : Mem) : Option (Bool × Mem) :=
  bif Nat.beq (List.length ((tt 41).zero)) 3 then (
  let m1 : Mem := m ++ [.live ((tt 41).zero)]
  (front_Front_Block k (some ⟨List.length m, 0, Option.none⟩) m1).bind fun r2 =>
  (front_Front_Open k (some ⟨List.length m, 0, Option.none⟩) 2 5 r2.2).bind fun r3 =>
  (front_Front_Take k (some ⟨List.length m, 0, Option.none⟩) 3 r3.2).bind fun r4 =>
  (front_Front_Take k (some ⟨List.length m, 0, Option.none⟩) 3 r4.2.2).bind fun r5 =>
  (front_Front_Take k (some ⟨List.length m, 0, Option.none⟩) 24 r5.2.2).bind fun r6 =>
  bif r2.1 == (-1) then (
  (isNil r3.1).bind fun b7 =>
  bif b7 then (
  bif r4.1 == 21 then (
  (isNil r4.2.1).bind fun b8 =>
  bif b8 then (
  (ifEq tt r5.2.1 (Value.iface 57 (Value.int .i64 10))).bind fun b9 =>
  bif b9 then (
  bif r6.1 == 22 then (
  (isNil r6.2.1).bind fun b10 =>
  some (b10, r6.2.2)) else (
  some (false, r6.2.2))) else (
  some (false, r6.2.2))) else (
  some (false, r6.2.2))) else (
  some (false, r6.2.2))) else (
  some (false, r6.2.2))) else (
  some (false, r6.2.2))) else none

def patinalaw13_up_call {R : Type} (k : Nat) : Fun R := fun f args m K => match f, args with
  | 16, [.pointer p0, .int .i64 p1, .int .i64 p2] => (front_Front_Open k p0 p1 p2 m).bind fun r => K r.1 r.2
  | 18, [.pointer p0, .int .i64 p1] => (front_Front_Take k p0 p1 m).bind fun r => K (Value.tuple ⟨[(Value.int .i64 r.1), r.2.1]⟩) r.2.2
  | 23, [.pointer p0] => (front_Front_Block k p0 m).bind fun r => K (Value.int .i64 r.1) r.2
  | _, _ => none

theorem patinalaw13_up_callOk {R : Type} (k : Nat) : CallOk Try.prog (patinalaw13_up_call (R := R) k) := by
  intro f vs m K r h
  unfold patinalaw13_up_call at h
  split at h
  · obtain ⟨r, h1, h2⟩ := Option.bind_eq_some_iff.1 h; exact ⟨_, _, h2, fun K' => by simp only [patinalaw13_up_call, h1, Option.bind_some], front_Front_Open_ok h1⟩
  · obtain ⟨r, h1, h2⟩ := Option.bind_eq_some_iff.1 h; exact ⟨_, _, h2, fun K' => by simp only [patinalaw13_up_call, h1, Option.bind_some], front_Front_Take_ok h1⟩
  · obtain ⟨r, h1, h2⟩ := Option.bind_eq_some_iff.1 h; exact ⟨_, _, h2, fun K' => by simp only [patinalaw13_up_call, h1, Option.bind_some], front_Front_Block_ok h1⟩
  · cases h

def patinalaw13_up_loop (k : Nat) : Nat → List Value → Mem → (Nat → List Value → Mem → Option (Bool × Mem)) → Option (Bool × Mem) := fun _ _ _ _ => none

def patinalaw13_up_C (k : Nat) : Ctx (Bool × Mem) := ⟨tt, patinalaw13_up_call k, patinalaw13_up_loop k, [], []⟩

def patinalaw13_up_dec : Value → Mem → Option (Bool × Mem) := fun v m => match v with
  | .bool q0 => some (q0, m)
  | _ => none

theorem patinalaw13_up_eq (k : Nat) (m : Mem) : fnX (patinalaw13_up_C k) Try.f14 [] m patinalaw13_up_dec = patinalaw13_up k  m := by kernel_rfl

theorem patinalaw13_up_ok {k : Nat} {m : Mem} {r : (Bool × Mem)} (h : patinalaw13_up k  m = some r) : CallP Try.prog 14 [] m fun v m' => v = (Value.bool r.1) ∧ m' = r.2 := by
  refine (fn_sound (C := patinalaw13_up_C k) (c := body Try.f14) tOk mixed (patinalaw13_up_callOk k) Try.func14 (by kernel_rfl) (by kernel_rfl) (by kernel_rfl) (by kernel_rfl) ?_ (Eq.trans (patinalaw13_up_eq k  m) h)).mono ?_
  · intro p hp; rw [show loopsOf 0 (body Try.f14) = [] by kernel_rfl] at hp; cases hp
  · intro v m' hp
    unfold patinalaw13_up_dec at hp
    split at hp
    · simp only [Option.some.injEq] at hp; subst hp; exact ⟨rfl, rfl⟩
    · cases hp

/-! ### patinalaw13_pick -/
def patinalaw13_pick_j1 (k : Nat) (p1 : Int) (x0_ : Int) (mj : Mem) : Option (Int × Mem) :=
  bif isZero p1 then none else (
  some (Int.tmod x0_ p1, mj))

def patinalaw13_pick (k : Nat) (p0 : Int) (p1 : Int) (m : Mem) : Option (Int × Mem) :=
  bif decide (p0 < 0) then (
  patinalaw13_pick_j1 k p1 (IntKind.wrap .i64 (0 - (IntKind.wrap .i64 (p0 + 1)))) m) else (
  patinalaw13_pick_j1 k p1 p0 m)

def patinalaw13_pick_call {R : Type} (k : Nat) : Fun R := fun _ _ _ _ => none

theorem patinalaw13_pick_callOk {R : Type} (k : Nat) : CallOk Try.prog (patinalaw13_pick_call (R := R) k) := by
  intro f vs m K r h
  unfold patinalaw13_pick_call at h
  cases h

def patinalaw13_pick_loop (k : Nat) : Nat → List Value → Mem → (Nat → List Value → Mem → Option (Int × Mem)) → Option (Int × Mem) := fun _ _ _ _ => none

def patinalaw13_pick_C (k : Nat) : Ctx (Int × Mem) := ⟨tt, patinalaw13_pick_call k, patinalaw13_pick_loop k, [], []⟩

def patinalaw13_pick_dec : Value → Mem → Option (Int × Mem) := fun v m => match v with
  | .int .i64 q0 => some (q0, m)
  | _ => none

theorem patinalaw13_pick_eq (k : Nat) (p0 : Int) (p1 : Int) (m : Mem) : fnX (patinalaw13_pick_C k) Try.f15 [(Value.int .i64 p0), (Value.int .i64 p1)] m patinalaw13_pick_dec = patinalaw13_pick k p0 p1 m := by kernel_rfl

theorem patinalaw13_pick_ok {k : Nat} {p0 : Int} {p1 : Int} {m : Mem} {r : (Int × Mem)} (h : patinalaw13_pick k p0 p1 m = some r) : CallP Try.prog 15 [(Value.int .i64 p0), (Value.int .i64 p1)] m fun v m' => v = (Value.int .i64 r.1) ∧ m' = r.2 := by
  refine (fn_sound (C := patinalaw13_pick_C k) (c := body Try.f15) tOk mixed (patinalaw13_pick_callOk k) Try.func15 (by kernel_rfl) (by kernel_rfl) (by kernel_rfl) (by kernel_rfl) ?_ (Eq.trans (patinalaw13_pick_eq k p0 p1 m) h)).mono ?_
  · intro p hp; rw [show loopsOf 0 (body Try.f15) = [] by kernel_rfl] at hp; cases hp
  · intro v m' hp
    unfold patinalaw13_pick_dec at hp
    split at hp
    · simp only [Option.some.injEq] at hp; subst hp; exact ⟨rfl, rfl⟩
    · cases hp

/-! ### front_Front_Close -/
def front_Front_Close (k : Nat) (p0 : Option Addr) (m : Mem) : Option Mem :=
  (p0).bind fun a1 =>
  bif Nat.beq (List.length ((tt 41).zero)) 3 then (
  (stCells m a1 ((tt 41).zero)).bind fun m2 =>
  some (m2)) else none

def front_Front_Close_call {R : Type} (k : Nat) : Fun R := fun _ _ _ _ => none

theorem front_Front_Close_callOk {R : Type} (k : Nat) : CallOk Try.prog (front_Front_Close_call (R := R) k) := by
  intro f vs m K r h
  unfold front_Front_Close_call at h
  cases h

def front_Front_Close_loop (k : Nat) : Nat → List Value → Mem → (Nat → List Value → Mem → Option Mem) → Option Mem := fun _ _ _ _ => none

def front_Front_Close_C (k : Nat) : Ctx Mem := ⟨tt, front_Front_Close_call k, front_Front_Close_loop k, [], []⟩

def front_Front_Close_dec : Value → Mem → Option Mem := fun v m => match v with
  | .tuple ⟨[]⟩ => some (m)
  | _ => none

theorem front_Front_Close_eq (k : Nat) (p0 : Option Addr) (m : Mem) : fnX (front_Front_Close_C k) Try.f22 [(Value.pointer p0)] m front_Front_Close_dec = front_Front_Close k p0 m := by kernel_rfl

theorem front_Front_Close_ok {k : Nat} {p0 : Option Addr} {m : Mem} {r : Mem} (h : front_Front_Close k p0 m = some r) : CallP Try.prog 22 [(Value.pointer p0)] m fun v m' => v = (Value.tuple ⟨[]⟩) ∧ m' = r := by
  refine (fn_sound (C := front_Front_Close_C k) (c := body Try.f22) tOk mixed (front_Front_Close_callOk k) Try.func22 (by kernel_rfl) (by kernel_rfl) (by kernel_rfl) (by kernel_rfl) ?_ (Eq.trans (front_Front_Close_eq k p0 m) h)).mono ?_
  · intro p hp; rw [show loopsOf 0 (body Try.f22) = [] by kernel_rfl] at hp; cases hp
  · intro v m' hp
    unfold front_Front_Close_dec at hp
    split at hp
    · simp only [Option.some.injEq] at hp; subst hp; exact ⟨rfl, rfl⟩
    · cases hp

/-! ### patinalaw13_FrontFills -/
def patinalaw13_FrontFills_j1 (k : Nat) (x2a : Option Addr) (x2n : Nat) (x2c : Nat) (x8 : Addr) (x9 : Int) (x12 : Int) (nx : Option Addr → Nat → Nat → Addr → Int → Int → Int → Mem → Option (Bool × Mem)) (x10_ : Int) (mj : Mem) : Option (Bool × Mem) :=
  nx x2a x2n x2c x8 x9 x10_ (IntKind.wrap .i64 (x12 + 1)) mj

def patinalaw13_FrontFills_j3 (k : Nat) (x2a : Option Addr) (x2n : Nat) (x2c : Nat) (x8 : Addr) (x9 : Int) (x10 : Int) (x12 : Int) (nx : Option Addr → Nat → Nat → Addr → Int → Int → Int → Mem → Option (Bool × Mem)) (r10 : Bool × Mem) (mj : Mem) : Option (Bool × Mem) :=
  bif r10.1 then (
  patinalaw13_FrontFills_j1 k x2a x2n x2c x8 x9 x12 nx (IntKind.wrap .i64 (x10 + 1)) mj) else (
  patinalaw13_FrontFills_j1 k x2a x2n x2c x8 x9 x12 nx x10 mj)

def patinalaw13_FrontFills_j2 (k : Nat) (x2a : Option Addr) (x2n : Nat) (x2c : Nat) (x8 : Addr) (x9 : Int) (x10 : Int) (x12 : Int) (nx : Option Addr → Nat → Nat → Addr → Int → Int → Int → Mem → Option (Bool × Mem)) (kx0 : Bool → Mem → Option (Bool × Mem)) (r9 : Int × Mem) (r10 : Bool × Mem) (mj : Mem) : Option (Bool × Mem) :=
  bif !r10.1 then (
  bif r9.1 == 24 then (
  bif decide (x10 < 8) then (
  kx0 false mj) else (
  bif !r10.1 then (
  bif decide (x10 < 6) then (
  kx0 false mj) else (
  patinalaw13_FrontFills_j3 k x2a x2n x2c x8 x9 x10 x12 nx r10 mj)) else (
  patinalaw13_FrontFills_j3 k x2a x2n x2c x8 x9 x10 x12 nx r10 mj))) else (
  bif !r10.1 then (
  bif decide (x10 < 6) then (
  kx0 false mj) else (
  patinalaw13_FrontFills_j3 k x2a x2n x2c x8 x9 x10 x12 nx r10 mj)) else (
  patinalaw13_FrontFills_j3 k x2a x2n x2c x8 x9 x10 x12 nx r10 mj))) else (
  bif !r10.1 then (
  bif decide (x10 < 6) then (
  kx0 false mj) else (
  patinalaw13_FrontFills_j3 k x2a x2n x2c x8 x9 x10 x12 nx r10 mj)) else (
  patinalaw13_FrontFills_j3 k x2a x2n x2c x8 x9 x10 x12 nx r10 mj))

def patinalaw13_FrontFills_l0_b (k : Nat) (nx : Option Addr → Nat → Nat → Addr → Int → Int → Int → Mem → Option (Bool × Mem)) (kx0 : Bool → Mem → Option (Bool × Mem)) (kx2 : Addr → Mem → Option (Bool × Mem)) (x2a : Option Addr) (x2n : Nat) (x2c : Nat) (x8 : Addr) (x9 : Int) (x10 : Int) (x12 : Int) (m : Mem) : Option (Bool × Mem) :=
  bif decide (x12 < ((x2n : Nat) : Int)) then (
  bif inRange x12 x2n then (
  (x2a).bind fun a7 =>
  (ldInt .i64 m (plus a7 (Int.toNat x12 * 1))).bind fun t8 =>
  (patinalaw13_pick k t8 25 m).bind fun r9 =>
  (front_Front_Room k (some x8) r9.1 r9.2).bind fun r10 =>
  (front_Front_Take k (some x8) r9.1 r10.2).bind fun r11 =>
  (isNil r11.2.1).bind fun b12 =>
  bif !(r10.1 == b12) then (
  kx0 false r11.2.2) else (
  (isNil r11.2.1).bind fun b13 =>
  bif b13 then (
  bif r11.1 != (IntKind.wrap .i64 ((IntKind.wrap .i64 (x9 * 8)) + x10)) then (
  kx0 false r11.2.2) else (
  bif decide (r9.1 < 24) then (
  bif decide (x10 ≥ 6) then (
  kx0 false r11.2.2) else (
  (isNil r11.2.1).bind fun b14 =>
  bif !b14 then (
  (ifEq tt r11.2.1 (Value.iface 57 (Value.int .i64 10))).bind fun b15 =>
  bif !b15 then (
  kx0 false r11.2.2) else (
  bif r11.1 != 0 then (
  kx0 false r11.2.2) else (
  patinalaw13_FrontFills_j2 k x2a x2n x2c x8 x9 x10 x12 nx kx0 r9 r10 r11.2.2))) else (
  patinalaw13_FrontFills_j2 k x2a x2n x2c x8 x9 x10 x12 nx kx0 r9 r10 r11.2.2))) else (
  (isNil r11.2.1).bind fun b16 =>
  bif !b16 then (
  (ifEq tt r11.2.1 (Value.iface 57 (Value.int .i64 10))).bind fun b17 =>
  bif !b17 then (
  kx0 false r11.2.2) else (
  bif r11.1 != 0 then (
  kx0 false r11.2.2) else (
  patinalaw13_FrontFills_j2 k x2a x2n x2c x8 x9 x10 x12 nx kx0 r9 r10 r11.2.2))) else (
  patinalaw13_FrontFills_j2 k x2a x2n x2c x8 x9 x10 x12 nx kx0 r9 r10 r11.2.2)))) else (
  (isNil r11.2.1).bind fun b18 =>
  bif !b18 then (
  (ifEq tt r11.2.1 (Value.iface 57 (Value.int .i64 10))).bind fun b19 =>
  bif !b19 then (
  kx0 false r11.2.2) else (
  bif r11.1 != 0 then (
  kx0 false r11.2.2) else (
  patinalaw13_FrontFills_j2 k x2a x2n x2c x8 x9 x10 x12 nx kx0 r9 r10 r11.2.2))) else (
  patinalaw13_FrontFills_j2 k x2a x2n x2c x8 x9 x10 x12 nx kx0 r9 r10 r11.2.2)))) else none) else (
  kx2 x8 m)

def patinalaw13_FrontFills_l0 (k : Nat) (kx0 : Bool → Mem → Option (Bool × Mem)) (kx2 : Addr → Mem → Option (Bool × Mem)) : Nat → Option Addr → Nat → Nat → Addr → Int → Int → Int → Mem → Option (Bool × Mem)
  | 0, _, _, _, _, _, _, _, _ => none
  | n + 1, x2a, x2n, x2c, x8, x9, x10, x12, m => patinalaw13_FrontFills_l0_b k (fun x2a x2n x2c x8 x9 x10 x12 m => patinalaw13_FrontFills_l0 k kx0 kx2 n x2a x2n x2c x8 x9 x10 x12 m) kx0 kx2 x2a x2n x2c x8 x9 x10 x12 m

def patinalaw13_FrontFills (k : Nat) (p0 : Int) (p1 : Int) (p2a : Option Addr) (p2n : Nat) (p2c : Nat) (m : Mem) : Option (Bool × Mem) :=
  (patinalaw13_up k  m).bind fun r1 =>
  bif Nat.beq (List.length ((tt 41).zero)) 3 then (
  let m2 : Mem := r1.2 ++ [.live ((tt 41).zero)]
  (patinalaw13_pick k p0 12 m2).bind fun r3 =>
  (patinalaw13_pick k p1 9 r3.2).bind fun r4 =>
  (front_Front_Open k (some ⟨List.length r1.2, 0, Option.none⟩) r3.1 r4.1 r4.2).bind fun r5 =>
  bif !r1.1 then (
  some (false, r5.2)) else (
  (isNil r5.1).bind fun b6 =>
  bif !b6 then (
  some (false, r5.2)) else (
  patinalaw13_FrontFills_l0 k (fun y6 m20 => 
  some (y6, m20)) (fun y8 m21 => 
  (front_Front_Close k (some y8) m21).bind fun r22 =>
  (front_Front_Block k (some y8) r22).bind fun r23 =>
  bif r23.1 == (-1) then (
  (front_Front_Room k (some y8) 0 r23.2).bind fun r24 =>
  bif !r24.1 then (
  (front_Front_Room k (some y8) 24 r24.2).bind fun r25 =>
  some (!r25.1, r25.2)) else (
  some (false, r24.2))) else (
  some (false, r23.2))) k p2a p2n p2c ⟨List.length r1.2, 0, Option.none⟩ r3.1 r4.1 0 r5.2))) else none

def patinalaw13_FrontFills_call {R : Type} (k : Nat) : Fun R := fun f args m K => match f, args with
  | 14, [] => (patinalaw13_up k  m).bind fun r => K (Value.bool r.1) r.2
  | 15, [.int .i64 p0, .int .i64 p1] => (patinalaw13_pick k p0 p1 m).bind fun r => K (Value.int .i64 r.1) r.2
  | 16, [.pointer p0, .int .i64 p1, .int .i64 p2] => (front_Front_Open k p0 p1 p2 m).bind fun r => K r.1 r.2
  | 18, [.pointer p0, .int .i64 p1] => (front_Front_Take k p0 p1 m).bind fun r => K (Value.tuple ⟨[(Value.int .i64 r.1), r.2.1]⟩) r.2.2
  | 20, [.pointer p0, .int .i64 p1] => (front_Front_Room k p0 p1 m).bind fun r => K (Value.bool r.1) r.2
  | 22, [.pointer p0] => (front_Front_Close k p0 m).bind fun r => K (Value.tuple ⟨[]⟩) r
  | 23, [.pointer p0] => (front_Front_Block k p0 m).bind fun r => K (Value.int .i64 r.1) r.2
  | _, _ => none

theorem patinalaw13_FrontFills_callOk {R : Type} (k : Nat) : CallOk Try.prog (patinalaw13_FrontFills_call (R := R) k) := by
  intro f vs m K r h
  unfold patinalaw13_FrontFills_call at h
  split at h
  · obtain ⟨r, h1, h2⟩ := Option.bind_eq_some_iff.1 h; exact ⟨_, _, h2, fun K' => by simp only [patinalaw13_FrontFills_call, h1, Option.bind_some], patinalaw13_up_ok h1⟩
  · obtain ⟨r, h1, h2⟩ := Option.bind_eq_some_iff.1 h; exact ⟨_, _, h2, fun K' => by simp only [patinalaw13_FrontFills_call, h1, Option.bind_some], patinalaw13_pick_ok h1⟩
  · obtain ⟨r, h1, h2⟩ := Option.bind_eq_some_iff.1 h; exact ⟨_, _, h2, fun K' => by simp only [patinalaw13_FrontFills_call, h1, Option.bind_some], front_Front_Open_ok h1⟩
  · obtain ⟨r, h1, h2⟩ := Option.bind_eq_some_iff.1 h; exact ⟨_, _, h2, fun K' => by simp only [patinalaw13_FrontFills_call, h1, Option.bind_some], front_Front_Take_ok h1⟩
  · obtain ⟨r, h1, h2⟩ := Option.bind_eq_some_iff.1 h; exact ⟨_, _, h2, fun K' => by simp only [patinalaw13_FrontFills_call, h1, Option.bind_some], front_Front_Room_ok h1⟩
  · obtain ⟨r, h1, h2⟩ := Option.bind_eq_some_iff.1 h; exact ⟨_, _, h2, fun K' => by simp only [patinalaw13_FrontFills_call, h1, Option.bind_some], front_Front_Close_ok h1⟩
  · obtain ⟨r, h1, h2⟩ := Option.bind_eq_some_iff.1 h; exact ⟨_, _, h2, fun K' => by simp only [patinalaw13_FrontFills_call, h1, Option.bind_some], front_Front_Block_ok h1⟩
  · cases h

def patinalaw13_FrontFills_l0_L (k : Nat) (K : Nat → List Value → Mem → Option (Bool × Mem)) (n : Nat) (vs : List Value) (m : Mem) : Option (Bool × Mem) := match vs with
  | [.slice x2a x2n x2c, .pointer (some x8), .int .i64 x9, .int .i64 x10, .int .i64 x12] => patinalaw13_FrontFills_l0 k (fun y6 m => K 0 [(Value.bool y6)] m) (fun y8 m => K 2 [(Value.pointer (some y8))] m) n x2a x2n x2c x8 x9 x10 x12 m
  | _ => none

def patinalaw13_FrontFills_loop (k : Nat) : Nat → List Value → Mem → (Nat → List Value → Mem → Option (Bool × Mem)) → Option (Bool × Mem) := fun cur vs m K => match cur with
  | 0 => patinalaw13_FrontFills_l0_L k K k vs m
  | _ => none

def patinalaw13_FrontFills_C (k : Nat) : Ctx (Bool × Mem) := ⟨tt, patinalaw13_FrontFills_call k, patinalaw13_FrontFills_loop k, [(0, [2, 8, 9, 10, 12])], [(0, [6]), (2, [8])]⟩

noncomputable def patinalaw13_FrontFills_l0_c : Code := ((loopsOf 0 (body Try.f5)).map (·.2)).getD 0 .skip

theorem patinalaw13_FrontFills_loops : loopsOf 0 (body Try.f5) = [(0, patinalaw13_FrontFills_l0_c)] := by kernel_rfl

theorem patinalaw13_FrontFills_l0_ok (k : Nat) : LoopOk (patinalaw13_FrontFills_C k) 0 patinalaw13_FrontFills_l0_c := by
  refine ⟨[2, 8, 9, 10, 12], by kernel_rfl, fun K r => ⟨patinalaw13_FrontFills_l0_L k K, fun vs m h => ⟨k, h⟩, ?_⟩⟩
  intro n vs m h
  unfold patinalaw13_FrontFills_l0_L at h
  split at h
  · cases n with
    | zero => cases h
    | succ n => exact ⟨n, rfl, Eq.trans (by kernel_rfl) h⟩
  · cases h

def patinalaw13_FrontFills_dec : Value → Mem → Option (Bool × Mem) := fun v m => match v with
  | .bool q0 => some (q0, m)
  | _ => none

theorem patinalaw13_FrontFills_eq (k : Nat) (p0 : Int) (p1 : Int) (p2a : Option Addr) (p2n : Nat) (p2c : Nat) (m : Mem) : fnX (patinalaw13_FrontFills_C k) Try.f5 [(Value.int .i64 p0), (Value.int .i64 p1), (Value.slice p2a p2n p2c)] m patinalaw13_FrontFills_dec = patinalaw13_FrontFills k p0 p1 p2a p2n p2c m := by kernel_rfl

theorem patinalaw13_FrontFills_ok {k : Nat} {p0 : Int} {p1 : Int} {p2a : Option Addr} {p2n : Nat} {p2c : Nat} {m : Mem} {r : (Bool × Mem)} (h : patinalaw13_FrontFills k p0 p1 p2a p2n p2c m = some r) : CallP Try.prog 5 [(Value.int .i64 p0), (Value.int .i64 p1), (Value.slice p2a p2n p2c)] m fun v m' => v = (Value.bool r.1) ∧ m' = r.2 := by
  refine (fn_sound (C := patinalaw13_FrontFills_C k) (c := body Try.f5) tOk mixed (patinalaw13_FrontFills_callOk k) Try.func5 (by kernel_rfl) (by kernel_rfl) (by kernel_rfl) (by kernel_rfl) ?_ (Eq.trans (patinalaw13_FrontFills_eq k p0 p1 p2a p2n p2c m) h)).mono ?_
  · intro p hp
    rw [patinalaw13_FrontFills_loops] at hp
    simp only [List.mem_cons, List.not_mem_nil, or_false] at hp
    rcases hp with rfl
    · exact patinalaw13_FrontFills_l0_ok k
  · intro v m' hp
    unfold patinalaw13_FrontFills_dec at hp
    split at hp
    · simp only [Option.some.injEq] at hp; subst hp; exact ⟨rfl, rfl⟩
    · cases hp

end Go.Proofs.Ytnilidpafijdlab
