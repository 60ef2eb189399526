/- The program's functions as plain Lean functions over a clean memory, each held against the program by the kernel. Written by mx.py. -/
import Derived.Test.YtnilidpafijdlabProg
import Derived.Test.YtnilidpafijdlabMxTab
set_option linter.unusedVariables false
set_option maxRecDepth 100000
namespace Go.Proofs.Ytnilidpafijdlab
open Go.Mx

def tt : TT := tabT [(3, ⟨.int .i64, 1, 8, [.int .i64 0]⟩),
  (4, ⟨.bool, 1, 1, [.bool false]⟩),
  (30, ⟨.iface, 1, 16, [.nilIface]⟩),
  (38, ⟨.slice 46, 1, 24, [.slice none 0 0]⟩),
  (39, ⟨.ptr 41, 1, 8, [.pointer none]⟩),
  (41, ⟨.struct [(4, 0), (3, 1), (3, 2)], 3, 24, ([.bool false] ++ [.int .i64 0] ++ [.int .i64 0])⟩),
  (42, ⟨.ptr 44, 1, 8, [.pointer none]⟩),
  (44, ⟨.struct [(4, 0), (3, 1), (3, 2)], 3, 24, ([.bool false] ++ [.int .i64 0] ++ [.int .i64 0])⟩),
  (46, ⟨.struct [(3, 0), (3, 1), (3, 2)], 3, 24, ([.int .i64 0] ++ [.int .i64 0] ++ [.int .i64 0])⟩),
  (57, ⟨.int .i64, 1, 8, [.int .i64 0]⟩)]

theorem tOk : TOk Try.prog tt := tabT_ok (by kernel_rfl)

theorem mixed : Try.prog.follows .mixedOrders = true := by kernel_rfl

/-! ### patinalaw00_further -/
def patinalaw00_further (k : Nat) (p0 : Value) (m : Mem) : Option (Int × Mem) :=
  (ifEq tt p0 (Value.iface 57 (Value.int .i64 12))).bind fun b1 =>
  bif b1 then (
  some (12, m)) else (
  (ifEq tt p0 (Value.iface 57 (Value.int .i64 13))).bind fun b2 =>
  bif b2 then (
  some (13, m)) else (
  (ifEq tt p0 (Value.iface 57 (Value.int .i64 14))).bind fun b3 =>
  bif b3 then (
  some (14, m)) else (
  (ifEq tt p0 (Value.iface 57 (Value.int .i64 15))).bind fun b4 =>
  bif b4 then (
  some (15, m)) else (
  (ifEq tt p0 (Value.iface 57 (Value.int .i64 16))).bind fun b5 =>
  bif b5 then (
  some (16, m)) else (
  (ifEq tt p0 (Value.iface 57 (Value.int .i64 17))).bind fun b6 =>
  bif b6 then (
  some (17, m)) else (
  (ifEq tt p0 (Value.iface 57 (Value.int .i64 18))).bind fun b7 =>
  bif b7 then (
  some (18, m)) else (
  (ifEq tt p0 (Value.iface 57 (Value.int .i64 19))).bind fun b8 =>
  bif b8 then (
  some (19, m)) else (
  some ((-1), m)))))))))

def patinalaw00_further_call {R : Type} (k : Nat) : Fun R := fun _ _ _ _ => none

theorem patinalaw00_further_callOk {R : Type} (k : Nat) : CallOk Try.prog (patinalaw00_further_call (R := R) k) := by
  intro f vs m K r h
  unfold patinalaw00_further_call at h
  cases h

def patinalaw00_further_loop (k : Nat) : Nat → List Value → Mem → (Nat → List Value → Mem → Option (Int × Mem)) → Option (Int × Mem) := fun _ _ _ _ => none

def patinalaw00_further_C (k : Nat) : Ctx (Int × Mem) := ⟨tt, patinalaw00_further_call k, patinalaw00_further_loop k, [], []⟩

def patinalaw00_further_dec : Value → Mem → Option (Int × Mem) := fun v m => match v with
  | .int .i64 q0 => some (q0, m)
  | _ => none

theorem patinalaw00_further_eq (k : Nat) (p0 : Value) (m : Mem) : fnX (patinalaw00_further_C k) Try.f46 [p0] m patinalaw00_further_dec = patinalaw00_further k p0 m := by kernel_rfl

theorem patinalaw00_further_ok {k : Nat} {p0 : Value} {m : Mem} {r : (Int × Mem)} (h : patinalaw00_further k p0 m = some r) : CallP Try.prog 46 [p0] m fun v m' => v = (Value.int .i64 r.1) ∧ m' = r.2 := by
  refine (fn_sound (C := patinalaw00_further_C k) (c := body Try.f46) tOk mixed (patinalaw00_further_callOk k) Try.func46 (by kernel_rfl) (by kernel_rfl) (by kernel_rfl) (by kernel_rfl) ?_ (Eq.trans (patinalaw00_further_eq k p0 m) h)).mono ?_
  · intro p hp; rw [show loopsOf 0 (body Try.f46) = [] by kernel_rfl] at hp; cases hp
  · intro v m' hp
    unfold patinalaw00_further_dec at hp
    split at hp
    · simp only [Option.some.injEq] at hp; subst hp; exact ⟨rfl, rfl⟩
    · cases hp

/-! ### patinalaw00_Code -/
def patinalaw00_Code (k : Nat) (p0 : Value) (m : Mem) : Option (Int × Mem) :=
  (isNil p0).bind fun b1 =>
  bif b1 then (
  some (0, m)) else (
  (ifEq tt p0 (Value.iface 57 (Value.int .i64 1))).bind fun b2 =>
  bif b2 then (
  some (1, m)) else (
  (ifEq tt p0 (Value.iface 57 (Value.int .i64 2))).bind fun b3 =>
  bif b3 then (
  some (2, m)) else (
  (ifEq tt p0 (Value.iface 57 (Value.int .i64 3))).bind fun b4 =>
  bif b4 then (
  some (3, m)) else (
  (ifEq tt p0 (Value.iface 57 (Value.int .i64 4))).bind fun b5 =>
  bif b5 then (
  some (4, m)) else (
  (ifEq tt p0 (Value.iface 57 (Value.int .i64 5))).bind fun b6 =>
  bif b6 then (
  some (5, m)) else (
  (ifEq tt p0 (Value.iface 57 (Value.int .i64 6))).bind fun b7 =>
  bif b7 then (
  some (6, m)) else (
  (ifEq tt p0 (Value.iface 57 (Value.int .i64 7))).bind fun b8 =>
  bif b8 then (
  some (7, m)) else (
  (ifEq tt p0 (Value.iface 57 (Value.int .i64 8))).bind fun b9 =>
  bif b9 then (
  some (8, m)) else (
  (ifEq tt p0 (Value.iface 57 (Value.int .i64 9))).bind fun b10 =>
  bif b10 then (
  some (9, m)) else (
  (ifEq tt p0 (Value.iface 57 (Value.int .i64 10))).bind fun b11 =>
  bif b11 then (
  some (10, m)) else (
  (ifEq tt p0 (Value.iface 57 (Value.int .i64 11))).bind fun b12 =>
  bif b12 then (
  some (11, m)) else (
  (patinalaw00_further k p0 m).bind fun r13 =>
  some (r13.1, r13.2)))))))))))))

def patinalaw00_Code_call {R : Type} (k : Nat) : Fun R := fun f args m K => match f, args with
  | 46, [p0] => (patinalaw00_further k p0 m).bind fun r => K (Value.int .i64 r.1) r.2
  | _, _ => none

theorem patinalaw00_Code_callOk {R : Type} (k : Nat) : CallOk Try.prog (patinalaw00_Code_call (R := R) k) := by
  intro f vs m K r h
  unfold patinalaw00_Code_call at h
  split at h
  · obtain ⟨r, h1, h2⟩ := Option.bind_eq_some_iff.1 h; exact ⟨_, _, h2, fun K' => by simp only [patinalaw00_Code_call, h1, Option.bind_some], patinalaw00_further_ok h1⟩
  · cases h

def patinalaw00_Code_loop (k : Nat) : Nat → List Value → Mem → (Nat → List Value → Mem → Option (Int × Mem)) → Option (Int × Mem) := fun _ _ _ _ => none

def patinalaw00_Code_C (k : Nat) : Ctx (Int × Mem) := ⟨tt, patinalaw00_Code_call k, patinalaw00_Code_loop k, [], []⟩

def patinalaw00_Code_dec : Value → Mem → Option (Int × Mem) := fun v m => match v with
  | .int .i64 q0 => some (q0, m)
  | _ => none

theorem patinalaw00_Code_eq (k : Nat) (p0 : Value) (m : Mem) : fnX (patinalaw00_Code_C k) Try.f13 [p0] m patinalaw00_Code_dec = patinalaw00_Code k p0 m := by kernel_rfl

theorem patinalaw00_Code_ok {k : Nat} {p0 : Value} {m : Mem} {r : (Int × Mem)} (h : patinalaw00_Code k p0 m = some r) : CallP Try.prog 13 [p0] m fun v m' => v = (Value.int .i64 r.1) ∧ m' = r.2 := by
  refine (fn_sound (C := patinalaw00_Code_C k) (c := body Try.f13) tOk mixed (patinalaw00_Code_callOk k) Try.func13 (by kernel_rfl) (by kernel_rfl) (by kernel_rfl) (by kernel_rfl) ?_ (Eq.trans (patinalaw00_Code_eq k p0 m) h)).mono ?_
  · intro p hp; rw [show loopsOf 0 (body Try.f13) = [] by kernel_rfl] at hp; cases hp
  · intro v m' hp
    unfold patinalaw00_Code_dec at hp
    split at hp
    · simp only [Option.some.injEq] at hp; subst hp; exact ⟨rfl, rfl⟩
    · cases hp

/-! ### front_Front_Open -/
def front_Front_Open (k : Nat) (p0 : Option Addr) (p1 : Int) (p2 : Int) (m : Mem) : Option (Value × Mem) :=
  bif decide (p1 < 0) then (
  some ((Value.iface 57 (Value.int .i64 1)), m)) else (
  bif decide (p1 ≥ 12) then (
  some ((Value.iface 57 (Value.int .i64 1)), m)) else (
  bif decide (p2 < 0) then (
  some ((Value.iface 57 (Value.int .i64 1)), m)) else (
  bif decide (p2 > 8) then (
  some ((Value.iface 57 (Value.int .i64 1)), m)) else (
  (p0).bind fun a1 =>
  bif Nat.beq (List.length (putAt (putAt (putAt ((tt 41).zero) 0 1 [(Value.bool true)]) 1 1 [(Value.int .i64 p1)]) 2 1 [(Value.int .i64 p2)])) 3 then (
  (stCells m a1 (putAt (putAt (putAt ((tt 41).zero) 0 1 [(Value.bool true)]) 1 1 [(Value.int .i64 p1)]) 2 1 [(Value.int .i64 p2)])).bind fun m2 =>
  some (Value.nilIface, m2)) else none))))

def front_Front_Open_call {R : Type} (k : Nat) : Fun R := fun _ _ _ _ => none

theorem front_Front_Open_callOk {R : Type} (k : Nat) : CallOk Try.prog (front_Front_Open_call (R := R) k) := by
  intro f vs m K r h
  unfold front_Front_Open_call at h
  cases h

def front_Front_Open_loop (k : Nat) : Nat → List Value → Mem → (Nat → List Value → Mem → Option (Value × Mem)) → Option (Value × Mem) := fun _ _ _ _ => none

def front_Front_Open_C (k : Nat) : Ctx (Value × Mem) := ⟨tt, front_Front_Open_call k, front_Front_Open_loop k, [], []⟩

def front_Front_Open_dec : Value → Mem → Option (Value × Mem) := fun v m => match v with
  | q0 => some (q0, m)

theorem front_Front_Open_eq (k : Nat) (p0 : Option Addr) (p1 : Int) (p2 : Int) (m : Mem) : fnX (front_Front_Open_C k) Try.f16 [(Value.pointer p0), (Value.int .i64 p1), (Value.int .i64 p2)] m front_Front_Open_dec = front_Front_Open k p0 p1 p2 m := by kernel_rfl

theorem front_Front_Open_ok {k : Nat} {p0 : Option Addr} {p1 : Int} {p2 : Int} {m : Mem} {r : (Value × Mem)} (h : front_Front_Open k p0 p1 p2 m = some r) : CallP Try.prog 16 [(Value.pointer p0), (Value.int .i64 p1), (Value.int .i64 p2)] m fun v m' => v = r.1 ∧ m' = r.2 := by
  refine (fn_sound (C := front_Front_Open_C k) (c := body Try.f16) tOk mixed (front_Front_Open_callOk k) Try.func16 (by kernel_rfl) (by kernel_rfl) (by kernel_rfl) (by kernel_rfl) ?_ (Eq.trans (front_Front_Open_eq k p0 p1 p2 m) h)).mono ?_
  · intro p hp; rw [show loopsOf 0 (body Try.f16) = [] by kernel_rfl] at hp; cases hp
  · intro v m' hp
    simp only [front_Front_Open_dec, Option.some.injEq] at hp; subst hp; exact ⟨rfl, rfl⟩

/-! ### geom_Place -/
def geom_Place (k : Nat) (p0 : Int) (p1 : Int) (m : Mem) : Option (Int × Value × Mem) :=
  bif decide (p0 < 0) then (
  some (0, (Value.iface 57 (Value.int .i64 1)), m)) else (
  bif decide (p0 ≥ 12) then (
  some (0, (Value.iface 57 (Value.int .i64 1)), m)) else (
  bif decide (p1 < 0) then (
  some (0, (Value.iface 57 (Value.int .i64 1)), m)) else (
  bif decide (p1 ≥ 8) then (
  some (0, (Value.iface 57 (Value.int .i64 1)), m)) else (
  some (IntKind.wrap .i64 ((IntKind.wrap .i64 (p0 * 8)) + p1), Value.nilIface, m)))))

def geom_Place_call {R : Type} (k : Nat) : Fun R := fun _ _ _ _ => none

theorem geom_Place_callOk {R : Type} (k : Nat) : CallOk Try.prog (geom_Place_call (R := R) k) := by
  intro f vs m K r h
  unfold geom_Place_call at h
  cases h

def geom_Place_loop (k : Nat) : Nat → List Value → Mem → (Nat → List Value → Mem → Option (Int × Value × Mem)) → Option (Int × Value × Mem) := fun _ _ _ _ => none

def geom_Place_C (k : Nat) : Ctx (Int × Value × Mem) := ⟨tt, geom_Place_call k, geom_Place_loop k, [], []⟩

def geom_Place_dec : Value → Mem → Option (Int × Value × Mem) := fun v m => match v with
  | .tuple ⟨[.int .i64 q0, q1]⟩ => some (q0, q1, m)
  | _ => none

theorem geom_Place_eq (k : Nat) (p0 : Int) (p1 : Int) (m : Mem) : fnX (geom_Place_C k) Try.f47 [(Value.int .i64 p0), (Value.int .i64 p1)] m geom_Place_dec = geom_Place k p0 p1 m := by kernel_rfl

theorem geom_Place_ok {k : Nat} {p0 : Int} {p1 : Int} {m : Mem} {r : (Int × Value × Mem)} (h : geom_Place k p0 p1 m = some r) : CallP Try.prog 47 [(Value.int .i64 p0), (Value.int .i64 p1)] m fun v m' => v = (Value.tuple ⟨[(Value.int .i64 r.1), r.2.1]⟩) ∧ m' = r.2.2 := by
  refine (fn_sound (C := geom_Place_C k) (c := body Try.f47) tOk mixed (geom_Place_callOk k) Try.func47 (by kernel_rfl) (by kernel_rfl) (by kernel_rfl) (by kernel_rfl) ?_ (Eq.trans (geom_Place_eq k p0 p1 m) h)).mono ?_
  · intro p hp; rw [show loopsOf 0 (body Try.f47) = [] by kernel_rfl] at hp; cases hp
  · intro v m' hp
    unfold geom_Place_dec at hp
    split at hp
    · simp only [Option.some.injEq] at hp; subst hp; exact ⟨rfl, rfl⟩
    · cases hp

/-! ### geom_is -/
def geom_is (k : Nat) (p0 : Int) (m : Mem) : Option (Bool × Mem) :=
  bif decide (p0 ≥ 0) then (
  some (decide (p0 < 96), m)) else (
  some (false, m))

def geom_is_call {R : Type} (k : Nat) : Fun R := fun _ _ _ _ => none

theorem geom_is_callOk {R : Type} (k : Nat) : CallOk Try.prog (geom_is_call (R := R) k) := by
  intro f vs m K r h
  unfold geom_is_call at h
  cases h

def geom_is_loop (k : Nat) : Nat → List Value → Mem → (Nat → List Value → Mem → Option (Bool × Mem)) → Option (Bool × Mem) := fun _ _ _ _ => none

def geom_is_C (k : Nat) : Ctx (Bool × Mem) := ⟨tt, geom_is_call k, geom_is_loop k, [], []⟩

def geom_is_dec : Value → Mem → Option (Bool × Mem) := fun v m => match v with
  | .bool q0 => some (q0, m)
  | _ => none

theorem geom_is_eq (k : Nat) (p0 : Int) (m : Mem) : fnX (geom_is_C k) Try.f67 [(Value.int .i64 p0)] m geom_is_dec = geom_is k p0 m := by kernel_rfl

theorem geom_is_ok {k : Nat} {p0 : Int} {m : Mem} {r : (Bool × Mem)} (h : geom_is k p0 m = some r) : CallP Try.prog 67 [(Value.int .i64 p0)] m fun v m' => v = (Value.bool r.1) ∧ m' = r.2 := by
  refine (fn_sound (C := geom_is_C k) (c := body Try.f67) tOk mixed (geom_is_callOk k) Try.func67 (by kernel_rfl) (by kernel_rfl) (by kernel_rfl) (by kernel_rfl) ?_ (Eq.trans (geom_is_eq k p0 m) h)).mono ?_
  · intro p hp; rw [show loopsOf 0 (body Try.f67) = [] by kernel_rfl] at hp; cases hp
  · intro v m' hp
    unfold geom_is_dec at hp
    split at hp
    · simp only [Option.some.injEq] at hp; subst hp; exact ⟨rfl, rfl⟩
    · cases hp

/-! ### geom_Holds -/
def geom_Holds (k : Nat) (p0 : Int) (p1 : Int) (m : Mem) : Option (Bool × Value × Mem) :=
  (geom_is k p0 m).bind fun r1 =>
  bif !r1.1 then (
  some (false, (Value.iface 57 (Value.int .i64 1)), r1.2)) else (
  bif decide (p1 < 0) then (
  some (false, (Value.iface 57 (Value.int .i64 1)), r1.2)) else (
  bif decide (p1 > 24) then (
  some (false, (Value.iface 57 (Value.int .i64 1)), r1.2)) else (
  bif p1 == 24 then (
  some (true, Value.nilIface, r1.2)) else (
  some (decide ((Int.tmod p0 8) < 6), Value.nilIface, r1.2)))))

def geom_Holds_call {R : Type} (k : Nat) : Fun R := fun f args m K => match f, args with
  | 67, [.int .i64 p0] => (geom_is k p0 m).bind fun r => K (Value.bool r.1) r.2
  | _, _ => none

theorem geom_Holds_callOk {R : Type} (k : Nat) : CallOk Try.prog (geom_Holds_call (R := R) k) := by
  intro f vs m K r h
  unfold geom_Holds_call at h
  split at h
  · obtain ⟨r, h1, h2⟩ := Option.bind_eq_some_iff.1 h; exact ⟨_, _, h2, fun K' => by simp only [geom_Holds_call, h1, Option.bind_some], geom_is_ok h1⟩
  · cases h

def geom_Holds_loop (k : Nat) : Nat → List Value → Mem → (Nat → List Value → Mem → Option (Bool × Value × Mem)) → Option (Bool × Value × Mem) := fun _ _ _ _ => none

def geom_Holds_C (k : Nat) : Ctx (Bool × Value × Mem) := ⟨tt, geom_Holds_call k, geom_Holds_loop k, [], []⟩

def geom_Holds_dec : Value → Mem → Option (Bool × Value × Mem) := fun v m => match v with
  | .tuple ⟨[.bool q0, q1]⟩ => some (q0, q1, m)
  | _ => none

theorem geom_Holds_eq (k : Nat) (p0 : Int) (p1 : Int) (m : Mem) : fnX (geom_Holds_C k) Try.f48 [(Value.int .i64 p0), (Value.int .i64 p1)] m geom_Holds_dec = geom_Holds k p0 p1 m := by kernel_rfl

theorem geom_Holds_ok {k : Nat} {p0 : Int} {p1 : Int} {m : Mem} {r : (Bool × Value × Mem)} (h : geom_Holds k p0 p1 m = some r) : CallP Try.prog 48 [(Value.int .i64 p0), (Value.int .i64 p1)] m fun v m' => v = (Value.tuple ⟨[(Value.bool r.1), r.2.1]⟩) ∧ m' = r.2.2 := by
  refine (fn_sound (C := geom_Holds_C k) (c := body Try.f48) tOk mixed (geom_Holds_callOk k) Try.func48 (by kernel_rfl) (by kernel_rfl) (by kernel_rfl) (by kernel_rfl) ?_ (Eq.trans (geom_Holds_eq k p0 p1 m) h)).mono ?_
  · intro p hp; rw [show loopsOf 0 (body Try.f48) = [] by kernel_rfl] at hp; cases hp
  · intro v m' hp
    unfold geom_Holds_dec at hp
    split at hp
    · simp only [Option.some.injEq] at hp; subst hp; exact ⟨rfl, rfl⟩
    · cases hp

/-! ### front_Front_Room -/
def front_Front_Room (k : Nat) (p0 : Option Addr) (p1 : Int) (m : Mem) : Option (Bool × Mem) :=
  (p0).bind fun a1 =>
  (ldInt .i64 m (plus a1 1)).bind fun t2 =>
  (p0).bind fun a3 =>
  (ldInt .i64 m (plus a3 2)).bind fun t4 =>
  (geom_Place k t2 t4 m).bind fun r5 =>
  (p0).bind fun a6 =>
  (ldBool r5.2.2 (plus a6 0)).bind fun t7 =>
  bif !t7 then (
  some (false, r5.2.2)) else (
  (isNil r5.2.1).bind fun b8 =>
  bif !b8 then (
  some (false, r5.2.2)) else (
  (geom_Holds k r5.1 p1 r5.2.2).bind fun r9 =>
  bif r9.1 then (
  (isNil r9.2.1).bind fun b10 =>
  some (b10, r9.2.2)) else (
  some (false, r9.2.2))))

def front_Front_Room_call {R : Type} (k : Nat) : Fun R := fun f args m K => match f, args with
  | 47, [.int .i64 p0, .int .i64 p1] => (geom_Place k p0 p1 m).bind fun r => K (Value.tuple ⟨[(Value.int .i64 r.1), r.2.1]⟩) r.2.2
  | 48, [.int .i64 p0, .int .i64 p1] => (geom_Holds k p0 p1 m).bind fun r => K (Value.tuple ⟨[(Value.bool r.1), r.2.1]⟩) r.2.2
  | _, _ => none

theorem front_Front_Room_callOk {R : Type} (k : Nat) : CallOk Try.prog (front_Front_Room_call (R := R) k) := by
  intro f vs m K r h
  unfold front_Front_Room_call at h
  split at h
  · obtain ⟨r, h1, h2⟩ := Option.bind_eq_some_iff.1 h; exact ⟨_, _, h2, fun K' => by simp only [front_Front_Room_call, h1, Option.bind_some], geom_Place_ok h1⟩
  · obtain ⟨r, h1, h2⟩ := Option.bind_eq_some_iff.1 h; exact ⟨_, _, h2, fun K' => by simp only [front_Front_Room_call, h1, Option.bind_some], geom_Holds_ok h1⟩
  · cases h

def front_Front_Room_loop (k : Nat) : Nat → List Value → Mem → (Nat → List Value → Mem → Option (Bool × Mem)) → Option (Bool × Mem) := fun _ _ _ _ => none

def front_Front_Room_C (k : Nat) : Ctx (Bool × Mem) := ⟨tt, front_Front_Room_call k, front_Front_Room_loop k, [], []⟩

def front_Front_Room_dec : Value → Mem → Option (Bool × Mem) := fun v m => match v with
  | .bool q0 => some (q0, m)
  | _ => none

theorem front_Front_Room_eq (k : Nat) (p0 : Option Addr) (p1 : Int) (m : Mem) : fnX (front_Front_Room_C k) Try.f20 [(Value.pointer p0), (Value.int .i64 p1)] m front_Front_Room_dec = front_Front_Room k p0 p1 m := by kernel_rfl

theorem front_Front_Room_ok {k : Nat} {p0 : Option Addr} {p1 : Int} {m : Mem} {r : (Bool × Mem)} (h : front_Front_Room k p0 p1 m = some r) : CallP Try.prog 20 [(Value.pointer p0), (Value.int .i64 p1)] m fun v m' => v = (Value.bool r.1) ∧ m' = r.2 := by
  refine (fn_sound (C := front_Front_Room_C k) (c := body Try.f20) tOk mixed (front_Front_Room_callOk k) Try.func20 (by kernel_rfl) (by kernel_rfl) (by kernel_rfl) (by kernel_rfl) ?_ (Eq.trans (front_Front_Room_eq k p0 p1 m) h)).mono ?_
  · intro p hp; rw [show loopsOf 0 (body Try.f20) = [] by kernel_rfl] at hp; cases hp
  · intro v m' hp
    unfold front_Front_Room_dec at hp
    split at hp
    · simp only [Option.some.injEq] at hp; subst hp; exact ⟨rfl, rfl⟩
    · cases hp

/-! ### front_Front_Take -/
def front_Front_Take (k : Nat) (p0 : Option Addr) (p1 : Int) (m : Mem) : Option (Int × Value × Mem) :=
  bif decide (p1 < 0) then (
  some (0, (Value.iface 57 (Value.int .i64 1)), m)) else (
  bif decide (p1 > 24) then (
  some (0, (Value.iface 57 (Value.int .i64 1)), m)) else (
  (p0).bind fun a1 =>
  (ldBool m (plus a1 0)).bind fun t2 =>
  bif !t2 then (
  some (0, (Value.iface 57 (Value.int .i64 11)), m)) else (
  (front_Front_Room k p0 p1 m).bind fun r3 =>
  bif !r3.1 then (
  some (0, (Value.iface 57 (Value.int .i64 10)), r3.2)) else (
  (p0).bind fun a4 =>
  (ldInt .i64 r3.2 (plus a4 2)).bind fun t5 =>
  (p0).bind fun a6 =>
  (st r3.2 (plus a6 2) (Value.int .i64 (IntKind.wrap .i64 (t5 + 1)))).bind fun m7 =>
  (p0).bind fun a8 =>
  (ldInt .i64 m7 (plus a8 1)).bind fun t9 =>
  (p0).bind fun a10 =>
  (ldInt .i64 m7 (plus a10 2)).bind fun t11 =>
  (geom_Place k t9 (IntKind.wrap .i64 (t11 - 1)) m7).bind fun r12 =>
  some (r12.1, r12.2.1, r12.2.2)))))

def front_Front_Take_call {R : Type} (k : Nat) : Fun R := fun f args m K => match f, args with
  | 20, [.pointer p0, .int .i64 p1] => (front_Front_Room k p0 p1 m).bind fun r => K (Value.bool r.1) r.2
  | 47, [.int .i64 p0, .int .i64 p1] => (geom_Place k p0 p1 m).bind fun r => K (Value.tuple ⟨[(Value.int .i64 r.1), r.2.1]⟩) r.2.2
  | _, _ => none

theorem front_Front_Take_callOk {R : Type} (k : Nat) : CallOk Try.prog (front_Front_Take_call (R := R) k) := by
  intro f vs m K r h
  unfold front_Front_Take_call at h
  split at h
  · obtain ⟨r, h1, h2⟩ := Option.bind_eq_some_iff.1 h; exact ⟨_, _, h2, fun K' => by simp only [front_Front_Take_call, h1, Option.bind_some], front_Front_Room_ok h1⟩
  · obtain ⟨r, h1, h2⟩ := Option.bind_eq_some_iff.1 h; exact ⟨_, _, h2, fun K' => by simp only [front_Front_Take_call, h1, Option.bind_some], geom_Place_ok h1⟩
  · cases h

def front_Front_Take_loop (k : Nat) : Nat → List Value → Mem → (Nat → List Value → Mem → Option (Int × Value × Mem)) → Option (Int × Value × Mem) := fun _ _ _ _ => none

def front_Front_Take_C (k : Nat) : Ctx (Int × Value × Mem) := ⟨tt, front_Front_Take_call k, front_Front_Take_loop k, [], []⟩

def front_Front_Take_dec : Value → Mem → Option (Int × Value × Mem) := fun v m => match v with
  | .tuple ⟨[.int .i64 q0, q1]⟩ => some (q0, q1, m)
  | _ => none

theorem front_Front_Take_eq (k : Nat) (p0 : Option Addr) (p1 : Int) (m : Mem) : fnX (front_Front_Take_C k) Try.f18 [(Value.pointer p0), (Value.int .i64 p1)] m front_Front_Take_dec = front_Front_Take k p0 p1 m := by kernel_rfl

theorem front_Front_Take_ok {k : Nat} {p0 : Option Addr} {p1 : Int} {m : Mem} {r : (Int × Value × Mem)} (h : front_Front_Take k p0 p1 m = some r) : CallP Try.prog 18 [(Value.pointer p0), (Value.int .i64 p1)] m fun v m' => v = (Value.tuple ⟨[(Value.int .i64 r.1), r.2.1]⟩) ∧ m' = r.2.2 := by
  refine (fn_sound (C := front_Front_Take_C k) (c := body Try.f18) tOk mixed (front_Front_Take_callOk k) Try.func18 (by kernel_rfl) (by kernel_rfl) (by kernel_rfl) (by kernel_rfl) ?_ (Eq.trans (front_Front_Take_eq k p0 p1 m) h)).mono ?_
  · intro p hp; rw [show loopsOf 0 (body Try.f18) = [] by kernel_rfl] at hp; cases hp
  · intro v m' hp
    unfold front_Front_Take_dec at hp
    split at hp
    · simp only [Option.some.injEq] at hp; subst hp; exact ⟨rfl, rfl⟩
    · cases hp

/-! ### front_Front_Block -/
def front_Front_Block (k : Nat) (p0 : Option Addr) (m : Mem) : Option (Int × Mem) :=
  (p0).bind fun a1 =>
  (ldBool m (plus a1 0)).bind fun t2 =>
  bif !t2 then (
  some ((-1), m)) else (
  (p0).bind fun a3 =>
  (ldInt .i64 m (plus a3 1)).bind fun t4 =>
  some (t4, m))

def front_Front_Block_call {R : Type} (k : Nat) : Fun R := fun _ _ _ _ => none

theorem front_Front_Block_callOk {R : Type} (k : Nat) : CallOk Try.prog (front_Front_Block_call (R := R) k) := by
  intro f vs m K r h
  unfold front_Front_Block_call at h
  cases h

def front_Front_Block_loop (k : Nat) : Nat → List Value → Mem → (Nat → List Value → Mem → Option (Int × Mem)) → Option (Int × Mem) := fun _ _ _ _ => none

def front_Front_Block_C (k : Nat) : Ctx (Int × Mem) := ⟨tt, front_Front_Block_call k, front_Front_Block_loop k, [], []⟩

def front_Front_Block_dec : Value → Mem → Option (Int × Mem) := fun v m => match v with
  | .int .i64 q0 => some (q0, m)
  | _ => none

theorem front_Front_Block_eq (k : Nat) (p0 : Option Addr) (m : Mem) : fnX (front_Front_Block_C k) Try.f23 [(Value.pointer p0)] m front_Front_Block_dec = front_Front_Block k p0 m := by kernel_rfl

theorem front_Front_Block_ok {k : Nat} {p0 : Option Addr} {m : Mem} {r : (Int × Mem)} (h : front_Front_Block k p0 m = some r) : CallP Try.prog 23 [(Value.pointer p0)] m fun v m' => v = (Value.int .i64 r.1) ∧ m' = r.2 := by
  refine (fn_sound (C := front_Front_Block_C k) (c := body Try.f23) tOk mixed (front_Front_Block_callOk k) Try.func23 (by kernel_rfl) (by kernel_rfl) (by kernel_rfl) (by kernel_rfl) ?_ (Eq.trans (front_Front_Block_eq k p0 m) h)).mono ?_
  · intro p hp; rw [show loopsOf 0 (body Try.f23) = [] by kernel_rfl] at hp; cases hp
  · intro v m' hp
    unfold front_Front_Block_dec at hp
    split at hp
    · simp only [Option.some.injEq] at hp; subst hp; exact ⟨rfl, rfl⟩
    · cases hp

/-! ### patinalaw13_up -/
def patinalaw13_up (k : Nat) (m : Mem) : Option (Bool × Mem) :=
  bif Nat.beq (List.length ((tt 41).zero)) 3 then (
  let m1 : Mem := m ++ [.live ((tt 41).zero)]
  (front_Front_Block k (some ⟨List.length m, 0, Option.none⟩) m1).bind fun r2 =>
  (front_Front_Open k (some ⟨List.length m, 0, Option.none⟩) 2 5 r2.2).bind fun r3 =>
  (front_Front_Take k (some ⟨List.length m, 0, Option.none⟩) 3 r3.2).bind fun r4 =>
  (front_Front_Take k (some ⟨List.length m, 0, Option.none⟩) 3 r4.2.2).bind fun r5 =>
  (front_Front_Take k (some ⟨List.length m, 0, Option.none⟩) 24 r5.2.2).bind fun r6 =>
  bif r2.1 == (-1) then (
  (isNil r3.1).bind fun b7 =>
  bif b7 then (
  bif r4.1 == 21 then (
  (isNil r4.2.1).bind fun b8 =>
  bif b8 then (
  (ifEq tt r5.2.1 (Value.iface 57 (Value.int .i64 10))).bind fun b9 =>
  bif b9 then (
  bif r6.1 == 22 then (
  (isNil r6.2.1).bind fun b10 =>
  some (b10, r6.2.2)) else (
  some (false, r6.2.2))) else (
  some (false, r6.2.2))) else (
  some (false, r6.2.2))) else (
  some (false, r6.2.2))) else (
  some (false, r6.2.2))) else (
  some (false, r6.2.2))) else none

def patinalaw13_up_call {R : Type} (k : Nat) : Fun R := fun f args m K => match f, args with
  | 16, [.pointer p0, .int .i64 p1, .int .i64 p2] => (front_Front_Open k p0 p1 p2 m).bind fun r => K r.1 r.2
  | 18, [.pointer p0, .int .i64 p1] => (front_Front_Take k p0 p1 m).bind fun r => K (Value.tuple ⟨[(Value.int .i64 r.1), r.2.1]⟩) r.2.2
  | 23, [.pointer p0] => (front_Front_Block k p0 m).bind fun r => K (Value.int .i64 r.1) r.2
  | _, _ => none

theorem patinalaw13_up_callOk {R : Type} (k : Nat) : CallOk Try.prog (patinalaw13_up_call (R := R) k) := by
  intro f vs m K r h
  unfold patinalaw13_up_call at h
  split at h
  · obtain ⟨r, h1, h2⟩ := Option.bind_eq_some_iff.1 h; exact ⟨_, _, h2, fun K' => by simp only [patinalaw13_up_call, h1, Option.bind_some], front_Front_Open_ok h1⟩
  · obtain ⟨r, h1, h2⟩ := Option.bind_eq_some_iff.1 h; exact ⟨_, _, h2, fun K' => by simp only [patinalaw13_up_call, h1, Option.bind_some], front_Front_Take_ok h1⟩
  · obtain ⟨r, h1, h2⟩ := Option.bind_eq_some_iff.1 h; exact ⟨_, _, h2, fun K' => by simp only [patinalaw13_up_call, h1, Option.bind_some], front_Front_Block_ok h1⟩
  · cases h

def patinalaw13_up_loop (k : Nat) : Nat → List Value → Mem → (Nat → List Value → Mem → Option (Bool × Mem)) → Option (Bool × Mem) := fun _ _ _ _ => none

def patinalaw13_up_C (k : Nat) : Ctx (Bool × Mem) := ⟨tt, patinalaw13_up_call k, patinalaw13_up_loop k, [], []⟩

def patinalaw13_up_dec : Value → Mem → Option (Bool × Mem) := fun v m => match v with
  | .bool q0 => some (q0, m)
  | _ => none

theorem patinalaw13_up_eq (k : Nat) (m : Mem) : fnX (patinalaw13_up_C k) Try.f14 [] m patinalaw13_up_dec = patinalaw13_up k  m := by kernel_rfl

theorem patinalaw13_up_ok {k : Nat} {m : Mem} {r : (Bool × Mem)} (h : patinalaw13_up k  m = some r) : CallP Try.prog 14 [] m fun v m' => v = (Value.bool r.1) ∧ m' = r.2 := by
  refine (fn_sound (C := patinalaw13_up_C k) (c := body Try.f14) tOk mixed (patinalaw13_up_callOk k) Try.func14 (by kernel_rfl) (by kernel_rfl) (by kernel_rfl) (by kernel_rfl) ?_ (Eq.trans (patinalaw13_up_eq k  m) h)).mono ?_
  · intro p hp; rw [show loopsOf 0 (body Try.f14) = [] by kernel_rfl] at hp; cases hp
  · intro v m' hp
    unfold patinalaw13_up_dec at hp
    split at hp
    · simp only [Option.some.injEq] at hp; subst hp; exact ⟨rfl, rfl⟩
    · cases hp

/-! ### patinalaw13_pick -/
def patinalaw13_pick_j1 (k : Nat) (p1 : Int) (x0_ : Int) (mj : Mem) : Option (Int × Mem) :=
  bif isZero p1 then none else (
  some (Int.tmod x0_ p1, mj))

def patinalaw13_pick (k : Nat) (p0 : Int) (p1 : Int) (m : Mem) : Option (Int × Mem) :=
  bif decide (p0 < 0) then (
  patinalaw13_pick_j1 k p1 (IntKind.wrap .i64 (0 - (IntKind.wrap .i64 (p0 + 1)))) m) else (
  patinalaw13_pick_j1 k p1 p0 m)

def patinalaw13_pick_call {R : Type} (k : Nat) : Fun R := fun _ _ _ _ => none

theorem patinalaw13_pick_callOk {R : Type} (k : Nat) : CallOk Try.prog (patinalaw13_pick_call (R := R) k) := by
  intro f vs m K r h
  unfold patinalaw13_pick_call at h
  cases h

def patinalaw13_pick_loop (k : Nat) : Nat → List Value → Mem → (Nat → List Value → Mem → Option (Int × Mem)) → Option (Int × Mem) := fun _ _ _ _ => none

def patinalaw13_pick_C (k : Nat) : Ctx (Int × Mem) := ⟨tt, patinalaw13_pick_call k, patinalaw13_pick_loop k, [], []⟩

def patinalaw13_pick_dec : Value → Mem → Option (Int × Mem) := fun v m => match v with
  | .int .i64 q0 => some (q0, m)
  | _ => none

theorem patinalaw13_pick_eq (k : Nat) (p0 : Int) (p1 : Int) (m : Mem) : fnX (patinalaw13_pick_C k) Try.f15 [(Value.int .i64 p0), (Value.int .i64 p1)] m patinalaw13_pick_dec = patinalaw13_pick k p0 p1 m := by kernel_rfl

theorem patinalaw13_pick_ok {k : Nat} {p0 : Int} {p1 : Int} {m : Mem} {r : (Int × Mem)} (h : patinalaw13_pick k p0 p1 m = some r) : CallP Try.prog 15 [(Value.int .i64 p0), (Value.int .i64 p1)] m fun v m' => v = (Value.int .i64 r.1) ∧ m' = r.2 := by
  refine (fn_sound (C := patinalaw13_pick_C k) (c := body Try.f15) tOk mixed (patinalaw13_pick_callOk k) Try.func15 (by kernel_rfl) (by kernel_rfl) (by kernel_rfl) (by kernel_rfl) ?_ (Eq.trans (patinalaw13_pick_eq k p0 p1 m) h)).mono ?_
  · intro p hp; rw [show loopsOf 0 (body Try.f15) = [] by kernel_rfl] at hp; cases hp
  · intro v m' hp
    unfold patinalaw13_pick_dec at hp
    split at hp
    · simp only [Option.some.injEq] at hp; subst hp; exact ⟨rfl, rfl⟩
    · cases hp

/-! ### patinaref13_Front_Open -/
def patinaref13_Front_Open (k : Nat) (p0 : Option Addr) (p1 : Int) (p2 : Int) (m : Mem) : Option (Int × Mem) :=
  bif decide (p1 < 0) then (
  some (1, m)) else (
  bif decide (p1 > 11) then (
  some (1, m)) else (
  bif decide (p2 < 0) then (
  some (1, m)) else (
  bif decide (p2 > 8) then (
  some (1, m)) else (
  (p0).bind fun a1 =>
  (st m (plus a1 0) (Value.bool true)).bind fun m2 =>
  (p0).bind fun a3 =>
  (st m2 (plus a3 1) (Value.int .i64 p1)).bind fun m4 =>
  (p0).bind fun a5 =>
  (st m4 (plus a5 2) (Value.int .i64 p2)).bind fun m6 =>
  some (0, m6)))))

def patinaref13_Front_Open_call {R : Type} (k : Nat) : Fun R := fun _ _ _ _ => none

theorem patinaref13_Front_Open_callOk {R : Type} (k : Nat) : CallOk Try.prog (patinaref13_Front_Open_call (R := R) k) := by
  intro f vs m K r h
  unfold patinaref13_Front_Open_call at h
  cases h

def patinaref13_Front_Open_loop (k : Nat) : Nat → List Value → Mem → (Nat → List Value → Mem → Option (Int × Mem)) → Option (Int × Mem) := fun _ _ _ _ => none

def patinaref13_Front_Open_C (k : Nat) : Ctx (Int × Mem) := ⟨tt, patinaref13_Front_Open_call k, patinaref13_Front_Open_loop k, [], []⟩

def patinaref13_Front_Open_dec : Value → Mem → Option (Int × Mem) := fun v m => match v with
  | .int .i64 q0 => some (q0, m)
  | _ => none

theorem patinaref13_Front_Open_eq (k : Nat) (p0 : Option Addr) (p1 : Int) (p2 : Int) (m : Mem) : fnX (patinaref13_Front_Open_C k) Try.f17 [(Value.pointer p0), (Value.int .i64 p1), (Value.int .i64 p2)] m patinaref13_Front_Open_dec = patinaref13_Front_Open k p0 p1 p2 m := by kernel_rfl

theorem patinaref13_Front_Open_ok {k : Nat} {p0 : Option Addr} {p1 : Int} {p2 : Int} {m : Mem} {r : (Int × Mem)} (h : patinaref13_Front_Open k p0 p1 p2 m = some r) : CallP Try.prog 17 [(Value.pointer p0), (Value.int .i64 p1), (Value.int .i64 p2)] m fun v m' => v = (Value.int .i64 r.1) ∧ m' = r.2 := by
  refine (fn_sound (C := patinaref13_Front_Open_C k) (c := body Try.f17) tOk mixed (patinaref13_Front_Open_callOk k) Try.func17 (by kernel_rfl) (by kernel_rfl) (by kernel_rfl) (by kernel_rfl) ?_ (Eq.trans (patinaref13_Front_Open_eq k p0 p1 p2 m) h)).mono ?_
  · intro p hp; rw [show loopsOf 0 (body Try.f17) = [] by kernel_rfl] at hp; cases hp
  · intro v m' hp
    unfold patinaref13_Front_Open_dec at hp
    split at hp
    · simp only [Option.some.injEq] at hp; subst hp; exact ⟨rfl, rfl⟩
    · cases hp

/-! ### patinaref04_Is -/
def patinaref04_Is (k : Nat) (p0 : Int) (m : Mem) : Option (Bool × Mem) :=
  bif decide (p0 ≥ 0) then (
  some (decide (p0 ≤ 95), m)) else (
  some (false, m))

def patinaref04_Is_call {R : Type} (k : Nat) : Fun R := fun _ _ _ _ => none

theorem patinaref04_Is_callOk {R : Type} (k : Nat) : CallOk Try.prog (patinaref04_Is_call (R := R) k) := by
  intro f vs m K r h
  unfold patinaref04_Is_call at h
  cases h

def patinaref04_Is_loop (k : Nat) : Nat → List Value → Mem → (Nat → List Value → Mem → Option (Bool × Mem)) → Option (Bool × Mem) := fun _ _ _ _ => none

def patinaref04_Is_C (k : Nat) : Ctx (Bool × Mem) := ⟨tt, patinaref04_Is_call k, patinaref04_Is_loop k, [], []⟩

def patinaref04_Is_dec : Value → Mem → Option (Bool × Mem) := fun v m => match v with
  | .bool q0 => some (q0, m)
  | _ => none

theorem patinaref04_Is_eq (k : Nat) (p0 : Int) (m : Mem) : fnX (patinaref04_Is_C k) Try.f68 [(Value.int .i64 p0)] m patinaref04_Is_dec = patinaref04_Is k p0 m := by kernel_rfl

theorem patinaref04_Is_ok {k : Nat} {p0 : Int} {m : Mem} {r : (Bool × Mem)} (h : patinaref04_Is k p0 m = some r) : CallP Try.prog 68 [(Value.int .i64 p0)] m fun v m' => v = (Value.bool r.1) ∧ m' = r.2 := by
  refine (fn_sound (C := patinaref04_Is_C k) (c := body Try.f68) tOk mixed (patinaref04_Is_callOk k) Try.func68 (by kernel_rfl) (by kernel_rfl) (by kernel_rfl) (by kernel_rfl) ?_ (Eq.trans (patinaref04_Is_eq k p0 m) h)).mono ?_
  · intro p hp; rw [show loopsOf 0 (body Try.f68) = [] by kernel_rfl] at hp; cases hp
  · intro v m' hp
    unfold patinaref04_Is_dec at hp
    split at hp
    · simp only [Option.some.injEq] at hp; subst hp; exact ⟨rfl, rfl⟩
    · cases hp

/-! ### patinaref04_Holds -/
def patinaref04_Holds (k : Nat) (p0 : Int) (p1 : Int) (m : Mem) : Option (Bool × Int × Mem) :=
  (patinaref04_Is k p0 m).bind fun r1 =>
  bif !r1.1 then (
  some (false, 1, r1.2)) else (
  bif decide (p1 < 0) then (
  some (false, 1, r1.2)) else (
  bif decide (p1 > 24) then (
  some (false, 1, r1.2)) else (
  bif p1 == 24 then (
  some (true, 0, r1.2)) else (
  some (decide ((Int.tmod p0 8) < 6), 0, r1.2)))))

def patinaref04_Holds_call {R : Type} (k : Nat) : Fun R := fun f args m K => match f, args with
  | 68, [.int .i64 p0] => (patinaref04_Is k p0 m).bind fun r => K (Value.bool r.1) r.2
  | _, _ => none

theorem patinaref04_Holds_callOk {R : Type} (k : Nat) : CallOk Try.prog (patinaref04_Holds_call (R := R) k) := by
  intro f vs m K r h
  unfold patinaref04_Holds_call at h
  split at h
  · obtain ⟨r, h1, h2⟩ := Option.bind_eq_some_iff.1 h; exact ⟨_, _, h2, fun K' => by simp only [patinaref04_Holds_call, h1, Option.bind_some], patinaref04_Is_ok h1⟩
  · cases h

def patinaref04_Holds_loop (k : Nat) : Nat → List Value → Mem → (Nat → List Value → Mem → Option (Bool × Int × Mem)) → Option (Bool × Int × Mem) := fun _ _ _ _ => none

def patinaref04_Holds_C (k : Nat) : Ctx (Bool × Int × Mem) := ⟨tt, patinaref04_Holds_call k, patinaref04_Holds_loop k, [], []⟩

def patinaref04_Holds_dec : Value → Mem → Option (Bool × Int × Mem) := fun v m => match v with
  | .tuple ⟨[.bool q0, .int .i64 q1]⟩ => some (q0, q1, m)
  | _ => none

theorem patinaref04_Holds_eq (k : Nat) (p0 : Int) (p1 : Int) (m : Mem) : fnX (patinaref04_Holds_C k) Try.f49 [(Value.int .i64 p0), (Value.int .i64 p1)] m patinaref04_Holds_dec = patinaref04_Holds k p0 p1 m := by kernel_rfl

theorem patinaref04_Holds_ok {k : Nat} {p0 : Int} {p1 : Int} {m : Mem} {r : (Bool × Int × Mem)} (h : patinaref04_Holds k p0 p1 m = some r) : CallP Try.prog 49 [(Value.int .i64 p0), (Value.int .i64 p1)] m fun v m' => v = (Value.tuple ⟨[(Value.bool r.1), (Value.int .i64 r.2.1)]⟩) ∧ m' = r.2.2 := by
  refine (fn_sound (C := patinaref04_Holds_C k) (c := body Try.f49) tOk mixed (patinaref04_Holds_callOk k) Try.func49 (by kernel_rfl) (by kernel_rfl) (by kernel_rfl) (by kernel_rfl) ?_ (Eq.trans (patinaref04_Holds_eq k p0 p1 m) h)).mono ?_
  · intro p hp; rw [show loopsOf 0 (body Try.f49) = [] by kernel_rfl] at hp; cases hp
  · intro v m' hp
    unfold patinaref04_Holds_dec at hp
    split at hp
    · simp only [Option.some.injEq] at hp; subst hp; exact ⟨rfl, rfl⟩
    · cases hp

/-! ### patinaref13_Front_Room -/
def patinaref13_Front_Room (k : Nat) (p0 : Option Addr) (p1 : Int) (m : Mem) : Option (Bool × Mem) :=
  (p0).bind fun a1 =>
  (ldBool m (plus a1 0)).bind fun t2 =>
  bif !t2 then (
  some (false, m)) else (
  (p0).bind fun a3 =>
  (ldInt .i64 m (plus a3 2)).bind fun t4 =>
  bif decide (t4 > 7) then (
  some (false, m)) else (
  (p0).bind fun a5 =>
  (ldInt .i64 m (plus a5 1)).bind fun t6 =>
  (p0).bind fun a7 =>
  (ldInt .i64 m (plus a7 2)).bind fun t8 =>
  (patinaref04_Holds k (IntKind.wrap .i64 ((IntKind.wrap .i64 (8 * t6)) + t8)) p1 m).bind fun r9 =>
  bif r9.2.1 == 0 then (
  some (r9.1, r9.2.2)) else (
  some (false, r9.2.2))))

def patinaref13_Front_Room_call {R : Type} (k : Nat) : Fun R := fun f args m K => match f, args with
  | 49, [.int .i64 p0, .int .i64 p1] => (patinaref04_Holds k p0 p1 m).bind fun r => K (Value.tuple ⟨[(Value.bool r.1), (Value.int .i64 r.2.1)]⟩) r.2.2
  | _, _ => none

theorem patinaref13_Front_Room_callOk {R : Type} (k : Nat) : CallOk Try.prog (patinaref13_Front_Room_call (R := R) k) := by
  intro f vs m K r h
  unfold patinaref13_Front_Room_call at h
  split at h
  · obtain ⟨r, h1, h2⟩ := Option.bind_eq_some_iff.1 h; exact ⟨_, _, h2, fun K' => by simp only [patinaref13_Front_Room_call, h1, Option.bind_some], patinaref04_Holds_ok h1⟩
  · cases h

def patinaref13_Front_Room_loop (k : Nat) : Nat → List Value → Mem → (Nat → List Value → Mem → Option (Bool × Mem)) → Option (Bool × Mem) := fun _ _ _ _ => none

def patinaref13_Front_Room_C (k : Nat) : Ctx (Bool × Mem) := ⟨tt, patinaref13_Front_Room_call k, patinaref13_Front_Room_loop k, [], []⟩

def patinaref13_Front_Room_dec : Value → Mem → Option (Bool × Mem) := fun v m => match v with
  | .bool q0 => some (q0, m)
  | _ => none

theorem patinaref13_Front_Room_eq (k : Nat) (p0 : Option Addr) (p1 : Int) (m : Mem) : fnX (patinaref13_Front_Room_C k) Try.f21 [(Value.pointer p0), (Value.int .i64 p1)] m patinaref13_Front_Room_dec = patinaref13_Front_Room k p0 p1 m := by kernel_rfl

theorem patinaref13_Front_Room_ok {k : Nat} {p0 : Option Addr} {p1 : Int} {m : Mem} {r : (Bool × Mem)} (h : patinaref13_Front_Room k p0 p1 m = some r) : CallP Try.prog 21 [(Value.pointer p0), (Value.int .i64 p1)] m fun v m' => v = (Value.bool r.1) ∧ m' = r.2 := by
  refine (fn_sound (C := patinaref13_Front_Room_C k) (c := body Try.f21) tOk mixed (patinaref13_Front_Room_callOk k) Try.func21 (by kernel_rfl) (by kernel_rfl) (by kernel_rfl) (by kernel_rfl) ?_ (Eq.trans (patinaref13_Front_Room_eq k p0 p1 m) h)).mono ?_
  · intro p hp; rw [show loopsOf 0 (body Try.f21) = [] by kernel_rfl] at hp; cases hp
  · intro v m' hp
    unfold patinaref13_Front_Room_dec at hp
    split at hp
    · simp only [Option.some.injEq] at hp; subst hp; exact ⟨rfl, rfl⟩
    · cases hp

/-! ### patinaref13_Front_Take -/
def patinaref13_Front_Take (k : Nat) (p0 : Option Addr) (p1 : Int) (m : Mem) : Option (Int × Int × Mem) :=
  (patinaref13_Front_Room k p0 p1 m).bind fun r1 =>
  bif decide (p1 < 0) then (
  some (0, 1, r1.2)) else (
  bif decide (p1 > 24) then (
  some (0, 1, r1.2)) else (
  (p0).bind fun a2 =>
  (ldBool r1.2 (plus a2 0)).bind fun t3 =>
  bif !t3 then (
  some (0, 11, r1.2)) else (
  bif !r1.1 then (
  some (0, 10, r1.2)) else (
  (p0).bind fun a4 =>
  (ldInt .i64 r1.2 (plus a4 2)).bind fun t5 =>
  (p0).bind fun a6 =>
  (st r1.2 (plus a6 2) (Value.int .i64 (IntKind.wrap .i64 (t5 + 1)))).bind fun m7 =>
  (p0).bind fun a8 =>
  (ldInt .i64 m7 (plus a8 1)).bind fun t9 =>
  (p0).bind fun a10 =>
  (ldInt .i64 m7 (plus a10 2)).bind fun t11 =>
  some (IntKind.wrap .i64 ((IntKind.wrap .i64 ((IntKind.wrap .i64 (8 * t9)) + t11)) - 1), 0, m7)))))

def patinaref13_Front_Take_call {R : Type} (k : Nat) : Fun R := fun f args m K => match f, args with
  | 21, [.pointer p0, .int .i64 p1] => (patinaref13_Front_Room k p0 p1 m).bind fun r => K (Value.bool r.1) r.2
  | _, _ => none

theorem patinaref13_Front_Take_callOk {R : Type} (k : Nat) : CallOk Try.prog (patinaref13_Front_Take_call (R := R) k) := by
  intro f vs m K r h
  unfold patinaref13_Front_Take_call at h
  split at h
  · obtain ⟨r, h1, h2⟩ := Option.bind_eq_some_iff.1 h; exact ⟨_, _, h2, fun K' => by simp only [patinaref13_Front_Take_call, h1, Option.bind_some], patinaref13_Front_Room_ok h1⟩
  · cases h

def patinaref13_Front_Take_loop (k : Nat) : Nat → List Value → Mem → (Nat → List Value → Mem → Option (Int × Int × Mem)) → Option (Int × Int × Mem) := fun _ _ _ _ => none

def patinaref13_Front_Take_C (k : Nat) : Ctx (Int × Int × Mem) := ⟨tt, patinaref13_Front_Take_call k, patinaref13_Front_Take_loop k, [], []⟩

def patinaref13_Front_Take_dec : Value → Mem → Option (Int × Int × Mem) := fun v m => match v with
  | .tuple ⟨[.int .i64 q0, .int .i64 q1]⟩ => some (q0, q1, m)
  | _ => none

theorem patinaref13_Front_Take_eq (k : Nat) (p0 : Option Addr) (p1 : Int) (m : Mem) : fnX (patinaref13_Front_Take_C k) Try.f19 [(Value.pointer p0), (Value.int .i64 p1)] m patinaref13_Front_Take_dec = patinaref13_Front_Take k p0 p1 m := by kernel_rfl

theorem patinaref13_Front_Take_ok {k : Nat} {p0 : Option Addr} {p1 : Int} {m : Mem} {r : (Int × Int × Mem)} (h : patinaref13_Front_Take k p0 p1 m = some r) : CallP Try.prog 19 [(Value.pointer p0), (Value.int .i64 p1)] m fun v m' => v = (Value.tuple ⟨[(Value.int .i64 r.1), (Value.int .i64 r.2.1)]⟩) ∧ m' = r.2.2 := by
  refine (fn_sound (C := patinaref13_Front_Take_C k) (c := body Try.f19) tOk mixed (patinaref13_Front_Take_callOk k) Try.func19 (by kernel_rfl) (by kernel_rfl) (by kernel_rfl) (by kernel_rfl) ?_ (Eq.trans (patinaref13_Front_Take_eq k p0 p1 m) h)).mono ?_
  · intro p hp; rw [show loopsOf 0 (body Try.f19) = [] by kernel_rfl] at hp; cases hp
  · intro v m' hp
    unfold patinaref13_Front_Take_dec at hp
    split at hp
    · simp only [Option.some.injEq] at hp; subst hp; exact ⟨rfl, rfl⟩
    · cases hp

/-! ### front_Front_Close -/
def front_Front_Close (k : Nat) (p0 : Option Addr) (m : Mem) : Option Mem :=
  (p0).bind fun a1 =>
  bif Nat.beq (List.length ((tt 41).zero)) 3 then (
  (stCells m a1 ((tt 41).zero)).bind fun m2 =>
  some (m2)) else none

def front_Front_Close_call {R : Type} (k : Nat) : Fun R := fun _ _ _ _ => none

theorem front_Front_Close_callOk {R : Type} (k : Nat) : CallOk Try.prog (front_Front_Close_call (R := R) k) := by
  intro f vs m K r h
  unfold front_Front_Close_call at h
  cases h

def front_Front_Close_loop (k : Nat) : Nat → List Value → Mem → (Nat → List Value → Mem → Option Mem) → Option Mem := fun _ _ _ _ => none

def front_Front_Close_C (k : Nat) : Ctx Mem := ⟨tt, front_Front_Close_call k, front_Front_Close_loop k, [], []⟩

def front_Front_Close_dec : Value → Mem → Option Mem := fun v m => match v with
  | .tuple ⟨[]⟩ => some (m)
  | _ => none

theorem front_Front_Close_eq (k : Nat) (p0 : Option Addr) (m : Mem) : fnX (front_Front_Close_C k) Try.f22 [(Value.pointer p0)] m front_Front_Close_dec = front_Front_Close k p0 m := by kernel_rfl

theorem front_Front_Close_ok {k : Nat} {p0 : Option Addr} {m : Mem} {r : Mem} (h : front_Front_Close k p0 m = some r) : CallP Try.prog 22 [(Value.pointer p0)] m fun v m' => v = (Value.tuple ⟨[]⟩) ∧ m' = r := by
  refine (fn_sound (C := front_Front_Close_C k) (c := body Try.f22) tOk mixed (front_Front_Close_callOk k) Try.func22 (by kernel_rfl) (by kernel_rfl) (by kernel_rfl) (by kernel_rfl) ?_ (Eq.trans (front_Front_Close_eq k p0 m) h)).mono ?_
  · intro p hp; rw [show loopsOf 0 (body Try.f22) = [] by kernel_rfl] at hp; cases hp
  · intro v m' hp
    unfold front_Front_Close_dec at hp
    split at hp
    · simp only [Option.some.injEq] at hp; subst hp; exact ⟨rfl, rfl⟩
    · cases hp

/-! ### patinalaw13_FrontPlays -/
def patinalaw13_FrontPlays_j2 (k : Nat) (x0a : Option Addr) (x0n : Nat) (x0c : Nat) (x3 : Bool) (x4 : Addr) (x5 : Addr) (x6 : Int) (nx : Option Addr → Nat → Nat → Bool → Addr → Addr → Int → Mem → Option (Bool × Mem)) (kx0 : Bool → Mem → Option (Bool × Mem)) (x13_ : Int) (mj : Mem) : Option (Bool × Mem) :=
  (front_Front_Block k (some x4) mj).bind fun r8 =>
  bif r8.1 != x13_ then (
  kx0 false r8.2) else (
  nx x0a x0n x0c x3 x4 x5 (IntKind.wrap .i64 (x6 + 1)) r8.2)

def patinalaw13_FrontPlays_j1 (k : Nat) (x0a : Option Addr) (x0n : Nat) (x0c : Nat) (x3 : Bool) (x4 : Addr) (x5 : Addr) (x6 : Int) (nx : Option Addr → Nat → Nat → Bool → Addr → Addr → Int → Mem → Option (Bool × Mem)) (kx0 : Bool → Mem → Option (Bool × Mem)) (mj : Mem) : Option (Bool × Mem) :=
  (ldBool mj (plus x5 0)).bind fun t9 =>
  bif t9 then (
  (ldInt .i64 mj (plus x5 1)).bind fun t10 =>
  patinalaw13_FrontPlays_j2 k x0a x0n x0c x3 x4 x5 x6 nx kx0 t10 mj) else (
  patinalaw13_FrontPlays_j2 k x0a x0n x0c x3 x4 x5 x6 nx kx0 (-1) mj)

def patinalaw13_FrontPlays_j3 (k : Nat) (x0a : Option Addr) (x0n : Nat) (x0c : Nat) (x3 : Bool) (x4 : Addr) (x5 : Addr) (x6 : Int) (m : Mem) (nx : Option Addr → Nat → Nat → Bool → Addr → Addr → Int → Mem → Option (Bool × Mem)) (kx0 : Bool → Mem → Option (Bool × Mem)) (r12 : Int × Mem) (x49_ : Bool) (mj : Mem) : Option (Bool × Mem) :=
  bif x49_ then (
  (ldInt .i64 mj (plus ⟨List.length m, 0, Option.none⟩ 1)).bind fun t22 =>
  (front_Front_Take k (some x4) t22 mj).bind fun r23 =>
  (ldInt .i64 r23.2.2 (plus ⟨List.length m, 0, Option.none⟩ 1)).bind fun t24 =>
  (patinaref13_Front_Take k (some x5) t24 r23.2.2).bind fun r25 =>
  bif r23.1 != r25.1 then (
  kx0 false r25.2.2) else (
  (patinalaw00_Code k r23.2.1 r25.2.2).bind fun r26 =>
  bif r26.1 != r25.2.1 then (
  kx0 false r26.2) else (
  patinalaw13_FrontPlays_j1 k x0a x0n x0c x3 x4 x5 x6 nx kx0 r26.2))) else (
  bif r12.1 == 3 then (
  (ldInt .i64 mj (plus ⟨List.length m, 0, Option.none⟩ 1)).bind fun t27 =>
  (front_Front_Room k (some x4) t27 mj).bind fun r28 =>
  (ldInt .i64 r28.2 (plus ⟨List.length m, 0, Option.none⟩ 1)).bind fun t29 =>
  (patinaref13_Front_Room k (some x5) t29 r28.2).bind fun r30 =>
  (ldInt .i64 mj (plus ⟨List.length m, 0, Option.none⟩ 1)).bind fun t31 =>
  bif t31 == t29 then (
  bif !(r28.1 == r30.1) then (
  kx0 false r30.2) else (
  patinalaw13_FrontPlays_j1 k x0a x0n x0c x3 x4 x5 x6 nx kx0 r30.2)) else none) else (
  bif r12.1 == 4 then (
  (front_Front_Close k (some x4) mj).bind fun r32 =>
  (st r32 (plus x5 0) (Value.bool false)).bind fun m33 =>
  patinalaw13_FrontPlays_j1 k x0a x0n x0c x3 x4 x5 x6 nx kx0 m33) else (
  patinalaw13_FrontPlays_j1 k x0a x0n x0c x3 x4 x5 x6 nx kx0 mj)))

def patinalaw13_FrontPlays_l0_b (k : Nat) (nx : Option Addr → Nat → Nat → Bool → Addr → Addr → Int → Mem → Option (Bool × Mem)) (kx0 : Bool → Mem → Option (Bool × Mem)) (kx2 : Bool → Mem → Option (Bool × Mem)) (x0a : Option Addr) (x0n : Nat) (x0c : Nat) (x3 : Bool) (x4 : Addr) (x5 : Addr) (x6 : Int) (m : Mem) : Option (Bool × Mem) :=
  bif decide (x6 < ((x0n : Nat) : Int)) then (
  bif inRange x6 x0n then (
  (x0a).bind fun a4 =>
  (ldCells m (plus a4 (Int.toNat x6 * 3)) 3).bind fun t5 =>
  let m6 : Mem := m ++ [.live (tt 46).zero]
  bif Nat.beq (List.length t5) 3 then (
  (stCells m6 ⟨List.length m, 0, Option.none⟩ t5).bind fun m7 =>
  (ldInt .i64 m7 (plus ⟨List.length m, 0, Option.none⟩ 0)).bind fun t11 =>
  (patinalaw13_pick k t11 6 m7).bind fun r12 =>
  bif r12.1 == 0 then (
  (ldInt .i64 r12.2 (plus ⟨List.length m, 0, Option.none⟩ 1)).bind fun t13 =>
  (ldInt .i64 r12.2 (plus ⟨List.length m, 0, Option.none⟩ 2)).bind fun t14 =>
  (front_Front_Open k (some x4) t13 t14 r12.2).bind fun r15 =>
  (patinalaw00_Code k r15.1 r15.2).bind fun r16 =>
  (ldInt .i64 r16.2 (plus ⟨List.length m, 0, Option.none⟩ 1)).bind fun t17 =>
  (ldInt .i64 r16.2 (plus ⟨List.length m, 0, Option.none⟩ 2)).bind fun t18 =>
  (patinaref13_Front_Open k (some x5) t17 t18 r16.2).bind fun r19 =>
  (ldInt .i64 r15.2 (plus ⟨List.length m, 0, Option.none⟩ 1)).bind fun t20 =>
  bif t20 == t17 then (
  (ldInt .i64 r15.2 (plus ⟨List.length m, 0, Option.none⟩ 2)).bind fun t21 =>
  bif t21 == t18 then (
  bif r16.1 != r19.1 then (
  kx0 false r19.2) else (
  patinalaw13_FrontPlays_j1 k x0a x0n x0c x3 x4 x5 x6 nx kx0 r19.2)) else none) else none) else (
  bif r12.1 == 1 then (
  patinalaw13_FrontPlays_j3 k x0a x0n x0c x3 x4 x5 x6 m nx kx0 r12 (r12.1 == 1) r12.2) else (
  patinalaw13_FrontPlays_j3 k x0a x0n x0c x3 x4 x5 x6 m nx kx0 r12 (r12.1 == 2) r12.2))) else none) else none) else (
  kx2 x3 m)

def patinalaw13_FrontPlays_l0 (k : Nat) (kx0 : Bool → Mem → Option (Bool × Mem)) (kx2 : Bool → Mem → Option (Bool × Mem)) : Nat → Option Addr → Nat → Nat → Bool → Addr → Addr → Int → Mem → Option (Bool × Mem)
  | 0, _, _, _, _, _, _, _, _ => none
  | n + 1, x0a, x0n, x0c, x3, x4, x5, x6, m => patinalaw13_FrontPlays_l0_b k (fun x0a x0n x0c x3 x4 x5 x6 m => patinalaw13_FrontPlays_l0 k kx0 kx2 n x0a x0n x0c x3 x4 x5 x6 m) kx0 kx2 x0a x0n x0c x3 x4 x5 x6 m

def patinalaw13_FrontPlays (k : Nat) (p0a : Option Addr) (p0n : Nat) (p0c : Nat) (m : Mem) : Option (Bool × Mem) :=
  (patinalaw13_up k  m).bind fun r1 =>
  bif Nat.beq (List.length ((tt 41).zero)) 3 then (
  let m2 : Mem := r1.2 ++ [.live ((tt 41).zero)]
  bif Nat.beq (List.length ((tt 44).zero)) 3 then (
  let m3 : Mem := m2 ++ [.live ((tt 44).zero)]
  patinalaw13_FrontPlays_l0 k (fun y2 m34 => 
  some (y2, m34)) (fun y3 m35 => 
  some (y3, m35)) k p0a p0n p0c r1.1 ⟨List.length r1.2, 0, Option.none⟩ ⟨List.length m2, 0, Option.none⟩ 0 m3) else none) else none

def patinalaw13_FrontPlays_call {R : Type} (k : Nat) : Fun R := fun f args m K => match f, args with
  | 13, [p0] => (patinalaw00_Code k p0 m).bind fun r => K (Value.int .i64 r.1) r.2
  | 14, [] => (patinalaw13_up k  m).bind fun r => K (Value.bool r.1) r.2
  | 15, [.int .i64 p0, .int .i64 p1] => (patinalaw13_pick k p0 p1 m).bind fun r => K (Value.int .i64 r.1) r.2
  | 16, [.pointer p0, .int .i64 p1, .int .i64 p2] => (front_Front_Open k p0 p1 p2 m).bind fun r => K r.1 r.2
  | 17, [.pointer p0, .int .i64 p1, .int .i64 p2] => (patinaref13_Front_Open k p0 p1 p2 m).bind fun r => K (Value.int .i64 r.1) r.2
  | 18, [.pointer p0, .int .i64 p1] => (front_Front_Take k p0 p1 m).bind fun r => K (Value.tuple ⟨[(Value.int .i64 r.1), r.2.1]⟩) r.2.2
  | 19, [.pointer p0, .int .i64 p1] => (patinaref13_Front_Take k p0 p1 m).bind fun r => K (Value.tuple ⟨[(Value.int .i64 r.1), (Value.int .i64 r.2.1)]⟩) r.2.2
  | 20, [.pointer p0, .int .i64 p1] => (front_Front_Room k p0 p1 m).bind fun r => K (Value.bool r.1) r.2
  | 21, [.pointer p0, .int .i64 p1] => (patinaref13_Front_Room k p0 p1 m).bind fun r => K (Value.bool r.1) r.2
  | 22, [.pointer p0] => (front_Front_Close k p0 m).bind fun r => K (Value.tuple ⟨[]⟩) r
  | 23, [.pointer p0] => (front_Front_Block k p0 m).bind fun r => K (Value.int .i64 r.1) r.2
  | _, _ => none

theorem patinalaw13_FrontPlays_callOk {R : Type} (k : Nat) : CallOk Try.prog (patinalaw13_FrontPlays_call (R := R) k) := by
  intro f vs m K r h
  unfold patinalaw13_FrontPlays_call at h
  split at h
  · obtain ⟨r, h1, h2⟩ := Option.bind_eq_some_iff.1 h; exact ⟨_, _, h2, fun K' => by simp only [patinalaw13_FrontPlays_call, h1, Option.bind_some], patinalaw00_Code_ok h1⟩
  · obtain ⟨r, h1, h2⟩ := Option.bind_eq_some_iff.1 h; exact ⟨_, _, h2, fun K' => by simp only [patinalaw13_FrontPlays_call, h1, Option.bind_some], patinalaw13_up_ok h1⟩
  · obtain ⟨r, h1, h2⟩ := Option.bind_eq_some_iff.1 h; exact ⟨_, _, h2, fun K' => by simp only [patinalaw13_FrontPlays_call, h1, Option.bind_some], patinalaw13_pick_ok h1⟩
  · obtain ⟨r, h1, h2⟩ := Option.bind_eq_some_iff.1 h; exact ⟨_, _, h2, fun K' => by simp only [patinalaw13_FrontPlays_call, h1, Option.bind_some], front_Front_Open_ok h1⟩
  · obtain ⟨r, h1, h2⟩ := Option.bind_eq_some_iff.1 h; exact ⟨_, _, h2, fun K' => by simp only [patinalaw13_FrontPlays_call, h1, Option.bind_some], patinaref13_Front_Open_ok h1⟩
  · obtain ⟨r, h1, h2⟩ := Option.bind_eq_some_iff.1 h; exact ⟨_, _, h2, fun K' => by simp only [patinalaw13_FrontPlays_call, h1, Option.bind_some], front_Front_Take_ok h1⟩
  · obtain ⟨r, h1, h2⟩ := Option.bind_eq_some_iff.1 h; exact ⟨_, _, h2, fun K' => by simp only [patinalaw13_FrontPlays_call, h1, Option.bind_some], patinaref13_Front_Take_ok h1⟩
  · obtain ⟨r, h1, h2⟩ := Option.bind_eq_some_iff.1 h; exact ⟨_, _, h2, fun K' => by simp only [patinalaw13_FrontPlays_call, h1, Option.bind_some], front_Front_Room_ok h1⟩
  · obtain ⟨r, h1, h2⟩ := Option.bind_eq_some_iff.1 h; exact ⟨_, _, h2, fun K' => by simp only [patinalaw13_FrontPlays_call, h1, Option.bind_some], patinaref13_Front_Room_ok h1⟩
  · obtain ⟨r, h1, h2⟩ := Option.bind_eq_some_iff.1 h; exact ⟨_, _, h2, fun K' => by simp only [patinalaw13_FrontPlays_call, h1, Option.bind_some], front_Front_Close_ok h1⟩
  · obtain ⟨r, h1, h2⟩ := Option.bind_eq_some_iff.1 h; exact ⟨_, _, h2, fun K' => by simp only [patinalaw13_FrontPlays_call, h1, Option.bind_some], front_Front_Block_ok h1⟩
  · cases h

def patinalaw13_FrontPlays_l0_L (k : Nat) (K : Nat → List Value → Mem → Option (Bool × Mem)) (n : Nat) (vs : List Value) (m : Mem) : Option (Bool × Mem) := match vs with
  | [.slice x0a x0n x0c, .bool x3, .pointer (some x4), .pointer (some x5), .int .i64 x6] => patinalaw13_FrontPlays_l0 k (fun y2 m => K 0 [(Value.bool y2)] m) (fun y3 m => K 2 [(Value.bool y3)] m) n x0a x0n x0c x3 x4 x5 x6 m
  | _ => none

def patinalaw13_FrontPlays_loop (k : Nat) : Nat → List Value → Mem → (Nat → List Value → Mem → Option (Bool × Mem)) → Option (Bool × Mem) := fun cur vs m K => match cur with
  | 0 => patinalaw13_FrontPlays_l0_L k K k vs m
  | _ => none

def patinalaw13_FrontPlays_C (k : Nat) : Ctx (Bool × Mem) := ⟨tt, patinalaw13_FrontPlays_call k, patinalaw13_FrontPlays_loop k, [(0, [0, 3, 4, 5, 6])], [(0, [2]), (2, [3])]⟩

noncomputable def patinalaw13_FrontPlays_l0_c : Code := ((loopsOf 0 (body Try.f4)).map (·.2)).getD 0 .skip

theorem patinalaw13_FrontPlays_loops : loopsOf 0 (body Try.f4) = [(0, patinalaw13_FrontPlays_l0_c)] := by kernel_rfl

theorem patinalaw13_FrontPlays_l0_ok (k : Nat) : LoopOk (patinalaw13_FrontPlays_C k) 0 patinalaw13_FrontPlays_l0_c := by
  refine ⟨[0, 3, 4, 5, 6], by kernel_rfl, fun K r => ⟨patinalaw13_FrontPlays_l0_L k K, fun vs m h => ⟨k, h⟩, ?_⟩⟩
  intro n vs m h
  unfold patinalaw13_FrontPlays_l0_L at h
  split at h
  · cases n with
    | zero => cases h
    | succ n => exact ⟨n, rfl, Eq.trans (by kernel_rfl) h⟩
  · cases h

def patinalaw13_FrontPlays_dec : Value → Mem → Option (Bool × Mem) := fun v m => match v with
  | .bool q0 => some (q0, m)
  | _ => none

theorem patinalaw13_FrontPlays_eq (k : Nat) (p0a : Option Addr) (p0n : Nat) (p0c : Nat) (m : Mem) : fnX (patinalaw13_FrontPlays_C k) Try.f4 [(Value.slice p0a p0n p0c)] m patinalaw13_FrontPlays_dec = patinalaw13_FrontPlays k p0a p0n p0c m := by kernel_rfl

theorem patinalaw13_FrontPlays_ok {k : Nat} {p0a : Option Addr} {p0n : Nat} {p0c : Nat} {m : Mem} {r : (Bool × Mem)} (h : patinalaw13_FrontPlays k p0a p0n p0c m = some r) : CallP Try.prog 4 [(Value.slice p0a p0n p0c)] m fun v m' => v = (Value.bool r.1) ∧ m' = r.2 := by
  refine (fn_sound (C := patinalaw13_FrontPlays_C k) (c := body Try.f4) tOk mixed (patinalaw13_FrontPlays_callOk k) Try.func4 (by kernel_rfl) (by kernel_rfl) (by kernel_rfl) (by kernel_rfl) ?_ (Eq.trans (patinalaw13_FrontPlays_eq k p0a p0n p0c m) h)).mono ?_
  · intro p hp
    rw [patinalaw13_FrontPlays_loops] at hp
    simp only [List.mem_cons, List.not_mem_nil, or_false] at hp
    rcases hp with rfl
    · exact patinalaw13_FrontPlays_l0_ok k
  · intro v m' hp
    unfold patinalaw13_FrontPlays_dec at hp
    split at hp
    · simp only [Option.some.injEq] at hp; subst hp; exact ⟨rfl, rfl⟩
    · cases hp

end Go.Proofs.Ytnilidpafijdlab
