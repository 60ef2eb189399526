/- The program's functions as plain Lean functions over a clean memory, each held against the program by the kernel. Written by mx.py. -/
import Derived.Test.YteilkkojcojaiaaF0
import Derived.Test.YteilkkojcojaiaaFpatrol
set_option linter.unusedVariables false
set_option maxRecDepth 100000
namespace Go.Proofs.Yteilkkojcojaiaa
open Go.Mx

/-! ### patinalaw15_up -/
def patinalaw15_up (k : Nat) (m : Mem) : Option (Bool × Mem) :=
  (patrol_New k 90 m).bind fun r1 =>
  bif Option.isNone r1.1 then (
  some (false, r1.2.2)) else (
  (isNil r1.2.1).bind fun b2 =>
  bif !b2 then (
  some (false, r1.2.2)) else (
  (patrol_Patrol_Step k r1.1 r1.2.2).bind fun r3 =>
  let m4 : Mem := r3.2 ++ [.live [.slice none 0 0]]
  (patrol_Queue_Add k (some ⟨List.length r3.2, 0, Option.none⟩) 3 m4).bind fun r5 =>
  (patrol_Queue_Next k (some ⟨List.length r3.2, 0, Option.none⟩) r5.2).bind fun r6 =>
  bif ((r3.1.len : Nat) : Int) == 8 then (
  bif inRange 0 r3.1.len then (
  (r3.1.a).bind fun a7 =>
  (ldInt .i64 r6.2.2 (plus a7 (Int.toNat 0 * 1))).bind fun t8 =>
  bif t8 == 90 then (
  bif inRange 5 r3.1.len then (
  (r3.1.a).bind fun a9 =>
  (ldInt .i64 r6.2.2 (plus a9 (Int.toNat 5 * 1))).bind fun t10 =>
  bif t10 == 95 then (
  bif inRange 6 r3.1.len then (
  (r3.1.a).bind fun a11 =>
  (ldInt .i64 r6.2.2 (plus a11 (Int.toNat 6 * 1))).bind fun t12 =>
  bif t12 == 0 then (
  (patrol_Patrol_Cursor k r1.1 r6.2.2).bind fun r13 =>
  bif r13.1 == 2 then (
  (patrol_Patrol_Calls k r1.1 r13.2).bind fun r14 =>
  bif r14.1 == 1 then (
  (isNil r5.1).bind fun b15 =>
  bif b15 then (
  bif r6.1 == 3 then (
  some (r6.2.1, r14.2)) else (
  some (false, r14.2))) else (
  some (false, r14.2))) else (
  some (false, r14.2))) else (
  some (false, r13.2))) else (
  some (false, r6.2.2))) else none) else (
  some (false, r6.2.2))) else none) else (
  some (false, r6.2.2))) else none) else (
  some (false, r6.2.2))))

def patinalaw15_up_call {R : Type} (k : Nat) : Fun R := callCons 6 (patrol_Queue_Add_arm k) (callCons 9 (patrol_Queue_Next_arm k) (callCons 12 (patrol_New_arm k) (callCons 13 (patrol_Patrol_Step_arm k) (callCons 14 (patrol_Patrol_Cursor_arm k) (callCons 15 (patrol_Patrol_Calls_arm k) (callNil))))))

theorem patinalaw15_up_callOk {R : Type} (k : Nat) : CallOk Try.prog (patinalaw15_up_call (R := R) k) := callOk_cons (patrol_Queue_Add_armOk k) (callOk_cons (patrol_Queue_Next_armOk k) (callOk_cons (patrol_New_armOk k) (callOk_cons (patrol_Patrol_Step_armOk k) (callOk_cons (patrol_Patrol_Cursor_armOk k) (callOk_cons (patrol_Patrol_Calls_armOk k) (callOk_nil))))))

def patinalaw15_up_loop (k : Nat) : Nat → List Value → Mem → (Nat → List Value → Mem → Option (Bool × Mem)) → Option (Bool × Mem) := fun _ _ _ _ => none

def patinalaw15_up_C (k : Nat) : Ctx (Bool × Mem) := ⟨tt, patinalaw15_up_call k, patinalaw15_up_loop k, [], []⟩

def patinalaw15_up_dec : Value → Mem → Option (Bool × Mem) := fun v m => match v with
  | .bool q0 => some (q0, m)
  | _ => none

theorem patinalaw15_up_eq (k : Nat) (m : Mem) : fnX (patinalaw15_up_C k) Try.f4 [] m patinalaw15_up_dec = patinalaw15_up k  m := by kernel_rfl

theorem patinalaw15_up_ok {k : Nat} {m : Mem} {r : (Bool × Mem)} (h : patinalaw15_up k  m = some r) : CallP Try.prog 4 [] m fun v m' => v = (Value.bool r.1) ∧ m' = r.2 := by
  refine (fn_sound (C := patinalaw15_up_C k) (c := body Try.f4) tOk mixed (patinalaw15_up_callOk k) Try.func4 (by kernel_rfl) (by kernel_rfl) (by kernel_rfl) (by kernel_rfl) ?_ (Eq.trans (patinalaw15_up_eq k  m) h)).mono ?_
  · intro p hp; rw [show loopsOf 0 (body Try.f4) = [] by kernel_rfl] at hp; cases hp
  · intro v m' hp
    unfold patinalaw15_up_dec at hp
    split at hp
    · simp only [Option.some.injEq] at hp; subst hp; exact ⟨rfl, rfl⟩
    · cases hp

def patinalaw15_up_arm {R : Type} (k : Nat) : Arm R := fun vs m K => match vs with
  | [] => (patinalaw15_up k  m).bind fun r => K (Value.bool r.1) r.2
  | _ => none

theorem patinalaw15_up_armOk {R : Type} (k : Nat) : ArmOk Try.prog 4 (patinalaw15_up_arm (R := R) k) := by
  intro vs m K r h
  unfold patinalaw15_up_arm at h
  split at h
  · obtain ⟨r, h1, h2⟩ := Option.bind_eq_some_iff.1 h; exact ⟨_, _, h2, fun K' => by simp only [patinalaw15_up_arm, h1, Option.bind_some], patinalaw15_up_ok h1⟩
  · cases h

/-! ### patinalaw15_pick -/
def patinalaw15_pick_j1 (k : Nat) (p1 : Int) (x0_ : Int) (mj : Mem) : Option (Int × Mem) :=
  bif isZero p1 then none else (
  some (Int.tmod x0_ p1, mj))

def patinalaw15_pick (k : Nat) (p0 : Int) (p1 : Int) (m : Mem) : Option (Int × Mem) :=
  bif decide (p0 < 0) then (
  patinalaw15_pick_j1 k p1 (IntKind.wrap .i64 (0 - (IntKind.wrap .i64 (p0 + 1)))) m) else (
  patinalaw15_pick_j1 k p1 p0 m)

def patinalaw15_pick_call {R : Type} (k : Nat) : Fun R := callNil

theorem patinalaw15_pick_callOk {R : Type} (k : Nat) : CallOk Try.prog (patinalaw15_pick_call (R := R) k) := callOk_nil

def patinalaw15_pick_loop (k : Nat) : Nat → List Value → Mem → (Nat → List Value → Mem → Option (Int × Mem)) → Option (Int × Mem) := fun _ _ _ _ => none

def patinalaw15_pick_C (k : Nat) : Ctx (Int × Mem) := ⟨tt, patinalaw15_pick_call k, patinalaw15_pick_loop k, [], []⟩

def patinalaw15_pick_dec : Value → Mem → Option (Int × Mem) := fun v m => match v with
  | .int .i64 q0 => some (q0, m)
  | _ => none

theorem patinalaw15_pick_eq (k : Nat) (p0 : Int) (p1 : Int) (m : Mem) : fnX (patinalaw15_pick_C k) Try.f5 [(Value.int .i64 p0), (Value.int .i64 p1)] m patinalaw15_pick_dec = patinalaw15_pick k p0 p1 m := by kernel_rfl

theorem patinalaw15_pick_ok {k : Nat} {p0 : Int} {p1 : Int} {m : Mem} {r : (Int × Mem)} (h : patinalaw15_pick k p0 p1 m = some r) : CallP Try.prog 5 [(Value.int .i64 p0), (Value.int .i64 p1)] m fun v m' => v = (Value.int .i64 r.1) ∧ m' = r.2 := by
  refine (fn_sound (C := patinalaw15_pick_C k) (c := body Try.f5) tOk mixed (patinalaw15_pick_callOk k) Try.func5 (by kernel_rfl) (by kernel_rfl) (by kernel_rfl) (by kernel_rfl) ?_ (Eq.trans (patinalaw15_pick_eq k p0 p1 m) h)).mono ?_
  · intro p hp; rw [show loopsOf 0 (body Try.f5) = [] by kernel_rfl] at hp; cases hp
  · intro v m' hp
    unfold patinalaw15_pick_dec at hp
    split at hp
    · simp only [Option.some.injEq] at hp; subst hp; exact ⟨rfl, rfl⟩
    · cases hp

def patinalaw15_pick_arm {R : Type} (k : Nat) : Arm R := fun vs m K => match vs with
  | [.int .i64 p0, .int .i64 p1] => (patinalaw15_pick k p0 p1 m).bind fun r => K (Value.int .i64 r.1) r.2
  | _ => none

theorem patinalaw15_pick_armOk {R : Type} (k : Nat) : ArmOk Try.prog 5 (patinalaw15_pick_arm (R := R) k) := by
  intro vs m K r h
  unfold patinalaw15_pick_arm at h
  split at h
  · obtain ⟨r, h1, h2⟩ := Option.bind_eq_some_iff.1 h; exact ⟨_, _, h2, fun K' => by simp only [patinalaw15_pick_arm, h1, Option.bind_some], patinalaw15_pick_ok h1⟩
  · cases h

end Go.Proofs.Yteilkkojcojaiaa
