/- The program's functions as plain Lean functions over a clean memory, each held against the program by the kernel. Written by mx.py. -/
import Derived.Test.YteilkkojcojaiaaF0
set_option linter.unusedVariables false
set_option maxRecDepth 100000
namespace Go.Proofs.Yteilkkojcojaiaa
open Go.Mx

/-! ### geom_is -/
def geom_is (k : Nat) (p0 : Int) (m : Mem) : Option (Bool × Mem) :=
  bif decide (p0 ≥ 0) then (
  some (decide (p0 < 96), m)) else (
  some (false, m))

def geom_is_call {R : Type} (k : Nat) : Fun R := callNil

theorem geom_is_callOk {R : Type} (k : Nat) : CallOk Try.prog (geom_is_call (R := R) k) := callOk_nil

def geom_is_loop (k : Nat) : Nat → List Value → Mem → (Nat → List Value → Mem → Option (Bool × Mem)) → Option (Bool × Mem) := fun _ _ _ _ => none

def geom_is_C (k : Nat) : Ctx (Bool × Mem) := ⟨tt, geom_is_call k, geom_is_loop k, [], []⟩

def geom_is_dec : Value → Mem → Option (Bool × Mem) := fun v m => match v with
  | .bool q0 => some (q0, m)
  | _ => none

theorem geom_is_eq (k : Nat) (p0 : Int) (m : Mem) : fnX (geom_is_C k) Try.f22 [(Value.int .i64 p0)] m geom_is_dec = geom_is k p0 m := by kernel_rfl

theorem geom_is_ok {k : Nat} {p0 : Int} {m : Mem} {r : (Bool × Mem)} (h : geom_is k p0 m = some r) : CallP Try.prog 22 [(Value.int .i64 p0)] m fun v m' => v = (Value.bool r.1) ∧ m' = r.2 := by
  refine (fn_sound (C := geom_is_C k) (c := body Try.f22) tOk mixed (geom_is_callOk k) Try.func22 (by kernel_rfl) (by kernel_rfl) (by kernel_rfl) (by kernel_rfl) ?_ (Eq.trans (geom_is_eq k p0 m) h)).mono ?_
  · intro p hp; rw [show loopsOf 0 (body Try.f22) = [] by kernel_rfl] at hp; cases hp
  · intro v m' hp
    unfold geom_is_dec at hp
    split at hp
    · simp only [Option.some.injEq] at hp; subst hp; exact ⟨rfl, rfl⟩
    · cases hp

def geom_is_arm {R : Type} (k : Nat) : Arm R := fun vs m K => match vs with
  | [.int .i64 p0] => (geom_is k p0 m).bind fun r => K (Value.bool r.1) r.2
  | _ => none

theorem geom_is_armOk {R : Type} (k : Nat) : ArmOk Try.prog 22 (geom_is_arm (R := R) k) := by
  intro vs m K r h
  unfold geom_is_arm at h
  split at h
  · obtain ⟨r, h1, h2⟩ := Option.bind_eq_some_iff.1 h; exact ⟨_, _, h2, fun K' => by simp only [geom_is_arm, h1, Option.bind_some], geom_is_ok h1⟩
  · cases h

/-! ### geom_Parts -/
def geom_Parts (k : Nat) (p0 : Int) (m : Mem) : Option (Int × Int × Value × Mem) :=
  (geom_is k p0 m).bind fun r1 =>
  bif !r1.1 then (
  some (0, 0, (Value.iface ty_api_Code (Value.int .i64 1)), r1.2)) else (
  some (IntKind.wrap .i64 (Int.tdiv p0 8), Int.tmod p0 8, Value.nilIface, r1.2))

def geom_Parts_call {R : Type} (k : Nat) : Fun R := callCons 22 (geom_is_arm k) (callNil)

theorem geom_Parts_callOk {R : Type} (k : Nat) : CallOk Try.prog (geom_Parts_call (R := R) k) := callOk_cons (geom_is_armOk k) (callOk_nil)

def geom_Parts_loop (k : Nat) : Nat → List Value → Mem → (Nat → List Value → Mem → Option (Int × Int × Value × Mem)) → Option (Int × Int × Value × Mem) := fun _ _ _ _ => none

def geom_Parts_C (k : Nat) : Ctx (Int × Int × Value × Mem) := ⟨tt, geom_Parts_call k, geom_Parts_loop k, [], []⟩

def geom_Parts_dec : Value → Mem → Option (Int × Int × Value × Mem) := fun v m => match v with
  | .tuple ⟨[.int .i64 q0, .int .i64 q1, q2]⟩ => some (q0, q1, q2, m)
  | _ => none

theorem geom_Parts_eq (k : Nat) (p0 : Int) (m : Mem) : fnX (geom_Parts_C k) Try.f19 [(Value.int .i64 p0)] m geom_Parts_dec = geom_Parts k p0 m := by kernel_rfl

theorem geom_Parts_ok {k : Nat} {p0 : Int} {m : Mem} {r : (Int × Int × Value × Mem)} (h : geom_Parts k p0 m = some r) : CallP Try.prog 19 [(Value.int .i64 p0)] m fun v m' => v = (Value.tuple ⟨[(Value.int .i64 r.1), (Value.int .i64 r.2.1), r.2.2.1]⟩) ∧ m' = r.2.2.2 := by
  refine (fn_sound (C := geom_Parts_C k) (c := body Try.f19) tOk mixed (geom_Parts_callOk k) Try.func19 (by kernel_rfl) (by kernel_rfl) (by kernel_rfl) (by kernel_rfl) ?_ (Eq.trans (geom_Parts_eq k p0 m) h)).mono ?_
  · intro p hp; rw [show loopsOf 0 (body Try.f19) = [] by kernel_rfl] at hp; cases hp
  · intro v m' hp
    unfold geom_Parts_dec at hp
    split at hp
    · simp only [Option.some.injEq] at hp; subst hp; exact ⟨rfl, rfl⟩
    · cases hp

def geom_Parts_arm {R : Type} (k : Nat) : Arm R := fun vs m K => match vs with
  | [.int .i64 p0] => (geom_Parts k p0 m).bind fun r => K (Value.tuple ⟨[(Value.int .i64 r.1), (Value.int .i64 r.2.1), r.2.2.1]⟩) r.2.2.2
  | _ => none

theorem geom_Parts_armOk {R : Type} (k : Nat) : ArmOk Try.prog 19 (geom_Parts_arm (R := R) k) := by
  intro vs m K r h
  unfold geom_Parts_arm at h
  split at h
  · obtain ⟨r, h1, h2⟩ := Option.bind_eq_some_iff.1 h; exact ⟨_, _, h2, fun K' => by simp only [geom_Parts_arm, h1, Option.bind_some], geom_Parts_ok h1⟩
  · cases h

/-! ### geom_On -/
def geom_On (k : Nat) (p0 : Int) (p1 : Int) (m : Mem) : Option (Int × Value × Mem) :=
  (geom_is k p0 m).bind fun r1 =>
  bif !r1.1 then (
  some (0, (Value.iface ty_api_Code (Value.int .i64 1)), r1.2)) else (
  some (Int.tmod (IntKind.wrap .i64 ((IntKind.wrap .i64 (p0 + (Int.tmod p1 96))) + 96)) 96, Value.nilIface, r1.2))

def geom_On_call {R : Type} (k : Nat) : Fun R := callCons 22 (geom_is_arm k) (callNil)

theorem geom_On_callOk {R : Type} (k : Nat) : CallOk Try.prog (geom_On_call (R := R) k) := callOk_cons (geom_is_armOk k) (callOk_nil)

def geom_On_loop (k : Nat) : Nat → List Value → Mem → (Nat → List Value → Mem → Option (Int × Value × Mem)) → Option (Int × Value × Mem) := fun _ _ _ _ => none

def geom_On_C (k : Nat) : Ctx (Int × Value × Mem) := ⟨tt, geom_On_call k, geom_On_loop k, [], []⟩

def geom_On_dec : Value → Mem → Option (Int × Value × Mem) := fun v m => match v with
  | .tuple ⟨[.int .i64 q0, q1]⟩ => some (q0, q1, m)
  | _ => none

theorem geom_On_eq (k : Nat) (p0 : Int) (p1 : Int) (m : Mem) : fnX (geom_On_C k) Try.f20 [(Value.int .i64 p0), (Value.int .i64 p1)] m geom_On_dec = geom_On k p0 p1 m := by kernel_rfl

theorem geom_On_ok {k : Nat} {p0 : Int} {p1 : Int} {m : Mem} {r : (Int × Value × Mem)} (h : geom_On k p0 p1 m = some r) : CallP Try.prog 20 [(Value.int .i64 p0), (Value.int .i64 p1)] m fun v m' => v = (Value.tuple ⟨[(Value.int .i64 r.1), r.2.1]⟩) ∧ m' = r.2.2 := by
  refine (fn_sound (C := geom_On_C k) (c := body Try.f20) tOk mixed (geom_On_callOk k) Try.func20 (by kernel_rfl) (by kernel_rfl) (by kernel_rfl) (by kernel_rfl) ?_ (Eq.trans (geom_On_eq k p0 p1 m) h)).mono ?_
  · intro p hp; rw [show loopsOf 0 (body Try.f20) = [] by kernel_rfl] at hp; cases hp
  · intro v m' hp
    unfold geom_On_dec at hp
    split at hp
    · simp only [Option.some.injEq] at hp; subst hp; exact ⟨rfl, rfl⟩
    · cases hp

def geom_On_arm {R : Type} (k : Nat) : Arm R := fun vs m K => match vs with
  | [.int .i64 p0, .int .i64 p1] => (geom_On k p0 p1 m).bind fun r => K (Value.tuple ⟨[(Value.int .i64 r.1), r.2.1]⟩) r.2.2
  | _ => none

theorem geom_On_armOk {R : Type} (k : Nat) : ArmOk Try.prog 20 (geom_On_arm (R := R) k) := by
  intro vs m K r h
  unfold geom_On_arm at h
  split at h
  · obtain ⟨r, h1, h2⟩ := Option.bind_eq_some_iff.1 h; exact ⟨_, _, h2, fun K' => by simp only [geom_On_arm, h1, Option.bind_some], geom_On_ok h1⟩
  · cases h

end Go.Proofs.Yteilkkojcojaiaa
