/- The program's functions as plain Lean functions over a clean memory, each held against the program by the kernel. Written by mx.py. -/
import Derived.Test.YtnilidpafijdlacF0
set_option linter.unusedVariables false
set_option maxRecDepth 100000
namespace Go.Proofs.Ytnilidpafijdlac
open Go.Mx

/-! ### patinaref04_Is -/
def patinaref04_Is (k : Nat) (p0 : Int) (m : Mem) : Option (Bool × Mem) :=
  bif decide (p0 ≥ 0) then (
  some (decide (p0 ≤ 95), m)) else (
  some (false, m))

def patinaref04_Is_call {R : Type} (k : Nat) : Fun R := fun _ _ _ _ => none

theorem patinaref04_Is_callOk {R : Type} (k : Nat) : CallOk Try.prog (patinaref04_Is_call (R := R) k) := by
  intro f vs m K r h
  unfold patinaref04_Is_call at h
  cases h

def patinaref04_Is_loop (k : Nat) : Nat → List Value → Mem → (Nat → List Value → Mem → Option (Bool × Mem)) → Option (Bool × Mem) := fun _ _ _ _ => none

def patinaref04_Is_C (k : Nat) : Ctx (Bool × Mem) := ⟨tt, patinaref04_Is_call k, patinaref04_Is_loop k, [], []⟩

def patinaref04_Is_dec : Value → Mem → Option (Bool × Mem) := fun v m => match v with
  | .bool q0 => some (q0, m)
  | _ => none

theorem patinaref04_Is_eq (k : Nat) (p0 : Int) (m : Mem) : fnX (patinaref04_Is_C k) Try.f65 [(Value.int .i64 p0)] m patinaref04_Is_dec = patinaref04_Is k p0 m := by kernel_rfl

theorem patinaref04_Is_ok {k : Nat} {p0 : Int} {m : Mem} {r : (Bool × Mem)} (h : patinaref04_Is k p0 m = some r) : CallP Try.prog 65 [(Value.int .i64 p0)] m fun v m' => v = (Value.bool r.1) ∧ m' = r.2 := by
  refine (fn_sound (C := patinaref04_Is_C k) (c := body Try.f65) tOk mixed (patinaref04_Is_callOk k) Try.func65 (by kernel_rfl) (by kernel_rfl) (by kernel_rfl) (by kernel_rfl) ?_ (Eq.trans (patinaref04_Is_eq k p0 m) h)).mono ?_
  · intro p hp; rw [show loopsOf 0 (body Try.f65) = [] by kernel_rfl] at hp; cases hp
  · intro v m' hp
    unfold patinaref04_Is_dec at hp
    split at hp
    · simp only [Option.some.injEq] at hp; subst hp; exact ⟨rfl, rfl⟩
    · cases hp

/-! ### patinaref04_Holds -/
def patinaref04_Holds (k : Nat) (p0 : Int) (p1 : Int) (m : Mem) : Option (Bool × Int × Mem) :=
  (patinaref04_Is k p0 m).bind fun r1 =>
  bif !r1.1 then (
  some (false, 1, r1.2)) else (
  bif decide (p1 < 0) then (
  some (false, 1, r1.2)) else (
  bif decide (p1 > 24) then (
  some (false, 1, r1.2)) else (
  bif p1 == 24 then (
  some (true, 0, r1.2)) else (
  some (decide ((Int.tmod p0 8) < 6), 0, r1.2)))))

def patinaref04_Holds_call {R : Type} (k : Nat) : Fun R := fun f args m K => match f, args with
  | 65, [.int .i64 p0] => (patinaref04_Is k p0 m).bind fun r => K (Value.bool r.1) r.2
  | _, _ => none

theorem patinaref04_Holds_callOk {R : Type} (k : Nat) : CallOk Try.prog (patinaref04_Holds_call (R := R) k) := by
  intro f vs m K r h
  unfold patinaref04_Holds_call at h
  split at h
  · obtain ⟨r, h1, h2⟩ := Option.bind_eq_some_iff.1 h; exact ⟨_, _, h2, fun K' => by simp only [patinaref04_Holds_call, h1, Option.bind_some], patinaref04_Is_ok h1⟩
  · cases h

def patinaref04_Holds_loop (k : Nat) : Nat → List Value → Mem → (Nat → List Value → Mem → Option (Bool × Int × Mem)) → Option (Bool × Int × Mem) := fun _ _ _ _ => none

def patinaref04_Holds_C (k : Nat) : Ctx (Bool × Int × Mem) := ⟨tt, patinaref04_Holds_call k, patinaref04_Holds_loop k, [], []⟩

def patinaref04_Holds_dec : Value → Mem → Option (Bool × Int × Mem) := fun v m => match v with
  | .tuple ⟨[.bool q0, .int .i64 q1]⟩ => some (q0, q1, m)
  | _ => none

theorem patinaref04_Holds_eq (k : Nat) (p0 : Int) (p1 : Int) (m : Mem) : fnX (patinaref04_Holds_C k) Try.f63 [(Value.int .i64 p0), (Value.int .i64 p1)] m patinaref04_Holds_dec = patinaref04_Holds k p0 p1 m := by kernel_rfl

theorem patinaref04_Holds_ok {k : Nat} {p0 : Int} {p1 : Int} {m : Mem} {r : (Bool × Int × Mem)} (h : patinaref04_Holds k p0 p1 m = some r) : CallP Try.prog 63 [(Value.int .i64 p0), (Value.int .i64 p1)] m fun v m' => v = (Value.tuple ⟨[(Value.bool r.1), (Value.int .i64 r.2.1)]⟩) ∧ m' = r.2.2 := by
  refine (fn_sound (C := patinaref04_Holds_C k) (c := body Try.f63) tOk mixed (patinaref04_Holds_callOk k) Try.func63 (by kernel_rfl) (by kernel_rfl) (by kernel_rfl) (by kernel_rfl) ?_ (Eq.trans (patinaref04_Holds_eq k p0 p1 m) h)).mono ?_
  · intro p hp; rw [show loopsOf 0 (body Try.f63) = [] by kernel_rfl] at hp; cases hp
  · intro v m' hp
    unfold patinaref04_Holds_dec at hp
    split at hp
    · simp only [Option.some.injEq] at hp; subst hp; exact ⟨rfl, rfl⟩
    · cases hp

end Go.Proofs.Ytnilidpafijdlac
