/- The program's functions as plain Lean functions over a clean memory, each held against the program by the kernel. Written by mx.py. -/
import Derived.Test.YtnilidpafijdlaaF0
import Derived.Test.YtnilidpafijdlaaFpool
set_option linter.unusedVariables false
set_option maxRecDepth 100000
namespace Go.Proofs.Ytnilidpafijdlaa
open Go.Mx

/-! ### patinalaw11_up -/
def patinalaw11_up (k : Nat) (m : Mem) : Option (Bool × Mem) :=
  (pool_New k  m).bind fun r1 =>
  bif Option.isNone r1.1 then (
  some (false, r1.2)) else (
  (pool_Pool_Take k r1.1 r1.2).bind fun r2 =>
  (pool_Pool_Take k r1.1 r2.2.2).bind fun r3 =>
  (pool_Pool_Set k r1.1 0 0 r3.2.2).bind fun r4 =>
  (pool_Pool_Take k r1.1 r4.2).bind fun r5 =>
  bif r2.1 == 0 then (
  bif r3.1 == 1 then (
  bif r5.1 == 2 then (
  (isNil r2.2.1).bind fun b6 =>
  bif b6 then (
  (isNil r3.2.1).bind fun b7 =>
  bif b7 then (
  (isNil r4.1).bind fun b8 =>
  bif b8 then (
  (isNil r5.2.1).bind fun b9 =>
  bif b9 then (
  (pool_Pool_Bound k r1.1 r5.2.2).bind fun r10 =>
  some (r10.1 == 5, r10.2)) else (
  some (false, r5.2.2))) else (
  some (false, r5.2.2))) else (
  some (false, r5.2.2))) else (
  some (false, r5.2.2))) else (
  some (false, r5.2.2))) else (
  some (false, r5.2.2))) else (
  some (false, r5.2.2)))

def patinalaw11_up_call {R : Type} (k : Nat) : Fun R := fun f args m K => match f, args with
  | 22, [] => (pool_New k  m).bind fun r => K (Value.pointer r.1) r.2
  | 24, [.pointer p0, .int .i64 p1, .int .i64 p2] => (pool_Pool_Set k p0 p1 p2 m).bind fun r => K r.1 r.2
  | 25, [.pointer p0] => (pool_Pool_Take k p0 m).bind fun r => K (Value.tuple ⟨[(Value.int .i64 r.1), r.2.1]⟩) r.2.2
  | 29, [.pointer p0] => (pool_Pool_Bound k p0 m).bind fun r => K (Value.int .i64 r.1) r.2
  | _, _ => none

theorem patinalaw11_up_callOk {R : Type} (k : Nat) : CallOk Try.prog (patinalaw11_up_call (R := R) k) := by
  intro f vs m K r h
  unfold patinalaw11_up_call at h
  split at h
  · obtain ⟨r, h1, h2⟩ := Option.bind_eq_some_iff.1 h; exact ⟨_, _, h2, fun K' => by simp only [patinalaw11_up_call, h1, Option.bind_some], pool_New_ok h1⟩
  · obtain ⟨r, h1, h2⟩ := Option.bind_eq_some_iff.1 h; exact ⟨_, _, h2, fun K' => by simp only [patinalaw11_up_call, h1, Option.bind_some], pool_Pool_Set_ok h1⟩
  · obtain ⟨r, h1, h2⟩ := Option.bind_eq_some_iff.1 h; exact ⟨_, _, h2, fun K' => by simp only [patinalaw11_up_call, h1, Option.bind_some], pool_Pool_Take_ok h1⟩
  · obtain ⟨r, h1, h2⟩ := Option.bind_eq_some_iff.1 h; exact ⟨_, _, h2, fun K' => by simp only [patinalaw11_up_call, h1, Option.bind_some], pool_Pool_Bound_ok h1⟩
  · cases h

def patinalaw11_up_loop (k : Nat) : Nat → List Value → Mem → (Nat → List Value → Mem → Option (Bool × Mem)) → Option (Bool × Mem) := fun _ _ _ _ => none

def patinalaw11_up_C (k : Nat) : Ctx (Bool × Mem) := ⟨tt, patinalaw11_up_call k, patinalaw11_up_loop k, [], []⟩

def patinalaw11_up_dec : Value → Mem → Option (Bool × Mem) := fun v m => match v with
  | .bool q0 => some (q0, m)
  | _ => none

theorem patinalaw11_up_eq (k : Nat) (m : Mem) : fnX (patinalaw11_up_C k) Try.f21 [] m patinalaw11_up_dec = patinalaw11_up k  m := by kernel_rfl

theorem patinalaw11_up_ok {k : Nat} {m : Mem} {r : (Bool × Mem)} (h : patinalaw11_up k  m = some r) : CallP Try.prog 21 [] m fun v m' => v = (Value.bool r.1) ∧ m' = r.2 := by
  refine (fn_sound (C := patinalaw11_up_C k) (c := body Try.f21) tOk mixed (patinalaw11_up_callOk k) Try.func21 (by kernel_rfl) (by kernel_rfl) (by kernel_rfl) (by kernel_rfl) ?_ (Eq.trans (patinalaw11_up_eq k  m) h)).mono ?_
  · intro p hp; rw [show loopsOf 0 (body Try.f21) = [] by kernel_rfl] at hp; cases hp
  · intro v m' hp
    unfold patinalaw11_up_dec at hp
    split at hp
    · simp only [Option.some.injEq] at hp; subst hp; exact ⟨rfl, rfl⟩
    · cases hp

/-! ### patinalaw11_pick -/
def patinalaw11_pick_j1 (k : Nat) (p1 : Int) (x0_ : Int) (mj : Mem) : Option (Int × Mem) :=
  bif isZero p1 then none else (
  some (Int.tmod x0_ p1, mj))

def patinalaw11_pick (k : Nat) (p0 : Int) (p1 : Int) (m : Mem) : Option (Int × Mem) :=
  bif decide (p0 < 0) then (
  patinalaw11_pick_j1 k p1 (IntKind.wrap .i64 (0 - (IntKind.wrap .i64 (p0 + 1)))) m) else (
  patinalaw11_pick_j1 k p1 p0 m)

def patinalaw11_pick_call {R : Type} (k : Nat) : Fun R := fun _ _ _ _ => none

theorem patinalaw11_pick_callOk {R : Type} (k : Nat) : CallOk Try.prog (patinalaw11_pick_call (R := R) k) := by
  intro f vs m K r h
  unfold patinalaw11_pick_call at h
  cases h

def patinalaw11_pick_loop (k : Nat) : Nat → List Value → Mem → (Nat → List Value → Mem → Option (Int × Mem)) → Option (Int × Mem) := fun _ _ _ _ => none

def patinalaw11_pick_C (k : Nat) : Ctx (Int × Mem) := ⟨tt, patinalaw11_pick_call k, patinalaw11_pick_loop k, [], []⟩

def patinalaw11_pick_dec : Value → Mem → Option (Int × Mem) := fun v m => match v with
  | .int .i64 q0 => some (q0, m)
  | _ => none

theorem patinalaw11_pick_eq (k : Nat) (p0 : Int) (p1 : Int) (m : Mem) : fnX (patinalaw11_pick_C k) Try.f23 [(Value.int .i64 p0), (Value.int .i64 p1)] m patinalaw11_pick_dec = patinalaw11_pick k p0 p1 m := by kernel_rfl

theorem patinalaw11_pick_ok {k : Nat} {p0 : Int} {p1 : Int} {m : Mem} {r : (Int × Mem)} (h : patinalaw11_pick k p0 p1 m = some r) : CallP Try.prog 23 [(Value.int .i64 p0), (Value.int .i64 p1)] m fun v m' => v = (Value.int .i64 r.1) ∧ m' = r.2 := by
  refine (fn_sound (C := patinalaw11_pick_C k) (c := body Try.f23) tOk mixed (patinalaw11_pick_callOk k) Try.func23 (by kernel_rfl) (by kernel_rfl) (by kernel_rfl) (by kernel_rfl) ?_ (Eq.trans (patinalaw11_pick_eq k p0 p1 m) h)).mono ?_
  · intro p hp; rw [show loopsOf 0 (body Try.f23) = [] by kernel_rfl] at hp; cases hp
  · intro v m' hp
    unfold patinalaw11_pick_dec at hp
    split at hp
    · simp only [Option.some.injEq] at hp; subst hp; exact ⟨rfl, rfl⟩
    · cases hp

end Go.Proofs.Ytnilidpafijdlaa
