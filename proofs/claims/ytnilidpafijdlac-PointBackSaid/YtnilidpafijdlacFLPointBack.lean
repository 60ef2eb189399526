/- The program's functions as plain Lean functions over a clean memory, each held against the program by the kernel. Written by mx.py. -/
import Derived.Test.YtnilidpafijdlacF0
import Derived.Test.YtnilidpafijdlacFpatinalaw09
import Derived.Test.YtnilidpafijdlacFpoint
set_option linter.unusedVariables false
set_option maxRecDepth 100000
namespace Go.Proofs.Ytnilidpafijdlac
open Go.Mx

/-! ### patinalaw09_PointBack -/
def patinalaw09_PointBack_j1 (k : Nat) (p1a : Option Addr) (p1n : Nat) (p1c : Nat) (r2 : Bool × Mem) (mj : Mem) : Option (Bool × Mem) :=
  (point_Read k p1a p1n p1c mj).bind fun r5 =>
  let m6 : Mem := r5.2.2 ++ [.live ((repl 24 [.int .i64 0]) ++ [.int .i64 0] ++ (repl 12 [.bool false]) ++ [.int .i64 0] ++ (repl 12 [.int .i64 0]) ++ (repl 12 [.int .i64 0]))]
  bif Nat.beq (List.length r5.1) 62 then (
  (stCells m6 ⟨List.length r5.2.2, 0, Option.none⟩ r5.1).bind fun m7 =>
  (isNil r5.2.1).bind fun b8 =>
  bif !b8 then (
  bif r2.1 then (
  (ldCells m7 ⟨List.length r5.2.2, 0, Option.none⟩ 62).bind fun t9 =>
  (cellsEq (eqK tt 60) t9 ((repl 24 [.int .i64 0]) ++ [.int .i64 0] ++ (repl 12 [.bool false]) ++ [.int .i64 0] ++ (repl 12 [.int .i64 0]) ++ (repl 12 [.int .i64 0]))).bind fun b10 =>
  some (b10, m7)) else (
  some (false, m7))) else (
  (ldCells m7 ⟨List.length r5.2.2, 0, Option.none⟩ 62).bind fun t11 =>
  (point_Write k t11 m7).bind fun r12 =>
  bif r2.1 then (
  (isNil r12.2.1).bind fun b13 =>
  bif b13 then (
  (rdSl r12.2.2 r12.1.a r12.1.len 1).bind fun l14 =>
  (strOf l14).bind fun s15 =>
  (rdSl r12.2.2 p1a p1n 1).bind fun l16 =>
  (strOf l16).bind fun s17 =>
  some (strEq s15 s17, r12.2.2)) else (
  some (false, r12.2.2))) else (
  some (false, r12.2.2)))) else none

def patinalaw09_PointBack (k : Nat) (p0 : List Value) (p1a : Option Addr) (p1n : Nat) (p1c : Nat) (m : Mem) : Option (Bool × Mem) :=
  bif Nat.beq (List.length p0) 62 then (
  let m1 : Mem := m ++ [.live p0]
  (patinalaw09_up k  m1).bind fun r2 =>
  (ldCells r2.2 ⟨List.length m, 0, Option.none⟩ 62).bind fun t3 =>
  (point_Write k t3 r2.2).bind fun r4 =>
  (isNil r4.2.1).bind fun b18 =>
  bif b18 then (
  (point_Read k r4.1.a r4.1.len r4.1.cap r4.2.2).bind fun r19 =>
  let m20 : Mem := r19.2.2 ++ [.live ((repl 24 [.int .i64 0]) ++ [.int .i64 0] ++ (repl 12 [.bool false]) ++ [.int .i64 0] ++ (repl 12 [.int .i64 0]) ++ (repl 12 [.int .i64 0]))]
  bif Nat.beq (List.length r19.1) 62 then (
  (stCells m20 ⟨List.length r19.2.2, 0, Option.none⟩ r19.1).bind fun m21 =>
  (isNil r19.2.1).bind fun b22 =>
  bif !b22 then (
  some (false, m21)) else (
  (ldCells m21 ⟨List.length r19.2.2, 0, Option.none⟩ 62).bind fun t23 =>
  (ldCells m21 ⟨List.length m, 0, Option.none⟩ 62).bind fun t24 =>
  (cellsEq (eqK tt 60) t23 t24).bind fun b25 =>
  bif !b25 then (
  some (false, m21)) else (
  patinalaw09_PointBack_j1 k p1a p1n p1c r2 m21))) else none) else (
  patinalaw09_PointBack_j1 k p1a p1n p1c r2 r4.2.2)) else none

def patinalaw09_PointBack_call {R : Type} (k : Nat) : Fun R := callCons 26 (patinalaw09_up_arm k) (callCons 27 (point_Read_arm k) (callCons 30 (point_Write_arm k) (callNil)))

theorem patinalaw09_PointBack_callOk {R : Type} (k : Nat) : CallOk Try.prog (patinalaw09_PointBack_call (R := R) k) := callOk_cons (patinalaw09_up_armOk k) (callOk_cons (point_Read_armOk k) (callOk_cons (point_Write_armOk k) (callOk_nil)))

def patinalaw09_PointBack_loop (k : Nat) : Nat → List Value → Mem → (Nat → List Value → Mem → Option (Bool × Mem)) → Option (Bool × Mem) := fun _ _ _ _ => none

def patinalaw09_PointBack_C (k : Nat) : Ctx (Bool × Mem) := ⟨tt, patinalaw09_PointBack_call k, patinalaw09_PointBack_loop k, [], []⟩

def patinalaw09_PointBack_dec : Value → Mem → Option (Bool × Mem) := fun v m => match v with
  | .bool q0 => some (q0, m)
  | _ => none

theorem patinalaw09_PointBack_eq (k : Nat) (p0 : List Value) (p1a : Option Addr) (p1n : Nat) (p1c : Nat) (m : Mem) : fnX (patinalaw09_PointBack_C k) Try.f6 [(Value.agg ⟨p0⟩), (Value.slice p1a p1n p1c)] m patinalaw09_PointBack_dec = patinalaw09_PointBack k p0 p1a p1n p1c m := by kernel_rfl

theorem patinalaw09_PointBack_ok {k : Nat} {p0 : List Value} {p1a : Option Addr} {p1n : Nat} {p1c : Nat} {m : Mem} {r : (Bool × Mem)} (h : patinalaw09_PointBack k p0 p1a p1n p1c m = some r) : CallP Try.prog 6 [(Value.agg ⟨p0⟩), (Value.slice p1a p1n p1c)] m fun v m' => v = (Value.bool r.1) ∧ m' = r.2 := by
  refine (fn_sound (C := patinalaw09_PointBack_C k) (c := body Try.f6) tOk mixed (patinalaw09_PointBack_callOk k) Try.func6 (by kernel_rfl) (by kernel_rfl) (by kernel_rfl) (by kernel_rfl) ?_ (Eq.trans (patinalaw09_PointBack_eq k p0 p1a p1n p1c m) h)).mono ?_
  · intro p hp; rw [show loopsOf 0 (body Try.f6) = [] by kernel_rfl] at hp; cases hp
  · intro v m' hp
    unfold patinalaw09_PointBack_dec at hp
    split at hp
    · simp only [Option.some.injEq] at hp; subst hp; exact ⟨rfl, rfl⟩
    · cases hp

def patinalaw09_PointBack_arm {R : Type} (k : Nat) : Arm R := fun vs m K => match vs with
  | [.agg ⟨p0⟩, .slice p1a p1n p1c] => (patinalaw09_PointBack k p0 p1a p1n p1c m).bind fun r => K (Value.bool r.1) r.2
  | _ => none

theorem patinalaw09_PointBack_armOk {R : Type} (k : Nat) : ArmOk Try.prog 6 (patinalaw09_PointBack_arm (R := R) k) := by
  intro vs m K r h
  unfold patinalaw09_PointBack_arm at h
  split at h
  · obtain ⟨r, h1, h2⟩ := Option.bind_eq_some_iff.1 h; exact ⟨_, _, h2, fun K' => by simp only [patinalaw09_PointBack_arm, h1, Option.bind_some], patinalaw09_PointBack_ok h1⟩
  · cases h

end Go.Proofs.Ytnilidpafijdlac
