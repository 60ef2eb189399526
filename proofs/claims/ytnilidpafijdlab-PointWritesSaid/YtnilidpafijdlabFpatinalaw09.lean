/- The program's functions as plain Lean functions over a clean memory, each held against the program by the kernel. Written by mx.py. -/
import Derived.Test.YtnilidpafijdlabF0
import Derived.Test.YtnilidpafijdlabFpoint
set_option linter.unusedVariables false
set_option maxRecDepth 100000
namespace Go.Proofs.Ytnilidpafijdlab
open Go.Mx

/-! ### patinalaw09_up -/
def patinalaw09_up (k : Nat) (m : Mem) : Option (Bool × Mem) :=
  let m1 : Mem := m ++ [.live ((repl 24 [.int .i64 0]) ++ [.int .i64 0] ++ (repl 12 [.bool false]) ++ [.int .i64 0] ++ (repl 12 [.int .i64 0]) ++ (repl 12 [.int .i64 0]))]
  bif Nat.beq (List.length (putAt (putAt ((repl 24 [.int .i64 0]) ++ [.int .i64 0] ++ (repl 12 [.bool false]) ++ [.int .i64 0] ++ (repl 12 [.int .i64 0]) ++ (repl 12 [.int .i64 0])) 24 1 [(Value.int .i64 3)]) 37 1 [(Value.int .i64 95)])) 62 then (
  (stCells m1 ⟨List.length m, 0, Option.none⟩ (putAt (putAt ((repl 24 [.int .i64 0]) ++ [.int .i64 0] ++ (repl 12 [.bool false]) ++ [.int .i64 0] ++ (repl 12 [.int .i64 0]) ++ (repl 12 [.int .i64 0])) 24 1 [(Value.int .i64 3)]) 37 1 [(Value.int .i64 95)])).bind fun m2 =>
  (st m2 (plus (plus ⟨List.length m, 0, Option.none⟩ 0) (Int.toNat 1 * 1)) (Value.int .i64 258)).bind fun m3 =>
  (st m3 (plus (plus ⟨List.length m, 0, Option.none⟩ 25) (Int.toNat 0 * 1)) (Value.bool true)).bind fun m4 =>
  (st m4 (plus (plus ⟨List.length m, 0, Option.none⟩ 25) (Int.toNat 11 * 1)) (Value.bool true)).bind fun m5 =>
  (st m5 (plus (plus ⟨List.length m, 0, Option.none⟩ 38) (Int.toNat 11 * 1)) (Value.int .i64 512)).bind fun m6 =>
  (st m6 (plus (plus ⟨List.length m, 0, Option.none⟩ 50) (Int.toNat 0 * 1)) (Value.int .i64 2)).bind fun m7 =>
  (ldCells m7 ⟨List.length m, 0, Option.none⟩ 62).bind fun t8 =>
  (point_Write k t8 m7).bind fun r9 =>
  (isNil r9.2.1).bind fun b10 =>
  bif b10 then (
  bif ((r9.1.len : Nat) : Int) == 174 then (
  bif inRange 5 r9.1.len then (
  (r9.1.a).bind fun a11 =>
  (ldInt .u8 r9.2.2 (plus a11 (Int.toNat 5 * 1))).bind fun t12 =>
  bif t12 == 2 then (
  bif inRange 6 r9.1.len then (
  (r9.1.a).bind fun a13 =>
  (ldInt .u8 r9.2.2 (plus a13 (Int.toNat 6 * 1))).bind fun t14 =>
  bif t14 == 1 then (
  bif inRange 120 r9.1.len then (
  (r9.1.a).bind fun a15 =>
  (ldInt .u8 r9.2.2 (plus a15 (Int.toNat 120 * 1))).bind fun t16 =>
  bif t16 == 3 then (
  bif inRange 125 r9.1.len then (
  (r9.1.a).bind fun a17 =>
  (ldInt .u8 r9.2.2 (plus a17 (Int.toNat 125 * 1))).bind fun t18 =>
  bif t18 == 1 then (
  bif inRange 126 r9.1.len then (
  (r9.1.a).bind fun a19 =>
  (ldInt .u8 r9.2.2 (plus a19 (Int.toNat 126 * 1))).bind fun t20 =>
  bif t20 == 8 then (
  bif inRange 127 r9.1.len then (
  (r9.1.a).bind fun a21 =>
  (ldInt .u8 r9.2.2 (plus a21 (Int.toNat 127 * 1))).bind fun t22 =>
  bif t22 == 95 then (
  bif inRange 151 r9.1.len then (
  (r9.1.a).bind fun a23 =>
  (ldInt .u8 r9.2.2 (plus a23 (Int.toNat 151 * 1))).bind fun t24 =>
  bif t24 == 2 then (
  bif inRange 152 r9.1.len then (
  (r9.1.a).bind fun a25 =>
  (ldInt .u8 r9.2.2 (plus a25 (Int.toNat 152 * 1))).bind fun t26 =>
  some (t26 == 2, r9.2.2)) else none) else (
  some (false, r9.2.2))) else none) else (
  some (false, r9.2.2))) else none) else (
  some (false, r9.2.2))) else none) else (
  some (false, r9.2.2))) else none) else (
  some (false, r9.2.2))) else none) else (
  some (false, r9.2.2))) else none) else (
  some (false, r9.2.2))) else none) else (
  some (false, r9.2.2))) else (
  some (false, r9.2.2))) else none

def patinalaw09_up_call {R : Type} (k : Nat) : Fun R := callCons 10 (point_Write_arm k) (callNil)

theorem patinalaw09_up_callOk {R : Type} (k : Nat) : CallOk Try.prog (patinalaw09_up_call (R := R) k) := callOk_cons (point_Write_armOk k) (callOk_nil)

def patinalaw09_up_loop (k : Nat) : Nat → List Value → Mem → (Nat → List Value → Mem → Option (Bool × Mem)) → Option (Bool × Mem) := fun _ _ _ _ => none

def patinalaw09_up_C (k : Nat) : Ctx (Bool × Mem) := ⟨tt, patinalaw09_up_call k, patinalaw09_up_loop k, [], []⟩

def patinalaw09_up_dec : Value → Mem → Option (Bool × Mem) := fun v m => match v with
  | .bool q0 => some (q0, m)
  | _ => none

theorem patinalaw09_up_eq (k : Nat) (m : Mem) : fnX (patinalaw09_up_C k) Try.f9 [] m patinalaw09_up_dec = patinalaw09_up k  m := by kernel_rfl

theorem patinalaw09_up_ok {k : Nat} {m : Mem} {r : (Bool × Mem)} (h : patinalaw09_up k  m = some r) : CallP Try.prog 9 [] m fun v m' => v = (Value.bool r.1) ∧ m' = r.2 := by
  refine (fn_sound (C := patinalaw09_up_C k) (c := body Try.f9) tOk mixed (patinalaw09_up_callOk k) Try.func9 (by kernel_rfl) (by kernel_rfl) (by kernel_rfl) (by kernel_rfl) ?_ (Eq.trans (patinalaw09_up_eq k  m) h)).mono ?_
  · intro p hp; rw [show loopsOf 0 (body Try.f9) = [] by kernel_rfl] at hp; cases hp
  · intro v m' hp
    unfold patinalaw09_up_dec at hp
    split at hp
    · simp only [Option.some.injEq] at hp; subst hp; exact ⟨rfl, rfl⟩
    · cases hp

def patinalaw09_up_arm {R : Type} (k : Nat) : Arm R := fun vs m K => match vs with
  | [] => (patinalaw09_up k  m).bind fun r => K (Value.bool r.1) r.2
  | _ => none

theorem patinalaw09_up_armOk {R : Type} (k : Nat) : ArmOk Try.prog 9 (patinalaw09_up_arm (R := R) k) := by
  intro vs m K r h
  unfold patinalaw09_up_arm at h
  split at h
  · obtain ⟨r, h1, h2⟩ := Option.bind_eq_some_iff.1 h; exact ⟨_, _, h2, fun K' => by simp only [patinalaw09_up_arm, h1, Option.bind_some], patinalaw09_up_ok h1⟩
  · cases h

end Go.Proofs.Ytnilidpafijdlab
