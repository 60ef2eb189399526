/- The program's functions as plain Lean functions over a clean memory, each held against the program by the kernel. Written by mx.py. -/
import Derived.Test.YtnilidpafijdlacF0
import Derived.Test.YtnilidpafijdlacFpatinalaw00
import Derived.Test.YtnilidpafijdlacFpatinalaw09
import Derived.Test.YtnilidpafijdlacFpatinaref09
import Derived.Test.YtnilidpafijdlacFpoint
set_option linter.unusedVariables false
set_option maxRecDepth 100000
namespace Go.Proofs.Ytnilidpafijdlac
open Go.Mx

/-! ### patinalaw09_PointReads -/
def patinalaw09_PointReads (k : Nat) (p0a : Option Addr) (p0n : Nat) (p0c : Nat) (m : Mem) : Option (Bool × Mem) :=
  (patinalaw09_up k  m).bind fun r1 =>
  (rdSl r1.2 p0a p0n 1).bind fun l2 =>
  (appM 1 1 r1.2 none 0 0 p0n l2).bind fun r3 =>
  (point_Read k r3.1.a r3.1.len r3.1.cap r3.2).bind fun r4 =>
  let m5 : Mem := r4.2.2 ++ [.live ((repl 24 [.int .i64 0]) ++ [.int .i64 0] ++ (repl 12 [.bool false]) ++ [.int .i64 0] ++ (repl 12 [.int .i64 0]) ++ (repl 12 [.int .i64 0]))]
  bif Nat.beq (List.length r4.1) 62 then (
  (stCells m5 ⟨List.length r4.2.2, 0, Option.none⟩ r4.1).bind fun m6 =>
  (patinaref09_Read k p0a p0n p0c m6).bind fun r7 =>
  let m8 : Mem := r7.2.2 ++ [.live ((repl 24 [.int .i64 0]) ++ [.int .i64 0] ++ (repl 12 [.bool false]) ++ [.int .i64 0] ++ (repl 12 [.int .i64 0]) ++ (repl 12 [.int .i64 0]))]
  bif Nat.beq (List.length r7.1) 62 then (
  (stCells m8 ⟨List.length r7.2.2, 0, Option.none⟩ r7.1).bind fun m9 =>
  (patinaref09_Same k r3.1.a r3.1.len r3.1.cap p0a p0n p0c m9).bind fun r10 =>
  bif r1.1 then (
  (ldCells r10.2 ⟨List.length r4.2.2, 0, Option.none⟩ 62).bind fun t11 =>
  (ldCells r10.2 ⟨List.length r7.2.2, 0, Option.none⟩ 62).bind fun t12 =>
  (cellsEq (eqK tt 60) t11 t12).bind fun b13 =>
  bif b13 then (
  (patinalaw00_Code k r4.2.1 r10.2).bind fun r14 =>
  bif r14.1 == r7.2.1 then (
  some (r10.1, r14.2)) else (
  some (false, r14.2))) else (
  some (false, r10.2))) else (
  some (false, r10.2))) else none) else none

def patinalaw09_PointReads_call {R : Type} (k : Nat) : Fun R := callCons 12 (patinalaw00_Code_arm k) (callCons 26 (patinalaw09_up_arm k) (callCons 27 (point_Read_arm k) (callCons 28 (patinaref09_Read_arm k) (callCons 29 (patinaref09_Same_arm k) (callNil)))))

theorem patinalaw09_PointReads_callOk {R : Type} (k : Nat) : CallOk Try.prog (patinalaw09_PointReads_call (R := R) k) := callOk_cons (patinalaw00_Code_armOk k) (callOk_cons (patinalaw09_up_armOk k) (callOk_cons (point_Read_armOk k) (callOk_cons (patinaref09_Read_armOk k) (callOk_cons (patinaref09_Same_armOk k) (callOk_nil)))))

def patinalaw09_PointReads_loop (k : Nat) : Nat → List Value → Mem → (Nat → List Value → Mem → Option (Bool × Mem)) → Option (Bool × Mem) := fun _ _ _ _ => none

def patinalaw09_PointReads_C (k : Nat) : Ctx (Bool × Mem) := ⟨tt, patinalaw09_PointReads_call k, patinalaw09_PointReads_loop k, [], []⟩

def patinalaw09_PointReads_dec : Value → Mem → Option (Bool × Mem) := fun v m => match v with
  | .bool q0 => some (q0, m)
  | _ => none

theorem patinalaw09_PointReads_eq (k : Nat) (p0a : Option Addr) (p0n : Nat) (p0c : Nat) (m : Mem) : fnX (patinalaw09_PointReads_C k) Try.f5 [(Value.slice p0a p0n p0c)] m patinalaw09_PointReads_dec = patinalaw09_PointReads k p0a p0n p0c m := by kernel_rfl

theorem patinalaw09_PointReads_ok {k : Nat} {p0a : Option Addr} {p0n : Nat} {p0c : Nat} {m : Mem} {r : (Bool × Mem)} (h : patinalaw09_PointReads k p0a p0n p0c m = some r) : CallP Try.prog 5 [(Value.slice p0a p0n p0c)] m fun v m' => v = (Value.bool r.1) ∧ m' = r.2 := by
  refine (fn_sound (C := patinalaw09_PointReads_C k) (c := body Try.f5) tOk mixed (patinalaw09_PointReads_callOk k) Try.func5 (by kernel_rfl) (by kernel_rfl) (by kernel_rfl) (by kernel_rfl) ?_ (Eq.trans (patinalaw09_PointReads_eq k p0a p0n p0c m) h)).mono ?_
  · intro p hp; rw [show loopsOf 0 (body Try.f5) = [] by kernel_rfl] at hp; cases hp
  · intro v m' hp
    unfold patinalaw09_PointReads_dec at hp
    split at hp
    · simp only [Option.some.injEq] at hp; subst hp; exact ⟨rfl, rfl⟩
    · cases hp

def patinalaw09_PointReads_arm {R : Type} (k : Nat) : Arm R := fun vs m K => match vs with
  | [.slice p0a p0n p0c] => (patinalaw09_PointReads k p0a p0n p0c m).bind fun r => K (Value.bool r.1) r.2
  | _ => none

theorem patinalaw09_PointReads_armOk {R : Type} (k : Nat) : ArmOk Try.prog 5 (patinalaw09_PointReads_arm (R := R) k) := by
  intro vs m K r h
  unfold patinalaw09_PointReads_arm at h
  split at h
  · obtain ⟨r, h1, h2⟩ := Option.bind_eq_some_iff.1 h; exact ⟨_, _, h2, fun K' => by simp only [patinalaw09_PointReads_arm, h1, Option.bind_some], patinalaw09_PointReads_ok h1⟩
  · cases h

end Go.Proofs.Ytnilidpafijdlac
