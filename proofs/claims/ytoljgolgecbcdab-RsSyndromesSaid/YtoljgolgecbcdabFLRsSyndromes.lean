/- The program's functions as plain Lean functions over a clean memory, each held against the program by the kernel. Written by mx.py. -/
import Derived.Test.YtoljgolgecbcdabF0
import Derived.Test.YtoljgolgecbcdabFpatinalaw02
import Derived.Test.YtoljgolgecbcdabFpatinaref01
import Derived.Test.YtoljgolgecbcdabFpatinaref02
import Derived.Test.YtoljgolgecbcdabFrs
set_option linter.unusedVariables false
set_option maxRecDepth 100000
namespace Go.Proofs.Ytoljgolgecbcdab
open Go.Mx

/-! ### patinalaw02_RsSyndromes -/
def patinalaw02_RsSyndromes (k : Nat) (p0a : Option Addr) (p0n : Nat) (p0c : Nat) (m : Mem) : Option (Bool × Mem) :=
  (patinalaw02_shown k  m).bind fun r1 =>
  (rs_New k  r1.2).bind fun r2 =>
  bif Option.isNone r2.1 then (
  some (false, r2.2)) else (
  (rs_Codec_Syndromes k r2.1 p0a p0n p0c r2.2).bind fun r3 =>
  bif ((p0n : Nat) : Int) != 64 then (
  bif r1.1 then (
  (ifEq tt r3.2.1 (Value.iface ty_api_Code (Value.int .i64 1))).bind fun b4 =>
  bif b4 then (
  some (((r3.1.len : Nat) : Int) == 0, r3.2.2)) else (
  some (false, r3.2.2))) else (
  some (false, r3.2.2))) else (
  (patinaref02_Syndromes k p0a p0n p0c r3.2.2).bind fun r5 =>
  (patinaref01_Same k r3.1.a r3.1.len r3.1.cap r5.1.a r5.1.len r5.1.cap r5.2).bind fun r6 =>
  bif r1.1 then (
  (isNil r3.2.1).bind fun b7 =>
  bif b7 then (
  some (r6.1, r6.2)) else (
  some (false, r6.2))) else (
  some (false, r6.2))))

def patinalaw02_RsSyndromes_call {R : Type} (k : Nat) : Fun R := callCons 8 (patinalaw02_shown_arm k) (callCons 9 (rs_New_arm k) (callCons 14 (rs_Codec_Syndromes_arm k) (callCons 15 (patinaref01_Same_arm k) (callCons 16 (patinaref02_Syndromes_arm k) (callNil)))))

theorem patinalaw02_RsSyndromes_callOk {R : Type} (k : Nat) : CallOk Try.prog (patinalaw02_RsSyndromes_call (R := R) k) := callOk_cons (patinalaw02_shown_armOk k) (callOk_cons (rs_New_armOk k) (callOk_cons (rs_Codec_Syndromes_armOk k) (callOk_cons (patinaref01_Same_armOk k) (callOk_cons (patinaref02_Syndromes_armOk k) (callOk_nil)))))

def patinalaw02_RsSyndromes_loop (k : Nat) : Nat → List Value → Mem → (Nat → List Value → Mem → Option (Bool × Mem)) → Option (Bool × Mem) := fun _ _ _ _ => none

def patinalaw02_RsSyndromes_C (k : Nat) : Ctx (Bool × Mem) := ⟨tt, patinalaw02_RsSyndromes_call k, patinalaw02_RsSyndromes_loop k, [], []⟩

def patinalaw02_RsSyndromes_dec : Value → Mem → Option (Bool × Mem) := fun v m => match v with
  | .bool q0 => some (q0, m)
  | _ => none

theorem patinalaw02_RsSyndromes_eq (k : Nat) (p0a : Option Addr) (p0n : Nat) (p0c : Nat) (m : Mem) : fnX (patinalaw02_RsSyndromes_C k) Try.f4 [(Value.slice p0a p0n p0c)] m patinalaw02_RsSyndromes_dec = patinalaw02_RsSyndromes k p0a p0n p0c m := by kernel_rfl

theorem patinalaw02_RsSyndromes_ok {k : Nat} {p0a : Option Addr} {p0n : Nat} {p0c : Nat} {m : Mem} {r : (Bool × Mem)} (h : patinalaw02_RsSyndromes k p0a p0n p0c m = some r) : CallP Try.prog 4 [(Value.slice p0a p0n p0c)] m fun v m' => v = (Value.bool r.1) ∧ m' = r.2 := by
  refine (fn_sound (C := patinalaw02_RsSyndromes_C k) (c := body Try.f4) tOk mixed (patinalaw02_RsSyndromes_callOk k) Try.func4 (by kernel_rfl) (by kernel_rfl) (by kernel_rfl) (by kernel_rfl) ?_ (Eq.trans (patinalaw02_RsSyndromes_eq k p0a p0n p0c m) h)).mono ?_
  · intro p hp; rw [show loopsOf 0 (body Try.f4) = [] by kernel_rfl] at hp; cases hp
  · intro v m' hp
    unfold patinalaw02_RsSyndromes_dec at hp
    split at hp
    · simp only [Option.some.injEq] at hp; subst hp; exact ⟨rfl, rfl⟩
    · cases hp

def patinalaw02_RsSyndromes_arm {R : Type} (k : Nat) : Arm R := fun vs m K => match vs with
  | [.slice p0a p0n p0c] => (patinalaw02_RsSyndromes k p0a p0n p0c m).bind fun r => K (Value.bool r.1) r.2
  | _ => none

theorem patinalaw02_RsSyndromes_armOk {R : Type} (k : Nat) : ArmOk Try.prog 4 (patinalaw02_RsSyndromes_arm (R := R) k) := by
  intro vs m K r h
  unfold patinalaw02_RsSyndromes_arm at h
  split at h
  · obtain ⟨r, h1, h2⟩ := Option.bind_eq_some_iff.1 h; exact ⟨_, _, h2, fun K' => by simp only [patinalaw02_RsSyndromes_arm, h1, Option.bind_some], patinalaw02_RsSyndromes_ok h1⟩
  · cases h

end Go.Proofs.Ytoljgolgecbcdab
