/- The program's functions as plain Lean functions over a clean memory, each held against the program by the kernel. Written by mx.py. -/
import Derived.Test.YtoljgolgecbcdaaF0
import Derived.Test.YtoljgolgecbcdaaFpatinalaw02
import Derived.Test.YtoljgolgecbcdaaFpatinaref01
import Derived.Test.YtoljgolgecbcdaaFpatinaref02
import Derived.Test.YtoljgolgecbcdaaFrs
set_option linter.unusedVariables false
set_option maxRecDepth 100000
namespace Go.Proofs.Ytoljgolgecbcdaa
open Go.Mx

/-! ### patinalaw02_RsMends -/
def patinalaw02_RsMends (k : Nat) (p0a : Option Addr) (p0n : Nat) (p0c : Nat) (p1a : Option Addr) (p1n : Nat) (p1c : Nat) (m : Mem) : Option (Bool × Mem) :=
  (patinalaw02_shown k  m).bind fun r1 =>
  (rs_New k  r1.2).bind fun r2 =>
  bif Option.isNone r2.1 then (
  some (false, r2.2)) else (
  (patinalaw02_message k p0a p0n p0c r2.2).bind fun r3 =>
  (rs_Codec_Encode k r2.1 r3.1.a r3.1.len r3.1.cap r3.2).bind fun r4 =>
  (isNil r4.2.1).bind fun b5 =>
  bif !b5 then (
  some (false, r4.2.2)) else (
  bif ((r4.1.len : Nat) : Int) != 64 then (
  some (false, r4.2.2)) else (
  (patinalaw02_damage k r4.1.a r4.1.len r4.1.cap p1a p1n p1c r4.2.2).bind fun r6 =>
  (rs_Codec_Decode k r2.1 r6.1.a r6.1.len r6.1.cap r6.2.2).bind fun r7 =>
  bif decide (r6.2.1 ≤ 2) then (
  (patinaref01_Same k r7.1.a r7.1.len r7.1.cap r3.1.a r3.1.len r3.1.cap r7.2.2.2).bind fun r8 =>
  bif r1.1 then (
  (isNil r7.2.2.1).bind fun b9 =>
  bif b9 then (
  bif r8.1 then (
  some (r7.2.1 == r6.2.1, r8.2)) else (
  some (false, r8.2))) else (
  some (false, r8.2))) else (
  some (false, r8.2))) else (
  bif decide (r6.2.1 ≤ 4) then (
  bif r1.1 then (
  (ifEq tt r7.2.2.1 (Value.iface ty_api_Code (Value.int .i64 5))).bind fun b10 =>
  bif b10 then (
  bif ((r7.1.len : Nat) : Int) == 0 then (
  some (r7.2.1 == 0, r7.2.2.2)) else (
  some (false, r7.2.2.2))) else (
  some (false, r7.2.2.2))) else (
  some (false, r7.2.2.2))) else (
  (isNil r7.2.2.1).bind fun b11 =>
  bif !b11 then (
  bif r1.1 then (
  (ifEq tt r7.2.2.1 (Value.iface ty_api_Code (Value.int .i64 5))).bind fun b12 =>
  bif b12 then (
  bif ((r7.1.len : Nat) : Int) == 0 then (
  some (r7.2.1 == 0, r7.2.2.2)) else (
  some (false, r7.2.2.2))) else (
  some (false, r7.2.2.2))) else (
  some (false, r7.2.2.2))) else (
  (rs_Codec_Encode k r2.1 r7.1.a r7.1.len r7.1.cap r7.2.2.2).bind fun r13 =>
  bif r1.1 then (
  (isNil r13.2.1).bind fun b14 =>
  bif b14 then (
  bif ((r13.1.len : Nat) : Int) == 64 then (
  bif decide (r7.2.1 ≤ 2) then (
  (patinaref02_Apart k r13.1.a r13.1.len r13.1.cap r6.1.a r6.1.len r6.1.cap r13.2.2).bind fun r15 =>
  some (r15.1 == r7.2.1, r15.2)) else (
  some (false, r13.2.2))) else (
  some (false, r13.2.2))) else (
  some (false, r13.2.2))) else (
  some (false, r13.2.2))))))))

def patinalaw02_RsMends_call {R : Type} (k : Nat) : Fun R := callCons 23 (patinaref01_Same_arm k) (callCons 29 (patinalaw02_shown_arm k) (callCons 30 (rs_New_arm k) (callCons 32 (rs_Codec_Encode_arm k) (callCons 37 (rs_Codec_Decode_arm k) (callCons 39 (patinalaw02_message_arm k) (callCons 40 (patinalaw02_damage_arm k) (callCons 41 (patinaref02_Apart_arm k) (callNil))))))))

theorem patinalaw02_RsMends_callOk {R : Type} (k : Nat) : CallOk Try.prog (patinalaw02_RsMends_call (R := R) k) := callOk_cons (patinaref01_Same_armOk k) (callOk_cons (patinalaw02_shown_armOk k) (callOk_cons (rs_New_armOk k) (callOk_cons (rs_Codec_Encode_armOk k) (callOk_cons (rs_Codec_Decode_armOk k) (callOk_cons (patinalaw02_message_armOk k) (callOk_cons (patinalaw02_damage_armOk k) (callOk_cons (patinaref02_Apart_armOk k) (callOk_nil))))))))

def patinalaw02_RsMends_loop (k : Nat) : Nat → List Value → Mem → (Nat → List Value → Mem → Option (Bool × Mem)) → Option (Bool × Mem) := fun _ _ _ _ => none

def patinalaw02_RsMends_C (k : Nat) : Ctx (Bool × Mem) := ⟨tt, patinalaw02_RsMends_call k, patinalaw02_RsMends_loop k, [], []⟩

def patinalaw02_RsMends_dec : Value → Mem → Option (Bool × Mem) := fun v m => match v with
  | .bool q0 => some (q0, m)
  | _ => none

theorem patinalaw02_RsMends_eq (k : Nat) (p0a : Option Addr) (p0n : Nat) (p0c : Nat) (p1a : Option Addr) (p1n : Nat) (p1c : Nat) (m : Mem) : fnX (patinalaw02_RsMends_C k) Try.f8 [(Value.slice p0a p0n p0c), (Value.slice p1a p1n p1c)] m patinalaw02_RsMends_dec = patinalaw02_RsMends k p0a p0n p0c p1a p1n p1c m := by kernel_rfl

theorem patinalaw02_RsMends_ok {k : Nat} {p0a : Option Addr} {p0n : Nat} {p0c : Nat} {p1a : Option Addr} {p1n : Nat} {p1c : Nat} {m : Mem} {r : (Bool × Mem)} (h : patinalaw02_RsMends k p0a p0n p0c p1a p1n p1c m = some r) : CallP Try.prog 8 [(Value.slice p0a p0n p0c), (Value.slice p1a p1n p1c)] m fun v m' => v = (Value.bool r.1) ∧ m' = r.2 := by
  refine (fn_sound (C := patinalaw02_RsMends_C k) (c := body Try.f8) tOk mixed (patinalaw02_RsMends_callOk k) Try.func8 (by kernel_rfl) (by kernel_rfl) (by kernel_rfl) (by kernel_rfl) ?_ (Eq.trans (patinalaw02_RsMends_eq k p0a p0n p0c p1a p1n p1c m) h)).mono ?_
  · intro p hp; rw [show loopsOf 0 (body Try.f8) = [] by kernel_rfl] at hp; cases hp
  · intro v m' hp
    unfold patinalaw02_RsMends_dec at hp
    split at hp
    · simp only [Option.some.injEq] at hp; subst hp; exact ⟨rfl, rfl⟩
    · cases hp

def patinalaw02_RsMends_arm {R : Type} (k : Nat) : Arm R := fun vs m K => match vs with
  | [.slice p0a p0n p0c, .slice p1a p1n p1c] => (patinalaw02_RsMends k p0a p0n p0c p1a p1n p1c m).bind fun r => K (Value.bool r.1) r.2
  | _ => none

theorem patinalaw02_RsMends_armOk {R : Type} (k : Nat) : ArmOk Try.prog 8 (patinalaw02_RsMends_arm (R := R) k) := by
  intro vs m K r h
  unfold patinalaw02_RsMends_arm at h
  split at h
  · obtain ⟨r, h1, h2⟩ := Option.bind_eq_some_iff.1 h; exact ⟨_, _, h2, fun K' => by simp only [patinalaw02_RsMends_arm, h1, Option.bind_some], patinalaw02_RsMends_ok h1⟩
  · cases h

end Go.Proofs.Ytoljgolgecbcdaa
