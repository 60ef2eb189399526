/- The program's functions as plain Lean functions over a clean memory, each held against the program by the kernel. Written by mx.py. -/
import Derived.Test.YtoljgolgecbcdaaF0
import Derived.Test.YtoljgolgecbcdaaFpatinalaw02
import Derived.Test.YtoljgolgecbcdaaFpatinaref01
import Derived.Test.YtoljgolgecbcdaaFpatinaref02
import Derived.Test.YtoljgolgecbcdaaFrs
set_option linter.unusedVariables false
set_option maxRecDepth 100000
namespace Go.Proofs.Ytoljgolgecbcdaa
open Go.Mx

/-! ### patinalaw02_RsDecodes -/
def patinalaw02_RsDecodes (k : Nat) (p0a : Option Addr) (p0n : Nat) (p0c : Nat) (m : Mem) : Option (Bool × Mem) :=
  (patinalaw02_shown k  m).bind fun r1 =>
  (rs_New k  r1.2).bind fun r2 =>
  bif Option.isNone r2.1 then (
  some (false, r2.2)) else (
  (patinaref01_Lend k p0a p0n p0c r2.2).bind fun r3 =>
  (patinaref01_Lent_Bytes k r3.1 r3.2).bind fun r4 =>
  (rs_Codec_Decode k r2.1 r4.1.a r4.1.len r4.1.cap r4.2).bind fun r5 =>
  (patinaref01_Lent_Bytes k r3.1 r5.2.2.2).bind fun r6 =>
  (rs_Codec_Decode k r2.1 r6.1.a r6.1.len r6.1.cap r6.2).bind fun r7 =>
  (patinaref01_Lent_Kept k r3.1 r7.2.2.2).bind fun r8 =>
  bif ((p0n : Nat) : Int) != 64 then (
  bif r1.1 then (
  bif r8.1 then (
  (ifEq tt r5.2.2.1 (Value.iface ty_api_Code (Value.int .i64 1))).bind fun b9 =>
  bif b9 then (
  (ifEq tt r7.2.2.1 (Value.iface ty_api_Code (Value.int .i64 1))).bind fun b10 =>
  bif b10 then (
  bif ((r5.1.len : Nat) : Int) == 0 then (
  some (r5.2.1 == 0, r8.2)) else (
  some (false, r8.2))) else (
  some (false, r8.2))) else (
  some (false, r8.2))) else (
  some (false, r8.2))) else (
  some (false, r8.2))) else (
  (patinaref02_Decode k p0a p0n p0c r8.2).bind fun r11 =>
  bif !r11.2.2.1 then (
  bif r1.1 then (
  bif r8.1 then (
  (ifEq tt r5.2.2.1 (Value.iface ty_api_Code (Value.int .i64 5))).bind fun b12 =>
  bif b12 then (
  (ifEq tt r7.2.2.1 (Value.iface ty_api_Code (Value.int .i64 5))).bind fun b13 =>
  bif b13 then (
  bif ((r5.1.len : Nat) : Int) == 0 then (
  bif r5.2.1 == 0 then (
  bif ((r7.1.len : Nat) : Int) == 0 then (
  some (r7.2.1 == 0, r11.2.2.2)) else (
  some (false, r11.2.2.2))) else (
  some (false, r11.2.2.2))) else (
  some (false, r11.2.2.2))) else (
  some (false, r11.2.2.2))) else (
  some (false, r11.2.2.2))) else (
  some (false, r11.2.2.2))) else (
  some (false, r11.2.2.2))) else (
  (patinaref01_Lent_Turn k r3.1 r11.2.2.2).bind fun r14 =>
  (patinaref01_Same k r5.1.a r5.1.len r5.1.cap r11.1.a r11.1.len r11.1.cap r14).bind fun r15 =>
  (patinaref01_Same k r7.1.a r7.1.len r7.1.cap r11.1.a r11.1.len r11.1.cap r15.2).bind fun r16 =>
  let m17 : Mem := r16.2 ++ [.live [(Value.slice r5.1.a r5.1.len r5.1.cap), (Value.slice r7.1.a r7.1.len r7.1.cap)]]
  (patinaref01_Apart k (some ⟨List.length r16.2, 0, Option.none⟩) 2 2 m17).bind fun r18 =>
  bif r1.1 then (
  bif r8.1 then (
  (isNil r5.2.2.1).bind fun b19 =>
  bif b19 then (
  (isNil r7.2.2.1).bind fun b20 =>
  bif b20 then (
  bif r15.1 then (
  bif r16.1 then (
  bif r18.1 then (
  bif r5.2.1 == r11.2.1 then (
  some (r7.2.1 == r11.2.1, r18.2)) else (
  some (false, r18.2))) else (
  some (false, r18.2))) else (
  some (false, r18.2))) else (
  some (false, r18.2))) else (
  some (false, r18.2))) else (
  some (false, r18.2))) else (
  some (false, r18.2))) else (
  some (false, r18.2)))))

def patinalaw02_RsDecodes_call {R : Type} (k : Nat) : Fun R := callCons 23 (patinaref01_Same_arm k) (callCons 24 (patinaref01_Apart_arm k) (callCons 29 (patinalaw02_shown_arm k) (callCons 30 (rs_New_arm k) (callCons 31 (patinaref01_Lend_arm k) (callCons 33 (patinaref01_Lent_Bytes_arm k) (callCons 34 (patinaref01_Lent_Kept_arm k) (callCons 35 (patinaref01_Lent_Turn_arm k) (callCons 37 (rs_Codec_Decode_arm k) (callCons 38 (patinaref02_Decode_arm k) (callNil))))))))))

theorem patinalaw02_RsDecodes_callOk {R : Type} (k : Nat) : CallOk Try.prog (patinalaw02_RsDecodes_call (R := R) k) := callOk_cons (patinaref01_Same_armOk k) (callOk_cons (patinaref01_Apart_armOk k) (callOk_cons (patinalaw02_shown_armOk k) (callOk_cons (rs_New_armOk k) (callOk_cons (patinaref01_Lend_armOk k) (callOk_cons (patinaref01_Lent_Bytes_armOk k) (callOk_cons (patinaref01_Lent_Kept_armOk k) (callOk_cons (patinaref01_Lent_Turn_armOk k) (callOk_cons (rs_Codec_Decode_armOk k) (callOk_cons (patinaref02_Decode_armOk k) (callOk_nil))))))))))

def patinalaw02_RsDecodes_loop (k : Nat) : Nat → List Value → Mem → (Nat → List Value → Mem → Option (Bool × Mem)) → Option (Bool × Mem) := fun _ _ _ _ => none

def patinalaw02_RsDecodes_C (k : Nat) : Ctx (Bool × Mem) := ⟨tt, patinalaw02_RsDecodes_call k, patinalaw02_RsDecodes_loop k, [], []⟩

def patinalaw02_RsDecodes_dec : Value → Mem → Option (Bool × Mem) := fun v m => match v with
  | .bool q0 => some (q0, m)
  | _ => none

theorem patinalaw02_RsDecodes_eq (k : Nat) (p0a : Option Addr) (p0n : Nat) (p0c : Nat) (m : Mem) : fnX (patinalaw02_RsDecodes_C k) Try.f7 [(Value.slice p0a p0n p0c)] m patinalaw02_RsDecodes_dec = patinalaw02_RsDecodes k p0a p0n p0c m := by kernel_rfl

theorem patinalaw02_RsDecodes_ok {k : Nat} {p0a : Option Addr} {p0n : Nat} {p0c : Nat} {m : Mem} {r : (Bool × Mem)} (h : patinalaw02_RsDecodes k p0a p0n p0c m = some r) : CallP Try.prog 7 [(Value.slice p0a p0n p0c)] m fun v m' => v = (Value.bool r.1) ∧ m' = r.2 := by
  refine (fn_sound (C := patinalaw02_RsDecodes_C k) (c := body Try.f7) tOk mixed (patinalaw02_RsDecodes_callOk k) Try.func7 (by kernel_rfl) (by kernel_rfl) (by kernel_rfl) (by kernel_rfl) ?_ (Eq.trans (patinalaw02_RsDecodes_eq k p0a p0n p0c m) h)).mono ?_
  · intro p hp; rw [show loopsOf 0 (body Try.f7) = [] by kernel_rfl] at hp; cases hp
  · intro v m' hp
    unfold patinalaw02_RsDecodes_dec at hp
    split at hp
    · simp only [Option.some.injEq] at hp; subst hp; exact ⟨rfl, rfl⟩
    · cases hp

def patinalaw02_RsDecodes_arm {R : Type} (k : Nat) : Arm R := fun vs m K => match vs with
  | [.slice p0a p0n p0c] => (patinalaw02_RsDecodes k p0a p0n p0c m).bind fun r => K (Value.bool r.1) r.2
  | _ => none

theorem patinalaw02_RsDecodes_armOk {R : Type} (k : Nat) : ArmOk Try.prog 7 (patinalaw02_RsDecodes_arm (R := R) k) := by
  intro vs m K r h
  unfold patinalaw02_RsDecodes_arm at h
  split at h
  · obtain ⟨r, h1, h2⟩ := Option.bind_eq_some_iff.1 h; exact ⟨_, _, h2, fun K' => by simp only [patinalaw02_RsDecodes_arm, h1, Option.bind_some], patinalaw02_RsDecodes_ok h1⟩
  · cases h

end Go.Proofs.Ytoljgolgecbcdaa
