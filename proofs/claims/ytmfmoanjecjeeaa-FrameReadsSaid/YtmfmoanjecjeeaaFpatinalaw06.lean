/- The program's functions as plain Lean functions over a clean memory, each held against the program by the kernel. Written by mx.py. -/
import Derived.Test.YtmfmoanjecjeeaaF0
import Derived.Test.YtmfmoanjecjeeaaFframe
import Derived.Test.YtmfmoanjecjeeaaFpatinaref01
set_option linter.unusedVariables false
set_option maxRecDepth 100000
namespace Go.Proofs.Ytmfmoanjecjeeaa
open Go.Mx

/-! ### patinalaw06_shown -/
def patinalaw06_shown (k : Nat) (m : Mem) : Option (Bool × Mem) :=
  (frame_New k  m).bind fun r1 =>
  bif Option.isNone r1.1 then (
  some (false, r1.2)) else (
  let m2 : Mem := r1.2 ++ [.live (repl (Int.toNat 174) [.int .u8 0])]
  let m3 : Mem := m2 ++ [.live (repl (Int.toNat 50) [.int .u8 0])]
  (frame_Frame_Lay k r1.1 (some ⟨List.length r1.2, 0, Option.none⟩) (Int.toNat 174) (Int.toNat 174) (some ⟨List.length m2, 0, Option.none⟩) (Int.toNat 50) (Int.toNat 50) m3).bind fun r4 =>
  let m5 : Mem := r4.2.2 ++ [.live (repl (Int.toNat 173) [.int .u8 0])]
  let m6 : Mem := m5 ++ [.live (repl (Int.toNat 50) [.int .u8 0])]
  (frame_Frame_Lay k r1.1 (some ⟨List.length r4.2.2, 0, Option.none⟩) (Int.toNat 173) (Int.toNat 173) (some ⟨List.length m5, 0, Option.none⟩) (Int.toNat 50) (Int.toNat 50) m6).bind fun r7 =>
  (isNil r4.2.1).bind fun b8 =>
  bif !b8 then (
  some (false, r7.2.2)) else (
  bif ((r4.1.len : Nat) : Int) != 4 then (
  some (false, r7.2.2)) else (
  let m9 : Mem := r7.2.2 ++ [.live (repl (Int.toNat 256) [.int .u8 0])]
  bif inRange 70 (Int.toNat 256) then (
  ((some ⟨List.length r7.2.2, 0, Option.none⟩)).bind fun a10 =>
  (st m9 (plus a10 (Int.toNat 70 * 1)) (Value.int .u8 1)).bind fun m11 =>
  (frame_Frame_Data k r1.1 (some ⟨List.length r7.2.2, 0, Option.none⟩) (Int.toNat 256) (Int.toNat 256) m11).bind fun r12 =>
  (frame_Frame_Body k r1.1 (some ⟨List.length r7.2.2, 0, Option.none⟩) (Int.toNat 256) (Int.toNat 256) r12.2.2.2).bind fun r13 =>
  let m14 : Mem := r13.2.2.2 ++ [.live (repl (Int.toNat 174) [.int .u8 0])]
  (patinaref01_Same k r12.1.a r12.1.len r12.1.cap (some ⟨List.length r13.2.2.2, 0, Option.none⟩) (Int.toNat 174) (Int.toNat 174) m14).bind fun r15 =>
  bif r15.1 then (
  bif r12.2.1 == 1 then (
  (isNil r12.2.2.1).bind fun b16 =>
  bif b16 then (
  (ifEq tt r7.2.1 (Value.iface ty_api_Code (Value.int .i64 1))).bind fun b17 =>
  bif b17 then (
  (ifEq tt r13.2.2.1 (Value.iface ty_api_Code (Value.int .i64 6))).bind fun b18 =>
  some (b18, r15.2)) else (
  some (false, r15.2))) else (
  some (false, r15.2))) else (
  some (false, r15.2))) else (
  some (false, r15.2))) else none)))

def patinalaw06_shown_call {R : Type} (k : Nat) : Fun R := callCons 8 (frame_New_arm k) (callCons 10 (frame_Frame_Lay_arm k) (callCons 15 (patinaref01_Same_arm k) (callCons 18 (frame_Frame_Data_arm k) (callCons 19 (frame_Frame_Body_arm k) (callNil)))))

theorem patinalaw06_shown_callOk {R : Type} (k : Nat) : CallOk Try.prog (patinalaw06_shown_call (R := R) k) := callOk_cons (frame_New_armOk k) (callOk_cons (frame_Frame_Lay_armOk k) (callOk_cons (patinaref01_Same_armOk k) (callOk_cons (frame_Frame_Data_armOk k) (callOk_cons (frame_Frame_Body_armOk k) (callOk_nil)))))

def patinalaw06_shown_loop (k : Nat) : Nat → List Value → Mem → (Nat → List Value → Mem → Option (Bool × Mem)) → Option (Bool × Mem) := fun _ _ _ _ => none

def patinalaw06_shown_C (k : Nat) : Ctx (Bool × Mem) := ⟨tt, patinalaw06_shown_call k, patinalaw06_shown_loop k, [], []⟩

def patinalaw06_shown_dec : Value → Mem → Option (Bool × Mem) := fun v m => match v with
  | .bool q0 => some (q0, m)
  | _ => none

theorem patinalaw06_shown_eq (k : Nat) (m : Mem) : fnX (patinalaw06_shown_C k) Try.f7 [] m patinalaw06_shown_dec = patinalaw06_shown k  m := by kernel_rfl

theorem patinalaw06_shown_ok {k : Nat} {m : Mem} {r : (Bool × Mem)} (h : patinalaw06_shown k  m = some r) : CallP Try.prog 7 [] m fun v m' => v = (Value.bool r.1) ∧ m' = r.2 := by
  refine (fn_sound (C := patinalaw06_shown_C k) (c := body Try.f7) tOk mixed (patinalaw06_shown_callOk k) Try.func7 (by kernel_rfl) (by kernel_rfl) (by kernel_rfl) (by kernel_rfl) ?_ ?_ (Eq.trans (patinalaw06_shown_eq k  m) h)).mono ?_
  · intro p hp; rw [show loopsOf 0 (body Try.f7) = [] by kernel_rfl] at hp; cases hp
  · intro p hp; rw [show rangesOf 0 (body Try.f7) = [] by kernel_rfl] at hp; cases hp
  · intro v m' hp
    unfold patinalaw06_shown_dec at hp
    split at hp
    · simp only [Option.some.injEq] at hp; subst hp; exact ⟨rfl, rfl⟩
    · cases hp

def patinalaw06_shown_arm {R : Type} (k : Nat) : Arm R := fun vs m K => match vs with
  | [] => (patinalaw06_shown k  m).bind fun r => K (Value.bool r.1) r.2
  | _ => none

theorem patinalaw06_shown_armOk {R : Type} (k : Nat) : ArmOk Try.prog 7 (patinalaw06_shown_arm (R := R) k) := by
  intro vs m K r h
  unfold patinalaw06_shown_arm at h
  split at h
  · obtain ⟨r, h1, h2⟩ := Option.bind_eq_some_iff.1 h; exact ⟨_, _, h2, fun K' => by simp only [patinalaw06_shown_arm, h1, Option.bind_some], patinalaw06_shown_ok h1⟩
  · cases h

end Go.Proofs.Ytmfmoanjecjeeaa
