/- The program's functions as plain Lean functions over a clean memory, each held against the program by the kernel. Written by mx.py. -/
import Derived.Test.YtlbbcgjfkpnilaaF0
set_option linter.unusedVariables false
set_option maxRecDepth 100000
namespace Go.Proofs.Ytlbbcgjfkpnilaa
open Go.Mx

/-! ### patinalaw00_further -/
def patinalaw00_further (k : Nat) (p0 : Value) (m : Mem) : Option (Int × Mem) :=
  (ifEq tt p0 (Value.iface ty_api_Code (Value.int .i64 12))).bind fun b1 =>
  bif b1 then (
  some (12, m)) else (
  (ifEq tt p0 (Value.iface ty_api_Code (Value.int .i64 13))).bind fun b2 =>
  bif b2 then (
  some (13, m)) else (
  (ifEq tt p0 (Value.iface ty_api_Code (Value.int .i64 14))).bind fun b3 =>
  bif b3 then (
  some (14, m)) else (
  (ifEq tt p0 (Value.iface ty_api_Code (Value.int .i64 15))).bind fun b4 =>
  bif b4 then (
  some (15, m)) else (
  (ifEq tt p0 (Value.iface ty_api_Code (Value.int .i64 16))).bind fun b5 =>
  bif b5 then (
  some (16, m)) else (
  (ifEq tt p0 (Value.iface ty_api_Code (Value.int .i64 17))).bind fun b6 =>
  bif b6 then (
  some (17, m)) else (
  (ifEq tt p0 (Value.iface ty_api_Code (Value.int .i64 18))).bind fun b7 =>
  bif b7 then (
  some (18, m)) else (
  (ifEq tt p0 (Value.iface ty_api_Code (Value.int .i64 19))).bind fun b8 =>
  bif b8 then (
  some (19, m)) else (
  some ((-1), m)))))))))

def patinalaw00_further_call {R : Type} (k : Nat) : Fun R := callNil

theorem patinalaw00_further_callOk {R : Type} (k : Nat) : CallOk Try.prog (patinalaw00_further_call (R := R) k) := callOk_nil

def patinalaw00_further_loop (k : Nat) : Nat → List Value → Mem → (Nat → List Value → Mem → Option (Int × Mem)) → Option (Int × Mem) := fun _ _ _ _ => none

def patinalaw00_further_C (k : Nat) : Ctx (Int × Mem) := ⟨tt, patinalaw00_further_call k, patinalaw00_further_loop k, [], []⟩

def patinalaw00_further_dec : Value → Mem → Option (Int × Mem) := fun v m => match v with
  | .int .i64 q0 => some (q0, m)
  | _ => none

theorem patinalaw00_further_eq (k : Nat) (p0 : Value) (m : Mem) : fnX (patinalaw00_further_C k) Try.f53 [p0] m patinalaw00_further_dec = patinalaw00_further k p0 m := by kernel_rfl

theorem patinalaw00_further_ok {k : Nat} {p0 : Value} {m : Mem} {r : (Int × Mem)} (h : patinalaw00_further k p0 m = some r) : CallP Try.prog 53 [p0] m fun v m' => v = (Value.int .i64 r.1) ∧ m' = r.2 := by
  refine (fn_sound (C := patinalaw00_further_C k) (c := body Try.f53) tOk mixed (patinalaw00_further_callOk k) Try.func53 (by kernel_rfl) (by kernel_rfl) (by kernel_rfl) (by kernel_rfl) ?_ ?_ (Eq.trans (patinalaw00_further_eq k p0 m) h)).mono ?_
  · intro p hp; rw [show loopsOf 0 (body Try.f53) = [] by kernel_rfl] at hp; cases hp
  · intro p hp; rw [show rangesOf 0 (body Try.f53) = [] by kernel_rfl] at hp; cases hp
  · intro v m' hp
    unfold patinalaw00_further_dec at hp
    split at hp
    · simp only [Option.some.injEq] at hp; subst hp; exact ⟨rfl, rfl⟩
    · cases hp

def patinalaw00_further_arm {R : Type} (k : Nat) : Arm R := fun vs m K => match vs with
  | [p0] => (patinalaw00_further k p0 m).bind fun r => K (Value.int .i64 r.1) r.2
  | _ => none

theorem patinalaw00_further_armOk {R : Type} (k : Nat) : ArmOk Try.prog 53 (patinalaw00_further_arm (R := R) k) := by
  intro vs m K r h
  unfold patinalaw00_further_arm at h
  split at h
  · obtain ⟨r, h1, h2⟩ := Option.bind_eq_some_iff.1 h; exact ⟨_, _, h2, fun K' => by simp only [patinalaw00_further_arm, h1, Option.bind_some], patinalaw00_further_ok h1⟩
  · cases h

/-! ### patinalaw00_Code -/
def patinalaw00_Code (k : Nat) (p0 : Value) (m : Mem) : Option (Int × Mem) :=
  (isNil p0).bind fun b1 =>
  bif b1 then (
  some (0, m)) else (
  (ifEq tt p0 (Value.iface ty_api_Code (Value.int .i64 1))).bind fun b2 =>
  bif b2 then (
  some (1, m)) else (
  (ifEq tt p0 (Value.iface ty_api_Code (Value.int .i64 2))).bind fun b3 =>
  bif b3 then (
  some (2, m)) else (
  (ifEq tt p0 (Value.iface ty_api_Code (Value.int .i64 3))).bind fun b4 =>
  bif b4 then (
  some (3, m)) else (
  (ifEq tt p0 (Value.iface ty_api_Code (Value.int .i64 4))).bind fun b5 =>
  bif b5 then (
  some (4, m)) else (
  (ifEq tt p0 (Value.iface ty_api_Code (Value.int .i64 5))).bind fun b6 =>
  bif b6 then (
  some (5, m)) else (
  (ifEq tt p0 (Value.iface ty_api_Code (Value.int .i64 6))).bind fun b7 =>
  bif b7 then (
  some (6, m)) else (
  (ifEq tt p0 (Value.iface ty_api_Code (Value.int .i64 7))).bind fun b8 =>
  bif b8 then (
  some (7, m)) else (
  (ifEq tt p0 (Value.iface ty_api_Code (Value.int .i64 8))).bind fun b9 =>
  bif b9 then (
  some (8, m)) else (
  (ifEq tt p0 (Value.iface ty_api_Code (Value.int .i64 9))).bind fun b10 =>
  bif b10 then (
  some (9, m)) else (
  (ifEq tt p0 (Value.iface ty_api_Code (Value.int .i64 10))).bind fun b11 =>
  bif b11 then (
  some (10, m)) else (
  (ifEq tt p0 (Value.iface ty_api_Code (Value.int .i64 11))).bind fun b12 =>
  bif b12 then (
  some (11, m)) else (
  (patinalaw00_further k p0 m).bind fun r13 =>
  some (r13.1, r13.2)))))))))))))

def patinalaw00_Code_call {R : Type} (k : Nat) : Fun R := callCons 53 (patinalaw00_further_arm k) (callNil)

theorem patinalaw00_Code_callOk {R : Type} (k : Nat) : CallOk Try.prog (patinalaw00_Code_call (R := R) k) := callOk_cons (patinalaw00_further_armOk k) (callOk_nil)

def patinalaw00_Code_loop (k : Nat) : Nat → List Value → Mem → (Nat → List Value → Mem → Option (Int × Mem)) → Option (Int × Mem) := fun _ _ _ _ => none

def patinalaw00_Code_C (k : Nat) : Ctx (Int × Mem) := ⟨tt, patinalaw00_Code_call k, patinalaw00_Code_loop k, [], []⟩

def patinalaw00_Code_dec : Value → Mem → Option (Int × Mem) := fun v m => match v with
  | .int .i64 q0 => some (q0, m)
  | _ => none

theorem patinalaw00_Code_eq (k : Nat) (p0 : Value) (m : Mem) : fnX (patinalaw00_Code_C k) Try.f24 [p0] m patinalaw00_Code_dec = patinalaw00_Code k p0 m := by kernel_rfl

theorem patinalaw00_Code_ok {k : Nat} {p0 : Value} {m : Mem} {r : (Int × Mem)} (h : patinalaw00_Code k p0 m = some r) : CallP Try.prog 24 [p0] m fun v m' => v = (Value.int .i64 r.1) ∧ m' = r.2 := by
  refine (fn_sound (C := patinalaw00_Code_C k) (c := body Try.f24) tOk mixed (patinalaw00_Code_callOk k) Try.func24 (by kernel_rfl) (by kernel_rfl) (by kernel_rfl) (by kernel_rfl) ?_ ?_ (Eq.trans (patinalaw00_Code_eq k p0 m) h)).mono ?_
  · intro p hp; rw [show loopsOf 0 (body Try.f24) = [] by kernel_rfl] at hp; cases hp
  · intro p hp; rw [show rangesOf 0 (body Try.f24) = [] by kernel_rfl] at hp; cases hp
  · intro v m' hp
    unfold patinalaw00_Code_dec at hp
    split at hp
    · simp only [Option.some.injEq] at hp; subst hp; exact ⟨rfl, rfl⟩
    · cases hp

def patinalaw00_Code_arm {R : Type} (k : Nat) : Arm R := fun vs m K => match vs with
  | [p0] => (patinalaw00_Code k p0 m).bind fun r => K (Value.int .i64 r.1) r.2
  | _ => none

theorem patinalaw00_Code_armOk {R : Type} (k : Nat) : ArmOk Try.prog 24 (patinalaw00_Code_arm (R := R) k) := by
  intro vs m K r h
  unfold patinalaw00_Code_arm at h
  split at h
  · obtain ⟨r, h1, h2⟩ := Option.bind_eq_some_iff.1 h; exact ⟨_, _, h2, fun K' => by simp only [patinalaw00_Code_arm, h1, Option.bind_some], patinalaw00_Code_ok h1⟩
  · cases h

end Go.Proofs.Ytlbbcgjfkpnilaa
