/- The program's functions as plain Lean functions over a clean memory, each held against the program by the kernel. Written by mx.py. -/
import Derived.Test.YtchonnaoojpdoaaF0
set_option linter.unusedVariables false
set_option maxRecDepth 100000
namespace Go.Proofs.Ytchonnaoojpdoaa
open Go.Mx

/-! ### bytes_Clone -/
def bytes_Clone (k : Nat) (p0a : Option Addr) (p0n : Nat) (p0c : Nat) (m : Mem) : Option (Sl × Mem) :=
  bif Option.isNone p0a then (
  some ((⟨none, 0, 0⟩ : Sl), m)) else (
  let m1 : Mem := m ++ [.live []]
  (rdSl m1 p0a p0n 1).bind fun l2 =>
  (appM 1 1 m1 (some ⟨List.length m, 0, Option.none⟩) 0 0 p0n l2).bind fun r3 =>
  some ((⟨r3.1.a, r3.1.len, r3.1.cap⟩ : Sl), r3.2))

def bytes_Clone_call {R : Type} (k : Nat) : Fun R := callNil

theorem bytes_Clone_callOk {R : Type} (k : Nat) : CallOk Try.prog (bytes_Clone_call (R := R) k) := callOk_nil

def bytes_Clone_loop (k : Nat) : Nat → List Value → Mem → (Nat → List Value → Mem → Option (Sl × Mem)) → Option (Sl × Mem) := fun _ _ _ _ => none

def bytes_Clone_C (k : Nat) : Ctx (Sl × Mem) := ⟨tt, bytes_Clone_call k, bytes_Clone_loop k, [], []⟩

def bytes_Clone_dec : Value → Mem → Option (Sl × Mem) := fun v m => match v with
  | .slice q0a q0n q0c => some ((⟨q0a, q0n, q0c⟩ : Sl), m)
  | _ => none

theorem bytes_Clone_eq (k : Nat) (p0a : Option Addr) (p0n : Nat) (p0c : Nat) (m : Mem) : fnX (bytes_Clone_C k) Try.f61 [(Value.slice p0a p0n p0c)] m bytes_Clone_dec = bytes_Clone k p0a p0n p0c m := by kernel_rfl

theorem bytes_Clone_ok {k : Nat} {p0a : Option Addr} {p0n : Nat} {p0c : Nat} {m : Mem} {r : (Sl × Mem)} (h : bytes_Clone k p0a p0n p0c m = some r) : CallP Try.prog 61 [(Value.slice p0a p0n p0c)] m fun v m' => v = (Value.slice r.1.a r.1.len r.1.cap) ∧ m' = r.2 := by
  refine (fn_sound (C := bytes_Clone_C k) (c := body Try.f61) tOk mixed (bytes_Clone_callOk k) Try.func61 (by kernel_rfl) (by kernel_rfl) (by kernel_rfl) (by kernel_rfl) ?_ ?_ (Eq.trans (bytes_Clone_eq k p0a p0n p0c m) h)).mono ?_
  · intro p hp; rw [show loopsOf 0 (body Try.f61) = [] by kernel_rfl] at hp; cases hp
  · intro p hp; rw [show rangesOf 0 (body Try.f61) = [] by kernel_rfl] at hp; cases hp
  · intro v m' hp
    unfold bytes_Clone_dec at hp
    split at hp
    · simp only [Option.some.injEq] at hp; subst hp; exact ⟨rfl, rfl⟩
    · cases hp

def bytes_Clone_arm {R : Type} (k : Nat) : Arm R := fun vs m K => match vs with
  | [.slice p0a p0n p0c] => (bytes_Clone k p0a p0n p0c m).bind fun r => K (Value.slice r.1.a r.1.len r.1.cap) r.2
  | _ => none

theorem bytes_Clone_armOk {R : Type} (k : Nat) : ArmOk Try.prog 61 (bytes_Clone_arm (R := R) k) := by
  intro vs m K r h
  unfold bytes_Clone_arm at h
  split at h
  · obtain ⟨r, h1, h2⟩ := Option.bind_eq_some_iff.1 h; exact ⟨_, _, h2, fun K' => by simp only [bytes_Clone_arm, h1, Option.bind_some], bytes_Clone_ok h1⟩
  · cases h

/-! ### bytes_Equal -/
def bytes_Equal (k : Nat) (p0a : Option Addr) (p0n : Nat) (p0c : Nat) (p1a : Option Addr) (p1n : Nat) (p1c : Nat) (m : Mem) : Option (Bool × Mem) :=
  (rdSl m p0a p0n 1).bind fun l1 =>
  (strOf l1).bind fun s2 =>
  (rdSl m p1a p1n 1).bind fun l3 =>
  (strOf l3).bind fun s4 =>
  some (strEq s2 s4, m)

def bytes_Equal_call {R : Type} (k : Nat) : Fun R := callNil

theorem bytes_Equal_callOk {R : Type} (k : Nat) : CallOk Try.prog (bytes_Equal_call (R := R) k) := callOk_nil

def bytes_Equal_loop (k : Nat) : Nat → List Value → Mem → (Nat → List Value → Mem → Option (Bool × Mem)) → Option (Bool × Mem) := fun _ _ _ _ => none

def bytes_Equal_C (k : Nat) : Ctx (Bool × Mem) := ⟨tt, bytes_Equal_call k, bytes_Equal_loop k, [], []⟩

def bytes_Equal_dec : Value → Mem → Option (Bool × Mem) := fun v m => match v with
  | .bool q0 => some (q0, m)
  | _ => none

theorem bytes_Equal_eq (k : Nat) (p0a : Option Addr) (p0n : Nat) (p0c : Nat) (p1a : Option Addr) (p1n : Nat) (p1c : Nat) (m : Mem) : fnX (bytes_Equal_C k) Try.f24 [(Value.slice p0a p0n p0c), (Value.slice p1a p1n p1c)] m bytes_Equal_dec = bytes_Equal k p0a p0n p0c p1a p1n p1c m := by kernel_rfl

theorem bytes_Equal_ok {k : Nat} {p0a : Option Addr} {p0n : Nat} {p0c : Nat} {p1a : Option Addr} {p1n : Nat} {p1c : Nat} {m : Mem} {r : (Bool × Mem)} (h : bytes_Equal k p0a p0n p0c p1a p1n p1c m = some r) : CallP Try.prog 24 [(Value.slice p0a p0n p0c), (Value.slice p1a p1n p1c)] m fun v m' => v = (Value.bool r.1) ∧ m' = r.2 := by
  refine (fn_sound (C := bytes_Equal_C k) (c := body Try.f24) tOk mixed (bytes_Equal_callOk k) Try.func24 (by kernel_rfl) (by kernel_rfl) (by kernel_rfl) (by kernel_rfl) ?_ ?_ (Eq.trans (bytes_Equal_eq k p0a p0n p0c p1a p1n p1c m) h)).mono ?_
  · intro p hp; rw [show loopsOf 0 (body Try.f24) = [] by kernel_rfl] at hp; cases hp
  · intro p hp; rw [show rangesOf 0 (body Try.f24) = [] by kernel_rfl] at hp; cases hp
  · intro v m' hp
    unfold bytes_Equal_dec at hp
    split at hp
    · simp only [Option.some.injEq] at hp; subst hp; exact ⟨rfl, rfl⟩
    · cases hp

def bytes_Equal_arm {R : Type} (k : Nat) : Arm R := fun vs m K => match vs with
  | [.slice p0a p0n p0c, .slice p1a p1n p1c] => (bytes_Equal k p0a p0n p0c p1a p1n p1c m).bind fun r => K (Value.bool r.1) r.2
  | _ => none

theorem bytes_Equal_armOk {R : Type} (k : Nat) : ArmOk Try.prog 24 (bytes_Equal_arm (R := R) k) := by
  intro vs m K r h
  unfold bytes_Equal_arm at h
  split at h
  · obtain ⟨r, h1, h2⟩ := Option.bind_eq_some_iff.1 h; exact ⟨_, _, h2, fun K' => by simp only [bytes_Equal_arm, h1, Option.bind_some], bytes_Equal_ok h1⟩
  · cases h

end Go.Proofs.Ytchonnaoojpdoaa
