/- The program's functions as plain Lean functions over a clean memory, each held against the program by the kernel. Written by mx.py. -/
import Derived.Test.YtmfmoanjecjeeaaF0
import Derived.Test.YtmfmoanjecjeeaaFbytes
set_option linter.unusedVariables false
set_option maxRecDepth 100000
namespace Go.Proofs.Ytmfmoanjecjeeaa
open Go.Mx

/-! ### wire_Seal -/
def wire_Seal (k : Nat) (p0a : Option Addr) (p0n : Nat) (p0c : Nat) (m : Mem) : Option (Sl × Value × Mem) :=
  bif ((p0n : Nat) : Int) != 50 then (
  some ((⟨none, 0, 0⟩ : Sl), (Value.iface ty_api_Code (Value.int .i64 1)), m)) else (
  let m1 : Mem := m ++ [.live (repl (Int.toNat 58) [.int .u8 0])]
  (rdSl m1 p0a (min p0n (Int.toNat 58)) 1).bind fun l2 =>
  (oper.stSl m1 (some ⟨List.length m, 0, Option.none⟩) l2).bind fun m3 =>
  bif sliceK.okZ (some ⟨List.length m, 0, Option.none⟩) 1 false && inUpto 50 (Int.toNat 58) then (
  (oper.stSl m3 ((sliceK.clear (some ⟨List.length m, 0, Option.none⟩) false).map fun a => plus a ((Int.toNat 50) * 1)) (List.take (min (ByteArray.size (ByteArray.mk #[112, 97, 116, 105, 110, 97, 48, 49])) ((Int.toNat 58) - (Int.toNat 50))) (bytesOf (ByteArray.mk #[112, 97, 116, 105, 110, 97, 48, 49])))).bind fun m5 =>
  some ((⟨(some ⟨List.length m, 0, Option.none⟩), (Int.toNat 58), (Int.toNat 58)⟩ : Sl), Value.nilIface, m5)) else none)

def wire_Seal_call {R : Type} (k : Nat) : Fun R := callNil

theorem wire_Seal_callOk {R : Type} (k : Nat) : CallOk Try.prog (wire_Seal_call (R := R) k) := callOk_nil

def wire_Seal_loop (k : Nat) : Nat → List Value → Mem → (Nat → List Value → Mem → Option (Sl × Value × Mem)) → Option (Sl × Value × Mem) := fun _ _ _ _ => none

def wire_Seal_C (k : Nat) : Ctx (Sl × Value × Mem) := ⟨tt, wire_Seal_call k, wire_Seal_loop k, [], []⟩

def wire_Seal_dec : Value → Mem → Option (Sl × Value × Mem) := fun v m => match v with
  | .tuple ⟨[.slice q0a q0n q0c, q1]⟩ => some ((⟨q0a, q0n, q0c⟩ : Sl), q1, m)
  | _ => none

theorem wire_Seal_eq (k : Nat) (p0a : Option Addr) (p0n : Nat) (p0c : Nat) (m : Mem) : fnX (wire_Seal_C k) Try.f28 [(Value.slice p0a p0n p0c)] m wire_Seal_dec = wire_Seal k p0a p0n p0c m := by kernel_rfl

theorem wire_Seal_ok {k : Nat} {p0a : Option Addr} {p0n : Nat} {p0c : Nat} {m : Mem} {r : (Sl × Value × Mem)} (h : wire_Seal k p0a p0n p0c m = some r) : CallP Try.prog 28 [(Value.slice p0a p0n p0c)] m fun v m' => v = (Value.tuple ⟨[(Value.slice r.1.a r.1.len r.1.cap), r.2.1]⟩) ∧ m' = r.2.2 := by
  refine (fn_sound (C := wire_Seal_C k) (c := body Try.f28) tOk mixed (wire_Seal_callOk k) Try.func28 (by kernel_rfl) (by kernel_rfl) (by kernel_rfl) (by kernel_rfl) ?_ ?_ (Eq.trans (wire_Seal_eq k p0a p0n p0c m) h)).mono ?_
  · intro p hp; rw [show loopsOf 0 (body Try.f28) = [] by kernel_rfl] at hp; cases hp
  · intro p hp; rw [show rangesOf 0 (body Try.f28) = [] by kernel_rfl] at hp; cases hp
  · intro v m' hp
    unfold wire_Seal_dec at hp
    split at hp
    · simp only [Option.some.injEq] at hp; subst hp; exact ⟨rfl, rfl⟩
    · cases hp

def wire_Seal_arm {R : Type} (k : Nat) : Arm R := fun vs m K => match vs with
  | [.slice p0a p0n p0c] => (wire_Seal k p0a p0n p0c m).bind fun r => K (Value.tuple ⟨[(Value.slice r.1.a r.1.len r.1.cap), r.2.1]⟩) r.2.2
  | _ => none

theorem wire_Seal_armOk {R : Type} (k : Nat) : ArmOk Try.prog 28 (wire_Seal_arm (R := R) k) := by
  intro vs m K r h
  unfold wire_Seal_arm at h
  split at h
  · obtain ⟨r, h1, h2⟩ := Option.bind_eq_some_iff.1 h; exact ⟨_, _, h2, fun K' => by simp only [wire_Seal_arm, h1, Option.bind_some], wire_Seal_ok h1⟩
  · cases h

/-! ### wire_Open -/
def wire_Open (k : Nat) (p0a : Option Addr) (p0n : Nat) (p0c : Nat) (m : Mem) : Option (Sl × Value × Mem) :=
  bif ((p0n : Nat) : Int) != 58 then (
  some ((⟨none, 0, 0⟩ : Sl), (Value.iface ty_api_Code (Value.int .i64 1)), m)) else (
  (bytes_Clone k p0a p0n p0c m).bind fun r1 =>
  bif sliceK.okZ r1.1.a 1 false && inUpto 50 r1.1.len then (
  (rdSl r1.2 ((sliceK.clear r1.1.a false).map fun a => plus a ((Int.toNat 50) * 1)) (r1.1.len - (Int.toNat 50)) 1).bind fun l2 =>
  (strOf l2).bind fun s3 =>
  bif !(strEq s3 (ByteArray.mk #[112, 97, 116, 105, 110, 97, 48, 49])) then (
  some ((⟨none, 0, 0⟩ : Sl), (Value.iface ty_api_Code (Value.int .i64 6)), r1.2)) else (
  bif inUpto 50 r1.1.cap && inUpto 50 (Int.toNat 50) then (
  some ((⟨(sliceK.clear r1.1.a true), (Int.toNat 50), (Int.toNat 50)⟩ : Sl), Value.nilIface, r1.2)) else none)) else none)

def wire_Open_call {R : Type} (k : Nat) : Fun R := callCons 49 (bytes_Clone_arm k) (callNil)

theorem wire_Open_callOk {R : Type} (k : Nat) : CallOk Try.prog (wire_Open_call (R := R) k) := callOk_cons (bytes_Clone_armOk k) (callOk_nil)

def wire_Open_loop (k : Nat) : Nat → List Value → Mem → (Nat → List Value → Mem → Option (Sl × Value × Mem)) → Option (Sl × Value × Mem) := fun _ _ _ _ => none

def wire_Open_C (k : Nat) : Ctx (Sl × Value × Mem) := ⟨tt, wire_Open_call k, wire_Open_loop k, [], []⟩

def wire_Open_dec : Value → Mem → Option (Sl × Value × Mem) := fun v m => match v with
  | .tuple ⟨[.slice q0a q0n q0c, q1]⟩ => some ((⟨q0a, q0n, q0c⟩ : Sl), q1, m)
  | _ => none

theorem wire_Open_eq (k : Nat) (p0a : Option Addr) (p0n : Nat) (p0c : Nat) (m : Mem) : fnX (wire_Open_C k) Try.f34 [(Value.slice p0a p0n p0c)] m wire_Open_dec = wire_Open k p0a p0n p0c m := by kernel_rfl

theorem wire_Open_ok {k : Nat} {p0a : Option Addr} {p0n : Nat} {p0c : Nat} {m : Mem} {r : (Sl × Value × Mem)} (h : wire_Open k p0a p0n p0c m = some r) : CallP Try.prog 34 [(Value.slice p0a p0n p0c)] m fun v m' => v = (Value.tuple ⟨[(Value.slice r.1.a r.1.len r.1.cap), r.2.1]⟩) ∧ m' = r.2.2 := by
  refine (fn_sound (C := wire_Open_C k) (c := body Try.f34) tOk mixed (wire_Open_callOk k) Try.func34 (by kernel_rfl) (by kernel_rfl) (by kernel_rfl) (by kernel_rfl) ?_ ?_ (Eq.trans (wire_Open_eq k p0a p0n p0c m) h)).mono ?_
  · intro p hp; rw [show loopsOf 0 (body Try.f34) = [] by kernel_rfl] at hp; cases hp
  · intro p hp; rw [show rangesOf 0 (body Try.f34) = [] by kernel_rfl] at hp; cases hp
  · intro v m' hp
    unfold wire_Open_dec at hp
    split at hp
    · simp only [Option.some.injEq] at hp; subst hp; exact ⟨rfl, rfl⟩
    · cases hp

def wire_Open_arm {R : Type} (k : Nat) : Arm R := fun vs m K => match vs with
  | [.slice p0a p0n p0c] => (wire_Open k p0a p0n p0c m).bind fun r => K (Value.tuple ⟨[(Value.slice r.1.a r.1.len r.1.cap), r.2.1]⟩) r.2.2
  | _ => none

theorem wire_Open_armOk {R : Type} (k : Nat) : ArmOk Try.prog 34 (wire_Open_arm (R := R) k) := by
  intro vs m K r h
  unfold wire_Open_arm at h
  split at h
  · obtain ⟨r, h1, h2⟩ := Option.bind_eq_some_iff.1 h; exact ⟨_, _, h2, fun K' => by simp only [wire_Open_arm, h1, Option.bind_some], wire_Open_ok h1⟩
  · cases h

end Go.Proofs.Ytmfmoanjecjeeaa
