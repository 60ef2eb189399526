/- The program's functions as plain Lean functions over a clean memory, each held against the program by the kernel. Written by mx.py. -/
import Derived.Test.YtchonnaoojpdoaaF0
set_option linter.unusedVariables false
set_option maxRecDepth 100000
namespace Go.Proofs.Ytchonnaoojpdoaa
open Go.Mx

/-! ### sync_atomic_AddInt64 -/
def sync_atomic_AddInt64 (k : Nat) (p0 : Option Addr) (p1 : Int) (m : Mem) : Option (Int × Mem) := atAdd m p0 p1

theorem sync_atomic_AddInt64_ok {k : Nat} {p0 : Option Addr} {p1 : Int} {m : Mem} {r : (Int × Mem)} (h : sync_atomic_AddInt64 k p0 p1 m = some r) : CallP Try.prog 47 [(Value.pointer p0), (Value.int .i64 p1)] m fun v m' => v = (Value.int .i64 r.1) ∧ m' = r.2 :=
  atAdd_ok Try.func47 (by kernel_rfl) (by kernel_rfl) (by kernel_rfl) (by kernel_rfl) h

def sync_atomic_AddInt64_arm {R : Type} (k : Nat) : Arm R := fun vs m K => match vs with
  | [.pointer p0, .int .i64 p1] => (sync_atomic_AddInt64 k p0 p1 m).bind fun r => K (Value.int .i64 r.1) r.2
  | _ => none

theorem sync_atomic_AddInt64_armOk {R : Type} (k : Nat) : ArmOk Try.prog 47 (sync_atomic_AddInt64_arm (R := R) k) := by
  intro vs m K r h
  unfold sync_atomic_AddInt64_arm at h
  split at h
  · obtain ⟨r, h1, h2⟩ := Option.bind_eq_some_iff.1 h; exact ⟨_, _, h2, fun K' => by simp only [sync_atomic_AddInt64_arm, h1, Option.bind_some], sync_atomic_AddInt64_ok h1⟩
  · cases h

/-! ### sync_atomic_Int64_Add -/
def sync_atomic_Int64_Add (k : Nat) (p0 : Option Addr) (p1 : Int) (m : Mem) : Option (Int × Mem) :=
  (p0).bind fun a1 =>
  (sync_atomic_AddInt64 k (some (plus a1 0)) p1 m).bind fun r2 =>
  some (r2.1, r2.2)

def sync_atomic_Int64_Add_call {R : Type} (k : Nat) : Fun R := callCons 47 (sync_atomic_AddInt64_arm k) (callNil)

theorem sync_atomic_Int64_Add_callOk {R : Type} (k : Nat) : CallOk Try.prog (sync_atomic_Int64_Add_call (R := R) k) := callOk_cons (sync_atomic_AddInt64_armOk k) (callOk_nil)

def sync_atomic_Int64_Add_loop (k : Nat) : Nat → List Value → Mem → (Nat → List Value → Mem → Option (Int × Mem)) → Option (Int × Mem) := fun _ _ _ _ => none

def sync_atomic_Int64_Add_C (k : Nat) : Ctx (Int × Mem) := ⟨tt, sync_atomic_Int64_Add_call k, sync_atomic_Int64_Add_loop k, [], []⟩

def sync_atomic_Int64_Add_dec : Value → Mem → Option (Int × Mem) := fun v m => match v with
  | .int .i64 q0 => some (q0, m)
  | _ => none

theorem sync_atomic_Int64_Add_eq (k : Nat) (p0 : Option Addr) (p1 : Int) (m : Mem) : fnX (sync_atomic_Int64_Add_C k) Try.f28 [(Value.pointer p0), (Value.int .i64 p1)] m sync_atomic_Int64_Add_dec = sync_atomic_Int64_Add k p0 p1 m := by kernel_rfl

theorem sync_atomic_Int64_Add_ok {k : Nat} {p0 : Option Addr} {p1 : Int} {m : Mem} {r : (Int × Mem)} (h : sync_atomic_Int64_Add k p0 p1 m = some r) : CallP Try.prog 28 [(Value.pointer p0), (Value.int .i64 p1)] m fun v m' => v = (Value.int .i64 r.1) ∧ m' = r.2 := by
  refine (fn_sound (C := sync_atomic_Int64_Add_C k) (c := body Try.f28) tOk mixed (sync_atomic_Int64_Add_callOk k) Try.func28 (by kernel_rfl) (by kernel_rfl) (by kernel_rfl) (by kernel_rfl) ?_ ?_ (Eq.trans (sync_atomic_Int64_Add_eq k p0 p1 m) h)).mono ?_
  · intro p hp; rw [show loopsOf 0 (body Try.f28) = [] by kernel_rfl] at hp; cases hp
  · intro p hp; rw [show rangesOf 0 (body Try.f28) = [] by kernel_rfl] at hp; cases hp
  · intro v m' hp
    unfold sync_atomic_Int64_Add_dec at hp
    split at hp
    · simp only [Option.some.injEq] at hp; subst hp; exact ⟨rfl, rfl⟩
    · cases hp

def sync_atomic_Int64_Add_arm {R : Type} (k : Nat) : Arm R := fun vs m K => match vs with
  | [.pointer p0, .int .i64 p1] => (sync_atomic_Int64_Add k p0 p1 m).bind fun r => K (Value.int .i64 r.1) r.2
  | _ => none

theorem sync_atomic_Int64_Add_armOk {R : Type} (k : Nat) : ArmOk Try.prog 28 (sync_atomic_Int64_Add_arm (R := R) k) := by
  intro vs m K r h
  unfold sync_atomic_Int64_Add_arm at h
  split at h
  · obtain ⟨r, h1, h2⟩ := Option.bind_eq_some_iff.1 h; exact ⟨_, _, h2, fun K' => by simp only [sync_atomic_Int64_Add_arm, h1, Option.bind_some], sync_atomic_Int64_Add_ok h1⟩
  · cases h

/-! ### sync_atomic_StoreInt64 -/
def sync_atomic_StoreInt64 (k : Nat) (p0 : Option Addr) (p1 : Int) (m : Mem) : Option Mem := atStore m p0 p1

theorem sync_atomic_StoreInt64_ok {k : Nat} {p0 : Option Addr} {p1 : Int} {m : Mem} {r : Mem} (h : sync_atomic_StoreInt64 k p0 p1 m = some r) : CallP Try.prog 62 [(Value.pointer p0), (Value.int .i64 p1)] m fun v m' => v = (Value.tuple ⟨[]⟩) ∧ m' = r :=
  atStore_ok Try.func62 (by kernel_rfl) (by kernel_rfl) (by kernel_rfl) (by kernel_rfl) h

def sync_atomic_StoreInt64_arm {R : Type} (k : Nat) : Arm R := fun vs m K => match vs with
  | [.pointer p0, .int .i64 p1] => (sync_atomic_StoreInt64 k p0 p1 m).bind fun r => K (Value.tuple ⟨[]⟩) r
  | _ => none

theorem sync_atomic_StoreInt64_armOk {R : Type} (k : Nat) : ArmOk Try.prog 62 (sync_atomic_StoreInt64_arm (R := R) k) := by
  intro vs m K r h
  unfold sync_atomic_StoreInt64_arm at h
  split at h
  · obtain ⟨r, h1, h2⟩ := Option.bind_eq_some_iff.1 h; exact ⟨_, _, h2, fun K' => by simp only [sync_atomic_StoreInt64_arm, h1, Option.bind_some], sync_atomic_StoreInt64_ok h1⟩
  · cases h

/-! ### sync_atomic_Int64_Store -/
def sync_atomic_Int64_Store (k : Nat) (p0 : Option Addr) (p1 : Int) (m : Mem) : Option Mem :=
  (p0).bind fun a1 =>
  (sync_atomic_StoreInt64 k (some (plus a1 0)) p1 m).bind fun r2 =>
  some (r2)

def sync_atomic_Int64_Store_call {R : Type} (k : Nat) : Fun R := callCons 62 (sync_atomic_StoreInt64_arm k) (callNil)

theorem sync_atomic_Int64_Store_callOk {R : Type} (k : Nat) : CallOk Try.prog (sync_atomic_Int64_Store_call (R := R) k) := callOk_cons (sync_atomic_StoreInt64_armOk k) (callOk_nil)

def sync_atomic_Int64_Store_loop (k : Nat) : Nat → List Value → Mem → (Nat → List Value → Mem → Option Mem) → Option Mem := fun _ _ _ _ => none

def sync_atomic_Int64_Store_C (k : Nat) : Ctx Mem := ⟨tt, sync_atomic_Int64_Store_call k, sync_atomic_Int64_Store_loop k, [], []⟩

def sync_atomic_Int64_Store_dec : Value → Mem → Option Mem := fun v m => match v with
  | .tuple ⟨[]⟩ => some (m)
  | _ => none

theorem sync_atomic_Int64_Store_eq (k : Nat) (p0 : Option Addr) (p1 : Int) (m : Mem) : fnX (sync_atomic_Int64_Store_C k) Try.f51 [(Value.pointer p0), (Value.int .i64 p1)] m sync_atomic_Int64_Store_dec = sync_atomic_Int64_Store k p0 p1 m := by kernel_rfl

theorem sync_atomic_Int64_Store_ok {k : Nat} {p0 : Option Addr} {p1 : Int} {m : Mem} {r : Mem} (h : sync_atomic_Int64_Store k p0 p1 m = some r) : CallP Try.prog 51 [(Value.pointer p0), (Value.int .i64 p1)] m fun v m' => v = (Value.tuple ⟨[]⟩) ∧ m' = r := by
  refine (fn_sound (C := sync_atomic_Int64_Store_C k) (c := body Try.f51) tOk mixed (sync_atomic_Int64_Store_callOk k) Try.func51 (by kernel_rfl) (by kernel_rfl) (by kernel_rfl) (by kernel_rfl) ?_ ?_ (Eq.trans (sync_atomic_Int64_Store_eq k p0 p1 m) h)).mono ?_
  · intro p hp; rw [show loopsOf 0 (body Try.f51) = [] by kernel_rfl] at hp; cases hp
  · intro p hp; rw [show rangesOf 0 (body Try.f51) = [] by kernel_rfl] at hp; cases hp
  · intro v m' hp
    unfold sync_atomic_Int64_Store_dec at hp
    split at hp
    · simp only [Option.some.injEq] at hp; subst hp; exact ⟨rfl, rfl⟩
    · cases hp

def sync_atomic_Int64_Store_arm {R : Type} (k : Nat) : Arm R := fun vs m K => match vs with
  | [.pointer p0, .int .i64 p1] => (sync_atomic_Int64_Store k p0 p1 m).bind fun r => K (Value.tuple ⟨[]⟩) r
  | _ => none

theorem sync_atomic_Int64_Store_armOk {R : Type} (k : Nat) : ArmOk Try.prog 51 (sync_atomic_Int64_Store_arm (R := R) k) := by
  intro vs m K r h
  unfold sync_atomic_Int64_Store_arm at h
  split at h
  · obtain ⟨r, h1, h2⟩ := Option.bind_eq_some_iff.1 h; exact ⟨_, _, h2, fun K' => by simp only [sync_atomic_Int64_Store_arm, h1, Option.bind_some], sync_atomic_Int64_Store_ok h1⟩
  · cases h

/-! ### sync_atomic_LoadInt64 -/
def sync_atomic_LoadInt64 (k : Nat) (p0 : Option Addr) (m : Mem) : Option (Int × Mem) := atLoad m p0

theorem sync_atomic_LoadInt64_ok {k : Nat} {p0 : Option Addr} {m : Mem} {r : (Int × Mem)} (h : sync_atomic_LoadInt64 k p0 m = some r) : CallP Try.prog 53 [(Value.pointer p0)] m fun v m' => v = (Value.int .i64 r.1) ∧ m' = r.2 :=
  atLoad_ok Try.func53 (by kernel_rfl) (by kernel_rfl) (by kernel_rfl) (by kernel_rfl) h

def sync_atomic_LoadInt64_arm {R : Type} (k : Nat) : Arm R := fun vs m K => match vs with
  | [.pointer p0] => (sync_atomic_LoadInt64 k p0 m).bind fun r => K (Value.int .i64 r.1) r.2
  | _ => none

theorem sync_atomic_LoadInt64_armOk {R : Type} (k : Nat) : ArmOk Try.prog 53 (sync_atomic_LoadInt64_arm (R := R) k) := by
  intro vs m K r h
  unfold sync_atomic_LoadInt64_arm at h
  split at h
  · obtain ⟨r, h1, h2⟩ := Option.bind_eq_some_iff.1 h; exact ⟨_, _, h2, fun K' => by simp only [sync_atomic_LoadInt64_arm, h1, Option.bind_some], sync_atomic_LoadInt64_ok h1⟩
  · cases h

/-! ### sync_atomic_Int64_Load -/
def sync_atomic_Int64_Load (k : Nat) (p0 : Option Addr) (m : Mem) : Option (Int × Mem) :=
  (p0).bind fun a1 =>
  (sync_atomic_LoadInt64 k (some (plus a1 0)) m).bind fun r2 =>
  some (r2.1, r2.2)

def sync_atomic_Int64_Load_call {R : Type} (k : Nat) : Fun R := callCons 53 (sync_atomic_LoadInt64_arm k) (callNil)

theorem sync_atomic_Int64_Load_callOk {R : Type} (k : Nat) : CallOk Try.prog (sync_atomic_Int64_Load_call (R := R) k) := callOk_cons (sync_atomic_LoadInt64_armOk k) (callOk_nil)

def sync_atomic_Int64_Load_loop (k : Nat) : Nat → List Value → Mem → (Nat → List Value → Mem → Option (Int × Mem)) → Option (Int × Mem) := fun _ _ _ _ => none

def sync_atomic_Int64_Load_C (k : Nat) : Ctx (Int × Mem) := ⟨tt, sync_atomic_Int64_Load_call k, sync_atomic_Int64_Load_loop k, [], []⟩

def sync_atomic_Int64_Load_dec : Value → Mem → Option (Int × Mem) := fun v m => match v with
  | .int .i64 q0 => some (q0, m)
  | _ => none

theorem sync_atomic_Int64_Load_eq (k : Nat) (p0 : Option Addr) (m : Mem) : fnX (sync_atomic_Int64_Load_C k) Try.f35 [(Value.pointer p0)] m sync_atomic_Int64_Load_dec = sync_atomic_Int64_Load k p0 m := by kernel_rfl

theorem sync_atomic_Int64_Load_ok {k : Nat} {p0 : Option Addr} {m : Mem} {r : (Int × Mem)} (h : sync_atomic_Int64_Load k p0 m = some r) : CallP Try.prog 35 [(Value.pointer p0)] m fun v m' => v = (Value.int .i64 r.1) ∧ m' = r.2 := by
  refine (fn_sound (C := sync_atomic_Int64_Load_C k) (c := body Try.f35) tOk mixed (sync_atomic_Int64_Load_callOk k) Try.func35 (by kernel_rfl) (by kernel_rfl) (by kernel_rfl) (by kernel_rfl) ?_ ?_ (Eq.trans (sync_atomic_Int64_Load_eq k p0 m) h)).mono ?_
  · intro p hp; rw [show loopsOf 0 (body Try.f35) = [] by kernel_rfl] at hp; cases hp
  · intro p hp; rw [show rangesOf 0 (body Try.f35) = [] by kernel_rfl] at hp; cases hp
  · intro v m' hp
    unfold sync_atomic_Int64_Load_dec at hp
    split at hp
    · simp only [Option.some.injEq] at hp; subst hp; exact ⟨rfl, rfl⟩
    · cases hp

def sync_atomic_Int64_Load_arm {R : Type} (k : Nat) : Arm R := fun vs m K => match vs with
  | [.pointer p0] => (sync_atomic_Int64_Load k p0 m).bind fun r => K (Value.int .i64 r.1) r.2
  | _ => none

theorem sync_atomic_Int64_Load_armOk {R : Type} (k : Nat) : ArmOk Try.prog 35 (sync_atomic_Int64_Load_arm (R := R) k) := by
  intro vs m K r h
  unfold sync_atomic_Int64_Load_arm at h
  split at h
  · obtain ⟨r, h1, h2⟩ := Option.bind_eq_some_iff.1 h; exact ⟨_, _, h2, fun K' => by simp only [sync_atomic_Int64_Load_arm, h1, Option.bind_some], sync_atomic_Int64_Load_ok h1⟩
  · cases h

end Go.Proofs.Ytchonnaoojpdoaa
