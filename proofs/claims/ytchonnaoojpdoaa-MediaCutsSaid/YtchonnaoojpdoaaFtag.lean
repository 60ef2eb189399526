/- The program's functions as plain Lean functions over a clean memory, each held against the program by the kernel. Written by mx.py. -/
import Derived.Test.YtchonnaoojpdoaaF0
import Derived.Test.YtchonnaoojpdoaaFbytes
import Derived.Test.YtchonnaoojpdoaaFwire
set_option linter.unusedVariables false
set_option maxRecDepth 100000
namespace Go.Proofs.Ytchonnaoojpdoaa
open Go.Mx

/-! ### tag_Check -/
def tag_Check_j1 (k : Nat) (mj : Mem) : Option (Value × Mem) :=
  some (Value.nilIface, mj)

def tag_Check (k : Nat) (p0 : List Value) (m : Mem) : Option (Value × Mem) :=
  bif Nat.beq (List.length p0) 5 then (
  let m1 : Mem := m ++ [.live p0]
  (ldInt .i64 m1 (plus ⟨List.length m, 0, Option.none⟩ 0)).bind fun t2 =>
  bif decide (t2 < 0) then (
  some ((Value.iface ty_api_Code (Value.int .i64 1)), m1)) else (
  (ldInt .i64 m1 (plus ⟨List.length m, 0, Option.none⟩ 0)).bind fun t3 =>
  bif decide (t3 ≥ 96) then (
  some ((Value.iface ty_api_Code (Value.int .i64 1)), m1)) else (
  (ldInt .i64 m1 (plus ⟨List.length m, 0, Option.none⟩ 1)).bind fun t4 =>
  bif decide (t4 < 0) then (
  some ((Value.iface ty_api_Code (Value.int .i64 1)), m1)) else (
  (ldInt .i64 m1 (plus ⟨List.length m, 0, Option.none⟩ 1)).bind fun t5 =>
  bif decide (t5 > 24) then (
  some ((Value.iface ty_api_Code (Value.int .i64 1)), m1)) else (
  (ldInt .i64 m1 (plus ⟨List.length m, 0, Option.none⟩ 2)).bind fun t6 =>
  bif decide (t6 < 1) then (
  some ((Value.iface ty_api_Code (Value.int .i64 1)), m1)) else (
  (ldInt .i64 m1 (plus ⟨List.length m, 0, Option.none⟩ 2)).bind fun t7 =>
  bif decide (t7 > 1099511627775) then (
  some ((Value.iface ty_api_Code (Value.int .i64 1)), m1)) else (
  (ldInt .i64 m1 (plus ⟨List.length m, 0, Option.none⟩ 3)).bind fun t8 =>
  bif decide (t8 < 0) then (
  some ((Value.iface ty_api_Code (Value.int .i64 1)), m1)) else (
  (ldInt .i64 m1 (plus ⟨List.length m, 0, Option.none⟩ 3)).bind fun t9 =>
  bif decide (t9 > 255) then (
  some ((Value.iface ty_api_Code (Value.int .i64 1)), m1)) else (
  (ldInt .i64 m1 (plus ⟨List.length m, 0, Option.none⟩ 1)).bind fun t10 =>
  bif t10 == 24 then (
  (ldBool m1 (plus ⟨List.length m, 0, Option.none⟩ 4)).bind fun t11 =>
  bif t11 then (
  some ((Value.iface ty_api_Code (Value.int .i64 1)), m1)) else (
  (ldInt .i64 m1 (plus ⟨List.length m, 0, Option.none⟩ 1)).bind fun t12 =>
  bif t12 != 24 then (
  (ldInt .i64 m1 (plus ⟨List.length m, 0, Option.none⟩ 0)).bind fun t13 =>
  bif decide ((Int.tmod t13 8) ≥ 6) then (
  some ((Value.iface ty_api_Code (Value.int .i64 1)), m1)) else (
  tag_Check_j1 k  m1)) else (
  tag_Check_j1 k  m1))) else (
  (ldInt .i64 m1 (plus ⟨List.length m, 0, Option.none⟩ 1)).bind fun t14 =>
  bif t14 != 24 then (
  (ldInt .i64 m1 (plus ⟨List.length m, 0, Option.none⟩ 0)).bind fun t15 =>
  bif decide ((Int.tmod t15 8) ≥ 6) then (
  some ((Value.iface ty_api_Code (Value.int .i64 1)), m1)) else (
  tag_Check_j1 k  m1)) else (
  tag_Check_j1 k  m1))))))))))) else none

def tag_Check_call {R : Type} (k : Nat) : Fun R := callNil

theorem tag_Check_callOk {R : Type} (k : Nat) : CallOk Try.prog (tag_Check_call (R := R) k) := callOk_nil

def tag_Check_loop (k : Nat) : Nat → List Value → Mem → (Nat → List Value → Mem → Option (Value × Mem)) → Option (Value × Mem) := fun _ _ _ _ => none

def tag_Check_C (k : Nat) : Ctx (Value × Mem) := ⟨tt, tag_Check_call k, tag_Check_loop k, [], []⟩

def tag_Check_dec : Value → Mem → Option (Value × Mem) := fun v m => match v with
  | q0 => some (q0, m)

theorem tag_Check_eq (k : Nat) (p0 : List Value) (m : Mem) : fnX (tag_Check_C k) Try.f37 [(Value.agg ⟨p0⟩)] m tag_Check_dec = tag_Check k p0 m := by kernel_rfl

theorem tag_Check_ok {k : Nat} {p0 : List Value} {m : Mem} {r : (Value × Mem)} (h : tag_Check k p0 m = some r) : CallP Try.prog 37 [(Value.agg ⟨p0⟩)] m fun v m' => v = r.1 ∧ m' = r.2 := by
  refine (fn_sound (C := tag_Check_C k) (c := body Try.f37) tOk mixed (tag_Check_callOk k) Try.func37 (by kernel_rfl) (by kernel_rfl) (by kernel_rfl) (by kernel_rfl) ?_ ?_ (Eq.trans (tag_Check_eq k p0 m) h)).mono ?_
  · intro p hp; rw [show loopsOf 0 (body Try.f37) = [] by kernel_rfl] at hp; cases hp
  · intro p hp; rw [show rangesOf 0 (body Try.f37) = [] by kernel_rfl] at hp; cases hp
  · intro v m' hp
    simp only [tag_Check_dec, Option.some.injEq] at hp; subst hp; exact ⟨rfl, rfl⟩

def tag_Check_arm {R : Type} (k : Nat) : Arm R := fun vs m K => match vs with
  | [.agg ⟨p0⟩] => (tag_Check k p0 m).bind fun r => K r.1 r.2
  | _ => none

theorem tag_Check_armOk {R : Type} (k : Nat) : ArmOk Try.prog 37 (tag_Check_arm (R := R) k) := by
  intro vs m K r h
  unfold tag_Check_arm at h
  split at h
  · obtain ⟨r, h1, h2⟩ := Option.bind_eq_some_iff.1 h; exact ⟨_, _, h2, fun K' => by simp only [tag_Check_arm, h1, Option.bind_some], tag_Check_ok h1⟩
  · cases h

/-! ### tag_writer_put -/
def tag_writer_put (k : Nat) (p0 : Option Addr) (p1 : Int) (p2 : Int) (m : Mem) : Option (Value × Mem) :=
  (wire_Put k (IntKind.wrap .u64 p1) p2 m).bind fun r1 =>
  (p0).bind fun a2 =>
  (ldSl r1.2.2 (plus a2 5)).bind fun t3 =>
  (rdSl r1.2.2 r1.1.a r1.1.len 1).bind fun l4 =>
  (appM 1 1 r1.2.2 t3.a t3.len t3.cap r1.1.len l4).bind fun r5 =>
  (p0).bind fun a6 =>
  (st r5.2 (plus a6 5) (Value.slice r5.1.a r5.1.len r5.1.cap)).bind fun m7 =>
  some (r1.2.1, m7)

def tag_writer_put_call {R : Type} (k : Nat) : Fun R := callCons 66 (wire_Put_arm k) (callNil)

theorem tag_writer_put_callOk {R : Type} (k : Nat) : CallOk Try.prog (tag_writer_put_call (R := R) k) := callOk_cons (wire_Put_armOk k) (callOk_nil)

def tag_writer_put_loop (k : Nat) : Nat → List Value → Mem → (Nat → List Value → Mem → Option (Value × Mem)) → Option (Value × Mem) := fun _ _ _ _ => none

def tag_writer_put_C (k : Nat) : Ctx (Value × Mem) := ⟨tt, tag_writer_put_call k, tag_writer_put_loop k, [], []⟩

def tag_writer_put_dec : Value → Mem → Option (Value × Mem) := fun v m => match v with
  | q0 => some (q0, m)

theorem tag_writer_put_eq (k : Nat) (p0 : Option Addr) (p1 : Int) (p2 : Int) (m : Mem) : fnX (tag_writer_put_C k) Try.f55 [(Value.pointer p0), (Value.int .i64 p1), (Value.int .i64 p2)] m tag_writer_put_dec = tag_writer_put k p0 p1 p2 m := by kernel_rfl

theorem tag_writer_put_ok {k : Nat} {p0 : Option Addr} {p1 : Int} {p2 : Int} {m : Mem} {r : (Value × Mem)} (h : tag_writer_put k p0 p1 p2 m = some r) : CallP Try.prog 55 [(Value.pointer p0), (Value.int .i64 p1), (Value.int .i64 p2)] m fun v m' => v = r.1 ∧ m' = r.2 := by
  refine (fn_sound (C := tag_writer_put_C k) (c := body Try.f55) tOk mixed (tag_writer_put_callOk k) Try.func55 (by kernel_rfl) (by kernel_rfl) (by kernel_rfl) (by kernel_rfl) ?_ ?_ (Eq.trans (tag_writer_put_eq k p0 p1 p2 m) h)).mono ?_
  · intro p hp; rw [show loopsOf 0 (body Try.f55) = [] by kernel_rfl] at hp; cases hp
  · intro p hp; rw [show rangesOf 0 (body Try.f55) = [] by kernel_rfl] at hp; cases hp
  · intro v m' hp
    simp only [tag_writer_put_dec, Option.some.injEq] at hp; subst hp; exact ⟨rfl, rfl⟩

def tag_writer_put_arm {R : Type} (k : Nat) : Arm R := fun vs m K => match vs with
  | [.pointer p0, .int .i64 p1, .int .i64 p2] => (tag_writer_put k p0 p1 p2 m).bind fun r => K r.1 r.2
  | _ => none

theorem tag_writer_put_armOk {R : Type} (k : Nat) : ArmOk Try.prog 55 (tag_writer_put_arm (R := R) k) := by
  intro vs m K r h
  unfold tag_writer_put_arm at h
  split at h
  · obtain ⟨r, h1, h2⟩ := Option.bind_eq_some_iff.1 h; exact ⟨_, _, h2, fun K' => by simp only [tag_writer_put_arm, h1, Option.bind_some], tag_writer_put_ok h1⟩
  · cases h

/-! ### tag_writer_place -/
def tag_writer_place (k : Nat) (p0 : Option Addr) (m : Mem) : Option (Value × Mem) :=
  (p0).bind fun a1 =>
  (ldInt .i64 m (plus (plus a1 0) 0)).bind fun t2 =>
  (tag_writer_put k p0 t2 2 m).bind fun r3 =>
  some (r3.1, r3.2)

def tag_writer_place_call {R : Type} (k : Nat) : Fun R := callCons 55 (tag_writer_put_arm k) (callNil)

theorem tag_writer_place_callOk {R : Type} (k : Nat) : CallOk Try.prog (tag_writer_place_call (R := R) k) := callOk_cons (tag_writer_put_armOk k) (callOk_nil)

def tag_writer_place_loop (k : Nat) : Nat → List Value → Mem → (Nat → List Value → Mem → Option (Value × Mem)) → Option (Value × Mem) := fun _ _ _ _ => none

def tag_writer_place_C (k : Nat) : Ctx (Value × Mem) := ⟨tt, tag_writer_place_call k, tag_writer_place_loop k, [], []⟩

def tag_writer_place_dec : Value → Mem → Option (Value × Mem) := fun v m => match v with
  | q0 => some (q0, m)

theorem tag_writer_place_eq (k : Nat) (p0 : Option Addr) (m : Mem) : fnX (tag_writer_place_C k) Try.f38 [(Value.pointer p0)] m tag_writer_place_dec = tag_writer_place k p0 m := by kernel_rfl

theorem tag_writer_place_ok {k : Nat} {p0 : Option Addr} {m : Mem} {r : (Value × Mem)} (h : tag_writer_place k p0 m = some r) : CallP Try.prog 38 [(Value.pointer p0)] m fun v m' => v = r.1 ∧ m' = r.2 := by
  refine (fn_sound (C := tag_writer_place_C k) (c := body Try.f38) tOk mixed (tag_writer_place_callOk k) Try.func38 (by kernel_rfl) (by kernel_rfl) (by kernel_rfl) (by kernel_rfl) ?_ ?_ (Eq.trans (tag_writer_place_eq k p0 m) h)).mono ?_
  · intro p hp; rw [show loopsOf 0 (body Try.f38) = [] by kernel_rfl] at hp; cases hp
  · intro p hp; rw [show rangesOf 0 (body Try.f38) = [] by kernel_rfl] at hp; cases hp
  · intro v m' hp
    simp only [tag_writer_place_dec, Option.some.injEq] at hp; subst hp; exact ⟨rfl, rfl⟩

def tag_writer_place_arm {R : Type} (k : Nat) : Arm R := fun vs m K => match vs with
  | [.pointer p0] => (tag_writer_place k p0 m).bind fun r => K r.1 r.2
  | _ => none

theorem tag_writer_place_armOk {R : Type} (k : Nat) : ArmOk Try.prog 38 (tag_writer_place_arm (R := R) k) := by
  intro vs m K r h
  unfold tag_writer_place_arm at h
  split at h
  · obtain ⟨r, h1, h2⟩ := Option.bind_eq_some_iff.1 h; exact ⟨_, _, h2, fun K' => by simp only [tag_writer_place_arm, h1, Option.bind_some], tag_writer_place_ok h1⟩
  · cases h

/-! ### tag_writer_of -/
def tag_writer_of (k : Nat) (p0 : Option Addr) (m : Mem) : Option (Value × Mem) :=
  (p0).bind fun a1 =>
  (ldInt .i64 m (plus (plus a1 0) 1)).bind fun t2 =>
  (tag_writer_put k p0 t2 1 m).bind fun r3 =>
  some (r3.1, r3.2)

def tag_writer_of_call {R : Type} (k : Nat) : Fun R := callCons 55 (tag_writer_put_arm k) (callNil)

theorem tag_writer_of_callOk {R : Type} (k : Nat) : CallOk Try.prog (tag_writer_of_call (R := R) k) := callOk_cons (tag_writer_put_armOk k) (callOk_nil)

def tag_writer_of_loop (k : Nat) : Nat → List Value → Mem → (Nat → List Value → Mem → Option (Value × Mem)) → Option (Value × Mem) := fun _ _ _ _ => none

def tag_writer_of_C (k : Nat) : Ctx (Value × Mem) := ⟨tt, tag_writer_of_call k, tag_writer_of_loop k, [], []⟩

def tag_writer_of_dec : Value → Mem → Option (Value × Mem) := fun v m => match v with
  | q0 => some (q0, m)

theorem tag_writer_of_eq (k : Nat) (p0 : Option Addr) (m : Mem) : fnX (tag_writer_of_C k) Try.f39 [(Value.pointer p0)] m tag_writer_of_dec = tag_writer_of k p0 m := by kernel_rfl

theorem tag_writer_of_ok {k : Nat} {p0 : Option Addr} {m : Mem} {r : (Value × Mem)} (h : tag_writer_of k p0 m = some r) : CallP Try.prog 39 [(Value.pointer p0)] m fun v m' => v = r.1 ∧ m' = r.2 := by
  refine (fn_sound (C := tag_writer_of_C k) (c := body Try.f39) tOk mixed (tag_writer_of_callOk k) Try.func39 (by kernel_rfl) (by kernel_rfl) (by kernel_rfl) (by kernel_rfl) ?_ ?_ (Eq.trans (tag_writer_of_eq k p0 m) h)).mono ?_
  · intro p hp; rw [show loopsOf 0 (body Try.f39) = [] by kernel_rfl] at hp; cases hp
  · intro p hp; rw [show rangesOf 0 (body Try.f39) = [] by kernel_rfl] at hp; cases hp
  · intro v m' hp
    simp only [tag_writer_of_dec, Option.some.injEq] at hp; subst hp; exact ⟨rfl, rfl⟩

def tag_writer_of_arm {R : Type} (k : Nat) : Arm R := fun vs m K => match vs with
  | [.pointer p0] => (tag_writer_of k p0 m).bind fun r => K r.1 r.2
  | _ => none

theorem tag_writer_of_armOk {R : Type} (k : Nat) : ArmOk Try.prog 39 (tag_writer_of_arm (R := R) k) := by
  intro vs m K r h
  unfold tag_writer_of_arm at h
  split at h
  · obtain ⟨r, h1, h2⟩ := Option.bind_eq_some_iff.1 h; exact ⟨_, _, h2, fun K' => by simp only [tag_writer_of_arm, h1, Option.bind_some], tag_writer_of_ok h1⟩
  · cases h

/-! ### tag_writer_seq -/
def tag_writer_seq (k : Nat) (p0 : Option Addr) (m : Mem) : Option (Value × Mem) :=
  (p0).bind fun a1 =>
  (ldInt .i64 m (plus (plus a1 0) 2)).bind fun t2 =>
  (tag_writer_put k p0 t2 5 m).bind fun r3 =>
  some (r3.1, r3.2)

def tag_writer_seq_call {R : Type} (k : Nat) : Fun R := callCons 55 (tag_writer_put_arm k) (callNil)

theorem tag_writer_seq_callOk {R : Type} (k : Nat) : CallOk Try.prog (tag_writer_seq_call (R := R) k) := callOk_cons (tag_writer_put_armOk k) (callOk_nil)

def tag_writer_seq_loop (k : Nat) : Nat → List Value → Mem → (Nat → List Value → Mem → Option (Value × Mem)) → Option (Value × Mem) := fun _ _ _ _ => none

def tag_writer_seq_C (k : Nat) : Ctx (Value × Mem) := ⟨tt, tag_writer_seq_call k, tag_writer_seq_loop k, [], []⟩

def tag_writer_seq_dec : Value → Mem → Option (Value × Mem) := fun v m => match v with
  | q0 => some (q0, m)

theorem tag_writer_seq_eq (k : Nat) (p0 : Option Addr) (m : Mem) : fnX (tag_writer_seq_C k) Try.f40 [(Value.pointer p0)] m tag_writer_seq_dec = tag_writer_seq k p0 m := by kernel_rfl

theorem tag_writer_seq_ok {k : Nat} {p0 : Option Addr} {m : Mem} {r : (Value × Mem)} (h : tag_writer_seq k p0 m = some r) : CallP Try.prog 40 [(Value.pointer p0)] m fun v m' => v = r.1 ∧ m' = r.2 := by
  refine (fn_sound (C := tag_writer_seq_C k) (c := body Try.f40) tOk mixed (tag_writer_seq_callOk k) Try.func40 (by kernel_rfl) (by kernel_rfl) (by kernel_rfl) (by kernel_rfl) ?_ ?_ (Eq.trans (tag_writer_seq_eq k p0 m) h)).mono ?_
  · intro p hp; rw [show loopsOf 0 (body Try.f40) = [] by kernel_rfl] at hp; cases hp
  · intro p hp; rw [show rangesOf 0 (body Try.f40) = [] by kernel_rfl] at hp; cases hp
  · intro v m' hp
    simp only [tag_writer_seq_dec, Option.some.injEq] at hp; subst hp; exact ⟨rfl, rfl⟩

def tag_writer_seq_arm {R : Type} (k : Nat) : Arm R := fun vs m K => match vs with
  | [.pointer p0] => (tag_writer_seq k p0 m).bind fun r => K r.1 r.2
  | _ => none

theorem tag_writer_seq_armOk {R : Type} (k : Nat) : ArmOk Try.prog 40 (tag_writer_seq_arm (R := R) k) := by
  intro vs m K r h
  unfold tag_writer_seq_arm at h
  split at h
  · obtain ⟨r, h1, h2⟩ := Option.bind_eq_some_iff.1 h; exact ⟨_, _, h2, fun K' => by simp only [tag_writer_seq_arm, h1, Option.bind_some], tag_writer_seq_ok h1⟩
  · cases h

/-! ### tag_writer_copies -/
def tag_writer_copies (k : Nat) (p0 : Option Addr) (m : Mem) : Option (Value × Mem) :=
  (p0).bind fun a1 =>
  (ldInt .i64 m (plus (plus a1 0) 3)).bind fun t2 =>
  (tag_writer_put k p0 t2 1 m).bind fun r3 =>
  some (r3.1, r3.2)

def tag_writer_copies_call {R : Type} (k : Nat) : Fun R := callCons 55 (tag_writer_put_arm k) (callNil)

theorem tag_writer_copies_callOk {R : Type} (k : Nat) : CallOk Try.prog (tag_writer_copies_call (R := R) k) := callOk_cons (tag_writer_put_armOk k) (callOk_nil)

def tag_writer_copies_loop (k : Nat) : Nat → List Value → Mem → (Nat → List Value → Mem → Option (Value × Mem)) → Option (Value × Mem) := fun _ _ _ _ => none

def tag_writer_copies_C (k : Nat) : Ctx (Value × Mem) := ⟨tt, tag_writer_copies_call k, tag_writer_copies_loop k, [], []⟩

def tag_writer_copies_dec : Value → Mem → Option (Value × Mem) := fun v m => match v with
  | q0 => some (q0, m)

theorem tag_writer_copies_eq (k : Nat) (p0 : Option Addr) (m : Mem) : fnX (tag_writer_copies_C k) Try.f41 [(Value.pointer p0)] m tag_writer_copies_dec = tag_writer_copies k p0 m := by kernel_rfl

theorem tag_writer_copies_ok {k : Nat} {p0 : Option Addr} {m : Mem} {r : (Value × Mem)} (h : tag_writer_copies k p0 m = some r) : CallP Try.prog 41 [(Value.pointer p0)] m fun v m' => v = r.1 ∧ m' = r.2 := by
  refine (fn_sound (C := tag_writer_copies_C k) (c := body Try.f41) tOk mixed (tag_writer_copies_callOk k) Try.func41 (by kernel_rfl) (by kernel_rfl) (by kernel_rfl) (by kernel_rfl) ?_ ?_ (Eq.trans (tag_writer_copies_eq k p0 m) h)).mono ?_
  · intro p hp; rw [show loopsOf 0 (body Try.f41) = [] by kernel_rfl] at hp; cases hp
  · intro p hp; rw [show rangesOf 0 (body Try.f41) = [] by kernel_rfl] at hp; cases hp
  · intro v m' hp
    simp only [tag_writer_copies_dec, Option.some.injEq] at hp; subst hp; exact ⟨rfl, rfl⟩

def tag_writer_copies_arm {R : Type} (k : Nat) : Arm R := fun vs m K => match vs with
  | [.pointer p0] => (tag_writer_copies k p0 m).bind fun r => K r.1 r.2
  | _ => none

theorem tag_writer_copies_armOk {R : Type} (k : Nat) : ArmOk Try.prog 41 (tag_writer_copies_arm (R := R) k) := by
  intro vs m K r h
  unfold tag_writer_copies_arm at h
  split at h
  · obtain ⟨r, h1, h2⟩ := Option.bind_eq_some_iff.1 h; exact ⟨_, _, h2, fun K' => by simp only [tag_writer_copies_arm, h1, Option.bind_some], tag_writer_copies_ok h1⟩
  · cases h

/-! ### tag_writer_lost -/
def tag_writer_lost (k : Nat) (p0 : Option Addr) (m : Mem) : Option (Value × Mem) :=
  (p0).bind fun a1 =>
  (ldBool m (plus (plus a1 0) 4)).bind fun t2 =>
  bif t2 then (
  (tag_writer_put k p0 1 1 m).bind fun r3 =>
  some (r3.1, r3.2)) else (
  (tag_writer_put k p0 0 1 m).bind fun r4 =>
  some (r4.1, r4.2))

def tag_writer_lost_call {R : Type} (k : Nat) : Fun R := callCons 55 (tag_writer_put_arm k) (callNil)

theorem tag_writer_lost_callOk {R : Type} (k : Nat) : CallOk Try.prog (tag_writer_lost_call (R := R) k) := callOk_cons (tag_writer_put_armOk k) (callOk_nil)

def tag_writer_lost_loop (k : Nat) : Nat → List Value → Mem → (Nat → List Value → Mem → Option (Value × Mem)) → Option (Value × Mem) := fun _ _ _ _ => none

def tag_writer_lost_C (k : Nat) : Ctx (Value × Mem) := ⟨tt, tag_writer_lost_call k, tag_writer_lost_loop k, [], []⟩

def tag_writer_lost_dec : Value → Mem → Option (Value × Mem) := fun v m => match v with
  | q0 => some (q0, m)

theorem tag_writer_lost_eq (k : Nat) (p0 : Option Addr) (m : Mem) : fnX (tag_writer_lost_C k) Try.f42 [(Value.pointer p0)] m tag_writer_lost_dec = tag_writer_lost k p0 m := by kernel_rfl

theorem tag_writer_lost_ok {k : Nat} {p0 : Option Addr} {m : Mem} {r : (Value × Mem)} (h : tag_writer_lost k p0 m = some r) : CallP Try.prog 42 [(Value.pointer p0)] m fun v m' => v = r.1 ∧ m' = r.2 := by
  refine (fn_sound (C := tag_writer_lost_C k) (c := body Try.f42) tOk mixed (tag_writer_lost_callOk k) Try.func42 (by kernel_rfl) (by kernel_rfl) (by kernel_rfl) (by kernel_rfl) ?_ ?_ (Eq.trans (tag_writer_lost_eq k p0 m) h)).mono ?_
  · intro p hp; rw [show loopsOf 0 (body Try.f42) = [] by kernel_rfl] at hp; cases hp
  · intro p hp; rw [show rangesOf 0 (body Try.f42) = [] by kernel_rfl] at hp; cases hp
  · intro v m' hp
    simp only [tag_writer_lost_dec, Option.some.injEq] at hp; subst hp; exact ⟨rfl, rfl⟩

def tag_writer_lost_arm {R : Type} (k : Nat) : Arm R := fun vs m K => match vs with
  | [.pointer p0] => (tag_writer_lost k p0 m).bind fun r => K r.1 r.2
  | _ => none

theorem tag_writer_lost_armOk {R : Type} (k : Nat) : ArmOk Try.prog 42 (tag_writer_lost_arm (R := R) k) := by
  intro vs m K r h
  unfold tag_writer_lost_arm at h
  split at h
  · obtain ⟨r, h1, h2⟩ := Option.bind_eq_some_iff.1 h; exact ⟨_, _, h2, fun K' => by simp only [tag_writer_lost_arm, h1, Option.bind_some], tag_writer_lost_ok h1⟩
  · cases h

/-! ### tag_Encode -/
def tag_Encode_call {R : Type} (k : Nat) : Fun R := callCons 37 (tag_Check_arm k) (callCons 38 (tag_writer_place_arm k) (callCons 39 (tag_writer_of_arm k) (callCons 40 (tag_writer_seq_arm k) (callCons 41 (tag_writer_copies_arm k) (callCons 42 (tag_writer_lost_arm k) (callNil))))))

theorem tag_Encode_callOk {R : Type} (k : Nat) : CallOk Try.prog (tag_Encode_call (R := R) k) := callOk_cons (tag_Check_armOk k) (callOk_cons (tag_writer_place_armOk k) (callOk_cons (tag_writer_of_armOk k) (callOk_cons (tag_writer_seq_armOk k) (callOk_cons (tag_writer_copies_armOk k) (callOk_cons (tag_writer_lost_armOk k) (callOk_nil))))))

def tag_Encode_l0_b (k : Nat) (nx : Addr → Option Addr → Nat → Nat → Int → Int → Mem → Option (Sl × Value × Mem)) (kx0 : Option Addr → Nat → Nat → Value → Mem → Option (Sl × Value × Mem)) (kx2 : Addr → Mem → Option (Sl × Value × Mem)) (x5 : Addr) (x27a : Option Addr) (x27n : Nat) (x27c : Nat) (x28 : Int) (x29 : Int) (m : Mem) : Option (Sl × Value × Mem) :=
  bif decide (x29 < x28) then (
  bif inRange x29 x27n then (
  (x27a).bind fun a8 =>
  (ldVal m (plus a8 (Int.toNat x29 * 1))).bind fun t9 =>
  callV (tag_Encode_call k) t9 [] m fun v10 m11 =>
  (isNil v10).bind fun b12 =>
  bif !b12 then (
  kx0 none 0 0 v10 m11) else (
  nx x5 x27a x27n x27c x28 (IntKind.wrap .i64 (x29 + 1)) m11)) else none) else (
  kx2 x5 m)

def tag_Encode_l0 (k : Nat) (kx0 : Option Addr → Nat → Nat → Value → Mem → Option (Sl × Value × Mem)) (kx2 : Addr → Mem → Option (Sl × Value × Mem)) : Nat → Addr → Option Addr → Nat → Nat → Int → Int → Mem → Option (Sl × Value × Mem)
  | 0, _, _, _, _, _, _, _ => none
  | n + 1, x5, x27a, x27n, x27c, x28, x29, m => tag_Encode_l0_b k (fun x5 x27a x27n x27c x28 x29 m => tag_Encode_l0 k kx0 kx2 n x5 x27a x27n x27c x28 x29 m) kx0 kx2 x5 x27a x27n x27c x28 x29 m
termination_by structural x => x

theorem tag_Encode_l0_rule (k : Nat) (kx0 : Option Addr → Nat → Nat → Value → Mem → Option (Sl × Value × Mem)) (kx2 : Addr → Mem → Option (Sl × Value × Mem)) {P : (Sl × Value × Mem) → Prop} (I : Nat → Addr → Option Addr → Nat → Nat → Int → Int → Mem → Prop)
    (step : ∀ d (nx : Addr → Option Addr → Nat → Nat → Int → Int → Mem → Option (Sl × Value × Mem)) (x5 : Addr) (x27a : Option Addr) (x27n : Nat) (x27c : Nat) (x28 : Int) (x29 : Int) (m : Mem), I d x5 x27a x27n x27c x28 x29 m → (∀ d' (x5 : Addr) (x27a : Option Addr) (x27n : Nat) (x27c : Nat) (x28 : Int) (x29 : Int) (m : Mem), d' < d → I d' x5 x27a x27n x27c x28 x29 m → Ok (nx x5 x27a x27n x27c x28 x29 m) P) → Ok (tag_Encode_l0_b k nx kx0 kx2 x5 x27a x27n x27c x28 x29 m) P) :
    ∀ n d (x5 : Addr) (x27a : Option Addr) (x27n : Nat) (x27c : Nat) (x28 : Int) (x29 : Int) (m : Mem), d < n → I d x5 x27a x27n x27c x28 x29 m → Ok (tag_Encode_l0 k kx0 kx2 n x5 x27a x27n x27c x28 x29 m) P
  | 0, d, x5, x27a, x27n, x27c, x28, x29, m, h, _ => absurd h (Nat.not_lt_zero _)
  | n + 1, d, x5, x27a, x27n, x27c, x28, x29, m, h, hI => step d _ x5 x27a x27n x27c x28 x29 m hI fun d' x5 x27a x27n x27c x28 x29 m h' hI' => tag_Encode_l0_rule k kx0 kx2 I step n d' x5 x27a x27n x27c x28 x29 m (by omega) hI'

def tag_Encode (k : Nat) (p0 : List Value) (m : Mem) : Option (Sl × Value × Mem) :=
  bif Nat.beq (List.length p0) 5 then (
  let m1 : Mem := m ++ [.live p0]
  (ldCells m1 ⟨List.length m, 0, Option.none⟩ 5).bind fun t2 =>
  (tag_Check k t2 m1).bind fun r3 =>
  (isNil r3.1).bind fun b4 =>
  bif !b4 then (
  some ((⟨none, 0, 0⟩ : Sl), r3.1, r3.2)) else (
  (ldCells r3.2 ⟨List.length m, 0, Option.none⟩ 5).bind fun t5 =>
  bif Nat.beq (List.length t5) 5 then (
  bif Nat.beq (List.length (putAt [.int .i64 0, .int .i64 0, .int .i64 0, .int .i64 0, .bool false, .slice none 0 0] 0 5 t5)) 6 then (
  let m6 : Mem := r3.2 ++ [.live (putAt [.int .i64 0, .int .i64 0, .int .i64 0, .int .i64 0, .bool false, .slice none 0 0] 0 5 t5)]
  let m7 : Mem := m6 ++ [.live ([(Value.func (Fn.func 38) ⟨[(Value.pointer (some ⟨List.length r3.2, 0, Option.none⟩))]⟩ ⟨[]⟩), (Value.func (Fn.func 39) ⟨[(Value.pointer (some ⟨List.length r3.2, 0, Option.none⟩))]⟩ ⟨[]⟩), (Value.func (Fn.func 40) ⟨[(Value.pointer (some ⟨List.length r3.2, 0, Option.none⟩))]⟩ ⟨[]⟩), (Value.func (Fn.func 41) ⟨[(Value.pointer (some ⟨List.length r3.2, 0, Option.none⟩))]⟩ ⟨[]⟩), (Value.func (Fn.func 42) ⟨[(Value.pointer (some ⟨List.length r3.2, 0, Option.none⟩))]⟩ ⟨[]⟩)])]
  tag_Encode_l0 k (fun y2a y2n y2c y3 m13 => 
  some ((⟨y2a, y2n, y2c⟩ : Sl), y3, m13)) (fun y5 m14 => 
  (ldSl m14 (plus y5 5)).bind fun t15 =>
  (ldSl m14 (plus y5 5)).bind fun t16 =>
  bif decide (0 < IntKind.wrap .i64 (50 - ((t16.len : Nat) : Int))) && decide (IntKind.wrap .i64 (50 - ((t16.len : Nat) : Int)) ≤ 1000000) then (
  (appM 1 1 m14 t15.a t15.len t15.cap (Int.toNat (IntKind.wrap .i64 (50 - ((t16.len : Nat) : Int)))) (repl (Int.toNat (IntKind.wrap .i64 (50 - ((t16.len : Nat) : Int)))) [.int .u8 0])).bind fun r18 =>
  some ((⟨r18.1.a, r18.1.len, r18.1.cap⟩ : Sl), Value.nilIface, r18.2)) else none) k ⟨List.length r3.2, 0, Option.none⟩ (some ⟨List.length m6, 0, Option.none⟩) 5 5 ((5 : Nat) : Int) 0 m7) else none) else none)) else none

def tag_Encode_l0_L (k : Nat) (K : Nat → List Value → Mem → Option (Sl × Value × Mem)) (n : Nat) (vs : List Value) (m : Mem) : Option (Sl × Value × Mem) := match vs with
  | [.pointer (some x5), .slice x27a x27n x27c, .int .i64 x28, .int .i64 x29] => tag_Encode_l0 k (fun y2a y2n y2c y3 m => K 0 [(Value.slice y2a y2n y2c), y3] m) (fun y5 m => K 2 [(Value.pointer (some y5))] m) n x5 x27a x27n x27c x28 x29 m
  | _ => none

def tag_Encode_loop (k : Nat) : Nat → List Value → Mem → (Nat → List Value → Mem → Option (Sl × Value × Mem)) → Option (Sl × Value × Mem) := fun cur vs m K => match cur with
  | 0 => tag_Encode_l0_L k K k vs m
  | _ => none

def tag_Encode_C (k : Nat) : Ctx (Sl × Value × Mem) := ⟨tt, tag_Encode_call k, tag_Encode_loop k, [(0, [5, 27, 28, 29])], [(0, [2, 3]), (2, [5])]⟩

noncomputable def tag_Encode_l0_c : Code := ((loopsOf 0 (body Try.f21)).map (·.2)).getD 0 .skip

theorem tag_Encode_loops : loopsOf 0 (body Try.f21) = [(0, tag_Encode_l0_c)] := by kernel_rfl

theorem tag_Encode_l0_ok (k : Nat) : LoopOk (tag_Encode_C k) 0 tag_Encode_l0_c := by
  refine ⟨[5, 27, 28, 29], by kernel_rfl, fun K r => ⟨tag_Encode_l0_L k K, fun vs m h => ⟨k, h⟩, ?_⟩⟩
  intro n vs m h
  unfold tag_Encode_l0_L at h
  split at h
  · cases n with
    | zero => cases h
    | succ n => exact ⟨n, rfl, Eq.trans (by kernel_rfl) h⟩
  · cases h

def tag_Encode_dec : Value → Mem → Option (Sl × Value × Mem) := fun v m => match v with
  | .tuple ⟨[.slice q0a q0n q0c, q1]⟩ => some ((⟨q0a, q0n, q0c⟩ : Sl), q1, m)
  | _ => none

theorem tag_Encode_eq (k : Nat) (p0 : List Value) (m : Mem) : fnX (tag_Encode_C k) Try.f21 [(Value.agg ⟨p0⟩)] m tag_Encode_dec = tag_Encode k p0 m := by kernel_rfl

theorem tag_Encode_ok {k : Nat} {p0 : List Value} {m : Mem} {r : (Sl × Value × Mem)} (h : tag_Encode k p0 m = some r) : CallP Try.prog 21 [(Value.agg ⟨p0⟩)] m fun v m' => v = (Value.tuple ⟨[(Value.slice r.1.a r.1.len r.1.cap), r.2.1]⟩) ∧ m' = r.2.2 := by
  refine (fn_sound (C := tag_Encode_C k) (c := body Try.f21) tOk mixed (tag_Encode_callOk k) Try.func21 (by kernel_rfl) (by kernel_rfl) (by kernel_rfl) (by kernel_rfl) ?_ ?_ (Eq.trans (tag_Encode_eq k p0 m) h)).mono ?_
  · intro p hp
    rw [tag_Encode_loops] at hp
    simp only [List.mem_cons, List.not_mem_nil, or_false] at hp
    rcases hp with rfl
    · exact tag_Encode_l0_ok k
  · intro p hp; rw [show rangesOf 0 (body Try.f21) = [] by kernel_rfl] at hp; cases hp
  · intro v m' hp
    unfold tag_Encode_dec at hp
    split at hp
    · simp only [Option.some.injEq] at hp; subst hp; exact ⟨rfl, rfl⟩
    · cases hp

def tag_Encode_arm {R : Type} (k : Nat) : Arm R := fun vs m K => match vs with
  | [.agg ⟨p0⟩] => (tag_Encode k p0 m).bind fun r => K (Value.tuple ⟨[(Value.slice r.1.a r.1.len r.1.cap), r.2.1]⟩) r.2.2
  | _ => none

theorem tag_Encode_armOk {R : Type} (k : Nat) : ArmOk Try.prog 21 (tag_Encode_arm (R := R) k) := by
  intro vs m K r h
  unfold tag_Encode_arm at h
  split at h
  · obtain ⟨r, h1, h2⟩ := Option.bind_eq_some_iff.1 h; exact ⟨_, _, h2, fun K' => by simp only [tag_Encode_arm, h1, Option.bind_some], tag_Encode_ok h1⟩
  · cases h

/-! ### tag_Decode -/
def tag_Decode (k : Nat) (p0a : Option Addr) (p0n : Nat) (p0c : Nat) (m : Mem) : Option ((List Value) × Value × Mem) :=
  let m1 : Mem := m ++ [.live [.int .i64 0, .int .i64 0, .int .i64 0, .int .i64 0, .bool false]]
  bif ((p0n : Nat) : Int) != 50 then (
  (stCells m1 ⟨List.length m, 0, Option.none⟩ [.int .i64 0, .int .i64 0, .int .i64 0, .int .i64 0, .bool false]).bind fun m2 =>
  (ldCells m2 ⟨List.length m, 0, Option.none⟩ 5).bind fun t3 =>
  some (t3, (Value.iface ty_api_Code (Value.int .i64 1)), m2)) else (
  bif inUpto 2 p0c then (
  (wire_Get k (sliceK.clear p0a false) (Int.toNat 2) p0c m1).bind fun r4 =>
  (isNil r4.2.1).bind fun b5 =>
  bif !b5 then (
  (stCells r4.2.2 ⟨List.length m, 0, Option.none⟩ [.int .i64 0, .int .i64 0, .int .i64 0, .int .i64 0, .bool false]).bind fun m6 =>
  (ldCells m6 ⟨List.length m, 0, Option.none⟩ 5).bind fun t7 =>
  some (t7, r4.2.1, m6)) else (
  bif sliceK.okZ p0a 1 false && inUpto 8 p0c && inUpto 3 (Int.toNat 8) then (
  (wire_Get k ((sliceK.clear p0a false).map fun a => plus a ((Int.toNat 3) * 1)) ((Int.toNat 8) - (Int.toNat 3)) (p0c - (Int.toNat 3)) r4.2.2).bind fun r8 =>
  (isNil r8.2.1).bind fun b9 =>
  bif !b9 then (
  (stCells r8.2.2 ⟨List.length m, 0, Option.none⟩ [.int .i64 0, .int .i64 0, .int .i64 0, .int .i64 0, .bool false]).bind fun m10 =>
  (ldCells m10 ⟨List.length m, 0, Option.none⟩ 5).bind fun t11 =>
  some (t11, r8.2.1, m10)) else (
  bif inRange 2 p0n then (
  (p0a).bind fun a12 =>
  (ldInt .u8 r8.2.2 (plus a12 (Int.toNat 2 * 1))).bind fun t13 =>
  bif inRange 8 p0n then (
  (p0a).bind fun a14 =>
  (ldInt .u8 r8.2.2 (plus a14 (Int.toNat 8 * 1))).bind fun t15 =>
  bif inRange 9 p0n then (
  (p0a).bind fun a16 =>
  (ldInt .u8 r8.2.2 (plus a16 (Int.toNat 9 * 1))).bind fun t17 =>
  let m18 : Mem := r8.2.2 ++ [.live [.int .i64 0, .int .i64 0, .int .i64 0, .int .i64 0, .bool false]]
  (stCells m18 ⟨List.length r8.2.2, 0, Option.none⟩ [(Value.int .i64 (IntKind.wrap .i64 r4.1)), (Value.int .i64 (IntKind.wrap .i64 t13)), (Value.int .i64 (IntKind.wrap .i64 r8.1)), (Value.int .i64 (IntKind.wrap .i64 t15)), (Value.bool (t17 == 1))]).bind fun m19 =>
  (ldInt .u8 m18 (plus a12 (Int.toNat 2 * 1))).bind fun t20 =>
  bif t20 == t13 then (
  (ldInt .u8 m18 (plus a14 (Int.toNat 8 * 1))).bind fun t21 =>
  bif t21 == t15 then (
  (ldInt .u8 m18 (plus a16 (Int.toNat 9 * 1))).bind fun t22 =>
  bif t22 == t17 then (
  (ldCells m19 ⟨List.length r8.2.2, 0, Option.none⟩ 5).bind fun t23 =>
  (tag_Encode k t23 m19).bind fun r24 =>
  (isNil r24.2.1).bind fun b25 =>
  bif !b25 then (
  (stCells r24.2.2 ⟨List.length m, 0, Option.none⟩ [.int .i64 0, .int .i64 0, .int .i64 0, .int .i64 0, .bool false]).bind fun m26 =>
  (ldCells m26 ⟨List.length m, 0, Option.none⟩ 5).bind fun t27 =>
  some (t27, (Value.iface ty_api_Code (Value.int .i64 3)), m26)) else (
  (bytes_Equal k r24.1.a r24.1.len r24.1.cap p0a p0n p0c r24.2.2).bind fun r28 =>
  bif !r28.1 then (
  (stCells r28.2 ⟨List.length m, 0, Option.none⟩ [.int .i64 0, .int .i64 0, .int .i64 0, .int .i64 0, .bool false]).bind fun m29 =>
  (ldCells m29 ⟨List.length m, 0, Option.none⟩ 5).bind fun t30 =>
  some (t30, (Value.iface ty_api_Code (Value.int .i64 3)), m29)) else (
  (ldCells r28.2 ⟨List.length r8.2.2, 0, Option.none⟩ 5).bind fun t31 =>
  bif Nat.beq (List.length t31) 5 then (
  (stCells r28.2 ⟨List.length m, 0, Option.none⟩ t31).bind fun m32 =>
  (ldCells m32 ⟨List.length m, 0, Option.none⟩ 5).bind fun t33 =>
  some (t33, Value.nilIface, m32)) else none))) else none) else none) else none) else none) else none) else none)) else none)) else none)

def tag_Decode_call {R : Type} (k : Nat) : Fun R := callCons 21 (tag_Encode_arm k) (callCons 24 (bytes_Equal_arm k) (callCons 50 (wire_Get_arm k) (callNil)))

theorem tag_Decode_callOk {R : Type} (k : Nat) : CallOk Try.prog (tag_Decode_call (R := R) k) := callOk_cons (tag_Encode_armOk k) (callOk_cons (bytes_Equal_armOk k) (callOk_cons (wire_Get_armOk k) (callOk_nil)))

def tag_Decode_loop (k : Nat) : Nat → List Value → Mem → (Nat → List Value → Mem → Option ((List Value) × Value × Mem)) → Option ((List Value) × Value × Mem) := fun _ _ _ _ => none

def tag_Decode_C (k : Nat) : Ctx ((List Value) × Value × Mem) := ⟨tt, tag_Decode_call k, tag_Decode_loop k, [], []⟩

def tag_Decode_dec : Value → Mem → Option ((List Value) × Value × Mem) := fun v m => match v with
  | .tuple ⟨[.agg ⟨q0⟩, q1]⟩ => some (q0, q1, m)
  | _ => none

theorem tag_Decode_eq (k : Nat) (p0a : Option Addr) (p0n : Nat) (p0c : Nat) (m : Mem) : fnX (tag_Decode_C k) Try.f31 [(Value.slice p0a p0n p0c)] m tag_Decode_dec = tag_Decode k p0a p0n p0c m := by kernel_rfl

theorem tag_Decode_ok {k : Nat} {p0a : Option Addr} {p0n : Nat} {p0c : Nat} {m : Mem} {r : ((List Value) × Value × Mem)} (h : tag_Decode k p0a p0n p0c m = some r) : CallP Try.prog 31 [(Value.slice p0a p0n p0c)] m fun v m' => v = (Value.tuple ⟨[(Value.agg ⟨r.1⟩), r.2.1]⟩) ∧ m' = r.2.2 := by
  refine (fn_sound (C := tag_Decode_C k) (c := body Try.f31) tOk mixed (tag_Decode_callOk k) Try.func31 (by kernel_rfl) (by kernel_rfl) (by kernel_rfl) (by kernel_rfl) ?_ ?_ (Eq.trans (tag_Decode_eq k p0a p0n p0c m) h)).mono ?_
  · intro p hp; rw [show loopsOf 0 (body Try.f31) = [] by kernel_rfl] at hp; cases hp
  · intro p hp; rw [show rangesOf 0 (body Try.f31) = [] by kernel_rfl] at hp; cases hp
  · intro v m' hp
    unfold tag_Decode_dec at hp
    split at hp
    · simp only [Option.some.injEq] at hp; subst hp; exact ⟨rfl, rfl⟩
    · cases hp

def tag_Decode_arm {R : Type} (k : Nat) : Arm R := fun vs m K => match vs with
  | [.slice p0a p0n p0c] => (tag_Decode k p0a p0n p0c m).bind fun r => K (Value.tuple ⟨[(Value.agg ⟨r.1⟩), r.2.1]⟩) r.2.2
  | _ => none

theorem tag_Decode_armOk {R : Type} (k : Nat) : ArmOk Try.prog 31 (tag_Decode_arm (R := R) k) := by
  intro vs m K r h
  unfold tag_Decode_arm at h
  split at h
  · obtain ⟨r, h1, h2⟩ := Option.bind_eq_some_iff.1 h; exact ⟨_, _, h2, fun K' => by simp only [tag_Decode_arm, h1, Option.bind_some], tag_Decode_ok h1⟩
  · cases h

end Go.Proofs.Ytchonnaoojpdoaa
