/- The program's functions as plain Lean functions over a clean memory, each held against the program by the kernel. Written by mx.py. -/
import Derived.Test.YtnilidpafijdlaaProg
import Derived.Test.YtnilidpafijdlaaMxTab
set_option linter.unusedVariables false
set_option maxRecDepth 100000
namespace Go.Proofs.Ytnilidpafijdlaa
open Go.Mx

def tt : TT := tabT [(3, ⟨.int .i64, 1, 8, [.int .i64 0]⟩),
  (4, ⟨.bool, 1, 1, [.bool false]⟩),
  (24, ⟨.iface, 1, 16, [.nilIface]⟩),
  (55, ⟨.int .i64, 1, 8, [.int .i64 0]⟩)]

theorem tOk : TOk Try.prog tt := tabT_ok (by kernel_rfl)

/-! ### geom_is -/
def geom_is (k : Nat) (p0 : Int) (m : Mem) : Option (Bool × Mem) :=
  bif decide (p0 ≥ 0) then (
  some (decide (p0 < 96), m)) else (
  some (false, m))

def geom_is_call {R : Type} (k : Nat) : Fun R := fun _ _ _ _ => none

theorem geom_is_callOk {R : Type} (k : Nat) : CallOk Try.prog (geom_is_call (R := R) k) := by
  intro f vs m K r h
  unfold geom_is_call at h
  cases h

def geom_is_loop (k : Nat) : Nat → List Value → Mem → (Nat → List Value → Mem → Option (Bool × Mem)) → Option (Bool × Mem) := fun _ _ _ _ => none

def geom_is_C (k : Nat) : Ctx (Bool × Mem) := ⟨tt, geom_is_call k, geom_is_loop k, [], []⟩

def geom_is_dec : Value → Mem → Option (Bool × Mem) := fun v m => match v with
  | .bool q0 => some (q0, m)
  | _ => none

theorem geom_is_eq (k : Nat) (p0 : Int) (m : Mem) : fnX (geom_is_C k) Try.f26 [(Value.int .i64 p0)] m geom_is_dec = geom_is k p0 m := by kernel_rfl

theorem geom_is_ok {k : Nat} {p0 : Int} {m : Mem} {r : (Bool × Mem)} (h : geom_is k p0 m = some r) : CallP Try.prog 26 [(Value.int .i64 p0)] m fun v m' => v = (Value.bool r.1) ∧ m' = r.2 := by
  refine (fn_sound (C := geom_is_C k) (c := body Try.f26) tOk (geom_is_callOk k) Try.func26 (by kernel_rfl) (by kernel_rfl) (by kernel_rfl) (by kernel_rfl) ?_ (Eq.trans (geom_is_eq k p0 m) h)).mono ?_
  · intro p hp; rw [show loopsOf 0 (body Try.f26) = [] by kernel_rfl] at hp; cases hp
  · intro v m' hp
    unfold geom_is_dec at hp
    split at hp
    · simp only [Option.some.injEq] at hp; subst hp; exact ⟨rfl, rfl⟩
    · cases hp

/-! ### geom_Holds -/
def geom_Holds (k : Nat) (p0 : Int) (p1 : Int) (m : Mem) : Option (Bool × Value × Mem) :=
  (geom_is k p0 m).bind fun r1 =>
  bif !r1.1 then (
  some (false, (Value.iface 55 (Value.int .i64 1)), r1.2)) else (
  bif decide (p1 < 0) then (
  some (false, (Value.iface 55 (Value.int .i64 1)), r1.2)) else (
  bif decide (p1 > 24) then (
  some (false, (Value.iface 55 (Value.int .i64 1)), r1.2)) else (
  bif p1 == 24 then (
  some (true, Value.nilIface, r1.2)) else (
  some (decide ((Int.tmod p0 8) < 6), Value.nilIface, r1.2)))))

def geom_Holds_call {R : Type} (k : Nat) : Fun R := fun f args m K => match f, args with
  | 26, [.int .i64 p0] => (geom_is k p0 m).bind fun r => K (Value.bool r.1) r.2
  | _, _ => none

theorem geom_Holds_callOk {R : Type} (k : Nat) : CallOk Try.prog (geom_Holds_call (R := R) k) := by
  intro f vs m K r h
  unfold geom_Holds_call at h
  split at h
  · obtain ⟨r, h1, h2⟩ := Option.bind_eq_some_iff.1 h; exact (geom_is_ok h1).mono fun v m' hp => by obtain ⟨rfl, rfl⟩ := hp; exact h2
  · cases h

def geom_Holds_loop (k : Nat) : Nat → List Value → Mem → (Nat → List Value → Mem → Option (Bool × Value × Mem)) → Option (Bool × Value × Mem) := fun _ _ _ _ => none

def geom_Holds_C (k : Nat) : Ctx (Bool × Value × Mem) := ⟨tt, geom_Holds_call k, geom_Holds_loop k, [], []⟩

def geom_Holds_dec : Value → Mem → Option (Bool × Value × Mem) := fun v m => match v with
  | .tuple ⟨[.bool q0, q1]⟩ => some (q0, q1, m)
  | _ => none

theorem geom_Holds_eq (k : Nat) (p0 : Int) (p1 : Int) (m : Mem) : fnX (geom_Holds_C k) Try.f10 [(Value.int .i64 p0), (Value.int .i64 p1)] m geom_Holds_dec = geom_Holds k p0 p1 m := by kernel_rfl

theorem geom_Holds_ok {k : Nat} {p0 : Int} {p1 : Int} {m : Mem} {r : (Bool × Value × Mem)} (h : geom_Holds k p0 p1 m = some r) : CallP Try.prog 10 [(Value.int .i64 p0), (Value.int .i64 p1)] m fun v m' => v = (Value.tuple ⟨[(Value.bool r.1), r.2.1]⟩) ∧ m' = r.2.2 := by
  refine (fn_sound (C := geom_Holds_C k) (c := body Try.f10) tOk (geom_Holds_callOk k) Try.func10 (by kernel_rfl) (by kernel_rfl) (by kernel_rfl) (by kernel_rfl) ?_ (Eq.trans (geom_Holds_eq k p0 p1 m) h)).mono ?_
  · intro p hp; rw [show loopsOf 0 (body Try.f10) = [] by kernel_rfl] at hp; cases hp
  · intro v m' hp
    unfold geom_Holds_dec at hp
    split at hp
    · simp only [Option.some.injEq] at hp; subst hp; exact ⟨rfl, rfl⟩
    · cases hp

/-! ### geom_On -/
def geom_On (k : Nat) (p0 : Int) (p1 : Int) (m : Mem) : Option (Int × Value × Mem) :=
  (geom_is k p0 m).bind fun r1 =>
  bif !r1.1 then (
  some (0, (Value.iface 55 (Value.int .i64 1)), r1.2)) else (
  some (Int.tmod (IntKind.wrap .i64 ((IntKind.wrap .i64 (p0 + (Int.tmod p1 96))) + 96)) 96, Value.nilIface, r1.2))

def geom_On_call {R : Type} (k : Nat) : Fun R := fun f args m K => match f, args with
  | 26, [.int .i64 p0] => (geom_is k p0 m).bind fun r => K (Value.bool r.1) r.2
  | _, _ => none

theorem geom_On_callOk {R : Type} (k : Nat) : CallOk Try.prog (geom_On_call (R := R) k) := by
  intro f vs m K r h
  unfold geom_On_call at h
  split at h
  · obtain ⟨r, h1, h2⟩ := Option.bind_eq_some_iff.1 h; exact (geom_is_ok h1).mono fun v m' hp => by obtain ⟨rfl, rfl⟩ := hp; exact h2
  · cases h

def geom_On_loop (k : Nat) : Nat → List Value → Mem → (Nat → List Value → Mem → Option (Int × Value × Mem)) → Option (Int × Value × Mem) := fun _ _ _ _ => none

def geom_On_C (k : Nat) : Ctx (Int × Value × Mem) := ⟨tt, geom_On_call k, geom_On_loop k, [], []⟩

def geom_On_dec : Value → Mem → Option (Int × Value × Mem) := fun v m => match v with
  | .tuple ⟨[.int .i64 q0, q1]⟩ => some (q0, q1, m)
  | _ => none

theorem geom_On_eq (k : Nat) (p0 : Int) (p1 : Int) (m : Mem) : fnX (geom_On_C k) Try.f13 [(Value.int .i64 p0), (Value.int .i64 p1)] m geom_On_dec = geom_On k p0 p1 m := by kernel_rfl

theorem geom_On_ok {k : Nat} {p0 : Int} {p1 : Int} {m : Mem} {r : (Int × Value × Mem)} (h : geom_On k p0 p1 m = some r) : CallP Try.prog 13 [(Value.int .i64 p0), (Value.int .i64 p1)] m fun v m' => v = (Value.tuple ⟨[(Value.int .i64 r.1), r.2.1]⟩) ∧ m' = r.2.2 := by
  refine (fn_sound (C := geom_On_C k) (c := body Try.f13) tOk (geom_On_callOk k) Try.func13 (by kernel_rfl) (by kernel_rfl) (by kernel_rfl) (by kernel_rfl) ?_ (Eq.trans (geom_On_eq k p0 p1 m) h)).mono ?_
  · intro p hp; rw [show loopsOf 0 (body Try.f13) = [] by kernel_rfl] at hp; cases hp
  · intro v m' hp
    unfold geom_On_dec at hp
    split at hp
    · simp only [Option.some.injEq] at hp; subst hp; exact ⟨rfl, rfl⟩
    · cases hp

/-! ### geom_Place -/
def geom_Place (k : Nat) (p0 : Int) (p1 : Int) (m : Mem) : Option (Int × Value × Mem) :=
  bif decide (p0 < 0) then (
  some (0, (Value.iface 55 (Value.int .i64 1)), m)) else (
  bif decide (p0 ≥ 12) then (
  some (0, (Value.iface 55 (Value.int .i64 1)), m)) else (
  bif decide (p1 < 0) then (
  some (0, (Value.iface 55 (Value.int .i64 1)), m)) else (
  bif decide (p1 ≥ 8) then (
  some (0, (Value.iface 55 (Value.int .i64 1)), m)) else (
  some (IntKind.wrap .i64 ((IntKind.wrap .i64 (p0 * 8)) + p1), Value.nilIface, m)))))

def geom_Place_call {R : Type} (k : Nat) : Fun R := fun _ _ _ _ => none

theorem geom_Place_callOk {R : Type} (k : Nat) : CallOk Try.prog (geom_Place_call (R := R) k) := by
  intro f vs m K r h
  unfold geom_Place_call at h
  cases h

def geom_Place_loop (k : Nat) : Nat → List Value → Mem → (Nat → List Value → Mem → Option (Int × Value × Mem)) → Option (Int × Value × Mem) := fun _ _ _ _ => none

def geom_Place_C (k : Nat) : Ctx (Int × Value × Mem) := ⟨tt, geom_Place_call k, geom_Place_loop k, [], []⟩

def geom_Place_dec : Value → Mem → Option (Int × Value × Mem) := fun v m => match v with
  | .tuple ⟨[.int .i64 q0, q1]⟩ => some (q0, q1, m)
  | _ => none

theorem geom_Place_eq (k : Nat) (p0 : Int) (p1 : Int) (m : Mem) : fnX (geom_Place_C k) Try.f15 [(Value.int .i64 p0), (Value.int .i64 p1)] m geom_Place_dec = geom_Place k p0 p1 m := by kernel_rfl

theorem geom_Place_ok {k : Nat} {p0 : Int} {p1 : Int} {m : Mem} {r : (Int × Value × Mem)} (h : geom_Place k p0 p1 m = some r) : CallP Try.prog 15 [(Value.int .i64 p0), (Value.int .i64 p1)] m fun v m' => v = (Value.tuple ⟨[(Value.int .i64 r.1), r.2.1]⟩) ∧ m' = r.2.2 := by
  refine (fn_sound (C := geom_Place_C k) (c := body Try.f15) tOk (geom_Place_callOk k) Try.func15 (by kernel_rfl) (by kernel_rfl) (by kernel_rfl) (by kernel_rfl) ?_ (Eq.trans (geom_Place_eq k p0 p1 m) h)).mono ?_
  · intro p hp; rw [show loopsOf 0 (body Try.f15) = [] by kernel_rfl] at hp; cases hp
  · intro v m' hp
    unfold geom_Place_dec at hp
    split at hp
    · simp only [Option.some.injEq] at hp; subst hp; exact ⟨rfl, rfl⟩
    · cases hp

/-! ### patinalaw04_up -/
def patinalaw04_up (k : Nat) (m : Mem) : Option (Bool × Mem) :=
  (geom_Place k 11 7 m).bind fun r1 =>
  (geom_On k 95 1 r1.2.2).bind fun r2 =>
  (geom_Holds k 5 3 r2.2.2).bind fun r3 =>
  bif r1.1 == 95 then (
  (isNil r1.2.1).bind fun b4 =>
  bif b4 then (
  bif r2.1 == 0 then (
  (isNil r2.2.1).bind fun b5 =>
  bif b5 then (
  bif r3.1 then (
  (isNil r3.2.1).bind fun b6 =>
  some (b6, r3.2.2)) else (
  some (false, r3.2.2))) else (
  some (false, r3.2.2))) else (
  some (false, r3.2.2))) else (
  some (false, r3.2.2))) else (
  some (false, r3.2.2))

def patinalaw04_up_call {R : Type} (k : Nat) : Fun R := fun f args m K => match f, args with
  | 10, [.int .i64 p0, .int .i64 p1] => (geom_Holds k p0 p1 m).bind fun r => K (Value.tuple ⟨[(Value.bool r.1), r.2.1]⟩) r.2.2
  | 13, [.int .i64 p0, .int .i64 p1] => (geom_On k p0 p1 m).bind fun r => K (Value.tuple ⟨[(Value.int .i64 r.1), r.2.1]⟩) r.2.2
  | 15, [.int .i64 p0, .int .i64 p1] => (geom_Place k p0 p1 m).bind fun r => K (Value.tuple ⟨[(Value.int .i64 r.1), r.2.1]⟩) r.2.2
  | _, _ => none

theorem patinalaw04_up_callOk {R : Type} (k : Nat) : CallOk Try.prog (patinalaw04_up_call (R := R) k) := by
  intro f vs m K r h
  unfold patinalaw04_up_call at h
  split at h
  · obtain ⟨r, h1, h2⟩ := Option.bind_eq_some_iff.1 h; exact (geom_Holds_ok h1).mono fun v m' hp => by obtain ⟨rfl, rfl⟩ := hp; exact h2
  · obtain ⟨r, h1, h2⟩ := Option.bind_eq_some_iff.1 h; exact (geom_On_ok h1).mono fun v m' hp => by obtain ⟨rfl, rfl⟩ := hp; exact h2
  · obtain ⟨r, h1, h2⟩ := Option.bind_eq_some_iff.1 h; exact (geom_Place_ok h1).mono fun v m' hp => by obtain ⟨rfl, rfl⟩ := hp; exact h2
  · cases h

def patinalaw04_up_loop (k : Nat) : Nat → List Value → Mem → (Nat → List Value → Mem → Option (Bool × Mem)) → Option (Bool × Mem) := fun _ _ _ _ => none

def patinalaw04_up_C (k : Nat) : Ctx (Bool × Mem) := ⟨tt, patinalaw04_up_call k, patinalaw04_up_loop k, [], []⟩

def patinalaw04_up_dec : Value → Mem → Option (Bool × Mem) := fun v m => match v with
  | .bool q0 => some (q0, m)
  | _ => none

theorem patinalaw04_up_eq (k : Nat) (m : Mem) : fnX (patinalaw04_up_C k) Try.f9 [] m patinalaw04_up_dec = patinalaw04_up k  m := by kernel_rfl

theorem patinalaw04_up_ok {k : Nat} {m : Mem} {r : (Bool × Mem)} (h : patinalaw04_up k  m = some r) : CallP Try.prog 9 [] m fun v m' => v = (Value.bool r.1) ∧ m' = r.2 := by
  refine (fn_sound (C := patinalaw04_up_C k) (c := body Try.f9) tOk (patinalaw04_up_callOk k) Try.func9 (by kernel_rfl) (by kernel_rfl) (by kernel_rfl) (by kernel_rfl) ?_ (Eq.trans (patinalaw04_up_eq k  m) h)).mono ?_
  · intro p hp; rw [show loopsOf 0 (body Try.f9) = [] by kernel_rfl] at hp; cases hp
  · intro v m' hp
    unfold patinalaw04_up_dec at hp
    split at hp
    · simp only [Option.some.injEq] at hp; subst hp; exact ⟨rfl, rfl⟩
    · cases hp

/-! ### patinaref04_Is -/
def patinaref04_Is (k : Nat) (p0 : Int) (m : Mem) : Option (Bool × Mem) :=
  bif decide (p0 ≥ 0) then (
  some (decide (p0 ≤ 95), m)) else (
  some (false, m))

def patinaref04_Is_call {R : Type} (k : Nat) : Fun R := fun _ _ _ _ => none

theorem patinaref04_Is_callOk {R : Type} (k : Nat) : CallOk Try.prog (patinaref04_Is_call (R := R) k) := by
  intro f vs m K r h
  unfold patinaref04_Is_call at h
  cases h

def patinaref04_Is_loop (k : Nat) : Nat → List Value → Mem → (Nat → List Value → Mem → Option (Bool × Mem)) → Option (Bool × Mem) := fun _ _ _ _ => none

def patinaref04_Is_C (k : Nat) : Ctx (Bool × Mem) := ⟨tt, patinaref04_Is_call k, patinaref04_Is_loop k, [], []⟩

def patinaref04_Is_dec : Value → Mem → Option (Bool × Mem) := fun v m => match v with
  | .bool q0 => some (q0, m)
  | _ => none

theorem patinaref04_Is_eq (k : Nat) (p0 : Int) (m : Mem) : fnX (patinaref04_Is_C k) Try.f27 [(Value.int .i64 p0)] m patinaref04_Is_dec = patinaref04_Is k p0 m := by kernel_rfl

theorem patinaref04_Is_ok {k : Nat} {p0 : Int} {m : Mem} {r : (Bool × Mem)} (h : patinaref04_Is k p0 m = some r) : CallP Try.prog 27 [(Value.int .i64 p0)] m fun v m' => v = (Value.bool r.1) ∧ m' = r.2 := by
  refine (fn_sound (C := patinaref04_Is_C k) (c := body Try.f27) tOk (patinaref04_Is_callOk k) Try.func27 (by kernel_rfl) (by kernel_rfl) (by kernel_rfl) (by kernel_rfl) ?_ (Eq.trans (patinaref04_Is_eq k p0 m) h)).mono ?_
  · intro p hp; rw [show loopsOf 0 (body Try.f27) = [] by kernel_rfl] at hp; cases hp
  · intro v m' hp
    unfold patinaref04_Is_dec at hp
    split at hp
    · simp only [Option.some.injEq] at hp; subst hp; exact ⟨rfl, rfl⟩
    · cases hp

/-! ### patinaref04_Holds -/
def patinaref04_Holds (k : Nat) (p0 : Int) (p1 : Int) (m : Mem) : Option (Bool × Int × Mem) :=
  (patinaref04_Is k p0 m).bind fun r1 =>
  bif !r1.1 then (
  some (false, 1, r1.2)) else (
  bif decide (p1 < 0) then (
  some (false, 1, r1.2)) else (
  bif decide (p1 > 24) then (
  some (false, 1, r1.2)) else (
  bif p1 == 24 then (
  some (true, 0, r1.2)) else (
  some (decide ((Int.tmod p0 8) < 6), 0, r1.2)))))

def patinaref04_Holds_call {R : Type} (k : Nat) : Fun R := fun f args m K => match f, args with
  | 27, [.int .i64 p0] => (patinaref04_Is k p0 m).bind fun r => K (Value.bool r.1) r.2
  | _, _ => none

theorem patinaref04_Holds_callOk {R : Type} (k : Nat) : CallOk Try.prog (patinaref04_Holds_call (R := R) k) := by
  intro f vs m K r h
  unfold patinaref04_Holds_call at h
  split at h
  · obtain ⟨r, h1, h2⟩ := Option.bind_eq_some_iff.1 h; exact (patinaref04_Is_ok h1).mono fun v m' hp => by obtain ⟨rfl, rfl⟩ := hp; exact h2
  · cases h

def patinaref04_Holds_loop (k : Nat) : Nat → List Value → Mem → (Nat → List Value → Mem → Option (Bool × Int × Mem)) → Option (Bool × Int × Mem) := fun _ _ _ _ => none

def patinaref04_Holds_C (k : Nat) : Ctx (Bool × Int × Mem) := ⟨tt, patinaref04_Holds_call k, patinaref04_Holds_loop k, [], []⟩

def patinaref04_Holds_dec : Value → Mem → Option (Bool × Int × Mem) := fun v m => match v with
  | .tuple ⟨[.bool q0, .int .i64 q1]⟩ => some (q0, q1, m)
  | _ => none

theorem patinaref04_Holds_eq (k : Nat) (p0 : Int) (p1 : Int) (m : Mem) : fnX (patinaref04_Holds_C k) Try.f11 [(Value.int .i64 p0), (Value.int .i64 p1)] m patinaref04_Holds_dec = patinaref04_Holds k p0 p1 m := by kernel_rfl

theorem patinaref04_Holds_ok {k : Nat} {p0 : Int} {p1 : Int} {m : Mem} {r : (Bool × Int × Mem)} (h : patinaref04_Holds k p0 p1 m = some r) : CallP Try.prog 11 [(Value.int .i64 p0), (Value.int .i64 p1)] m fun v m' => v = (Value.tuple ⟨[(Value.bool r.1), (Value.int .i64 r.2.1)]⟩) ∧ m' = r.2.2 := by
  refine (fn_sound (C := patinaref04_Holds_C k) (c := body Try.f11) tOk (patinaref04_Holds_callOk k) Try.func11 (by kernel_rfl) (by kernel_rfl) (by kernel_rfl) (by kernel_rfl) ?_ (Eq.trans (patinaref04_Holds_eq k p0 p1 m) h)).mono ?_
  · intro p hp; rw [show loopsOf 0 (body Try.f11) = [] by kernel_rfl] at hp; cases hp
  · intro v m' hp
    unfold patinaref04_Holds_dec at hp
    split at hp
    · simp only [Option.some.injEq] at hp; subst hp; exact ⟨rfl, rfl⟩
    · cases hp

/-! ### patinalaw00_further -/
def patinalaw00_further (k : Nat) (p0 : Value) (m : Mem) : Option (Int × Mem) :=
  (ifEq tt p0 (Value.iface 55 (Value.int .i64 12))).bind fun b1 =>
  bif b1 then (
  some (12, m)) else (
  (ifEq tt p0 (Value.iface 55 (Value.int .i64 13))).bind fun b2 =>
  bif b2 then (
  some (13, m)) else (
  (ifEq tt p0 (Value.iface 55 (Value.int .i64 14))).bind fun b3 =>
  bif b3 then (
  some (14, m)) else (
  (ifEq tt p0 (Value.iface 55 (Value.int .i64 15))).bind fun b4 =>
  bif b4 then (
  some (15, m)) else (
  (ifEq tt p0 (Value.iface 55 (Value.int .i64 16))).bind fun b5 =>
  bif b5 then (
  some (16, m)) else (
  (ifEq tt p0 (Value.iface 55 (Value.int .i64 17))).bind fun b6 =>
  bif b6 then (
  some (17, m)) else (
  (ifEq tt p0 (Value.iface 55 (Value.int .i64 18))).bind fun b7 =>
  bif b7 then (
  some (18, m)) else (
  (ifEq tt p0 (Value.iface 55 (Value.int .i64 19))).bind fun b8 =>
  bif b8 then (
  some (19, m)) else (
  some ((-1), m)))))))))

def patinalaw00_further_call {R : Type} (k : Nat) : Fun R := fun _ _ _ _ => none

theorem patinalaw00_further_callOk {R : Type} (k : Nat) : CallOk Try.prog (patinalaw00_further_call (R := R) k) := by
  intro f vs m K r h
  unfold patinalaw00_further_call at h
  cases h

def patinalaw00_further_loop (k : Nat) : Nat → List Value → Mem → (Nat → List Value → Mem → Option (Int × Mem)) → Option (Int × Mem) := fun _ _ _ _ => none

def patinalaw00_further_C (k : Nat) : Ctx (Int × Mem) := ⟨tt, patinalaw00_further_call k, patinalaw00_further_loop k, [], []⟩

def patinalaw00_further_dec : Value → Mem → Option (Int × Mem) := fun v m => match v with
  | .int .i64 q0 => some (q0, m)
  | _ => none

theorem patinalaw00_further_eq (k : Nat) (p0 : Value) (m : Mem) : fnX (patinalaw00_further_C k) Try.f28 [p0] m patinalaw00_further_dec = patinalaw00_further k p0 m := by kernel_rfl

theorem patinalaw00_further_ok {k : Nat} {p0 : Value} {m : Mem} {r : (Int × Mem)} (h : patinalaw00_further k p0 m = some r) : CallP Try.prog 28 [p0] m fun v m' => v = (Value.int .i64 r.1) ∧ m' = r.2 := by
  refine (fn_sound (C := patinalaw00_further_C k) (c := body Try.f28) tOk (patinalaw00_further_callOk k) Try.func28 (by kernel_rfl) (by kernel_rfl) (by kernel_rfl) (by kernel_rfl) ?_ (Eq.trans (patinalaw00_further_eq k p0 m) h)).mono ?_
  · intro p hp; rw [show loopsOf 0 (body Try.f28) = [] by kernel_rfl] at hp; cases hp
  · intro v m' hp
    unfold patinalaw00_further_dec at hp
    split at hp
    · simp only [Option.some.injEq] at hp; subst hp; exact ⟨rfl, rfl⟩
    · cases hp

/-! ### patinalaw00_Code -/
def patinalaw00_Code (k : Nat) (p0 : Value) (m : Mem) : Option (Int × Mem) :=
  (isNil p0).bind fun b1 =>
  bif b1 then (
  some (0, m)) else (
  (ifEq tt p0 (Value.iface 55 (Value.int .i64 1))).bind fun b2 =>
  bif b2 then (
  some (1, m)) else (
  (ifEq tt p0 (Value.iface 55 (Value.int .i64 2))).bind fun b3 =>
  bif b3 then (
  some (2, m)) else (
  (ifEq tt p0 (Value.iface 55 (Value.int .i64 3))).bind fun b4 =>
  bif b4 then (
  some (3, m)) else (
  (ifEq tt p0 (Value.iface 55 (Value.int .i64 4))).bind fun b5 =>
  bif b5 then (
  some (4, m)) else (
  (ifEq tt p0 (Value.iface 55 (Value.int .i64 5))).bind fun b6 =>
  bif b6 then (
  some (5, m)) else (
  (ifEq tt p0 (Value.iface 55 (Value.int .i64 6))).bind fun b7 =>
  bif b7 then (
  some (6, m)) else (
  (ifEq tt p0 (Value.iface 55 (Value.int .i64 7))).bind fun b8 =>
  bif b8 then (
  some (7, m)) else (
  (ifEq tt p0 (Value.iface 55 (Value.int .i64 8))).bind fun b9 =>
  bif b9 then (
  some (8, m)) else (
  (ifEq tt p0 (Value.iface 55 (Value.int .i64 9))).bind fun b10 =>
  bif b10 then (
  some (9, m)) else (
  (ifEq tt p0 (Value.iface 55 (Value.int .i64 10))).bind fun b11 =>
  bif b11 then (
  some (10, m)) else (
  (ifEq tt p0 (Value.iface 55 (Value.int .i64 11))).bind fun b12 =>
  bif b12 then (
  some (11, m)) else (
  (patinalaw00_further k p0 m).bind fun r13 =>
  some (r13.1, r13.2)))))))))))))

def patinalaw00_Code_call {R : Type} (k : Nat) : Fun R := fun f args m K => match f, args with
  | 28, [p0] => (patinalaw00_further k p0 m).bind fun r => K (Value.int .i64 r.1) r.2
  | _, _ => none

theorem patinalaw00_Code_callOk {R : Type} (k : Nat) : CallOk Try.prog (patinalaw00_Code_call (R := R) k) := by
  intro f vs m K r h
  unfold patinalaw00_Code_call at h
  split at h
  · obtain ⟨r, h1, h2⟩ := Option.bind_eq_some_iff.1 h; exact (patinalaw00_further_ok h1).mono fun v m' hp => by obtain ⟨rfl, rfl⟩ := hp; exact h2
  · cases h

def patinalaw00_Code_loop (k : Nat) : Nat → List Value → Mem → (Nat → List Value → Mem → Option (Int × Mem)) → Option (Int × Mem) := fun _ _ _ _ => none

def patinalaw00_Code_C (k : Nat) : Ctx (Int × Mem) := ⟨tt, patinalaw00_Code_call k, patinalaw00_Code_loop k, [], []⟩

def patinalaw00_Code_dec : Value → Mem → Option (Int × Mem) := fun v m => match v with
  | .int .i64 q0 => some (q0, m)
  | _ => none

theorem patinalaw00_Code_eq (k : Nat) (p0 : Value) (m : Mem) : fnX (patinalaw00_Code_C k) Try.f12 [p0] m patinalaw00_Code_dec = patinalaw00_Code k p0 m := by kernel_rfl

theorem patinalaw00_Code_ok {k : Nat} {p0 : Value} {m : Mem} {r : (Int × Mem)} (h : patinalaw00_Code k p0 m = some r) : CallP Try.prog 12 [p0] m fun v m' => v = (Value.int .i64 r.1) ∧ m' = r.2 := by
  refine (fn_sound (C := patinalaw00_Code_C k) (c := body Try.f12) tOk (patinalaw00_Code_callOk k) Try.func12 (by kernel_rfl) (by kernel_rfl) (by kernel_rfl) (by kernel_rfl) ?_ (Eq.trans (patinalaw00_Code_eq k p0 m) h)).mono ?_
  · intro p hp; rw [show loopsOf 0 (body Try.f12) = [] by kernel_rfl] at hp; cases hp
  · intro v m' hp
    unfold patinalaw00_Code_dec at hp
    split at hp
    · simp only [Option.some.injEq] at hp; subst hp; exact ⟨rfl, rfl⟩
    · cases hp

/-! ### patinalaw04_GeomHolds -/
def patinalaw04_GeomHolds (k : Nat) (p0 : Int) (p1 : Int) (m : Mem) : Option (Bool × Mem) :=
  (patinalaw04_up k  m).bind fun r1 =>
  (geom_Holds k p0 p1 r1.2).bind fun r2 =>
  (patinaref04_Holds k p0 p1 r2.2.2).bind fun r3 =>
  bif r1.1 then (
  bif r2.1 == r3.1 then (
  (patinalaw00_Code k r2.2.1 r3.2.2).bind fun r4 =>
  some (r4.1 == r3.2.1, r4.2)) else (
  some (false, r3.2.2))) else (
  some (false, r3.2.2))

def patinalaw04_GeomHolds_call {R : Type} (k : Nat) : Fun R := fun f args m K => match f, args with
  | 9, [] => (patinalaw04_up k  m).bind fun r => K (Value.bool r.1) r.2
  | 10, [.int .i64 p0, .int .i64 p1] => (geom_Holds k p0 p1 m).bind fun r => K (Value.tuple ⟨[(Value.bool r.1), r.2.1]⟩) r.2.2
  | 11, [.int .i64 p0, .int .i64 p1] => (patinaref04_Holds k p0 p1 m).bind fun r => K (Value.tuple ⟨[(Value.bool r.1), (Value.int .i64 r.2.1)]⟩) r.2.2
  | 12, [p0] => (patinalaw00_Code k p0 m).bind fun r => K (Value.int .i64 r.1) r.2
  | _, _ => none

theorem patinalaw04_GeomHolds_callOk {R : Type} (k : Nat) : CallOk Try.prog (patinalaw04_GeomHolds_call (R := R) k) := by
  intro f vs m K r h
  unfold patinalaw04_GeomHolds_call at h
  split at h
  · obtain ⟨r, h1, h2⟩ := Option.bind_eq_some_iff.1 h; exact (patinalaw04_up_ok h1).mono fun v m' hp => by obtain ⟨rfl, rfl⟩ := hp; exact h2
  · obtain ⟨r, h1, h2⟩ := Option.bind_eq_some_iff.1 h; exact (geom_Holds_ok h1).mono fun v m' hp => by obtain ⟨rfl, rfl⟩ := hp; exact h2
  · obtain ⟨r, h1, h2⟩ := Option.bind_eq_some_iff.1 h; exact (patinaref04_Holds_ok h1).mono fun v m' hp => by obtain ⟨rfl, rfl⟩ := hp; exact h2
  · obtain ⟨r, h1, h2⟩ := Option.bind_eq_some_iff.1 h; exact (patinalaw00_Code_ok h1).mono fun v m' hp => by obtain ⟨rfl, rfl⟩ := hp; exact h2
  · cases h

def patinalaw04_GeomHolds_loop (k : Nat) : Nat → List Value → Mem → (Nat → List Value → Mem → Option (Bool × Mem)) → Option (Bool × Mem) := fun _ _ _ _ => none

def patinalaw04_GeomHolds_C (k : Nat) : Ctx (Bool × Mem) := ⟨tt, patinalaw04_GeomHolds_call k, patinalaw04_GeomHolds_loop k, [], []⟩

def patinalaw04_GeomHolds_dec : Value → Mem → Option (Bool × Mem) := fun v m => match v with
  | .bool q0 => some (q0, m)
  | _ => none

theorem patinalaw04_GeomHolds_eq (k : Nat) (p0 : Int) (p1 : Int) (m : Mem) : fnX (patinalaw04_GeomHolds_C k) Try.f3 [(Value.int .i64 p0), (Value.int .i64 p1)] m patinalaw04_GeomHolds_dec = patinalaw04_GeomHolds k p0 p1 m := by kernel_rfl

theorem patinalaw04_GeomHolds_ok {k : Nat} {p0 : Int} {p1 : Int} {m : Mem} {r : (Bool × Mem)} (h : patinalaw04_GeomHolds k p0 p1 m = some r) : CallP Try.prog 3 [(Value.int .i64 p0), (Value.int .i64 p1)] m fun v m' => v = (Value.bool r.1) ∧ m' = r.2 := by
  refine (fn_sound (C := patinalaw04_GeomHolds_C k) (c := body Try.f3) tOk (patinalaw04_GeomHolds_callOk k) Try.func3 (by kernel_rfl) (by kernel_rfl) (by kernel_rfl) (by kernel_rfl) ?_ (Eq.trans (patinalaw04_GeomHolds_eq k p0 p1 m) h)).mono ?_
  · intro p hp; rw [show loopsOf 0 (body Try.f3) = [] by kernel_rfl] at hp; cases hp
  · intro v m' hp
    unfold patinalaw04_GeomHolds_dec at hp
    split at hp
    · simp only [Option.some.injEq] at hp; subst hp; exact ⟨rfl, rfl⟩
    · cases hp

/-! ### patinaref04_On -/
def patinaref04_On (k : Nat) (p0 : Int) (p1 : Int) (m : Mem) : Option (Int × Int × Mem) :=
  (patinaref04_Is k p0 m).bind fun r1 =>
  bif !r1.1 then (
  some (0, 1, r1.2)) else (
  some (Int.tmod (IntKind.wrap .i64 ((IntKind.wrap .i64 (p0 + (Int.tmod p1 96))) + 96)) 96, 0, r1.2))

def patinaref04_On_call {R : Type} (k : Nat) : Fun R := fun f args m K => match f, args with
  | 27, [.int .i64 p0] => (patinaref04_Is k p0 m).bind fun r => K (Value.bool r.1) r.2
  | _, _ => none

theorem patinaref04_On_callOk {R : Type} (k : Nat) : CallOk Try.prog (patinaref04_On_call (R := R) k) := by
  intro f vs m K r h
  unfold patinaref04_On_call at h
  split at h
  · obtain ⟨r, h1, h2⟩ := Option.bind_eq_some_iff.1 h; exact (patinaref04_Is_ok h1).mono fun v m' hp => by obtain ⟨rfl, rfl⟩ := hp; exact h2
  · cases h

def patinaref04_On_loop (k : Nat) : Nat → List Value → Mem → (Nat → List Value → Mem → Option (Int × Int × Mem)) → Option (Int × Int × Mem) := fun _ _ _ _ => none

def patinaref04_On_C (k : Nat) : Ctx (Int × Int × Mem) := ⟨tt, patinaref04_On_call k, patinaref04_On_loop k, [], []⟩

def patinaref04_On_dec : Value → Mem → Option (Int × Int × Mem) := fun v m => match v with
  | .tuple ⟨[.int .i64 q0, .int .i64 q1]⟩ => some (q0, q1, m)
  | _ => none

theorem patinaref04_On_eq (k : Nat) (p0 : Int) (p1 : Int) (m : Mem) : fnX (patinaref04_On_C k) Try.f14 [(Value.int .i64 p0), (Value.int .i64 p1)] m patinaref04_On_dec = patinaref04_On k p0 p1 m := by kernel_rfl

theorem patinaref04_On_ok {k : Nat} {p0 : Int} {p1 : Int} {m : Mem} {r : (Int × Int × Mem)} (h : patinaref04_On k p0 p1 m = some r) : CallP Try.prog 14 [(Value.int .i64 p0), (Value.int .i64 p1)] m fun v m' => v = (Value.tuple ⟨[(Value.int .i64 r.1), (Value.int .i64 r.2.1)]⟩) ∧ m' = r.2.2 := by
  refine (fn_sound (C := patinaref04_On_C k) (c := body Try.f14) tOk (patinaref04_On_callOk k) Try.func14 (by kernel_rfl) (by kernel_rfl) (by kernel_rfl) (by kernel_rfl) ?_ (Eq.trans (patinaref04_On_eq k p0 p1 m) h)).mono ?_
  · intro p hp; rw [show loopsOf 0 (body Try.f14) = [] by kernel_rfl] at hp; cases hp
  · intro v m' hp
    unfold patinaref04_On_dec at hp
    split at hp
    · simp only [Option.some.injEq] at hp; subst hp; exact ⟨rfl, rfl⟩
    · cases hp

/-! ### patinalaw04_GeomOns -/
def patinalaw04_GeomOns (k : Nat) (p0 : Int) (p1 : Int) (m : Mem) : Option (Bool × Mem) :=
  (patinalaw04_up k  m).bind fun r1 =>
  (geom_On k p0 p1 r1.2).bind fun r2 =>
  (patinaref04_On k p0 p1 r2.2.2).bind fun r3 =>
  bif r1.1 then (
  bif r2.1 == r3.1 then (
  (patinalaw00_Code k r2.2.1 r3.2.2).bind fun r4 =>
  some (r4.1 == r3.2.1, r4.2)) else (
  some (false, r3.2.2))) else (
  some (false, r3.2.2))

def patinalaw04_GeomOns_call {R : Type} (k : Nat) : Fun R := fun f args m K => match f, args with
  | 9, [] => (patinalaw04_up k  m).bind fun r => K (Value.bool r.1) r.2
  | 12, [p0] => (patinalaw00_Code k p0 m).bind fun r => K (Value.int .i64 r.1) r.2
  | 13, [.int .i64 p0, .int .i64 p1] => (geom_On k p0 p1 m).bind fun r => K (Value.tuple ⟨[(Value.int .i64 r.1), r.2.1]⟩) r.2.2
  | 14, [.int .i64 p0, .int .i64 p1] => (patinaref04_On k p0 p1 m).bind fun r => K (Value.tuple ⟨[(Value.int .i64 r.1), (Value.int .i64 r.2.1)]⟩) r.2.2
  | _, _ => none

theorem patinalaw04_GeomOns_callOk {R : Type} (k : Nat) : CallOk Try.prog (patinalaw04_GeomOns_call (R := R) k) := by
  intro f vs m K r h
  unfold patinalaw04_GeomOns_call at h
  split at h
  · obtain ⟨r, h1, h2⟩ := Option.bind_eq_some_iff.1 h; exact (patinalaw04_up_ok h1).mono fun v m' hp => by obtain ⟨rfl, rfl⟩ := hp; exact h2
  · obtain ⟨r, h1, h2⟩ := Option.bind_eq_some_iff.1 h; exact (patinalaw00_Code_ok h1).mono fun v m' hp => by obtain ⟨rfl, rfl⟩ := hp; exact h2
  · obtain ⟨r, h1, h2⟩ := Option.bind_eq_some_iff.1 h; exact (geom_On_ok h1).mono fun v m' hp => by obtain ⟨rfl, rfl⟩ := hp; exact h2
  · obtain ⟨r, h1, h2⟩ := Option.bind_eq_some_iff.1 h; exact (patinaref04_On_ok h1).mono fun v m' hp => by obtain ⟨rfl, rfl⟩ := hp; exact h2
  · cases h

def patinalaw04_GeomOns_loop (k : Nat) : Nat → List Value → Mem → (Nat → List Value → Mem → Option (Bool × Mem)) → Option (Bool × Mem) := fun _ _ _ _ => none

def patinalaw04_GeomOns_C (k : Nat) : Ctx (Bool × Mem) := ⟨tt, patinalaw04_GeomOns_call k, patinalaw04_GeomOns_loop k, [], []⟩

def patinalaw04_GeomOns_dec : Value → Mem → Option (Bool × Mem) := fun v m => match v with
  | .bool q0 => some (q0, m)
  | _ => none

theorem patinalaw04_GeomOns_eq (k : Nat) (p0 : Int) (p1 : Int) (m : Mem) : fnX (patinalaw04_GeomOns_C k) Try.f4 [(Value.int .i64 p0), (Value.int .i64 p1)] m patinalaw04_GeomOns_dec = patinalaw04_GeomOns k p0 p1 m := by kernel_rfl

theorem patinalaw04_GeomOns_ok {k : Nat} {p0 : Int} {p1 : Int} {m : Mem} {r : (Bool × Mem)} (h : patinalaw04_GeomOns k p0 p1 m = some r) : CallP Try.prog 4 [(Value.int .i64 p0), (Value.int .i64 p1)] m fun v m' => v = (Value.bool r.1) ∧ m' = r.2 := by
  refine (fn_sound (C := patinalaw04_GeomOns_C k) (c := body Try.f4) tOk (patinalaw04_GeomOns_callOk k) Try.func4 (by kernel_rfl) (by kernel_rfl) (by kernel_rfl) (by kernel_rfl) ?_ (Eq.trans (patinalaw04_GeomOns_eq k p0 p1 m) h)).mono ?_
  · intro p hp; rw [show loopsOf 0 (body Try.f4) = [] by kernel_rfl] at hp; cases hp
  · intro v m' hp
    unfold patinalaw04_GeomOns_dec at hp
    split at hp
    · simp only [Option.some.injEq] at hp; subst hp; exact ⟨rfl, rfl⟩
    · cases hp

/-! ### geom_Parts -/
def geom_Parts (k : Nat) (p0 : Int) (m : Mem) : Option (Int × Int × Value × Mem) :=
  (geom_is k p0 m).bind fun r1 =>
  bif !r1.1 then (
  some (0, 0, (Value.iface 55 (Value.int .i64 1)), r1.2)) else (
  some (IntKind.wrap .i64 (Int.tdiv p0 8), Int.tmod p0 8, Value.nilIface, r1.2))

def geom_Parts_call {R : Type} (k : Nat) : Fun R := fun f args m K => match f, args with
  | 26, [.int .i64 p0] => (geom_is k p0 m).bind fun r => K (Value.bool r.1) r.2
  | _, _ => none

theorem geom_Parts_callOk {R : Type} (k : Nat) : CallOk Try.prog (geom_Parts_call (R := R) k) := by
  intro f vs m K r h
  unfold geom_Parts_call at h
  split at h
  · obtain ⟨r, h1, h2⟩ := Option.bind_eq_some_iff.1 h; exact (geom_is_ok h1).mono fun v m' hp => by obtain ⟨rfl, rfl⟩ := hp; exact h2
  · cases h

def geom_Parts_loop (k : Nat) : Nat → List Value → Mem → (Nat → List Value → Mem → Option (Int × Int × Value × Mem)) → Option (Int × Int × Value × Mem) := fun _ _ _ _ => none

def geom_Parts_C (k : Nat) : Ctx (Int × Int × Value × Mem) := ⟨tt, geom_Parts_call k, geom_Parts_loop k, [], []⟩

def geom_Parts_dec : Value → Mem → Option (Int × Int × Value × Mem) := fun v m => match v with
  | .tuple ⟨[.int .i64 q0, .int .i64 q1, q2]⟩ => some (q0, q1, q2, m)
  | _ => none

theorem geom_Parts_eq (k : Nat) (p0 : Int) (m : Mem) : fnX (geom_Parts_C k) Try.f16 [(Value.int .i64 p0)] m geom_Parts_dec = geom_Parts k p0 m := by kernel_rfl

theorem geom_Parts_ok {k : Nat} {p0 : Int} {m : Mem} {r : (Int × Int × Value × Mem)} (h : geom_Parts k p0 m = some r) : CallP Try.prog 16 [(Value.int .i64 p0)] m fun v m' => v = (Value.tuple ⟨[(Value.int .i64 r.1), (Value.int .i64 r.2.1), r.2.2.1]⟩) ∧ m' = r.2.2.2 := by
  refine (fn_sound (C := geom_Parts_C k) (c := body Try.f16) tOk (geom_Parts_callOk k) Try.func16 (by kernel_rfl) (by kernel_rfl) (by kernel_rfl) (by kernel_rfl) ?_ (Eq.trans (geom_Parts_eq k p0 m) h)).mono ?_
  · intro p hp; rw [show loopsOf 0 (body Try.f16) = [] by kernel_rfl] at hp; cases hp
  · intro v m' hp
    unfold geom_Parts_dec at hp
    split at hp
    · simp only [Option.some.injEq] at hp; subst hp; exact ⟨rfl, rfl⟩
    · cases hp

/-! ### patinaref04_Place -/
def patinaref04_Place (k : Nat) (p0 : Int) (p1 : Int) (m : Mem) : Option (Int × Int × Mem) :=
  bif decide (p0 < 0) then (
  some (0, 1, m)) else (
  bif decide (p0 > 11) then (
  some (0, 1, m)) else (
  bif decide (p1 < 0) then (
  some (0, 1, m)) else (
  bif decide (p1 > 7) then (
  some (0, 1, m)) else (
  some (IntKind.wrap .i64 ((IntKind.wrap .i64 (8 * p0)) + p1), 0, m)))))

def patinaref04_Place_call {R : Type} (k : Nat) : Fun R := fun _ _ _ _ => none

theorem patinaref04_Place_callOk {R : Type} (k : Nat) : CallOk Try.prog (patinaref04_Place_call (R := R) k) := by
  intro f vs m K r h
  unfold patinaref04_Place_call at h
  cases h

def patinaref04_Place_loop (k : Nat) : Nat → List Value → Mem → (Nat → List Value → Mem → Option (Int × Int × Mem)) → Option (Int × Int × Mem) := fun _ _ _ _ => none

def patinaref04_Place_C (k : Nat) : Ctx (Int × Int × Mem) := ⟨tt, patinaref04_Place_call k, patinaref04_Place_loop k, [], []⟩

def patinaref04_Place_dec : Value → Mem → Option (Int × Int × Mem) := fun v m => match v with
  | .tuple ⟨[.int .i64 q0, .int .i64 q1]⟩ => some (q0, q1, m)
  | _ => none

theorem patinaref04_Place_eq (k : Nat) (p0 : Int) (p1 : Int) (m : Mem) : fnX (patinaref04_Place_C k) Try.f17 [(Value.int .i64 p0), (Value.int .i64 p1)] m patinaref04_Place_dec = patinaref04_Place k p0 p1 m := by kernel_rfl

theorem patinaref04_Place_ok {k : Nat} {p0 : Int} {p1 : Int} {m : Mem} {r : (Int × Int × Mem)} (h : patinaref04_Place k p0 p1 m = some r) : CallP Try.prog 17 [(Value.int .i64 p0), (Value.int .i64 p1)] m fun v m' => v = (Value.tuple ⟨[(Value.int .i64 r.1), (Value.int .i64 r.2.1)]⟩) ∧ m' = r.2.2 := by
  refine (fn_sound (C := patinaref04_Place_C k) (c := body Try.f17) tOk (patinaref04_Place_callOk k) Try.func17 (by kernel_rfl) (by kernel_rfl) (by kernel_rfl) (by kernel_rfl) ?_ (Eq.trans (patinaref04_Place_eq k p0 p1 m) h)).mono ?_
  · intro p hp; rw [show loopsOf 0 (body Try.f17) = [] by kernel_rfl] at hp; cases hp
  · intro v m' hp
    unfold patinaref04_Place_dec at hp
    split at hp
    · simp only [Option.some.injEq] at hp; subst hp; exact ⟨rfl, rfl⟩
    · cases hp

/-! ### patinaref04_Parts -/
def patinaref04_Parts (k : Nat) (p0 : Int) (m : Mem) : Option (Int × Int × Int × Mem) :=
  (patinaref04_Is k p0 m).bind fun r1 =>
  bif !r1.1 then (
  some (0, 0, 1, r1.2)) else (
  some (IntKind.wrap .i64 (Int.tdiv p0 8), Int.tmod p0 8, 0, r1.2))

def patinaref04_Parts_call {R : Type} (k : Nat) : Fun R := fun f args m K => match f, args with
  | 27, [.int .i64 p0] => (patinaref04_Is k p0 m).bind fun r => K (Value.bool r.1) r.2
  | _, _ => none

theorem patinaref04_Parts_callOk {R : Type} (k : Nat) : CallOk Try.prog (patinaref04_Parts_call (R := R) k) := by
  intro f vs m K r h
  unfold patinaref04_Parts_call at h
  split at h
  · obtain ⟨r, h1, h2⟩ := Option.bind_eq_some_iff.1 h; exact (patinaref04_Is_ok h1).mono fun v m' hp => by obtain ⟨rfl, rfl⟩ := hp; exact h2
  · cases h

def patinaref04_Parts_loop (k : Nat) : Nat → List Value → Mem → (Nat → List Value → Mem → Option (Int × Int × Int × Mem)) → Option (Int × Int × Int × Mem) := fun _ _ _ _ => none

def patinaref04_Parts_C (k : Nat) : Ctx (Int × Int × Int × Mem) := ⟨tt, patinaref04_Parts_call k, patinaref04_Parts_loop k, [], []⟩

def patinaref04_Parts_dec : Value → Mem → Option (Int × Int × Int × Mem) := fun v m => match v with
  | .tuple ⟨[.int .i64 q0, .int .i64 q1, .int .i64 q2]⟩ => some (q0, q1, q2, m)
  | _ => none

theorem patinaref04_Parts_eq (k : Nat) (p0 : Int) (m : Mem) : fnX (patinaref04_Parts_C k) Try.f18 [(Value.int .i64 p0)] m patinaref04_Parts_dec = patinaref04_Parts k p0 m := by kernel_rfl

theorem patinaref04_Parts_ok {k : Nat} {p0 : Int} {m : Mem} {r : (Int × Int × Int × Mem)} (h : patinaref04_Parts k p0 m = some r) : CallP Try.prog 18 [(Value.int .i64 p0)] m fun v m' => v = (Value.tuple ⟨[(Value.int .i64 r.1), (Value.int .i64 r.2.1), (Value.int .i64 r.2.2.1)]⟩) ∧ m' = r.2.2.2 := by
  refine (fn_sound (C := patinaref04_Parts_C k) (c := body Try.f18) tOk (patinaref04_Parts_callOk k) Try.func18 (by kernel_rfl) (by kernel_rfl) (by kernel_rfl) (by kernel_rfl) ?_ (Eq.trans (patinaref04_Parts_eq k p0 m) h)).mono ?_
  · intro p hp; rw [show loopsOf 0 (body Try.f18) = [] by kernel_rfl] at hp; cases hp
  · intro v m' hp
    unfold patinaref04_Parts_dec at hp
    split at hp
    · simp only [Option.some.injEq] at hp; subst hp; exact ⟨rfl, rfl⟩
    · cases hp

/-! ### patinalaw04_GeomPlaces -/
def patinalaw04_GeomPlaces (k : Nat) (p0 : Int) (p1 : Int) (p2 : Int) (m : Mem) : Option (Bool × Mem) :=
  (patinalaw04_up k  m).bind fun r1 =>
  (geom_Place k p0 p1 r1.2).bind fun r2 =>
  (geom_Parts k p2 r2.2.2).bind fun r3 =>
  (patinaref04_Place k p0 p1 r3.2.2.2).bind fun r4 =>
  (patinaref04_Parts k p2 r4.2.2).bind fun r5 =>
  bif r1.1 then (
  bif r2.1 == r4.1 then (
  (patinalaw00_Code k r2.2.1 r5.2.2.2).bind fun r6 =>
  bif r6.1 == r4.2.1 then (
  bif r3.1 == r5.1 then (
  bif r3.2.1 == r5.2.1 then (
  (patinalaw00_Code k r3.2.2.1 r6.2).bind fun r7 =>
  some (r7.1 == r5.2.2.1, r7.2)) else (
  some (false, r6.2))) else (
  some (false, r6.2))) else (
  some (false, r6.2))) else (
  some (false, r5.2.2.2))) else (
  some (false, r5.2.2.2))

def patinalaw04_GeomPlaces_call {R : Type} (k : Nat) : Fun R := fun f args m K => match f, args with
  | 9, [] => (patinalaw04_up k  m).bind fun r => K (Value.bool r.1) r.2
  | 12, [p0] => (patinalaw00_Code k p0 m).bind fun r => K (Value.int .i64 r.1) r.2
  | 15, [.int .i64 p0, .int .i64 p1] => (geom_Place k p0 p1 m).bind fun r => K (Value.tuple ⟨[(Value.int .i64 r.1), r.2.1]⟩) r.2.2
  | 16, [.int .i64 p0] => (geom_Parts k p0 m).bind fun r => K (Value.tuple ⟨[(Value.int .i64 r.1), (Value.int .i64 r.2.1), r.2.2.1]⟩) r.2.2.2
  | 17, [.int .i64 p0, .int .i64 p1] => (patinaref04_Place k p0 p1 m).bind fun r => K (Value.tuple ⟨[(Value.int .i64 r.1), (Value.int .i64 r.2.1)]⟩) r.2.2
  | 18, [.int .i64 p0] => (patinaref04_Parts k p0 m).bind fun r => K (Value.tuple ⟨[(Value.int .i64 r.1), (Value.int .i64 r.2.1), (Value.int .i64 r.2.2.1)]⟩) r.2.2.2
  | _, _ => none

theorem patinalaw04_GeomPlaces_callOk {R : Type} (k : Nat) : CallOk Try.prog (patinalaw04_GeomPlaces_call (R := R) k) := by
  intro f vs m K r h
  unfold patinalaw04_GeomPlaces_call at h
  split at h
  · obtain ⟨r, h1, h2⟩ := Option.bind_eq_some_iff.1 h; exact (patinalaw04_up_ok h1).mono fun v m' hp => by obtain ⟨rfl, rfl⟩ := hp; exact h2
  · obtain ⟨r, h1, h2⟩ := Option.bind_eq_some_iff.1 h; exact (patinalaw00_Code_ok h1).mono fun v m' hp => by obtain ⟨rfl, rfl⟩ := hp; exact h2
  · obtain ⟨r, h1, h2⟩ := Option.bind_eq_some_iff.1 h; exact (geom_Place_ok h1).mono fun v m' hp => by obtain ⟨rfl, rfl⟩ := hp; exact h2
  · obtain ⟨r, h1, h2⟩ := Option.bind_eq_some_iff.1 h; exact (geom_Parts_ok h1).mono fun v m' hp => by obtain ⟨rfl, rfl⟩ := hp; exact h2
  · obtain ⟨r, h1, h2⟩ := Option.bind_eq_some_iff.1 h; exact (patinaref04_Place_ok h1).mono fun v m' hp => by obtain ⟨rfl, rfl⟩ := hp; exact h2
  · obtain ⟨r, h1, h2⟩ := Option.bind_eq_some_iff.1 h; exact (patinaref04_Parts_ok h1).mono fun v m' hp => by obtain ⟨rfl, rfl⟩ := hp; exact h2
  · cases h

def patinalaw04_GeomPlaces_loop (k : Nat) : Nat → List Value → Mem → (Nat → List Value → Mem → Option (Bool × Mem)) → Option (Bool × Mem) := fun _ _ _ _ => none

def patinalaw04_GeomPlaces_C (k : Nat) : Ctx (Bool × Mem) := ⟨tt, patinalaw04_GeomPlaces_call k, patinalaw04_GeomPlaces_loop k, [], []⟩

def patinalaw04_GeomPlaces_dec : Value → Mem → Option (Bool × Mem) := fun v m => match v with
  | .bool q0 => some (q0, m)
  | _ => none

theorem patinalaw04_GeomPlaces_eq (k : Nat) (p0 : Int) (p1 : Int) (p2 : Int) (m : Mem) : fnX (patinalaw04_GeomPlaces_C k) Try.f5 [(Value.int .i64 p0), (Value.int .i64 p1), (Value.int .i64 p2)] m patinalaw04_GeomPlaces_dec = patinalaw04_GeomPlaces k p0 p1 p2 m := by kernel_rfl

theorem patinalaw04_GeomPlaces_ok {k : Nat} {p0 : Int} {p1 : Int} {p2 : Int} {m : Mem} {r : (Bool × Mem)} (h : patinalaw04_GeomPlaces k p0 p1 p2 m = some r) : CallP Try.prog 5 [(Value.int .i64 p0), (Value.int .i64 p1), (Value.int .i64 p2)] m fun v m' => v = (Value.bool r.1) ∧ m' = r.2 := by
  refine (fn_sound (C := patinalaw04_GeomPlaces_C k) (c := body Try.f5) tOk (patinalaw04_GeomPlaces_callOk k) Try.func5 (by kernel_rfl) (by kernel_rfl) (by kernel_rfl) (by kernel_rfl) ?_ (Eq.trans (patinalaw04_GeomPlaces_eq k p0 p1 p2 m) h)).mono ?_
  · intro p hp; rw [show loopsOf 0 (body Try.f5) = [] by kernel_rfl] at hp; cases hp
  · intro v m' hp
    unfold patinalaw04_GeomPlaces_dec at hp
    split at hp
    · simp only [Option.some.injEq] at hp; subst hp; exact ⟨rfl, rfl⟩
    · cases hp

/-! ### geom_Bit -/
def geom_Bit (k : Nat) (p0 : Int) (m : Mem) : Option (Int × Int × Int × Value × Mem) :=
  bif decide (p0 < 0) then (
  some (0, 0, 0, (Value.iface 55 (Value.int .i64 1)), m)) else (
  bif decide (p0 ≥ 2048) then (
  some (0, 0, 0, (Value.iface 55 (Value.int .i64 1)), m)) else (
  some (IntKind.wrap .i64 (Int.tdiv p0 512), Int.tmod (IntKind.wrap .i64 (Int.tdiv p0 8)) 64, Int.tmod p0 8, Value.nilIface, m)))

def geom_Bit_call {R : Type} (k : Nat) : Fun R := fun _ _ _ _ => none

theorem geom_Bit_callOk {R : Type} (k : Nat) : CallOk Try.prog (geom_Bit_call (R := R) k) := by
  intro f vs m K r h
  unfold geom_Bit_call at h
  cases h

def geom_Bit_loop (k : Nat) : Nat → List Value → Mem → (Nat → List Value → Mem → Option (Int × Int × Int × Value × Mem)) → Option (Int × Int × Int × Value × Mem) := fun _ _ _ _ => none

def geom_Bit_C (k : Nat) : Ctx (Int × Int × Int × Value × Mem) := ⟨tt, geom_Bit_call k, geom_Bit_loop k, [], []⟩

def geom_Bit_dec : Value → Mem → Option (Int × Int × Int × Value × Mem) := fun v m => match v with
  | .tuple ⟨[.int .i64 q0, .int .i64 q1, .int .i64 q2, q3]⟩ => some (q0, q1, q2, q3, m)
  | _ => none

theorem geom_Bit_eq (k : Nat) (p0 : Int) (m : Mem) : fnX (geom_Bit_C k) Try.f19 [(Value.int .i64 p0)] m geom_Bit_dec = geom_Bit k p0 m := by kernel_rfl

theorem geom_Bit_ok {k : Nat} {p0 : Int} {m : Mem} {r : (Int × Int × Int × Value × Mem)} (h : geom_Bit k p0 m = some r) : CallP Try.prog 19 [(Value.int .i64 p0)] m fun v m' => v = (Value.tuple ⟨[(Value.int .i64 r.1), (Value.int .i64 r.2.1), (Value.int .i64 r.2.2.1), r.2.2.2.1]⟩) ∧ m' = r.2.2.2.2 := by
  refine (fn_sound (C := geom_Bit_C k) (c := body Try.f19) tOk (geom_Bit_callOk k) Try.func19 (by kernel_rfl) (by kernel_rfl) (by kernel_rfl) (by kernel_rfl) ?_ (Eq.trans (geom_Bit_eq k p0 m) h)).mono ?_
  · intro p hp; rw [show loopsOf 0 (body Try.f19) = [] by kernel_rfl] at hp; cases hp
  · intro v m' hp
    unfold geom_Bit_dec at hp
    split at hp
    · simp only [Option.some.injEq] at hp; subst hp; exact ⟨rfl, rfl⟩
    · cases hp

/-! ### patinaref04_Bit -/
def patinaref04_Bit (k : Nat) (p0 : Int) (m : Mem) : Option (Int × Int × Int × Int × Mem) :=
  bif decide (p0 < 0) then (
  some (0, 0, 0, 1, m)) else (
  bif decide (p0 > 2047) then (
  some (0, 0, 0, 1, m)) else (
  some (IntKind.wrap .i64 (Int.tdiv p0 512), Int.tmod (IntKind.wrap .i64 (Int.tdiv p0 8)) 64, Int.tmod p0 8, 0, m)))

def patinaref04_Bit_call {R : Type} (k : Nat) : Fun R := fun _ _ _ _ => none

theorem patinaref04_Bit_callOk {R : Type} (k : Nat) : CallOk Try.prog (patinaref04_Bit_call (R := R) k) := by
  intro f vs m K r h
  unfold patinaref04_Bit_call at h
  cases h

def patinaref04_Bit_loop (k : Nat) : Nat → List Value → Mem → (Nat → List Value → Mem → Option (Int × Int × Int × Int × Mem)) → Option (Int × Int × Int × Int × Mem) := fun _ _ _ _ => none

def patinaref04_Bit_C (k : Nat) : Ctx (Int × Int × Int × Int × Mem) := ⟨tt, patinaref04_Bit_call k, patinaref04_Bit_loop k, [], []⟩

def patinaref04_Bit_dec : Value → Mem → Option (Int × Int × Int × Int × Mem) := fun v m => match v with
  | .tuple ⟨[.int .i64 q0, .int .i64 q1, .int .i64 q2, .int .i64 q3]⟩ => some (q0, q1, q2, q3, m)
  | _ => none

theorem patinaref04_Bit_eq (k : Nat) (p0 : Int) (m : Mem) : fnX (patinaref04_Bit_C k) Try.f20 [(Value.int .i64 p0)] m patinaref04_Bit_dec = patinaref04_Bit k p0 m := by kernel_rfl

theorem patinaref04_Bit_ok {k : Nat} {p0 : Int} {m : Mem} {r : (Int × Int × Int × Int × Mem)} (h : patinaref04_Bit k p0 m = some r) : CallP Try.prog 20 [(Value.int .i64 p0)] m fun v m' => v = (Value.tuple ⟨[(Value.int .i64 r.1), (Value.int .i64 r.2.1), (Value.int .i64 r.2.2.1), (Value.int .i64 r.2.2.2.1)]⟩) ∧ m' = r.2.2.2.2 := by
  refine (fn_sound (C := patinaref04_Bit_C k) (c := body Try.f20) tOk (patinaref04_Bit_callOk k) Try.func20 (by kernel_rfl) (by kernel_rfl) (by kernel_rfl) (by kernel_rfl) ?_ (Eq.trans (patinaref04_Bit_eq k p0 m) h)).mono ?_
  · intro p hp; rw [show loopsOf 0 (body Try.f20) = [] by kernel_rfl] at hp; cases hp
  · intro v m' hp
    unfold patinaref04_Bit_dec at hp
    split at hp
    · simp only [Option.some.injEq] at hp; subst hp; exact ⟨rfl, rfl⟩
    · cases hp

/-! ### patinalaw04_GeomBits -/
def patinalaw04_GeomBits (k : Nat) (p0 : Int) (m : Mem) : Option (Bool × Mem) :=
  (patinalaw04_up k  m).bind fun r1 =>
  (geom_Bit k p0 r1.2).bind fun r2 =>
  (patinaref04_Bit k p0 r2.2.2.2.2).bind fun r3 =>
  bif r1.1 then (
  bif r2.1 == r3.1 then (
  bif r2.2.1 == r3.2.1 then (
  bif r2.2.2.1 == r3.2.2.1 then (
  (patinalaw00_Code k r2.2.2.2.1 r3.2.2.2.2).bind fun r4 =>
  some (r4.1 == r3.2.2.2.1, r4.2)) else (
  some (false, r3.2.2.2.2))) else (
  some (false, r3.2.2.2.2))) else (
  some (false, r3.2.2.2.2))) else (
  some (false, r3.2.2.2.2))

def patinalaw04_GeomBits_call {R : Type} (k : Nat) : Fun R := fun f args m K => match f, args with
  | 9, [] => (patinalaw04_up k  m).bind fun r => K (Value.bool r.1) r.2
  | 12, [p0] => (patinalaw00_Code k p0 m).bind fun r => K (Value.int .i64 r.1) r.2
  | 19, [.int .i64 p0] => (geom_Bit k p0 m).bind fun r => K (Value.tuple ⟨[(Value.int .i64 r.1), (Value.int .i64 r.2.1), (Value.int .i64 r.2.2.1), r.2.2.2.1]⟩) r.2.2.2.2
  | 20, [.int .i64 p0] => (patinaref04_Bit k p0 m).bind fun r => K (Value.tuple ⟨[(Value.int .i64 r.1), (Value.int .i64 r.2.1), (Value.int .i64 r.2.2.1), (Value.int .i64 r.2.2.2.1)]⟩) r.2.2.2.2
  | _, _ => none

theorem patinalaw04_GeomBits_callOk {R : Type} (k : Nat) : CallOk Try.prog (patinalaw04_GeomBits_call (R := R) k) := by
  intro f vs m K r h
  unfold patinalaw04_GeomBits_call at h
  split at h
  · obtain ⟨r, h1, h2⟩ := Option.bind_eq_some_iff.1 h; exact (patinalaw04_up_ok h1).mono fun v m' hp => by obtain ⟨rfl, rfl⟩ := hp; exact h2
  · obtain ⟨r, h1, h2⟩ := Option.bind_eq_some_iff.1 h; exact (patinalaw00_Code_ok h1).mono fun v m' hp => by obtain ⟨rfl, rfl⟩ := hp; exact h2
  · obtain ⟨r, h1, h2⟩ := Option.bind_eq_some_iff.1 h; exact (geom_Bit_ok h1).mono fun v m' hp => by obtain ⟨rfl, rfl⟩ := hp; exact h2
  · obtain ⟨r, h1, h2⟩ := Option.bind_eq_some_iff.1 h; exact (patinaref04_Bit_ok h1).mono fun v m' hp => by obtain ⟨rfl, rfl⟩ := hp; exact h2
  · cases h

def patinalaw04_GeomBits_loop (k : Nat) : Nat → List Value → Mem → (Nat → List Value → Mem → Option (Bool × Mem)) → Option (Bool × Mem) := fun _ _ _ _ => none

def patinalaw04_GeomBits_C (k : Nat) : Ctx (Bool × Mem) := ⟨tt, patinalaw04_GeomBits_call k, patinalaw04_GeomBits_loop k, [], []⟩

def patinalaw04_GeomBits_dec : Value → Mem → Option (Bool × Mem) := fun v m => match v with
  | .bool q0 => some (q0, m)
  | _ => none

theorem patinalaw04_GeomBits_eq (k : Nat) (p0 : Int) (m : Mem) : fnX (patinalaw04_GeomBits_C k) Try.f6 [(Value.int .i64 p0)] m patinalaw04_GeomBits_dec = patinalaw04_GeomBits k p0 m := by kernel_rfl

theorem patinalaw04_GeomBits_ok {k : Nat} {p0 : Int} {m : Mem} {r : (Bool × Mem)} (h : patinalaw04_GeomBits k p0 m = some r) : CallP Try.prog 6 [(Value.int .i64 p0)] m fun v m' => v = (Value.bool r.1) ∧ m' = r.2 := by
  refine (fn_sound (C := patinalaw04_GeomBits_C k) (c := body Try.f6) tOk (patinalaw04_GeomBits_callOk k) Try.func6 (by kernel_rfl) (by kernel_rfl) (by kernel_rfl) (by kernel_rfl) ?_ (Eq.trans (patinalaw04_GeomBits_eq k p0 m) h)).mono ?_
  · intro p hp; rw [show loopsOf 0 (body Try.f6) = [] by kernel_rfl] at hp; cases hp
  · intro v m' hp
    unfold patinalaw04_GeomBits_dec at hp
    split at hp
    · simp only [Option.some.injEq] at hp; subst hp; exact ⟨rfl, rfl⟩
    · cases hp

end Go.Proofs.Ytnilidpafijdlaa
