/- The program's functions as plain Lean functions over a clean memory, each held against the program by the kernel. Written by mx.py. -/
import Derived.Test.YtnilidpafijdlabF0
set_option linter.unusedVariables false
set_option maxRecDepth 100000
namespace Go.Proofs.Ytnilidpafijdlab
open Go.Mx

/-! ### patinaref11_New -/
def patinaref11_New (k : Nat) (m : Mem) : Option ((Option Addr) × Mem) :=
  bif Nat.beq (List.length (putAt ((repl 12 [.int .i64 0]) ++ [.int .i64 0]) 12 1 [(Value.int .i64 (-1))])) 13 then (
  let m1 : Mem := m ++ [.live (putAt ((repl 12 [.int .i64 0]) ++ [.int .i64 0]) 12 1 [(Value.int .i64 (-1))])]
  some ((some ⟨List.length m, 0, Option.none⟩), m1)) else none

def patinaref11_New_call {R : Type} (k : Nat) : Fun R := fun _ _ _ _ => none

theorem patinaref11_New_callOk {R : Type} (k : Nat) : CallOk Try.prog (patinaref11_New_call (R := R) k) := by
  intro f vs m K r h
  unfold patinaref11_New_call at h
  cases h

def patinaref11_New_loop (k : Nat) : Nat → List Value → Mem → (Nat → List Value → Mem → Option ((Option Addr) × Mem)) → Option ((Option Addr) × Mem) := fun _ _ _ _ => none

def patinaref11_New_C (k : Nat) : Ctx ((Option Addr) × Mem) := ⟨tt, patinaref11_New_call k, patinaref11_New_loop k, [], []⟩

def patinaref11_New_dec : Value → Mem → Option ((Option Addr) × Mem) := fun v m => match v with
  | .pointer q0 => some (q0, m)
  | _ => none

theorem patinaref11_New_eq (k : Nat) (m : Mem) : fnX (patinaref11_New_C k) Try.f34 [] m patinaref11_New_dec = patinaref11_New k  m := by kernel_rfl

theorem patinaref11_New_ok {k : Nat} {m : Mem} {r : ((Option Addr) × Mem)} (h : patinaref11_New k  m = some r) : CallP Try.prog 34 [] m fun v m' => v = (Value.pointer r.1) ∧ m' = r.2 := by
  refine (fn_sound (C := patinaref11_New_C k) (c := body Try.f34) tOk mixed (patinaref11_New_callOk k) Try.func34 (by kernel_rfl) (by kernel_rfl) (by kernel_rfl) (by kernel_rfl) ?_ (Eq.trans (patinaref11_New_eq k  m) h)).mono ?_
  · intro p hp; rw [show loopsOf 0 (body Try.f34) = [] by kernel_rfl] at hp; cases hp
  · intro v m' hp
    unfold patinaref11_New_dec at hp
    split at hp
    · simp only [Option.some.injEq] at hp; subst hp; exact ⟨rfl, rfl⟩
    · cases hp

/-! ### patinaref11_Pool_Set -/
def patinaref11_Pool_Set_j1 (k : Nat) (p0 : Option Addr) (p1 : Int) (p2 : Int) (mj : Mem) : Option (Int × Mem) :=
  (p0).bind fun a1 =>
  bif inRange p1 12 then (
  (st mj (plus (plus a1 0) (Int.toNat p1 * 1)) (Value.int .i64 p2)).bind fun m2 =>
  some (0, m2)) else none

def patinaref11_Pool_Set (k : Nat) (p0 : Option Addr) (p1 : Int) (p2 : Int) (m : Mem) : Option (Int × Mem) :=
  bif decide (p1 < 0) then (
  some (1, m)) else (
  bif decide (p1 > 11) then (
  some (1, m)) else (
  bif decide (p2 < 0) then (
  some (1, m)) else (
  bif decide (p2 > 3) then (
  some (1, m)) else (
  (p0).bind fun a3 =>
  bif inRange p1 12 then (
  (ldInt .i64 m (plus (plus a3 0) (Int.toNat p1 * 1))).bind fun t4 =>
  bif t4 == 3 then (
  bif p2 != 3 then (
  some (12, m)) else (
  patinaref11_Pool_Set_j1 k p0 p1 p2 m)) else (
  patinaref11_Pool_Set_j1 k p0 p1 p2 m)) else none))))

def patinaref11_Pool_Set_call {R : Type} (k : Nat) : Fun R := fun _ _ _ _ => none

theorem patinaref11_Pool_Set_callOk {R : Type} (k : Nat) : CallOk Try.prog (patinaref11_Pool_Set_call (R := R) k) := by
  intro f vs m K r h
  unfold patinaref11_Pool_Set_call at h
  cases h

def patinaref11_Pool_Set_loop (k : Nat) : Nat → List Value → Mem → (Nat → List Value → Mem → Option (Int × Mem)) → Option (Int × Mem) := fun _ _ _ _ => none

def patinaref11_Pool_Set_C (k : Nat) : Ctx (Int × Mem) := ⟨tt, patinaref11_Pool_Set_call k, patinaref11_Pool_Set_loop k, [], []⟩

def patinaref11_Pool_Set_dec : Value → Mem → Option (Int × Mem) := fun v m => match v with
  | .int .i64 q0 => some (q0, m)
  | _ => none

theorem patinaref11_Pool_Set_eq (k : Nat) (p0 : Option Addr) (p1 : Int) (p2 : Int) (m : Mem) : fnX (patinaref11_Pool_Set_C k) Try.f52 [(Value.pointer p0), (Value.int .i64 p1), (Value.int .i64 p2)] m patinaref11_Pool_Set_dec = patinaref11_Pool_Set k p0 p1 p2 m := by kernel_rfl

theorem patinaref11_Pool_Set_ok {k : Nat} {p0 : Option Addr} {p1 : Int} {p2 : Int} {m : Mem} {r : (Int × Mem)} (h : patinaref11_Pool_Set k p0 p1 p2 m = some r) : CallP Try.prog 52 [(Value.pointer p0), (Value.int .i64 p1), (Value.int .i64 p2)] m fun v m' => v = (Value.int .i64 r.1) ∧ m' = r.2 := by
  refine (fn_sound (C := patinaref11_Pool_Set_C k) (c := body Try.f52) tOk mixed (patinaref11_Pool_Set_callOk k) Try.func52 (by kernel_rfl) (by kernel_rfl) (by kernel_rfl) (by kernel_rfl) ?_ (Eq.trans (patinaref11_Pool_Set_eq k p0 p1 p2 m) h)).mono ?_
  · intro p hp; rw [show loopsOf 0 (body Try.f52) = [] by kernel_rfl] at hp; cases hp
  · intro v m' hp
    unfold patinaref11_Pool_Set_dec at hp
    split at hp
    · simp only [Option.some.injEq] at hp; subst hp; exact ⟨rfl, rfl⟩
    · cases hp

/-! ### patinaref11_Pool_Take -/
def patinaref11_Pool_Take_l0_b (k : Nat) (nx : Option Addr → Int → Mem → Option (Int × Int × Mem)) (kx0 : Int → Int → Mem → Option (Int × Int × Mem)) (kx2 : Mem → Option (Int × Int × Mem)) (x0 : Option Addr) (x4 : Int) (m : Mem) : Option (Int × Int × Mem) :=
  bif decide (x4 ≤ 12) then (
  (x0).bind fun a1 =>
  (ldInt .i64 m (plus a1 12)).bind fun t2 =>
  (x0).bind fun a3 =>
  bif inRange (Int.tmod (IntKind.wrap .i64 ((IntKind.wrap .i64 (t2 + x4)) + 12)) 12) 12 then (
  (ldInt .i64 m (plus (plus a3 0) (Int.toNat (Int.tmod (IntKind.wrap .i64 ((IntKind.wrap .i64 (t2 + x4)) + 12)) 12) * 1))).bind fun t4 =>
  bif t4 == 0 then (
  (x0).bind fun a5 =>
  bif inRange (Int.tmod (IntKind.wrap .i64 ((IntKind.wrap .i64 (t2 + x4)) + 12)) 12) 12 then (
  (st m (plus (plus a5 0) (Int.toNat (Int.tmod (IntKind.wrap .i64 ((IntKind.wrap .i64 (t2 + x4)) + 12)) 12) * 1)) (Value.int .i64 1)).bind fun m6 =>
  (x0).bind fun a7 =>
  (st m6 (plus a7 12) (Value.int .i64 (Int.tmod (IntKind.wrap .i64 ((IntKind.wrap .i64 (t2 + x4)) + 12)) 12))).bind fun m8 =>
  kx0 (Int.tmod (IntKind.wrap .i64 ((IntKind.wrap .i64 (t2 + x4)) + 12)) 12) 0 m8) else none) else (
  nx x0 (IntKind.wrap .i64 (x4 + 1)) m)) else none) else (
  kx2  m)

def patinaref11_Pool_Take_l0 (k : Nat) (kx0 : Int → Int → Mem → Option (Int × Int × Mem)) (kx2 : Mem → Option (Int × Int × Mem)) : Nat → Option Addr → Int → Mem → Option (Int × Int × Mem)
  | 0, _, _, _ => none
  | n + 1, x0, x4, m => patinaref11_Pool_Take_l0_b k (fun x0 x4 m => patinaref11_Pool_Take_l0 k kx0 kx2 n x0 x4 m) kx0 kx2 x0 x4 m

theorem patinaref11_Pool_Take_l0_rule (k : Nat) (kx0 : Int → Int → Mem → Option (Int × Int × Mem)) (kx2 : Mem → Option (Int × Int × Mem)) {P : (Int × Int × Mem) → Prop} (I : Nat → Option Addr → Int → Mem → Prop)
    (step : ∀ d (nx : Option Addr → Int → Mem → Option (Int × Int × Mem)) (x0 : Option Addr) (x4 : Int) (m : Mem), I d x0 x4 m → (∀ d' (x0 : Option Addr) (x4 : Int) (m : Mem), d' < d → I d' x0 x4 m → Ok (nx x0 x4 m) P) → Ok (patinaref11_Pool_Take_l0_b k nx kx0 kx2 x0 x4 m) P) :
    ∀ n d (x0 : Option Addr) (x4 : Int) (m : Mem), d < n → I d x0 x4 m → Ok (patinaref11_Pool_Take_l0 k kx0 kx2 n x0 x4 m) P
  | 0, d, x0, x4, m, h, _ => absurd h (Nat.not_lt_zero _)
  | n + 1, d, x0, x4, m, h, hI => step d _ x0 x4 m hI fun d' x0 x4 m h' hI' => patinaref11_Pool_Take_l0_rule k kx0 kx2 I step n d' x0 x4 m (by omega) hI'

def patinaref11_Pool_Take (k : Nat) (p0 : Option Addr) (m : Mem) : Option (Int × Int × Mem) :=
  patinaref11_Pool_Take_l0 k (fun y2 y3 m9 => 
  some (y2, y3, m9)) (fun m10 => 
  some (0, 10, m10)) k p0 1 m

def patinaref11_Pool_Take_call {R : Type} (k : Nat) : Fun R := fun _ _ _ _ => none

theorem patinaref11_Pool_Take_callOk {R : Type} (k : Nat) : CallOk Try.prog (patinaref11_Pool_Take_call (R := R) k) := by
  intro f vs m K r h
  unfold patinaref11_Pool_Take_call at h
  cases h

def patinaref11_Pool_Take_l0_L (k : Nat) (K : Nat → List Value → Mem → Option (Int × Int × Mem)) (n : Nat) (vs : List Value) (m : Mem) : Option (Int × Int × Mem) := match vs with
  | [.pointer x0, .int .i64 x4] => patinaref11_Pool_Take_l0 k (fun y2 y3 m => K 0 [(Value.int .i64 y2), (Value.int .i64 y3)] m) (fun m => K 2 [] m) n x0 x4 m
  | _ => none

def patinaref11_Pool_Take_loop (k : Nat) : Nat → List Value → Mem → (Nat → List Value → Mem → Option (Int × Int × Mem)) → Option (Int × Int × Mem) := fun cur vs m K => match cur with
  | 0 => patinaref11_Pool_Take_l0_L k K k vs m
  | _ => none

def patinaref11_Pool_Take_C (k : Nat) : Ctx (Int × Int × Mem) := ⟨tt, patinaref11_Pool_Take_call k, patinaref11_Pool_Take_loop k, [(0, [0, 4])], [(0, [2, 3]), (2, [])]⟩

noncomputable def patinaref11_Pool_Take_l0_c : Code := ((loopsOf 0 (body Try.f53)).map (·.2)).getD 0 .skip

theorem patinaref11_Pool_Take_loops : loopsOf 0 (body Try.f53) = [(0, patinaref11_Pool_Take_l0_c)] := by kernel_rfl

theorem patinaref11_Pool_Take_l0_ok (k : Nat) : LoopOk (patinaref11_Pool_Take_C k) 0 patinaref11_Pool_Take_l0_c := by
  refine ⟨[0, 4], by kernel_rfl, fun K r => ⟨patinaref11_Pool_Take_l0_L k K, fun vs m h => ⟨k, h⟩, ?_⟩⟩
  intro n vs m h
  unfold patinaref11_Pool_Take_l0_L at h
  split at h
  · cases n with
    | zero => cases h
    | succ n => exact ⟨n, rfl, Eq.trans (by kernel_rfl) h⟩
  · cases h

def patinaref11_Pool_Take_dec : Value → Mem → Option (Int × Int × Mem) := fun v m => match v with
  | .tuple ⟨[.int .i64 q0, .int .i64 q1]⟩ => some (q0, q1, m)
  | _ => none

theorem patinaref11_Pool_Take_eq (k : Nat) (p0 : Option Addr) (m : Mem) : fnX (patinaref11_Pool_Take_C k) Try.f53 [(Value.pointer p0)] m patinaref11_Pool_Take_dec = patinaref11_Pool_Take k p0 m := by kernel_rfl

theorem patinaref11_Pool_Take_ok {k : Nat} {p0 : Option Addr} {m : Mem} {r : (Int × Int × Mem)} (h : patinaref11_Pool_Take k p0 m = some r) : CallP Try.prog 53 [(Value.pointer p0)] m fun v m' => v = (Value.tuple ⟨[(Value.int .i64 r.1), (Value.int .i64 r.2.1)]⟩) ∧ m' = r.2.2 := by
  refine (fn_sound (C := patinaref11_Pool_Take_C k) (c := body Try.f53) tOk mixed (patinaref11_Pool_Take_callOk k) Try.func53 (by kernel_rfl) (by kernel_rfl) (by kernel_rfl) (by kernel_rfl) ?_ (Eq.trans (patinaref11_Pool_Take_eq k p0 m) h)).mono ?_
  · intro p hp
    rw [patinaref11_Pool_Take_loops] at hp
    simp only [List.mem_cons, List.not_mem_nil, or_false] at hp
    rcases hp with rfl
    · exact patinaref11_Pool_Take_l0_ok k
  · intro v m' hp
    unfold patinaref11_Pool_Take_dec at hp
    split at hp
    · simp only [Option.some.injEq] at hp; subst hp; exact ⟨rfl, rfl⟩
    · cases hp

/-! ### patinaref11_Pool_State -/
def patinaref11_Pool_State (k : Nat) (p0 : Option Addr) (p1 : Int) (m : Mem) : Option (Int × Int × Mem) :=
  bif decide (p1 < 0) then (
  some (0, 1, m)) else (
  bif decide (p1 > 11) then (
  some (0, 1, m)) else (
  (p0).bind fun a1 =>
  bif inRange p1 12 then (
  (ldInt .i64 m (plus (plus a1 0) (Int.toNat p1 * 1))).bind fun t2 =>
  some (t2, 0, m)) else none))

def patinaref11_Pool_State_call {R : Type} (k : Nat) : Fun R := fun _ _ _ _ => none

theorem patinaref11_Pool_State_callOk {R : Type} (k : Nat) : CallOk Try.prog (patinaref11_Pool_State_call (R := R) k) := by
  intro f vs m K r h
  unfold patinaref11_Pool_State_call at h
  cases h

def patinaref11_Pool_State_loop (k : Nat) : Nat → List Value → Mem → (Nat → List Value → Mem → Option (Int × Int × Mem)) → Option (Int × Int × Mem) := fun _ _ _ _ => none

def patinaref11_Pool_State_C (k : Nat) : Ctx (Int × Int × Mem) := ⟨tt, patinaref11_Pool_State_call k, patinaref11_Pool_State_loop k, [], []⟩

def patinaref11_Pool_State_dec : Value → Mem → Option (Int × Int × Mem) := fun v m => match v with
  | .tuple ⟨[.int .i64 q0, .int .i64 q1]⟩ => some (q0, q1, m)
  | _ => none

theorem patinaref11_Pool_State_eq (k : Nat) (p0 : Option Addr) (p1 : Int) (m : Mem) : fnX (patinaref11_Pool_State_C k) Try.f54 [(Value.pointer p0), (Value.int .i64 p1)] m patinaref11_Pool_State_dec = patinaref11_Pool_State k p0 p1 m := by kernel_rfl

theorem patinaref11_Pool_State_ok {k : Nat} {p0 : Option Addr} {p1 : Int} {m : Mem} {r : (Int × Int × Mem)} (h : patinaref11_Pool_State k p0 p1 m = some r) : CallP Try.prog 54 [(Value.pointer p0), (Value.int .i64 p1)] m fun v m' => v = (Value.tuple ⟨[(Value.int .i64 r.1), (Value.int .i64 r.2.1)]⟩) ∧ m' = r.2.2 := by
  refine (fn_sound (C := patinaref11_Pool_State_C k) (c := body Try.f54) tOk mixed (patinaref11_Pool_State_callOk k) Try.func54 (by kernel_rfl) (by kernel_rfl) (by kernel_rfl) (by kernel_rfl) ?_ (Eq.trans (patinaref11_Pool_State_eq k p0 p1 m) h)).mono ?_
  · intro p hp; rw [show loopsOf 0 (body Try.f54) = [] by kernel_rfl] at hp; cases hp
  · intro v m' hp
    unfold patinaref11_Pool_State_dec at hp
    split at hp
    · simp only [Option.some.injEq] at hp; subst hp; exact ⟨rfl, rfl⟩
    · cases hp

/-! ### patinaref11_Pool_Count -/
def patinaref11_Pool_Count_j1 (k : Nat) (x0 : Option Addr) (x1 : Int) (x6 : Int) (nx : Option Addr → Int → Int → Int → Mem → Option (Int × Mem)) (x5_ : Int) (mj : Mem) : Option (Int × Mem) :=
  nx x0 x1 x5_ (IntKind.wrap .i64 (x6 + 1)) mj

def patinaref11_Pool_Count_l0_b (k : Nat) (nx : Option Addr → Int → Int → Int → Mem → Option (Int × Mem)) (kx2 : Int → Mem → Option (Int × Mem)) (x0 : Option Addr) (x1 : Int) (x5 : Int) (x6 : Int) (m : Mem) : Option (Int × Mem) :=
  bif decide (x6 < 12) then (
  (x0).bind fun a1 =>
  bif inRange x6 12 then (
  (ldInt .i64 m (plus (plus a1 0) (Int.toNat x6 * 1))).bind fun t2 =>
  bif t2 == x1 then (
  patinaref11_Pool_Count_j1 k x0 x1 x6 nx (IntKind.wrap .i64 (x5 + 1)) m) else (
  patinaref11_Pool_Count_j1 k x0 x1 x6 nx x5 m)) else none) else (
  kx2 x5 m)

def patinaref11_Pool_Count_l0 (k : Nat) (kx2 : Int → Mem → Option (Int × Mem)) : Nat → Option Addr → Int → Int → Int → Mem → Option (Int × Mem)
  | 0, _, _, _, _, _ => none
  | n + 1, x0, x1, x5, x6, m => patinaref11_Pool_Count_l0_b k (fun x0 x1 x5 x6 m => patinaref11_Pool_Count_l0 k kx2 n x0 x1 x5 x6 m) kx2 x0 x1 x5 x6 m

theorem patinaref11_Pool_Count_l0_rule (k : Nat) (kx2 : Int → Mem → Option (Int × Mem)) {P : (Int × Mem) → Prop} (I : Nat → Option Addr → Int → Int → Int → Mem → Prop)
    (step : ∀ d (nx : Option Addr → Int → Int → Int → Mem → Option (Int × Mem)) (x0 : Option Addr) (x1 : Int) (x5 : Int) (x6 : Int) (m : Mem), I d x0 x1 x5 x6 m → (∀ d' (x0 : Option Addr) (x1 : Int) (x5 : Int) (x6 : Int) (m : Mem), d' < d → I d' x0 x1 x5 x6 m → Ok (nx x0 x1 x5 x6 m) P) → Ok (patinaref11_Pool_Count_l0_b k nx kx2 x0 x1 x5 x6 m) P) :
    ∀ n d (x0 : Option Addr) (x1 : Int) (x5 : Int) (x6 : Int) (m : Mem), d < n → I d x0 x1 x5 x6 m → Ok (patinaref11_Pool_Count_l0 k kx2 n x0 x1 x5 x6 m) P
  | 0, d, x0, x1, x5, x6, m, h, _ => absurd h (Nat.not_lt_zero _)
  | n + 1, d, x0, x1, x5, x6, m, h, hI => step d _ x0 x1 x5 x6 m hI fun d' x0 x1 x5 x6 m h' hI' => patinaref11_Pool_Count_l0_rule k kx2 I step n d' x0 x1 x5 x6 m (by omega) hI'

def patinaref11_Pool_Count (k : Nat) (p0 : Option Addr) (p1 : Int) (m : Mem) : Option (Int × Mem) :=
  patinaref11_Pool_Count_l0 k (fun y5 m3 => 
  some (y5, m3)) k p0 p1 0 0 m

def patinaref11_Pool_Count_call {R : Type} (k : Nat) : Fun R := fun _ _ _ _ => none

theorem patinaref11_Pool_Count_callOk {R : Type} (k : Nat) : CallOk Try.prog (patinaref11_Pool_Count_call (R := R) k) := by
  intro f vs m K r h
  unfold patinaref11_Pool_Count_call at h
  cases h

def patinaref11_Pool_Count_l0_L (k : Nat) (K : Nat → List Value → Mem → Option (Int × Mem)) (n : Nat) (vs : List Value) (m : Mem) : Option (Int × Mem) := match vs with
  | [.pointer x0, .int .i64 x1, .int .i64 x5, .int .i64 x6] => patinaref11_Pool_Count_l0 k (fun y5 m => K 2 [(Value.int .i64 y5)] m) n x0 x1 x5 x6 m
  | _ => none

def patinaref11_Pool_Count_loop (k : Nat) : Nat → List Value → Mem → (Nat → List Value → Mem → Option (Int × Mem)) → Option (Int × Mem) := fun cur vs m K => match cur with
  | 0 => patinaref11_Pool_Count_l0_L k K k vs m
  | _ => none

def patinaref11_Pool_Count_C (k : Nat) : Ctx (Int × Mem) := ⟨tt, patinaref11_Pool_Count_call k, patinaref11_Pool_Count_loop k, [(0, [0, 1, 5, 6])], [(2, [5])]⟩

noncomputable def patinaref11_Pool_Count_l0_c : Code := ((loopsOf 0 (body Try.f55)).map (·.2)).getD 0 .skip

theorem patinaref11_Pool_Count_loops : loopsOf 0 (body Try.f55) = [(0, patinaref11_Pool_Count_l0_c)] := by kernel_rfl

theorem patinaref11_Pool_Count_l0_ok (k : Nat) : LoopOk (patinaref11_Pool_Count_C k) 0 patinaref11_Pool_Count_l0_c := by
  refine ⟨[0, 1, 5, 6], by kernel_rfl, fun K r => ⟨patinaref11_Pool_Count_l0_L k K, fun vs m h => ⟨k, h⟩, ?_⟩⟩
  intro n vs m h
  unfold patinaref11_Pool_Count_l0_L at h
  split at h
  · cases n with
    | zero => cases h
    | succ n => exact ⟨n, rfl, Eq.trans (by kernel_rfl) h⟩
  · cases h

def patinaref11_Pool_Count_dec : Value → Mem → Option (Int × Mem) := fun v m => match v with
  | .int .i64 q0 => some (q0, m)
  | _ => none

theorem patinaref11_Pool_Count_eq (k : Nat) (p0 : Option Addr) (p1 : Int) (m : Mem) : fnX (patinaref11_Pool_Count_C k) Try.f55 [(Value.pointer p0), (Value.int .i64 p1)] m patinaref11_Pool_Count_dec = patinaref11_Pool_Count k p0 p1 m := by kernel_rfl

theorem patinaref11_Pool_Count_ok {k : Nat} {p0 : Option Addr} {p1 : Int} {m : Mem} {r : (Int × Mem)} (h : patinaref11_Pool_Count k p0 p1 m = some r) : CallP Try.prog 55 [(Value.pointer p0), (Value.int .i64 p1)] m fun v m' => v = (Value.int .i64 r.1) ∧ m' = r.2 := by
  refine (fn_sound (C := patinaref11_Pool_Count_C k) (c := body Try.f55) tOk mixed (patinaref11_Pool_Count_callOk k) Try.func55 (by kernel_rfl) (by kernel_rfl) (by kernel_rfl) (by kernel_rfl) ?_ (Eq.trans (patinaref11_Pool_Count_eq k p0 p1 m) h)).mono ?_
  · intro p hp
    rw [patinaref11_Pool_Count_loops] at hp
    simp only [List.mem_cons, List.not_mem_nil, or_false] at hp
    rcases hp with rfl
    · exact patinaref11_Pool_Count_l0_ok k
  · intro v m' hp
    unfold patinaref11_Pool_Count_dec at hp
    split at hp
    · simp only [Option.some.injEq] at hp; subst hp; exact ⟨rfl, rfl⟩
    · cases hp

/-! ### patinaref11_Pool_Bound -/
def patinaref11_Pool_Bound (k : Nat) (p0 : Option Addr) (m : Mem) : Option (Int × Mem) :=
  (patinaref11_Pool_Count k p0 3 m).bind fun r1 =>
  bif r1.1 == 0 then (
  some (5, r1.2)) else (
  bif r1.1 == 1 then (
  some (3, r1.2)) else (
  bif r1.1 == 2 then (
  some (1, r1.2)) else (
  some (0, r1.2))))

def patinaref11_Pool_Bound_call {R : Type} (k : Nat) : Fun R := fun f args m K => match f, args with
  | 55, [.pointer p0, .int .i64 p1] => (patinaref11_Pool_Count k p0 p1 m).bind fun r => K (Value.int .i64 r.1) r.2
  | _, _ => none

theorem patinaref11_Pool_Bound_callOk {R : Type} (k : Nat) : CallOk Try.prog (patinaref11_Pool_Bound_call (R := R) k) := by
  intro f vs m K r h
  unfold patinaref11_Pool_Bound_call at h
  split at h
  · obtain ⟨r, h1, h2⟩ := Option.bind_eq_some_iff.1 h; exact ⟨_, _, h2, fun K' => by simp only [patinaref11_Pool_Bound_call, h1, Option.bind_some], patinaref11_Pool_Count_ok h1⟩
  · cases h

def patinaref11_Pool_Bound_loop (k : Nat) : Nat → List Value → Mem → (Nat → List Value → Mem → Option (Int × Mem)) → Option (Int × Mem) := fun _ _ _ _ => none

def patinaref11_Pool_Bound_C (k : Nat) : Ctx (Int × Mem) := ⟨tt, patinaref11_Pool_Bound_call k, patinaref11_Pool_Bound_loop k, [], []⟩

def patinaref11_Pool_Bound_dec : Value → Mem → Option (Int × Mem) := fun v m => match v with
  | .int .i64 q0 => some (q0, m)
  | _ => none

theorem patinaref11_Pool_Bound_eq (k : Nat) (p0 : Option Addr) (m : Mem) : fnX (patinaref11_Pool_Bound_C k) Try.f56 [(Value.pointer p0)] m patinaref11_Pool_Bound_dec = patinaref11_Pool_Bound k p0 m := by kernel_rfl

theorem patinaref11_Pool_Bound_ok {k : Nat} {p0 : Option Addr} {m : Mem} {r : (Int × Mem)} (h : patinaref11_Pool_Bound k p0 m = some r) : CallP Try.prog 56 [(Value.pointer p0)] m fun v m' => v = (Value.int .i64 r.1) ∧ m' = r.2 := by
  refine (fn_sound (C := patinaref11_Pool_Bound_C k) (c := body Try.f56) tOk mixed (patinaref11_Pool_Bound_callOk k) Try.func56 (by kernel_rfl) (by kernel_rfl) (by kernel_rfl) (by kernel_rfl) ?_ (Eq.trans (patinaref11_Pool_Bound_eq k p0 m) h)).mono ?_
  · intro p hp; rw [show loopsOf 0 (body Try.f56) = [] by kernel_rfl] at hp; cases hp
  · intro v m' hp
    unfold patinaref11_Pool_Bound_dec at hp
    split at hp
    · simp only [Option.some.injEq] at hp; subst hp; exact ⟨rfl, rfl⟩
    · cases hp

/-! ### patinaref11_Pool_Spare -/
def patinaref11_Pool_Spare (k : Nat) (p0 : Option Addr) (m : Mem) : Option (Bool × Mem) :=
  (patinaref11_Pool_Count k p0 0 m).bind fun r1 =>
  (patinaref11_Pool_Bound k p0 r1.2).bind fun r2 =>
  some (decide (r1.1 > r2.1), r2.2)

def patinaref11_Pool_Spare_call {R : Type} (k : Nat) : Fun R := fun f args m K => match f, args with
  | 55, [.pointer p0, .int .i64 p1] => (patinaref11_Pool_Count k p0 p1 m).bind fun r => K (Value.int .i64 r.1) r.2
  | 56, [.pointer p0] => (patinaref11_Pool_Bound k p0 m).bind fun r => K (Value.int .i64 r.1) r.2
  | _, _ => none

theorem patinaref11_Pool_Spare_callOk {R : Type} (k : Nat) : CallOk Try.prog (patinaref11_Pool_Spare_call (R := R) k) := by
  intro f vs m K r h
  unfold patinaref11_Pool_Spare_call at h
  split at h
  · obtain ⟨r, h1, h2⟩ := Option.bind_eq_some_iff.1 h; exact ⟨_, _, h2, fun K' => by simp only [patinaref11_Pool_Spare_call, h1, Option.bind_some], patinaref11_Pool_Count_ok h1⟩
  · obtain ⟨r, h1, h2⟩ := Option.bind_eq_some_iff.1 h; exact ⟨_, _, h2, fun K' => by simp only [patinaref11_Pool_Spare_call, h1, Option.bind_some], patinaref11_Pool_Bound_ok h1⟩
  · cases h

def patinaref11_Pool_Spare_loop (k : Nat) : Nat → List Value → Mem → (Nat → List Value → Mem → Option (Bool × Mem)) → Option (Bool × Mem) := fun _ _ _ _ => none

def patinaref11_Pool_Spare_C (k : Nat) : Ctx (Bool × Mem) := ⟨tt, patinaref11_Pool_Spare_call k, patinaref11_Pool_Spare_loop k, [], []⟩

def patinaref11_Pool_Spare_dec : Value → Mem → Option (Bool × Mem) := fun v m => match v with
  | .bool q0 => some (q0, m)
  | _ => none

theorem patinaref11_Pool_Spare_eq (k : Nat) (p0 : Option Addr) (m : Mem) : fnX (patinaref11_Pool_Spare_C k) Try.f58 [(Value.pointer p0)] m patinaref11_Pool_Spare_dec = patinaref11_Pool_Spare k p0 m := by kernel_rfl

theorem patinaref11_Pool_Spare_ok {k : Nat} {p0 : Option Addr} {m : Mem} {r : (Bool × Mem)} (h : patinaref11_Pool_Spare k p0 m = some r) : CallP Try.prog 58 [(Value.pointer p0)] m fun v m' => v = (Value.bool r.1) ∧ m' = r.2 := by
  refine (fn_sound (C := patinaref11_Pool_Spare_C k) (c := body Try.f58) tOk mixed (patinaref11_Pool_Spare_callOk k) Try.func58 (by kernel_rfl) (by kernel_rfl) (by kernel_rfl) (by kernel_rfl) ?_ (Eq.trans (patinaref11_Pool_Spare_eq k p0 m) h)).mono ?_
  · intro p hp; rw [show loopsOf 0 (body Try.f58) = [] by kernel_rfl] at hp; cases hp
  · intro v m' hp
    unfold patinaref11_Pool_Spare_dec at hp
    split at hp
    · simp only [Option.some.injEq] at hp; subst hp; exact ⟨rfl, rfl⟩
    · cases hp

/-! ### patinaref11_Pool_Worn -/
def patinaref11_Pool_Worn (k : Nat) (p0 : Option Addr) (m : Mem) : Option (Bool × Mem) :=
  (patinaref11_Pool_Count k p0 3 m).bind fun r1 =>
  some (decide (r1.1 > 2), r1.2)

def patinaref11_Pool_Worn_call {R : Type} (k : Nat) : Fun R := fun f args m K => match f, args with
  | 55, [.pointer p0, .int .i64 p1] => (patinaref11_Pool_Count k p0 p1 m).bind fun r => K (Value.int .i64 r.1) r.2
  | _, _ => none

theorem patinaref11_Pool_Worn_callOk {R : Type} (k : Nat) : CallOk Try.prog (patinaref11_Pool_Worn_call (R := R) k) := by
  intro f vs m K r h
  unfold patinaref11_Pool_Worn_call at h
  split at h
  · obtain ⟨r, h1, h2⟩ := Option.bind_eq_some_iff.1 h; exact ⟨_, _, h2, fun K' => by simp only [patinaref11_Pool_Worn_call, h1, Option.bind_some], patinaref11_Pool_Count_ok h1⟩
  · cases h

def patinaref11_Pool_Worn_loop (k : Nat) : Nat → List Value → Mem → (Nat → List Value → Mem → Option (Bool × Mem)) → Option (Bool × Mem) := fun _ _ _ _ => none

def patinaref11_Pool_Worn_C (k : Nat) : Ctx (Bool × Mem) := ⟨tt, patinaref11_Pool_Worn_call k, patinaref11_Pool_Worn_loop k, [], []⟩

def patinaref11_Pool_Worn_dec : Value → Mem → Option (Bool × Mem) := fun v m => match v with
  | .bool q0 => some (q0, m)
  | _ => none

theorem patinaref11_Pool_Worn_eq (k : Nat) (p0 : Option Addr) (m : Mem) : fnX (patinaref11_Pool_Worn_C k) Try.f59 [(Value.pointer p0)] m patinaref11_Pool_Worn_dec = patinaref11_Pool_Worn k p0 m := by kernel_rfl

theorem patinaref11_Pool_Worn_ok {k : Nat} {p0 : Option Addr} {m : Mem} {r : (Bool × Mem)} (h : patinaref11_Pool_Worn k p0 m = some r) : CallP Try.prog 59 [(Value.pointer p0)] m fun v m' => v = (Value.bool r.1) ∧ m' = r.2 := by
  refine (fn_sound (C := patinaref11_Pool_Worn_C k) (c := body Try.f59) tOk mixed (patinaref11_Pool_Worn_callOk k) Try.func59 (by kernel_rfl) (by kernel_rfl) (by kernel_rfl) (by kernel_rfl) ?_ (Eq.trans (patinaref11_Pool_Worn_eq k p0 m) h)).mono ?_
  · intro p hp; rw [show loopsOf 0 (body Try.f59) = [] by kernel_rfl] at hp; cases hp
  · intro v m' hp
    unfold patinaref11_Pool_Worn_dec at hp
    split at hp
    · simp only [Option.some.injEq] at hp; subst hp; exact ⟨rfl, rfl⟩
    · cases hp

end Go.Proofs.Ytnilidpafijdlab
