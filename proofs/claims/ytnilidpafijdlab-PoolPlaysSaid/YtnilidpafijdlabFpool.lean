/- The program's functions as plain Lean functions over a clean memory, each held against the program by the kernel. Written by mx.py. -/
import Derived.Test.YtnilidpafijdlabF0
import Derived.Test.YtnilidpafijdlabFslices
set_option linter.unusedVariables false
set_option maxRecDepth 100000
namespace Go.Proofs.Ytnilidpafijdlab
open Go.Mx

/-! ### pool_New -/
def pool_New (k : Nat) (m : Mem) : Option ((Option Addr) × Mem) :=
  let m1 : Mem := m ++ [.live ((repl 12 [.int .i64 0]) ++ [.int .i64 0])]
  some ((some ⟨List.length m, 0, Option.none⟩), m1)

def pool_New_call {R : Type} (k : Nat) : Fun R := fun _ _ _ _ => none

theorem pool_New_callOk {R : Type} (k : Nat) : CallOk Try.prog (pool_New_call (R := R) k) := by
  intro f vs m K r h
  unfold pool_New_call at h
  cases h

def pool_New_loop (k : Nat) : Nat → List Value → Mem → (Nat → List Value → Mem → Option ((Option Addr) × Mem)) → Option ((Option Addr) × Mem) := fun _ _ _ _ => none

def pool_New_C (k : Nat) : Ctx ((Option Addr) × Mem) := ⟨tt, pool_New_call k, pool_New_loop k, [], []⟩

def pool_New_dec : Value → Mem → Option ((Option Addr) × Mem) := fun v m => match v with
  | .pointer q0 => some (q0, m)
  | _ => none

theorem pool_New_eq (k : Nat) (m : Mem) : fnX (pool_New_C k) Try.f25 [] m pool_New_dec = pool_New k  m := by kernel_rfl

theorem pool_New_ok {k : Nat} {m : Mem} {r : ((Option Addr) × Mem)} (h : pool_New k  m = some r) : CallP Try.prog 25 [] m fun v m' => v = (Value.pointer r.1) ∧ m' = r.2 := by
  refine (fn_sound (C := pool_New_C k) (c := body Try.f25) tOk mixed (pool_New_callOk k) Try.func25 (by kernel_rfl) (by kernel_rfl) (by kernel_rfl) (by kernel_rfl) ?_ (Eq.trans (pool_New_eq k  m) h)).mono ?_
  · intro p hp; rw [show loopsOf 0 (body Try.f25) = [] by kernel_rfl] at hp; cases hp
  · intro v m' hp
    unfold pool_New_dec at hp
    split at hp
    · simp only [Option.some.injEq] at hp; subst hp; exact ⟨rfl, rfl⟩
    · cases hp

/-! ### pool_Pool_Count -/
def pool_Pool_Count_j1 (k : Nat) (x1 : Int) (x11 : List Value) (x12 : Int) (nx : Int → Int → List Value → Int → Mem → Option (Int × Mem)) (x5_ : Int) (mj : Mem) : Option (Int × Mem) :=
  nx x1 x5_ x11 (IntKind.wrap .i64 (x12 + 1)) mj

def pool_Pool_Count_l0_b (k : Nat) (nx : Int → Int → List Value → Int → Mem → Option (Int × Mem)) (kx2 : Int → Mem → Option (Int × Mem)) (x1 : Int) (x5 : Int) (x11 : List Value) (x12 : Int) (m : Mem) : Option (Int × Mem) :=
  bif decide (x12 < 12) then (
  bif inRange x12 12 then (
  (cInt .i64 x11 (Int.toNat x12 * 1)).bind fun t3 =>
  bif t3 == x1 then (
  pool_Pool_Count_j1 k x1 x11 x12 nx (IntKind.wrap .i64 (x5 + 1)) m) else (
  pool_Pool_Count_j1 k x1 x11 x12 nx x5 m)) else none) else (
  kx2 x5 m)

def pool_Pool_Count_l0 (k : Nat) (kx2 : Int → Mem → Option (Int × Mem)) : Nat → Int → Int → List Value → Int → Mem → Option (Int × Mem)
  | 0, _, _, _, _, _ => none
  | n + 1, x1, x5, x11, x12, m => pool_Pool_Count_l0_b k (fun x1 x5 x11 x12 m => pool_Pool_Count_l0 k kx2 n x1 x5 x11 x12 m) kx2 x1 x5 x11 x12 m

theorem pool_Pool_Count_l0_rule (k : Nat) (kx2 : Int → Mem → Option (Int × Mem)) {P : (Int × Mem) → Prop} (I : Nat → Int → Int → List Value → Int → Mem → Prop)
    (step : ∀ d (nx : Int → Int → List Value → Int → Mem → Option (Int × Mem)) (x1 : Int) (x5 : Int) (x11 : List Value) (x12 : Int) (m : Mem), I d x1 x5 x11 x12 m → (∀ d' (x1 : Int) (x5 : Int) (x11 : List Value) (x12 : Int) (m : Mem), d' < d → I d' x1 x5 x11 x12 m → Ok (nx x1 x5 x11 x12 m) P) → Ok (pool_Pool_Count_l0_b k nx kx2 x1 x5 x11 x12 m) P) :
    ∀ n d (x1 : Int) (x5 : Int) (x11 : List Value) (x12 : Int) (m : Mem), d < n → I d x1 x5 x11 x12 m → Ok (pool_Pool_Count_l0 k kx2 n x1 x5 x11 x12 m) P
  | 0, d, x1, x5, x11, x12, m, h, _ => absurd h (Nat.not_lt_zero _)
  | n + 1, d, x1, x5, x11, x12, m, h, hI => step d _ x1 x5 x11 x12 m hI fun d' x1 x5 x11 x12 m h' hI' => pool_Pool_Count_l0_rule k kx2 I step n d' x1 x5 x11 x12 m (by omega) hI'

def pool_Pool_Count (k : Nat) (p0 : Option Addr) (p1 : Int) (m : Mem) : Option (Int × Mem) :=
  (p0).bind fun a1 =>
  (ldCells m (plus a1 0) 12).bind fun t2 =>
  pool_Pool_Count_l0 k (fun y5 m4 => 
  some (y5, m4)) k p1 0 t2 0 m

def pool_Pool_Count_call {R : Type} (k : Nat) : Fun R := fun _ _ _ _ => none

theorem pool_Pool_Count_callOk {R : Type} (k : Nat) : CallOk Try.prog (pool_Pool_Count_call (R := R) k) := by
  intro f vs m K r h
  unfold pool_Pool_Count_call at h
  cases h

def pool_Pool_Count_l0_L (k : Nat) (K : Nat → List Value → Mem → Option (Int × Mem)) (n : Nat) (vs : List Value) (m : Mem) : Option (Int × Mem) := match vs with
  | [.int .i64 x1, .int .i64 x5, .agg ⟨x11⟩, .int .i64 x12] => pool_Pool_Count_l0 k (fun y5 m => K 2 [(Value.int .i64 y5)] m) n x1 x5 x11 x12 m
  | _ => none

def pool_Pool_Count_loop (k : Nat) : Nat → List Value → Mem → (Nat → List Value → Mem → Option (Int × Mem)) → Option (Int × Mem) := fun cur vs m K => match cur with
  | 0 => pool_Pool_Count_l0_L k K k vs m
  | _ => none

def pool_Pool_Count_C (k : Nat) : Ctx (Int × Mem) := ⟨tt, pool_Pool_Count_call k, pool_Pool_Count_loop k, [(0, [1, 5, 11, 12])], [(2, [5])]⟩

noncomputable def pool_Pool_Count_l0_c : Code := ((loopsOf 0 (body Try.f32)).map (·.2)).getD 0 .skip

theorem pool_Pool_Count_loops : loopsOf 0 (body Try.f32) = [(0, pool_Pool_Count_l0_c)] := by kernel_rfl

theorem pool_Pool_Count_l0_ok (k : Nat) : LoopOk (pool_Pool_Count_C k) 0 pool_Pool_Count_l0_c := by
  refine ⟨[1, 5, 11, 12], by kernel_rfl, fun K r => ⟨pool_Pool_Count_l0_L k K, fun vs m h => ⟨k, h⟩, ?_⟩⟩
  intro n vs m h
  unfold pool_Pool_Count_l0_L at h
  split at h
  · cases n with
    | zero => cases h
    | succ n => exact ⟨n, rfl, Eq.trans (by kernel_rfl) h⟩
  · cases h

def pool_Pool_Count_dec : Value → Mem → Option (Int × Mem) := fun v m => match v with
  | .int .i64 q0 => some (q0, m)
  | _ => none

theorem pool_Pool_Count_eq (k : Nat) (p0 : Option Addr) (p1 : Int) (m : Mem) : fnX (pool_Pool_Count_C k) Try.f32 [(Value.pointer p0), (Value.int .i64 p1)] m pool_Pool_Count_dec = pool_Pool_Count k p0 p1 m := by kernel_rfl

theorem pool_Pool_Count_ok {k : Nat} {p0 : Option Addr} {p1 : Int} {m : Mem} {r : (Int × Mem)} (h : pool_Pool_Count k p0 p1 m = some r) : CallP Try.prog 32 [(Value.pointer p0), (Value.int .i64 p1)] m fun v m' => v = (Value.int .i64 r.1) ∧ m' = r.2 := by
  refine (fn_sound (C := pool_Pool_Count_C k) (c := body Try.f32) tOk mixed (pool_Pool_Count_callOk k) Try.func32 (by kernel_rfl) (by kernel_rfl) (by kernel_rfl) (by kernel_rfl) ?_ (Eq.trans (pool_Pool_Count_eq k p0 p1 m) h)).mono ?_
  · intro p hp
    rw [pool_Pool_Count_loops] at hp
    simp only [List.mem_cons, List.not_mem_nil, or_false] at hp
    rcases hp with rfl
    · exact pool_Pool_Count_l0_ok k
  · intro v m' hp
    unfold pool_Pool_Count_dec at hp
    split at hp
    · simp only [Option.some.injEq] at hp; subst hp; exact ⟨rfl, rfl⟩
    · cases hp

/-! ### pool_Pool_Worn -/
def pool_Pool_Worn (k : Nat) (p0 : Option Addr) (m : Mem) : Option (Bool × Mem) :=
  (pool_Pool_Count k p0 3 m).bind fun r1 =>
  some (decide (r1.1 > 2), r1.2)

def pool_Pool_Worn_call {R : Type} (k : Nat) : Fun R := fun f args m K => match f, args with
  | 32, [.pointer p0, .int .i64 p1] => (pool_Pool_Count k p0 p1 m).bind fun r => K (Value.int .i64 r.1) r.2
  | _, _ => none

theorem pool_Pool_Worn_callOk {R : Type} (k : Nat) : CallOk Try.prog (pool_Pool_Worn_call (R := R) k) := by
  intro f vs m K r h
  unfold pool_Pool_Worn_call at h
  split at h
  · obtain ⟨r, h1, h2⟩ := Option.bind_eq_some_iff.1 h; exact ⟨_, _, h2, fun K' => by simp only [pool_Pool_Worn_call, h1, Option.bind_some], pool_Pool_Count_ok h1⟩
  · cases h

def pool_Pool_Worn_loop (k : Nat) : Nat → List Value → Mem → (Nat → List Value → Mem → Option (Bool × Mem)) → Option (Bool × Mem) := fun _ _ _ _ => none

def pool_Pool_Worn_C (k : Nat) : Ctx (Bool × Mem) := ⟨tt, pool_Pool_Worn_call k, pool_Pool_Worn_loop k, [], []⟩

def pool_Pool_Worn_dec : Value → Mem → Option (Bool × Mem) := fun v m => match v with
  | .bool q0 => some (q0, m)
  | _ => none

theorem pool_Pool_Worn_eq (k : Nat) (p0 : Option Addr) (m : Mem) : fnX (pool_Pool_Worn_C k) Try.f33 [(Value.pointer p0)] m pool_Pool_Worn_dec = pool_Pool_Worn k p0 m := by kernel_rfl

theorem pool_Pool_Worn_ok {k : Nat} {p0 : Option Addr} {m : Mem} {r : (Bool × Mem)} (h : pool_Pool_Worn k p0 m = some r) : CallP Try.prog 33 [(Value.pointer p0)] m fun v m' => v = (Value.bool r.1) ∧ m' = r.2 := by
  refine (fn_sound (C := pool_Pool_Worn_C k) (c := body Try.f33) tOk mixed (pool_Pool_Worn_callOk k) Try.func33 (by kernel_rfl) (by kernel_rfl) (by kernel_rfl) (by kernel_rfl) ?_ (Eq.trans (pool_Pool_Worn_eq k p0 m) h)).mono ?_
  · intro p hp; rw [show loopsOf 0 (body Try.f33) = [] by kernel_rfl] at hp; cases hp
  · intro v m' hp
    unfold pool_Pool_Worn_dec at hp
    split at hp
    · simp only [Option.some.injEq] at hp; subst hp; exact ⟨rfl, rfl⟩
    · cases hp

/-! ### pool_Pool_Bound -/
def pool_Pool_Bound (k : Nat) (p0 : Option Addr) (m : Mem) : Option (Int × Mem) :=
  (pool_Pool_Worn k p0 m).bind fun r1 =>
  bif r1.1 then (
  some (0, r1.2)) else (
  (pool_Pool_Count k p0 3 r1.2).bind fun r2 =>
  some (IntKind.wrap .i64 (1 + (IntKind.wrap .i64 (2 * (IntKind.wrap .i64 (2 - r2.1))))), r2.2))

def pool_Pool_Bound_call {R : Type} (k : Nat) : Fun R := fun f args m K => match f, args with
  | 32, [.pointer p0, .int .i64 p1] => (pool_Pool_Count k p0 p1 m).bind fun r => K (Value.int .i64 r.1) r.2
  | 33, [.pointer p0] => (pool_Pool_Worn k p0 m).bind fun r => K (Value.bool r.1) r.2
  | _, _ => none

theorem pool_Pool_Bound_callOk {R : Type} (k : Nat) : CallOk Try.prog (pool_Pool_Bound_call (R := R) k) := by
  intro f vs m K r h
  unfold pool_Pool_Bound_call at h
  split at h
  · obtain ⟨r, h1, h2⟩ := Option.bind_eq_some_iff.1 h; exact ⟨_, _, h2, fun K' => by simp only [pool_Pool_Bound_call, h1, Option.bind_some], pool_Pool_Count_ok h1⟩
  · obtain ⟨r, h1, h2⟩ := Option.bind_eq_some_iff.1 h; exact ⟨_, _, h2, fun K' => by simp only [pool_Pool_Bound_call, h1, Option.bind_some], pool_Pool_Worn_ok h1⟩
  · cases h

def pool_Pool_Bound_loop (k : Nat) : Nat → List Value → Mem → (Nat → List Value → Mem → Option (Int × Mem)) → Option (Int × Mem) := fun _ _ _ _ => none

def pool_Pool_Bound_C (k : Nat) : Ctx (Int × Mem) := ⟨tt, pool_Pool_Bound_call k, pool_Pool_Bound_loop k, [], []⟩

def pool_Pool_Bound_dec : Value → Mem → Option (Int × Mem) := fun v m => match v with
  | .int .i64 q0 => some (q0, m)
  | _ => none

theorem pool_Pool_Bound_eq (k : Nat) (p0 : Option Addr) (m : Mem) : fnX (pool_Pool_Bound_C k) Try.f27 [(Value.pointer p0)] m pool_Pool_Bound_dec = pool_Pool_Bound k p0 m := by kernel_rfl

theorem pool_Pool_Bound_ok {k : Nat} {p0 : Option Addr} {m : Mem} {r : (Int × Mem)} (h : pool_Pool_Bound k p0 m = some r) : CallP Try.prog 27 [(Value.pointer p0)] m fun v m' => v = (Value.int .i64 r.1) ∧ m' = r.2 := by
  refine (fn_sound (C := pool_Pool_Bound_C k) (c := body Try.f27) tOk mixed (pool_Pool_Bound_callOk k) Try.func27 (by kernel_rfl) (by kernel_rfl) (by kernel_rfl) (by kernel_rfl) ?_ (Eq.trans (pool_Pool_Bound_eq k p0 m) h)).mono ?_
  · intro p hp; rw [show loopsOf 0 (body Try.f27) = [] by kernel_rfl] at hp; cases hp
  · intro v m' hp
    unfold pool_Pool_Bound_dec at hp
    split at hp
    · simp only [Option.some.injEq] at hp; subst hp; exact ⟨rfl, rfl⟩
    · cases hp

/-! ### pool_is -/
def pool_is (k : Nat) (p0 : Int) (m : Mem) : Option (Bool × Mem) :=
  bif decide (p0 ≥ 0) then (
  some (decide (p0 < 12), m)) else (
  some (false, m))

def pool_is_call {R : Type} (k : Nat) : Fun R := fun _ _ _ _ => none

theorem pool_is_callOk {R : Type} (k : Nat) : CallOk Try.prog (pool_is_call (R := R) k) := by
  intro f vs m K r h
  unfold pool_is_call at h
  cases h

def pool_is_loop (k : Nat) : Nat → List Value → Mem → (Nat → List Value → Mem → Option (Bool × Mem)) → Option (Bool × Mem) := fun _ _ _ _ => none

def pool_is_C (k : Nat) : Ctx (Bool × Mem) := ⟨tt, pool_is_call k, pool_is_loop k, [], []⟩

def pool_is_dec : Value → Mem → Option (Bool × Mem) := fun v m => match v with
  | .bool q0 => some (q0, m)
  | _ => none

theorem pool_is_eq (k : Nat) (p0 : Int) (m : Mem) : fnX (pool_is_C k) Try.f51 [(Value.int .i64 p0)] m pool_is_dec = pool_is k p0 m := by kernel_rfl

theorem pool_is_ok {k : Nat} {p0 : Int} {m : Mem} {r : (Bool × Mem)} (h : pool_is k p0 m = some r) : CallP Try.prog 51 [(Value.int .i64 p0)] m fun v m' => v = (Value.bool r.1) ∧ m' = r.2 := by
  refine (fn_sound (C := pool_is_C k) (c := body Try.f51) tOk mixed (pool_is_callOk k) Try.func51 (by kernel_rfl) (by kernel_rfl) (by kernel_rfl) (by kernel_rfl) ?_ (Eq.trans (pool_is_eq k p0 m) h)).mono ?_
  · intro p hp; rw [show loopsOf 0 (body Try.f51) = [] by kernel_rfl] at hp; cases hp
  · intro v m' hp
    unfold pool_is_dec at hp
    split at hp
    · simp only [Option.some.injEq] at hp; subst hp; exact ⟨rfl, rfl⟩
    · cases hp

/-! ### pool_Pool_Set -/
def pool_Pool_Set_j1 (k : Nat) (p0 : Option Addr) (p1 : Int) (p2 : Int) (mj : Mem) : Option (Value × Mem) :=
  (p0).bind fun a1 =>
  bif inRange p1 12 then (
  (st mj (plus (plus a1 0) (Int.toNat p1 * 1)) (Value.int .i64 p2)).bind fun m2 =>
  some (Value.nilIface, m2)) else none

def pool_Pool_Set (k : Nat) (p0 : Option Addr) (p1 : Int) (p2 : Int) (m : Mem) : Option (Value × Mem) :=
  (pool_is k p1 m).bind fun r3 =>
  bif !r3.1 then (
  some ((Value.iface ty_api_Code (Value.int .i64 1)), r3.2)) else (
  bif decide (p2 < 0) then (
  some ((Value.iface ty_api_Code (Value.int .i64 1)), r3.2)) else (
  bif decide (p2 > 3) then (
  some ((Value.iface ty_api_Code (Value.int .i64 1)), r3.2)) else (
  (p0).bind fun a4 =>
  bif inRange p1 12 then (
  (ldInt .i64 r3.2 (plus (plus a4 0) (Int.toNat p1 * 1))).bind fun t5 =>
  bif t5 == 3 then (
  bif p2 != 3 then (
  some ((Value.iface ty_api_Code (Value.int .i64 12)), r3.2)) else (
  pool_Pool_Set_j1 k p0 p1 p2 r3.2)) else (
  pool_Pool_Set_j1 k p0 p1 p2 r3.2)) else none)))

def pool_Pool_Set_call {R : Type} (k : Nat) : Fun R := fun f args m K => match f, args with
  | 51, [.int .i64 p0] => (pool_is k p0 m).bind fun r => K (Value.bool r.1) r.2
  | _, _ => none

theorem pool_Pool_Set_callOk {R : Type} (k : Nat) : CallOk Try.prog (pool_Pool_Set_call (R := R) k) := by
  intro f vs m K r h
  unfold pool_Pool_Set_call at h
  split at h
  · obtain ⟨r, h1, h2⟩ := Option.bind_eq_some_iff.1 h; exact ⟨_, _, h2, fun K' => by simp only [pool_Pool_Set_call, h1, Option.bind_some], pool_is_ok h1⟩
  · cases h

def pool_Pool_Set_loop (k : Nat) : Nat → List Value → Mem → (Nat → List Value → Mem → Option (Value × Mem)) → Option (Value × Mem) := fun _ _ _ _ => none

def pool_Pool_Set_C (k : Nat) : Ctx (Value × Mem) := ⟨tt, pool_Pool_Set_call k, pool_Pool_Set_loop k, [], []⟩

def pool_Pool_Set_dec : Value → Mem → Option (Value × Mem) := fun v m => match v with
  | q0 => some (q0, m)

theorem pool_Pool_Set_eq (k : Nat) (p0 : Option Addr) (p1 : Int) (p2 : Int) (m : Mem) : fnX (pool_Pool_Set_C k) Try.f29 [(Value.pointer p0), (Value.int .i64 p1), (Value.int .i64 p2)] m pool_Pool_Set_dec = pool_Pool_Set k p0 p1 p2 m := by kernel_rfl

theorem pool_Pool_Set_ok {k : Nat} {p0 : Option Addr} {p1 : Int} {p2 : Int} {m : Mem} {r : (Value × Mem)} (h : pool_Pool_Set k p0 p1 p2 m = some r) : CallP Try.prog 29 [(Value.pointer p0), (Value.int .i64 p1), (Value.int .i64 p2)] m fun v m' => v = r.1 ∧ m' = r.2 := by
  refine (fn_sound (C := pool_Pool_Set_C k) (c := body Try.f29) tOk mixed (pool_Pool_Set_callOk k) Try.func29 (by kernel_rfl) (by kernel_rfl) (by kernel_rfl) (by kernel_rfl) ?_ (Eq.trans (pool_Pool_Set_eq k p0 p1 p2 m) h)).mono ?_
  · intro p hp; rw [show loopsOf 0 (body Try.f29) = [] by kernel_rfl] at hp; cases hp
  · intro v m' hp
    simp only [pool_Pool_Set_dec, Option.some.injEq] at hp; subst hp; exact ⟨rfl, rfl⟩

/-! ### pool_Pool_Take -/
def pool_Pool_Take_l0_b (k : Nat) (nx : Option Addr → Int → Mem → Option (Int × Value × Mem)) (kx0 : Int → Value → Mem → Option (Int × Value × Mem)) (kx2 : Mem → Option (Int × Value × Mem)) (x0 : Option Addr) (x6 : Int) (m : Mem) : Option (Int × Value × Mem) :=
  bif decide (x6 < 12) then (
  (x0).bind fun a1 =>
  (ldInt .i64 m (plus a1 12)).bind fun t2 =>
  (x0).bind fun a3 =>
  bif inRange (Int.tmod (IntKind.wrap .i64 (t2 + x6)) 12) 12 then (
  (ldInt .i64 m (plus (plus a3 0) (Int.toNat (Int.tmod (IntKind.wrap .i64 (t2 + x6)) 12) * 1))).bind fun t4 =>
  bif t4 == 0 then (
  (x0).bind fun a5 =>
  bif inRange (Int.tmod (IntKind.wrap .i64 (t2 + x6)) 12) 12 then (
  (st m (plus (plus a5 0) (Int.toNat (Int.tmod (IntKind.wrap .i64 (t2 + x6)) 12) * 1)) (Value.int .i64 1)).bind fun m6 =>
  (x0).bind fun a7 =>
  (st m6 (plus a7 12) (Value.int .i64 (IntKind.wrap .i64 ((Int.tmod (IntKind.wrap .i64 (t2 + x6)) 12) + 1)))).bind fun m8 =>
  kx0 (Int.tmod (IntKind.wrap .i64 (t2 + x6)) 12) Value.nilIface m8) else none) else (
  nx x0 (IntKind.wrap .i64 (x6 + 1)) m)) else none) else (
  kx2  m)

def pool_Pool_Take_l0 (k : Nat) (kx0 : Int → Value → Mem → Option (Int × Value × Mem)) (kx2 : Mem → Option (Int × Value × Mem)) : Nat → Option Addr → Int → Mem → Option (Int × Value × Mem)
  | 0, _, _, _ => none
  | n + 1, x0, x6, m => pool_Pool_Take_l0_b k (fun x0 x6 m => pool_Pool_Take_l0 k kx0 kx2 n x0 x6 m) kx0 kx2 x0 x6 m

theorem pool_Pool_Take_l0_rule (k : Nat) (kx0 : Int → Value → Mem → Option (Int × Value × Mem)) (kx2 : Mem → Option (Int × Value × Mem)) {P : (Int × Value × Mem) → Prop} (I : Nat → Option Addr → Int → Mem → Prop)
    (step : ∀ d (nx : Option Addr → Int → Mem → Option (Int × Value × Mem)) (x0 : Option Addr) (x6 : Int) (m : Mem), I d x0 x6 m → (∀ d' (x0 : Option Addr) (x6 : Int) (m : Mem), d' < d → I d' x0 x6 m → Ok (nx x0 x6 m) P) → Ok (pool_Pool_Take_l0_b k nx kx0 kx2 x0 x6 m) P) :
    ∀ n d (x0 : Option Addr) (x6 : Int) (m : Mem), d < n → I d x0 x6 m → Ok (pool_Pool_Take_l0 k kx0 kx2 n x0 x6 m) P
  | 0, d, x0, x6, m, h, _ => absurd h (Nat.not_lt_zero _)
  | n + 1, d, x0, x6, m, h, hI => step d _ x0 x6 m hI fun d' x0 x6 m h' hI' => pool_Pool_Take_l0_rule k kx0 kx2 I step n d' x0 x6 m (by omega) hI'

def pool_Pool_Take (k : Nat) (p0 : Option Addr) (m : Mem) : Option (Int × Value × Mem) :=
  pool_Pool_Take_l0 k (fun y2 y3 m9 => 
  some (y2, y3, m9)) (fun m10 => 
  some (0, (Value.iface ty_api_Code (Value.int .i64 10)), m10)) k p0 0 m

def pool_Pool_Take_call {R : Type} (k : Nat) : Fun R := fun _ _ _ _ => none

theorem pool_Pool_Take_callOk {R : Type} (k : Nat) : CallOk Try.prog (pool_Pool_Take_call (R := R) k) := by
  intro f vs m K r h
  unfold pool_Pool_Take_call at h
  cases h

def pool_Pool_Take_l0_L (k : Nat) (K : Nat → List Value → Mem → Option (Int × Value × Mem)) (n : Nat) (vs : List Value) (m : Mem) : Option (Int × Value × Mem) := match vs with
  | [.pointer x0, .int .i64 x6] => pool_Pool_Take_l0 k (fun y2 y3 m => K 0 [(Value.int .i64 y2), y3] m) (fun m => K 2 [] m) n x0 x6 m
  | _ => none

def pool_Pool_Take_loop (k : Nat) : Nat → List Value → Mem → (Nat → List Value → Mem → Option (Int × Value × Mem)) → Option (Int × Value × Mem) := fun cur vs m K => match cur with
  | 0 => pool_Pool_Take_l0_L k K k vs m
  | _ => none

def pool_Pool_Take_C (k : Nat) : Ctx (Int × Value × Mem) := ⟨tt, pool_Pool_Take_call k, pool_Pool_Take_loop k, [(0, [0, 6])], [(0, [2, 3]), (2, [])]⟩

noncomputable def pool_Pool_Take_l0_c : Code := ((loopsOf 0 (body Try.f30)).map (·.2)).getD 0 .skip

theorem pool_Pool_Take_loops : loopsOf 0 (body Try.f30) = [(0, pool_Pool_Take_l0_c)] := by kernel_rfl

theorem pool_Pool_Take_l0_ok (k : Nat) : LoopOk (pool_Pool_Take_C k) 0 pool_Pool_Take_l0_c := by
  refine ⟨[0, 6], by kernel_rfl, fun K r => ⟨pool_Pool_Take_l0_L k K, fun vs m h => ⟨k, h⟩, ?_⟩⟩
  intro n vs m h
  unfold pool_Pool_Take_l0_L at h
  split at h
  · cases n with
    | zero => cases h
    | succ n => exact ⟨n, rfl, Eq.trans (by kernel_rfl) h⟩
  · cases h

def pool_Pool_Take_dec : Value → Mem → Option (Int × Value × Mem) := fun v m => match v with
  | .tuple ⟨[.int .i64 q0, q1]⟩ => some (q0, q1, m)
  | _ => none

theorem pool_Pool_Take_eq (k : Nat) (p0 : Option Addr) (m : Mem) : fnX (pool_Pool_Take_C k) Try.f30 [(Value.pointer p0)] m pool_Pool_Take_dec = pool_Pool_Take k p0 m := by kernel_rfl

theorem pool_Pool_Take_ok {k : Nat} {p0 : Option Addr} {m : Mem} {r : (Int × Value × Mem)} (h : pool_Pool_Take k p0 m = some r) : CallP Try.prog 30 [(Value.pointer p0)] m fun v m' => v = (Value.tuple ⟨[(Value.int .i64 r.1), r.2.1]⟩) ∧ m' = r.2.2 := by
  refine (fn_sound (C := pool_Pool_Take_C k) (c := body Try.f30) tOk mixed (pool_Pool_Take_callOk k) Try.func30 (by kernel_rfl) (by kernel_rfl) (by kernel_rfl) (by kernel_rfl) ?_ (Eq.trans (pool_Pool_Take_eq k p0 m) h)).mono ?_
  · intro p hp
    rw [pool_Pool_Take_loops] at hp
    simp only [List.mem_cons, List.not_mem_nil, or_false] at hp
    rcases hp with rfl
    · exact pool_Pool_Take_l0_ok k
  · intro v m' hp
    unfold pool_Pool_Take_dec at hp
    split at hp
    · simp only [Option.some.injEq] at hp; subst hp; exact ⟨rfl, rfl⟩
    · cases hp

/-! ### pool_Pool_States -/
def pool_Pool_States (k : Nat) (p0 : Option Addr) (m : Mem) : Option (Sl × Mem) :=
  (p0).bind fun a1 =>
  (slices_Clone_int_int k (sliceK.clear (some (plus a1 0)) true) 12 12 m).bind fun r2 =>
  some ((⟨r2.1.a, r2.1.len, r2.1.cap⟩ : Sl), r2.2)

def pool_Pool_States_call {R : Type} (k : Nat) : Fun R := fun f args m K => match f, args with
  | 50, [.slice p0a p0n p0c] => (slices_Clone_int_int k p0a p0n p0c m).bind fun r => K (Value.slice r.1.a r.1.len r.1.cap) r.2
  | _, _ => none

theorem pool_Pool_States_callOk {R : Type} (k : Nat) : CallOk Try.prog (pool_Pool_States_call (R := R) k) := by
  intro f vs m K r h
  unfold pool_Pool_States_call at h
  split at h
  · obtain ⟨r, h1, h2⟩ := Option.bind_eq_some_iff.1 h; exact ⟨_, _, h2, fun K' => by simp only [pool_Pool_States_call, h1, Option.bind_some], slices_Clone_int_int_ok h1⟩
  · cases h

def pool_Pool_States_loop (k : Nat) : Nat → List Value → Mem → (Nat → List Value → Mem → Option (Sl × Mem)) → Option (Sl × Mem) := fun _ _ _ _ => none

def pool_Pool_States_C (k : Nat) : Ctx (Sl × Mem) := ⟨tt, pool_Pool_States_call k, pool_Pool_States_loop k, [], []⟩

def pool_Pool_States_dec : Value → Mem → Option (Sl × Mem) := fun v m => match v with
  | .slice q0a q0n q0c => some ((⟨q0a, q0n, q0c⟩ : Sl), m)
  | _ => none

theorem pool_Pool_States_eq (k : Nat) (p0 : Option Addr) (m : Mem) : fnX (pool_Pool_States_C k) Try.f26 [(Value.pointer p0)] m pool_Pool_States_dec = pool_Pool_States k p0 m := by kernel_rfl

theorem pool_Pool_States_ok {k : Nat} {p0 : Option Addr} {m : Mem} {r : (Sl × Mem)} (h : pool_Pool_States k p0 m = some r) : CallP Try.prog 26 [(Value.pointer p0)] m fun v m' => v = (Value.slice r.1.a r.1.len r.1.cap) ∧ m' = r.2 := by
  refine (fn_sound (C := pool_Pool_States_C k) (c := body Try.f26) tOk mixed (pool_Pool_States_callOk k) Try.func26 (by kernel_rfl) (by kernel_rfl) (by kernel_rfl) (by kernel_rfl) ?_ (Eq.trans (pool_Pool_States_eq k p0 m) h)).mono ?_
  · intro p hp; rw [show loopsOf 0 (body Try.f26) = [] by kernel_rfl] at hp; cases hp
  · intro v m' hp
    unfold pool_Pool_States_dec at hp
    split at hp
    · simp only [Option.some.injEq] at hp; subst hp; exact ⟨rfl, rfl⟩
    · cases hp

/-! ### pool_Pool_State -/
def pool_Pool_State (k : Nat) (p0 : Option Addr) (p1 : Int) (m : Mem) : Option (Int × Value × Mem) :=
  (pool_is k p1 m).bind fun r1 =>
  bif !r1.1 then (
  some (0, (Value.iface ty_api_Code (Value.int .i64 1)), r1.2)) else (
  (p0).bind fun a2 =>
  bif inRange p1 12 then (
  (ldInt .i64 r1.2 (plus (plus a2 0) (Int.toNat p1 * 1))).bind fun t3 =>
  some (t3, Value.nilIface, r1.2)) else none)

def pool_Pool_State_call {R : Type} (k : Nat) : Fun R := fun f args m K => match f, args with
  | 51, [.int .i64 p0] => (pool_is k p0 m).bind fun r => K (Value.bool r.1) r.2
  | _, _ => none

theorem pool_Pool_State_callOk {R : Type} (k : Nat) : CallOk Try.prog (pool_Pool_State_call (R := R) k) := by
  intro f vs m K r h
  unfold pool_Pool_State_call at h
  split at h
  · obtain ⟨r, h1, h2⟩ := Option.bind_eq_some_iff.1 h; exact ⟨_, _, h2, fun K' => by simp only [pool_Pool_State_call, h1, Option.bind_some], pool_is_ok h1⟩
  · cases h

def pool_Pool_State_loop (k : Nat) : Nat → List Value → Mem → (Nat → List Value → Mem → Option (Int × Value × Mem)) → Option (Int × Value × Mem) := fun _ _ _ _ => none

def pool_Pool_State_C (k : Nat) : Ctx (Int × Value × Mem) := ⟨tt, pool_Pool_State_call k, pool_Pool_State_loop k, [], []⟩

def pool_Pool_State_dec : Value → Mem → Option (Int × Value × Mem) := fun v m => match v with
  | .tuple ⟨[.int .i64 q0, q1]⟩ => some (q0, q1, m)
  | _ => none

theorem pool_Pool_State_eq (k : Nat) (p0 : Option Addr) (p1 : Int) (m : Mem) : fnX (pool_Pool_State_C k) Try.f31 [(Value.pointer p0), (Value.int .i64 p1)] m pool_Pool_State_dec = pool_Pool_State k p0 p1 m := by kernel_rfl

theorem pool_Pool_State_ok {k : Nat} {p0 : Option Addr} {p1 : Int} {m : Mem} {r : (Int × Value × Mem)} (h : pool_Pool_State k p0 p1 m = some r) : CallP Try.prog 31 [(Value.pointer p0), (Value.int .i64 p1)] m fun v m' => v = (Value.tuple ⟨[(Value.int .i64 r.1), r.2.1]⟩) ∧ m' = r.2.2 := by
  refine (fn_sound (C := pool_Pool_State_C k) (c := body Try.f31) tOk mixed (pool_Pool_State_callOk k) Try.func31 (by kernel_rfl) (by kernel_rfl) (by kernel_rfl) (by kernel_rfl) ?_ (Eq.trans (pool_Pool_State_eq k p0 p1 m) h)).mono ?_
  · intro p hp; rw [show loopsOf 0 (body Try.f31) = [] by kernel_rfl] at hp; cases hp
  · intro v m' hp
    unfold pool_Pool_State_dec at hp
    split at hp
    · simp only [Option.some.injEq] at hp; subst hp; exact ⟨rfl, rfl⟩
    · cases hp

/-! ### pool_Pool_Spare -/
def pool_Pool_Spare (k : Nat) (p0 : Option Addr) (m : Mem) : Option (Bool × Mem) :=
  (pool_Pool_Count k p0 0 m).bind fun r1 =>
  (pool_Pool_Bound k p0 r1.2).bind fun r2 =>
  some (decide (r1.1 > r2.1), r2.2)

def pool_Pool_Spare_call {R : Type} (k : Nat) : Fun R := fun f args m K => match f, args with
  | 27, [.pointer p0] => (pool_Pool_Bound k p0 m).bind fun r => K (Value.int .i64 r.1) r.2
  | 32, [.pointer p0, .int .i64 p1] => (pool_Pool_Count k p0 p1 m).bind fun r => K (Value.int .i64 r.1) r.2
  | _, _ => none

theorem pool_Pool_Spare_callOk {R : Type} (k : Nat) : CallOk Try.prog (pool_Pool_Spare_call (R := R) k) := by
  intro f vs m K r h
  unfold pool_Pool_Spare_call at h
  split at h
  · obtain ⟨r, h1, h2⟩ := Option.bind_eq_some_iff.1 h; exact ⟨_, _, h2, fun K' => by simp only [pool_Pool_Spare_call, h1, Option.bind_some], pool_Pool_Bound_ok h1⟩
  · obtain ⟨r, h1, h2⟩ := Option.bind_eq_some_iff.1 h; exact ⟨_, _, h2, fun K' => by simp only [pool_Pool_Spare_call, h1, Option.bind_some], pool_Pool_Count_ok h1⟩
  · cases h

def pool_Pool_Spare_loop (k : Nat) : Nat → List Value → Mem → (Nat → List Value → Mem → Option (Bool × Mem)) → Option (Bool × Mem) := fun _ _ _ _ => none

def pool_Pool_Spare_C (k : Nat) : Ctx (Bool × Mem) := ⟨tt, pool_Pool_Spare_call k, pool_Pool_Spare_loop k, [], []⟩

def pool_Pool_Spare_dec : Value → Mem → Option (Bool × Mem) := fun v m => match v with
  | .bool q0 => some (q0, m)
  | _ => none

theorem pool_Pool_Spare_eq (k : Nat) (p0 : Option Addr) (m : Mem) : fnX (pool_Pool_Spare_C k) Try.f57 [(Value.pointer p0)] m pool_Pool_Spare_dec = pool_Pool_Spare k p0 m := by kernel_rfl

theorem pool_Pool_Spare_ok {k : Nat} {p0 : Option Addr} {m : Mem} {r : (Bool × Mem)} (h : pool_Pool_Spare k p0 m = some r) : CallP Try.prog 57 [(Value.pointer p0)] m fun v m' => v = (Value.bool r.1) ∧ m' = r.2 := by
  refine (fn_sound (C := pool_Pool_Spare_C k) (c := body Try.f57) tOk mixed (pool_Pool_Spare_callOk k) Try.func57 (by kernel_rfl) (by kernel_rfl) (by kernel_rfl) (by kernel_rfl) ?_ (Eq.trans (pool_Pool_Spare_eq k p0 m) h)).mono ?_
  · intro p hp; rw [show loopsOf 0 (body Try.f57) = [] by kernel_rfl] at hp; cases hp
  · intro v m' hp
    unfold pool_Pool_Spare_dec at hp
    split at hp
    · simp only [Option.some.injEq] at hp; subst hp; exact ⟨rfl, rfl⟩
    · cases hp

end Go.Proofs.Ytnilidpafijdlab
