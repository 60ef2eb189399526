/- The program's functions as plain Lean functions over a clean memory, each held against the program by the kernel. Written by mx.py. -/
import Derived.Test.YtnilidpafijdlacProg
import Derived.Test.YtnilidpafijdlacMxTab
set_option linter.unusedVariables false
set_option maxRecDepth 100000
namespace Go.Proofs.Ytnilidpafijdlac
open Go.Mx

def tt : TT := tabT [(3, ⟨.int .i64, 1, 8, [.int .i64 0]⟩),
  (4, ⟨.bool, 1, 1, [.bool false]⟩),
  (24, ⟨.ptr 27, 1, 8, [.pointer none]⟩),
  (25, ⟨.slice 3, 1, 24, [.slice none 0 0]⟩),
  (27, ⟨.struct [(25, 0)], 1, 24, ([.slice none 0 0])⟩),
  (35, ⟨.iface, 1, 16, [.nilIface]⟩),
  (43, ⟨.ptr 90, 1, 8, [.pointer none]⟩),
  (46, ⟨.ptr 53, 1, 8, [.pointer none]⟩),
  (49, ⟨.int .i64, 1, 8, [.int .i64 0]⟩),
  (53, ⟨.struct [(3, 0), (3, 1)], 2, 16, ([.int .i64 0] ++ [.int .i64 0])⟩),
  (90, ⟨.struct [(3, 0), (3, 1)], 2, 16, ([.int .i64 0] ++ [.int .i64 0])⟩)]

theorem tOk : TOk Try.prog tt := tabT_ok (by kernel_rfl)

theorem mixed : Try.prog.follows .mixedOrders = true := by kernel_rfl

/-! ### slices_Index_int_int -/
def slices_Index_int_int_l0_b (k : Nat) (nx : Option Addr → Nat → Nat → Int → Int → Int → Mem → Option (Int × Mem)) (kx0 : Int → Mem → Option (Int × Mem)) (kx2 : Mem → Option (Int × Mem)) (x0a : Option Addr) (x0n : Nat) (x0c : Nat) (x1 : Int) (x7 : Int) (x8 : Int) (m : Mem) : Option (Int × Mem) :=
  bif decide (x8 < x7) then (
  bif inRange x8 x0n then (
  (x0a).bind fun a1 =>
  (ldInt .i64 m (plus a1 (Int.toNat x8 * 1))).bind fun t2 =>
  bif x1 == t2 then (
  kx0 x8 m) else (
  nx x0a x0n x0c x1 x7 (IntKind.wrap .i64 (x8 + 1)) m)) else none) else (
  kx2  m)

def slices_Index_int_int_l0 (k : Nat) (kx0 : Int → Mem → Option (Int × Mem)) (kx2 : Mem → Option (Int × Mem)) : Nat → Option Addr → Nat → Nat → Int → Int → Int → Mem → Option (Int × Mem)
  | 0, _, _, _, _, _, _, _ => none
  | n + 1, x0a, x0n, x0c, x1, x7, x8, m => slices_Index_int_int_l0_b k (fun x0a x0n x0c x1 x7 x8 m => slices_Index_int_int_l0 k kx0 kx2 n x0a x0n x0c x1 x7 x8 m) kx0 kx2 x0a x0n x0c x1 x7 x8 m

def slices_Index_int_int (k : Nat) (p0a : Option Addr) (p0n : Nat) (p0c : Nat) (p1 : Int) (m : Mem) : Option (Int × Mem) :=
  slices_Index_int_int_l0 k (fun y4 m3 => 
  some (y4, m3)) (fun m4 => 
  some ((-1), m4)) k p0a p0n p0c p1 ((p0n : Nat) : Int) 0 m

def slices_Index_int_int_call {R : Type} (k : Nat) : Fun R := fun _ _ _ _ => none

theorem slices_Index_int_int_callOk {R : Type} (k : Nat) : CallOk Try.prog (slices_Index_int_int_call (R := R) k) := by
  intro f vs m K r h
  unfold slices_Index_int_int_call at h
  cases h

def slices_Index_int_int_l0_L (k : Nat) (K : Nat → List Value → Mem → Option (Int × Mem)) (n : Nat) (vs : List Value) (m : Mem) : Option (Int × Mem) := match vs with
  | [.slice x0a x0n x0c, .int .i64 x1, .int .i64 x7, .int .i64 x8] => slices_Index_int_int_l0 k (fun y4 m => K 0 [(Value.int .i64 y4)] m) (fun m => K 2 [] m) n x0a x0n x0c x1 x7 x8 m
  | _ => none

def slices_Index_int_int_loop (k : Nat) : Nat → List Value → Mem → (Nat → List Value → Mem → Option (Int × Mem)) → Option (Int × Mem) := fun cur vs m K => match cur with
  | 0 => slices_Index_int_int_l0_L k K k vs m
  | _ => none

def slices_Index_int_int_C (k : Nat) : Ctx (Int × Mem) := ⟨tt, slices_Index_int_int_call k, slices_Index_int_int_loop k, [(0, [0, 1, 7, 8])], [(0, [4]), (2, [])]⟩

noncomputable def slices_Index_int_int_l0_c : Code := ((loopsOf 0 (body Try.f60)).map (·.2)).getD 0 .skip

theorem slices_Index_int_int_loops : loopsOf 0 (body Try.f60) = [(0, slices_Index_int_int_l0_c)] := by kernel_rfl

theorem slices_Index_int_int_l0_ok (k : Nat) : LoopOk (slices_Index_int_int_C k) 0 slices_Index_int_int_l0_c := by
  refine ⟨[0, 1, 7, 8], by kernel_rfl, fun K r => ⟨slices_Index_int_int_l0_L k K, fun vs m h => ⟨k, h⟩, ?_⟩⟩
  intro n vs m h
  unfold slices_Index_int_int_l0_L at h
  split at h
  · cases n with
    | zero => cases h
    | succ n => exact ⟨n, rfl, Eq.trans (by kernel_rfl) h⟩
  · cases h

def slices_Index_int_int_dec : Value → Mem → Option (Int × Mem) := fun v m => match v with
  | .int .i64 q0 => some (q0, m)
  | _ => none

theorem slices_Index_int_int_eq (k : Nat) (p0a : Option Addr) (p0n : Nat) (p0c : Nat) (p1 : Int) (m : Mem) : fnX (slices_Index_int_int_C k) Try.f60 [(Value.slice p0a p0n p0c), (Value.int .i64 p1)] m slices_Index_int_int_dec = slices_Index_int_int k p0a p0n p0c p1 m := by kernel_rfl

theorem slices_Index_int_int_ok {k : Nat} {p0a : Option Addr} {p0n : Nat} {p0c : Nat} {p1 : Int} {m : Mem} {r : (Int × Mem)} (h : slices_Index_int_int k p0a p0n p0c p1 m = some r) : CallP Try.prog 60 [(Value.slice p0a p0n p0c), (Value.int .i64 p1)] m fun v m' => v = (Value.int .i64 r.1) ∧ m' = r.2 := by
  refine (fn_sound (C := slices_Index_int_int_C k) (c := body Try.f60) tOk mixed (slices_Index_int_int_callOk k) Try.func60 (by kernel_rfl) (by kernel_rfl) (by kernel_rfl) (by kernel_rfl) ?_ (Eq.trans (slices_Index_int_int_eq k p0a p0n p0c p1 m) h)).mono ?_
  · intro p hp
    rw [slices_Index_int_int_loops] at hp
    simp only [List.mem_cons, List.not_mem_nil, or_false] at hp
    rcases hp with rfl
    · exact slices_Index_int_int_l0_ok k
  · intro v m' hp
    unfold slices_Index_int_int_dec at hp
    split at hp
    · simp only [Option.some.injEq] at hp; subst hp; exact ⟨rfl, rfl⟩
    · cases hp

/-! ### slices_Contains_int_int -/
def slices_Contains_int_int (k : Nat) (p0a : Option Addr) (p0n : Nat) (p0c : Nat) (p1 : Int) (m : Mem) : Option (Bool × Mem) :=
  (slices_Index_int_int k p0a p0n p0c p1 m).bind fun r1 =>
  some (decide (r1.1 ≥ 0), r1.2)

def slices_Contains_int_int_call {R : Type} (k : Nat) : Fun R := fun f args m K => match f, args with
  | 60, [.slice p0a p0n p0c, .int .i64 p1] => (slices_Index_int_int k p0a p0n p0c p1 m).bind fun r => K (Value.int .i64 r.1) r.2
  | _, _ => none

theorem slices_Contains_int_int_callOk {R : Type} (k : Nat) : CallOk Try.prog (slices_Contains_int_int_call (R := R) k) := by
  intro f vs m K r h
  unfold slices_Contains_int_int_call at h
  split at h
  · obtain ⟨r, h1, h2⟩ := Option.bind_eq_some_iff.1 h; exact ⟨_, _, h2, fun K' => by simp only [slices_Contains_int_int_call, h1, Option.bind_some], slices_Index_int_int_ok h1⟩
  · cases h

def slices_Contains_int_int_loop (k : Nat) : Nat → List Value → Mem → (Nat → List Value → Mem → Option (Bool × Mem)) → Option (Bool × Mem) := fun _ _ _ _ => none

def slices_Contains_int_int_C (k : Nat) : Ctx (Bool × Mem) := ⟨tt, slices_Contains_int_int_call k, slices_Contains_int_int_loop k, [], []⟩

def slices_Contains_int_int_dec : Value → Mem → Option (Bool × Mem) := fun v m => match v with
  | .bool q0 => some (q0, m)
  | _ => none

theorem slices_Contains_int_int_eq (k : Nat) (p0a : Option Addr) (p0n : Nat) (p0c : Nat) (p1 : Int) (m : Mem) : fnX (slices_Contains_int_int_C k) Try.f43 [(Value.slice p0a p0n p0c), (Value.int .i64 p1)] m slices_Contains_int_int_dec = slices_Contains_int_int k p0a p0n p0c p1 m := by kernel_rfl

theorem slices_Contains_int_int_ok {k : Nat} {p0a : Option Addr} {p0n : Nat} {p0c : Nat} {p1 : Int} {m : Mem} {r : (Bool × Mem)} (h : slices_Contains_int_int k p0a p0n p0c p1 m = some r) : CallP Try.prog 43 [(Value.slice p0a p0n p0c), (Value.int .i64 p1)] m fun v m' => v = (Value.bool r.1) ∧ m' = r.2 := by
  refine (fn_sound (C := slices_Contains_int_int_C k) (c := body Try.f43) tOk mixed (slices_Contains_int_int_callOk k) Try.func43 (by kernel_rfl) (by kernel_rfl) (by kernel_rfl) (by kernel_rfl) ?_ (Eq.trans (slices_Contains_int_int_eq k p0a p0n p0c p1 m) h)).mono ?_
  · intro p hp; rw [show loopsOf 0 (body Try.f43) = [] by kernel_rfl] at hp; cases hp
  · intro v m' hp
    unfold slices_Contains_int_int_dec at hp
    split at hp
    · simp only [Option.some.injEq] at hp; subst hp; exact ⟨rfl, rfl⟩
    · cases hp

/-! ### patrol_Queue_Add -/
def patrol_Queue_Add_j1 (k : Nat) (mj : Mem) : Option (Value × Mem) :=
  some (Value.nilIface, mj)

def patrol_Queue_Add (k : Nat) (p0 : Option Addr) (p1 : Int) (m : Mem) : Option (Value × Mem) :=
  bif decide (p1 < 0) then (
  some ((Value.iface 49 (Value.int .i64 1)), m)) else (
  bif decide (p1 ≥ 12) then (
  some ((Value.iface 49 (Value.int .i64 1)), m)) else (
  (p0).bind fun a1 =>
  (ldSl m (plus a1 0)).bind fun t2 =>
  (slices_Contains_int_int k t2.a t2.len t2.cap p1 m).bind fun r3 =>
  bif !r3.1 then (
  (p0).bind fun a4 =>
  (ldSl r3.2 (plus a4 0)).bind fun t5 =>
  let m6 : Mem := r3.2 ++ [.live (putAt (repl 1 (tt 3).zero) 0 1 [(Value.int .i64 p1)])]
  (rdSl m6 (some ⟨List.length r3.2, 0, Option.none⟩) 1 1).bind fun l7 =>
  (appM 1 8 m6 t5.a t5.len t5.cap 1 l7).bind fun r8 =>
  (p0).bind fun a9 =>
  (st r8.2 (plus a9 0) (Value.slice r8.1.a r8.1.len r8.1.cap)).bind fun m10 =>
  patrol_Queue_Add_j1 k  m10) else (
  patrol_Queue_Add_j1 k  r3.2)))

def patrol_Queue_Add_call {R : Type} (k : Nat) : Fun R := fun f args m K => match f, args with
  | 43, [.slice p0a p0n p0c, .int .i64 p1] => (slices_Contains_int_int k p0a p0n p0c p1 m).bind fun r => K (Value.bool r.1) r.2
  | _, _ => none

theorem patrol_Queue_Add_callOk {R : Type} (k : Nat) : CallOk Try.prog (patrol_Queue_Add_call (R := R) k) := by
  intro f vs m K r h
  unfold patrol_Queue_Add_call at h
  split at h
  · obtain ⟨r, h1, h2⟩ := Option.bind_eq_some_iff.1 h; exact ⟨_, _, h2, fun K' => by simp only [patrol_Queue_Add_call, h1, Option.bind_some], slices_Contains_int_int_ok h1⟩
  · cases h

def patrol_Queue_Add_loop (k : Nat) : Nat → List Value → Mem → (Nat → List Value → Mem → Option (Value × Mem)) → Option (Value × Mem) := fun _ _ _ _ => none

def patrol_Queue_Add_C (k : Nat) : Ctx (Value × Mem) := ⟨tt, patrol_Queue_Add_call k, patrol_Queue_Add_loop k, [], []⟩

def patrol_Queue_Add_dec : Value → Mem → Option (Value × Mem) := fun v m => match v with
  | q0 => some (q0, m)

theorem patrol_Queue_Add_eq (k : Nat) (p0 : Option Addr) (p1 : Int) (m : Mem) : fnX (patrol_Queue_Add_C k) Try.f11 [(Value.pointer p0), (Value.int .i64 p1)] m patrol_Queue_Add_dec = patrol_Queue_Add k p0 p1 m := by kernel_rfl

theorem patrol_Queue_Add_ok {k : Nat} {p0 : Option Addr} {p1 : Int} {m : Mem} {r : (Value × Mem)} (h : patrol_Queue_Add k p0 p1 m = some r) : CallP Try.prog 11 [(Value.pointer p0), (Value.int .i64 p1)] m fun v m' => v = r.1 ∧ m' = r.2 := by
  refine (fn_sound (C := patrol_Queue_Add_C k) (c := body Try.f11) tOk mixed (patrol_Queue_Add_callOk k) Try.func11 (by kernel_rfl) (by kernel_rfl) (by kernel_rfl) (by kernel_rfl) ?_ (Eq.trans (patrol_Queue_Add_eq k p0 p1 m) h)).mono ?_
  · intro p hp; rw [show loopsOf 0 (body Try.f11) = [] by kernel_rfl] at hp; cases hp
  · intro v m' hp
    simp only [patrol_Queue_Add_dec, Option.some.injEq] at hp; subst hp; exact ⟨rfl, rfl⟩

/-! ### slices_Clone_int_int -/
def slices_Clone_int_int (k : Nat) (p0a : Option Addr) (p0n : Nat) (p0c : Nat) (m : Mem) : Option (Sl × Mem) :=
  bif Option.isNone p0a then (
  some ((⟨none, 0, 0⟩ : Sl), m)) else (
  let m1 : Mem := m ++ [.live (repl 0 (tt 3).zero)]
  (rdSl m1 p0a p0n 1).bind fun l2 =>
  (appM 1 8 m1 (some ⟨List.length m, 0, Option.none⟩) 0 0 p0n l2).bind fun r3 =>
  some ((⟨r3.1.a, r3.1.len, r3.1.cap⟩ : Sl), r3.2))

def slices_Clone_int_int_call {R : Type} (k : Nat) : Fun R := fun _ _ _ _ => none

theorem slices_Clone_int_int_callOk {R : Type} (k : Nat) : CallOk Try.prog (slices_Clone_int_int_call (R := R) k) := by
  intro f vs m K r h
  unfold slices_Clone_int_int_call at h
  cases h

def slices_Clone_int_int_loop (k : Nat) : Nat → List Value → Mem → (Nat → List Value → Mem → Option (Sl × Mem)) → Option (Sl × Mem) := fun _ _ _ _ => none

def slices_Clone_int_int_C (k : Nat) : Ctx (Sl × Mem) := ⟨tt, slices_Clone_int_int_call k, slices_Clone_int_int_loop k, [], []⟩

def slices_Clone_int_int_dec : Value → Mem → Option (Sl × Mem) := fun v m => match v with
  | .slice q0a q0n q0c => some ((⟨q0a, q0n, q0c⟩ : Sl), m)
  | _ => none

theorem slices_Clone_int_int_eq (k : Nat) (p0a : Option Addr) (p0n : Nat) (p0c : Nat) (m : Mem) : fnX (slices_Clone_int_int_C k) Try.f45 [(Value.slice p0a p0n p0c)] m slices_Clone_int_int_dec = slices_Clone_int_int k p0a p0n p0c m := by kernel_rfl

theorem slices_Clone_int_int_ok {k : Nat} {p0a : Option Addr} {p0n : Nat} {p0c : Nat} {m : Mem} {r : (Sl × Mem)} (h : slices_Clone_int_int k p0a p0n p0c m = some r) : CallP Try.prog 45 [(Value.slice p0a p0n p0c)] m fun v m' => v = (Value.slice r.1.a r.1.len r.1.cap) ∧ m' = r.2 := by
  refine (fn_sound (C := slices_Clone_int_int_C k) (c := body Try.f45) tOk mixed (slices_Clone_int_int_callOk k) Try.func45 (by kernel_rfl) (by kernel_rfl) (by kernel_rfl) (by kernel_rfl) ?_ (Eq.trans (slices_Clone_int_int_eq k p0a p0n p0c m) h)).mono ?_
  · intro p hp; rw [show loopsOf 0 (body Try.f45) = [] by kernel_rfl] at hp; cases hp
  · intro v m' hp
    unfold slices_Clone_int_int_dec at hp
    split at hp
    · simp only [Option.some.injEq] at hp; subst hp; exact ⟨rfl, rfl⟩
    · cases hp

/-! ### patrol_Queue_Next -/
def patrol_Queue_Next (k : Nat) (p0 : Option Addr) (m : Mem) : Option (Int × Bool × Mem) :=
  (p0).bind fun a1 =>
  (ldSl m (plus a1 0)).bind fun t2 =>
  bif ((t2.len : Nat) : Int) == 0 then (
  some (0, false, m)) else (
  (p0).bind fun a3 =>
  (ldSl m (plus a3 0)).bind fun t4 =>
  bif inRange 0 t4.len then (
  (t4.a).bind fun a5 =>
  (ldInt .i64 m (plus a5 (Int.toNat 0 * 1))).bind fun t6 =>
  (p0).bind fun a7 =>
  (ldSl m (plus a7 0)).bind fun t8 =>
  bif sliceK.okZ t8.a 1 false && inUpto 1 t8.len then (
  (slices_Clone_int_int k ((sliceK.clear t8.a false).map fun a => plus a ((Int.toNat 1) * 1)) (t8.len - (Int.toNat 1)) (t8.cap - (Int.toNat 1)) m).bind fun r9 =>
  (p0).bind fun a10 =>
  (st r9.2 (plus a10 0) (Value.slice r9.1.a r9.1.len r9.1.cap)).bind fun m11 =>
  some (t6, true, m11)) else none) else none)

def patrol_Queue_Next_call {R : Type} (k : Nat) : Fun R := fun f args m K => match f, args with
  | 45, [.slice p0a p0n p0c] => (slices_Clone_int_int k p0a p0n p0c m).bind fun r => K (Value.slice r.1.a r.1.len r.1.cap) r.2
  | _, _ => none

theorem patrol_Queue_Next_callOk {R : Type} (k : Nat) : CallOk Try.prog (patrol_Queue_Next_call (R := R) k) := by
  intro f vs m K r h
  unfold patrol_Queue_Next_call at h
  split at h
  · obtain ⟨r, h1, h2⟩ := Option.bind_eq_some_iff.1 h; exact ⟨_, _, h2, fun K' => by simp only [patrol_Queue_Next_call, h1, Option.bind_some], slices_Clone_int_int_ok h1⟩
  · cases h

def patrol_Queue_Next_loop (k : Nat) : Nat → List Value → Mem → (Nat → List Value → Mem → Option (Int × Bool × Mem)) → Option (Int × Bool × Mem) := fun _ _ _ _ => none

def patrol_Queue_Next_C (k : Nat) : Ctx (Int × Bool × Mem) := ⟨tt, patrol_Queue_Next_call k, patrol_Queue_Next_loop k, [], []⟩

def patrol_Queue_Next_dec : Value → Mem → Option (Int × Bool × Mem) := fun v m => match v with
  | .tuple ⟨[.int .i64 q0, .bool q1]⟩ => some (q0, q1, m)
  | _ => none

theorem patrol_Queue_Next_eq (k : Nat) (p0 : Option Addr) (m : Mem) : fnX (patrol_Queue_Next_C k) Try.f14 [(Value.pointer p0)] m patrol_Queue_Next_dec = patrol_Queue_Next k p0 m := by kernel_rfl

theorem patrol_Queue_Next_ok {k : Nat} {p0 : Option Addr} {m : Mem} {r : (Int × Bool × Mem)} (h : patrol_Queue_Next k p0 m = some r) : CallP Try.prog 14 [(Value.pointer p0)] m fun v m' => v = (Value.tuple ⟨[(Value.int .i64 r.1), (Value.bool r.2.1)]⟩) ∧ m' = r.2.2 := by
  refine (fn_sound (C := patrol_Queue_Next_C k) (c := body Try.f14) tOk mixed (patrol_Queue_Next_callOk k) Try.func14 (by kernel_rfl) (by kernel_rfl) (by kernel_rfl) (by kernel_rfl) ?_ (Eq.trans (patrol_Queue_Next_eq k p0 m) h)).mono ?_
  · intro p hp; rw [show loopsOf 0 (body Try.f14) = [] by kernel_rfl] at hp; cases hp
  · intro v m' hp
    unfold patrol_Queue_Next_dec at hp
    split at hp
    · simp only [Option.some.injEq] at hp; subst hp; exact ⟨rfl, rfl⟩
    · cases hp

/-! ### geom_is -/
def geom_is (k : Nat) (p0 : Int) (m : Mem) : Option (Bool × Mem) :=
  bif decide (p0 ≥ 0) then (
  some (decide (p0 < 96), m)) else (
  some (false, m))

def geom_is_call {R : Type} (k : Nat) : Fun R := fun _ _ _ _ => none

theorem geom_is_callOk {R : Type} (k : Nat) : CallOk Try.prog (geom_is_call (R := R) k) := by
  intro f vs m K r h
  unfold geom_is_call at h
  cases h

def geom_is_loop (k : Nat) : Nat → List Value → Mem → (Nat → List Value → Mem → Option (Bool × Mem)) → Option (Bool × Mem) := fun _ _ _ _ => none

def geom_is_C (k : Nat) : Ctx (Bool × Mem) := ⟨tt, geom_is_call k, geom_is_loop k, [], []⟩

def geom_is_dec : Value → Mem → Option (Bool × Mem) := fun v m => match v with
  | .bool q0 => some (q0, m)
  | _ => none

theorem geom_is_eq (k : Nat) (p0 : Int) (m : Mem) : fnX (geom_is_C k) Try.f61 [(Value.int .i64 p0)] m geom_is_dec = geom_is k p0 m := by kernel_rfl

theorem geom_is_ok {k : Nat} {p0 : Int} {m : Mem} {r : (Bool × Mem)} (h : geom_is k p0 m = some r) : CallP Try.prog 61 [(Value.int .i64 p0)] m fun v m' => v = (Value.bool r.1) ∧ m' = r.2 := by
  refine (fn_sound (C := geom_is_C k) (c := body Try.f61) tOk mixed (geom_is_callOk k) Try.func61 (by kernel_rfl) (by kernel_rfl) (by kernel_rfl) (by kernel_rfl) ?_ (Eq.trans (geom_is_eq k p0 m) h)).mono ?_
  · intro p hp; rw [show loopsOf 0 (body Try.f61) = [] by kernel_rfl] at hp; cases hp
  · intro v m' hp
    unfold geom_is_dec at hp
    split at hp
    · simp only [Option.some.injEq] at hp; subst hp; exact ⟨rfl, rfl⟩
    · cases hp

/-! ### geom_Parts -/
def geom_Parts (k : Nat) (p0 : Int) (m : Mem) : Option (Int × Int × Value × Mem) :=
  (geom_is k p0 m).bind fun r1 =>
  bif !r1.1 then (
  some (0, 0, (Value.iface 49 (Value.int .i64 1)), r1.2)) else (
  some (IntKind.wrap .i64 (Int.tdiv p0 8), Int.tmod p0 8, Value.nilIface, r1.2))

def geom_Parts_call {R : Type} (k : Nat) : Fun R := fun f args m K => match f, args with
  | 61, [.int .i64 p0] => (geom_is k p0 m).bind fun r => K (Value.bool r.1) r.2
  | _, _ => none

theorem geom_Parts_callOk {R : Type} (k : Nat) : CallOk Try.prog (geom_Parts_call (R := R) k) := by
  intro f vs m K r h
  unfold geom_Parts_call at h
  split at h
  · obtain ⟨r, h1, h2⟩ := Option.bind_eq_some_iff.1 h; exact ⟨_, _, h2, fun K' => by simp only [geom_Parts_call, h1, Option.bind_some], geom_is_ok h1⟩
  · cases h

def geom_Parts_loop (k : Nat) : Nat → List Value → Mem → (Nat → List Value → Mem → Option (Int × Int × Value × Mem)) → Option (Int × Int × Value × Mem) := fun _ _ _ _ => none

def geom_Parts_C (k : Nat) : Ctx (Int × Int × Value × Mem) := ⟨tt, geom_Parts_call k, geom_Parts_loop k, [], []⟩

def geom_Parts_dec : Value → Mem → Option (Int × Int × Value × Mem) := fun v m => match v with
  | .tuple ⟨[.int .i64 q0, .int .i64 q1, q2]⟩ => some (q0, q1, q2, m)
  | _ => none

theorem geom_Parts_eq (k : Nat) (p0 : Int) (m : Mem) : fnX (geom_Parts_C k) Try.f46 [(Value.int .i64 p0)] m geom_Parts_dec = geom_Parts k p0 m := by kernel_rfl

theorem geom_Parts_ok {k : Nat} {p0 : Int} {m : Mem} {r : (Int × Int × Value × Mem)} (h : geom_Parts k p0 m = some r) : CallP Try.prog 46 [(Value.int .i64 p0)] m fun v m' => v = (Value.tuple ⟨[(Value.int .i64 r.1), (Value.int .i64 r.2.1), r.2.2.1]⟩) ∧ m' = r.2.2.2 := by
  refine (fn_sound (C := geom_Parts_C k) (c := body Try.f46) tOk mixed (geom_Parts_callOk k) Try.func46 (by kernel_rfl) (by kernel_rfl) (by kernel_rfl) (by kernel_rfl) ?_ (Eq.trans (geom_Parts_eq k p0 m) h)).mono ?_
  · intro p hp; rw [show loopsOf 0 (body Try.f46) = [] by kernel_rfl] at hp; cases hp
  · intro v m' hp
    unfold geom_Parts_dec at hp
    split at hp
    · simp only [Option.some.injEq] at hp; subst hp; exact ⟨rfl, rfl⟩
    · cases hp

/-! ### patrol_New -/
def patrol_New (k : Nat) (p0 : Int) (m : Mem) : Option ((Option Addr) × Value × Mem) :=
  (geom_Parts k p0 m).bind fun r1 =>
  (isNil r1.2.2.1).bind fun b2 =>
  bif !b2 then (
  some (none, r1.2.2.1, r1.2.2.2)) else (
  bif Nat.beq (List.length (putAt ((tt 90).zero) 0 1 [(Value.int .i64 p0)])) 2 then (
  let m3 : Mem := r1.2.2.2 ++ [.live (putAt ((tt 90).zero) 0 1 [(Value.int .i64 p0)])]
  some ((some ⟨List.length r1.2.2.2, 0, Option.none⟩), Value.nilIface, m3)) else none)

def patrol_New_call {R : Type} (k : Nat) : Fun R := fun f args m K => match f, args with
  | 46, [.int .i64 p0] => (geom_Parts k p0 m).bind fun r => K (Value.tuple ⟨[(Value.int .i64 r.1), (Value.int .i64 r.2.1), r.2.2.1]⟩) r.2.2.2
  | _, _ => none

theorem patrol_New_callOk {R : Type} (k : Nat) : CallOk Try.prog (patrol_New_call (R := R) k) := by
  intro f vs m K r h
  unfold patrol_New_call at h
  split at h
  · obtain ⟨r, h1, h2⟩ := Option.bind_eq_some_iff.1 h; exact ⟨_, _, h2, fun K' => by simp only [patrol_New_call, h1, Option.bind_some], geom_Parts_ok h1⟩
  · cases h

def patrol_New_loop (k : Nat) : Nat → List Value → Mem → (Nat → List Value → Mem → Option ((Option Addr) × Value × Mem)) → Option ((Option Addr) × Value × Mem) := fun _ _ _ _ => none

def patrol_New_C (k : Nat) : Ctx ((Option Addr) × Value × Mem) := ⟨tt, patrol_New_call k, patrol_New_loop k, [], []⟩

def patrol_New_dec : Value → Mem → Option ((Option Addr) × Value × Mem) := fun v m => match v with
  | .tuple ⟨[.pointer q0, q1]⟩ => some (q0, q1, m)
  | _ => none

theorem patrol_New_eq (k : Nat) (p0 : Int) (m : Mem) : fnX (patrol_New_C k) Try.f17 [(Value.int .i64 p0)] m patrol_New_dec = patrol_New k p0 m := by kernel_rfl

theorem patrol_New_ok {k : Nat} {p0 : Int} {m : Mem} {r : ((Option Addr) × Value × Mem)} (h : patrol_New k p0 m = some r) : CallP Try.prog 17 [(Value.int .i64 p0)] m fun v m' => v = (Value.tuple ⟨[(Value.pointer r.1), r.2.1]⟩) ∧ m' = r.2.2 := by
  refine (fn_sound (C := patrol_New_C k) (c := body Try.f17) tOk mixed (patrol_New_callOk k) Try.func17 (by kernel_rfl) (by kernel_rfl) (by kernel_rfl) (by kernel_rfl) ?_ (Eq.trans (patrol_New_eq k p0 m) h)).mono ?_
  · intro p hp; rw [show loopsOf 0 (body Try.f17) = [] by kernel_rfl] at hp; cases hp
  · intro v m' hp
    unfold patrol_New_dec at hp
    split at hp
    · simp only [Option.some.injEq] at hp; subst hp; exact ⟨rfl, rfl⟩
    · cases hp

/-! ### geom_On -/
def geom_On (k : Nat) (p0 : Int) (p1 : Int) (m : Mem) : Option (Int × Value × Mem) :=
  (geom_is k p0 m).bind fun r1 =>
  bif !r1.1 then (
  some (0, (Value.iface 49 (Value.int .i64 1)), r1.2)) else (
  some (Int.tmod (IntKind.wrap .i64 ((IntKind.wrap .i64 (p0 + (Int.tmod p1 96))) + 96)) 96, Value.nilIface, r1.2))

def geom_On_call {R : Type} (k : Nat) : Fun R := fun f args m K => match f, args with
  | 61, [.int .i64 p0] => (geom_is k p0 m).bind fun r => K (Value.bool r.1) r.2
  | _, _ => none

theorem geom_On_callOk {R : Type} (k : Nat) : CallOk Try.prog (geom_On_call (R := R) k) := by
  intro f vs m K r h
  unfold geom_On_call at h
  split at h
  · obtain ⟨r, h1, h2⟩ := Option.bind_eq_some_iff.1 h; exact ⟨_, _, h2, fun K' => by simp only [geom_On_call, h1, Option.bind_some], geom_is_ok h1⟩
  · cases h

def geom_On_loop (k : Nat) : Nat → List Value → Mem → (Nat → List Value → Mem → Option (Int × Value × Mem)) → Option (Int × Value × Mem) := fun _ _ _ _ => none

def geom_On_C (k : Nat) : Ctx (Int × Value × Mem) := ⟨tt, geom_On_call k, geom_On_loop k, [], []⟩

def geom_On_dec : Value → Mem → Option (Int × Value × Mem) := fun v m => match v with
  | .tuple ⟨[.int .i64 q0, q1]⟩ => some (q0, q1, m)
  | _ => none

theorem geom_On_eq (k : Nat) (p0 : Int) (p1 : Int) (m : Mem) : fnX (geom_On_C k) Try.f47 [(Value.int .i64 p0), (Value.int .i64 p1)] m geom_On_dec = geom_On k p0 p1 m := by kernel_rfl

theorem geom_On_ok {k : Nat} {p0 : Int} {p1 : Int} {m : Mem} {r : (Int × Value × Mem)} (h : geom_On k p0 p1 m = some r) : CallP Try.prog 47 [(Value.int .i64 p0), (Value.int .i64 p1)] m fun v m' => v = (Value.tuple ⟨[(Value.int .i64 r.1), r.2.1]⟩) ∧ m' = r.2.2 := by
  refine (fn_sound (C := geom_On_C k) (c := body Try.f47) tOk mixed (geom_On_callOk k) Try.func47 (by kernel_rfl) (by kernel_rfl) (by kernel_rfl) (by kernel_rfl) ?_ (Eq.trans (geom_On_eq k p0 p1 m) h)).mono ?_
  · intro p hp; rw [show loopsOf 0 (body Try.f47) = [] by kernel_rfl] at hp; cases hp
  · intro v m' hp
    unfold geom_On_dec at hp
    split at hp
    · simp only [Option.some.injEq] at hp; subst hp; exact ⟨rfl, rfl⟩
    · cases hp

/-! ### patrol_Patrol_Step -/
def patrol_Patrol_Step_l0_b (k : Nat) (nx : Option Addr → Option Addr → Nat → Nat → Int → Int → Mem → Option (Sl × Mem)) (kx2 : Option Addr → Option Addr → Nat → Nat → Mem → Option (Sl × Mem)) (x0 : Option Addr) (x3a : Option Addr) (x3n : Nat) (x3c : Nat) (x7 : Int) (x8 : Int) (m : Mem) : Option (Sl × Mem) :=
  bif decide (x8 < x7) then (
  (x0).bind fun a2 =>
  (ldInt .i64 m (plus a2 0)).bind fun t3 =>
  bif inRange x8 x3n then (
  (x3a).bind fun a4 =>
  (st m (plus a4 (Int.toNat x8 * 1)) (Value.int .i64 t3)).bind fun m5 =>
  (x0).bind fun a6 =>
  (ldInt .i64 m5 (plus a6 0)).bind fun t7 =>
  (geom_On k t7 1 m5).bind fun r8 =>
  (x0).bind fun a9 =>
  (st r8.2.2 (plus a9 0) (Value.int .i64 r8.1)).bind fun m10 =>
  nx x0 x3a x3n x3c x7 (IntKind.wrap .i64 (x8 + 1)) m10) else none) else (
  kx2 x0 x3a x3n x3c m)

def patrol_Patrol_Step_l0 (k : Nat) (kx2 : Option Addr → Option Addr → Nat → Nat → Mem → Option (Sl × Mem)) : Nat → Option Addr → Option Addr → Nat → Nat → Int → Int → Mem → Option (Sl × Mem)
  | 0, _, _, _, _, _, _, _ => none
  | n + 1, x0, x3a, x3n, x3c, x7, x8, m => patrol_Patrol_Step_l0_b k (fun x0 x3a x3n x3c x7 x8 m => patrol_Patrol_Step_l0 k kx2 n x0 x3a x3n x3c x7 x8 m) kx2 x0 x3a x3n x3c x7 x8 m

def patrol_Patrol_Step (k : Nat) (p0 : Option Addr) (m : Mem) : Option (Sl × Mem) :=
  let m1 : Mem := m ++ [.live (repl (Int.toNat 8) (tt 3).zero)]
  patrol_Patrol_Step_l0 k (fun y0 y3a y3n y3c m11 => 
  (y0).bind fun a12 =>
  (ldInt .i64 m11 (plus a12 1)).bind fun t13 =>
  (y0).bind fun a14 =>
  (st m11 (plus a14 1) (Value.int .i64 (IntKind.wrap .i64 (t13 + 1)))).bind fun m15 =>
  some ((⟨y3a, y3n, y3c⟩ : Sl), m15)) k p0 (some ⟨List.length m, 0, Option.none⟩) (Int.toNat 8) (Int.toNat 8) (((Int.toNat 8) : Nat) : Int) 0 m1

def patrol_Patrol_Step_call {R : Type} (k : Nat) : Fun R := fun f args m K => match f, args with
  | 47, [.int .i64 p0, .int .i64 p1] => (geom_On k p0 p1 m).bind fun r => K (Value.tuple ⟨[(Value.int .i64 r.1), r.2.1]⟩) r.2.2
  | _, _ => none

theorem patrol_Patrol_Step_callOk {R : Type} (k : Nat) : CallOk Try.prog (patrol_Patrol_Step_call (R := R) k) := by
  intro f vs m K r h
  unfold patrol_Patrol_Step_call at h
  split at h
  · obtain ⟨r, h1, h2⟩ := Option.bind_eq_some_iff.1 h; exact ⟨_, _, h2, fun K' => by simp only [patrol_Patrol_Step_call, h1, Option.bind_some], geom_On_ok h1⟩
  · cases h

def patrol_Patrol_Step_l0_L (k : Nat) (K : Nat → List Value → Mem → Option (Sl × Mem)) (n : Nat) (vs : List Value) (m : Mem) : Option (Sl × Mem) := match vs with
  | [.pointer x0, .slice x3a x3n x3c, .int .i64 x7, .int .i64 x8] => patrol_Patrol_Step_l0 k (fun y0 y3a y3n y3c m => K 2 [(Value.pointer y0), (Value.slice y3a y3n y3c)] m) n x0 x3a x3n x3c x7 x8 m
  | _ => none

def patrol_Patrol_Step_loop (k : Nat) : Nat → List Value → Mem → (Nat → List Value → Mem → Option (Sl × Mem)) → Option (Sl × Mem) := fun cur vs m K => match cur with
  | 0 => patrol_Patrol_Step_l0_L k K k vs m
  | _ => none

def patrol_Patrol_Step_C (k : Nat) : Ctx (Sl × Mem) := ⟨tt, patrol_Patrol_Step_call k, patrol_Patrol_Step_loop k, [(0, [0, 3, 7, 8])], [(2, [0, 3])]⟩

noncomputable def patrol_Patrol_Step_l0_c : Code := ((loopsOf 0 (body Try.f19)).map (·.2)).getD 0 .skip

theorem patrol_Patrol_Step_loops : loopsOf 0 (body Try.f19) = [(0, patrol_Patrol_Step_l0_c)] := by kernel_rfl

theorem patrol_Patrol_Step_l0_ok (k : Nat) : LoopOk (patrol_Patrol_Step_C k) 0 patrol_Patrol_Step_l0_c := by
  refine ⟨[0, 3, 7, 8], by kernel_rfl, fun K r => ⟨patrol_Patrol_Step_l0_L k K, fun vs m h => ⟨k, h⟩, ?_⟩⟩
  intro n vs m h
  unfold patrol_Patrol_Step_l0_L at h
  split at h
  · cases n with
    | zero => cases h
    | succ n => exact ⟨n, rfl, Eq.trans (by kernel_rfl) h⟩
  · cases h

def patrol_Patrol_Step_dec : Value → Mem → Option (Sl × Mem) := fun v m => match v with
  | .slice q0a q0n q0c => some ((⟨q0a, q0n, q0c⟩ : Sl), m)
  | _ => none

theorem patrol_Patrol_Step_eq (k : Nat) (p0 : Option Addr) (m : Mem) : fnX (patrol_Patrol_Step_C k) Try.f19 [(Value.pointer p0)] m patrol_Patrol_Step_dec = patrol_Patrol_Step k p0 m := by kernel_rfl

theorem patrol_Patrol_Step_ok {k : Nat} {p0 : Option Addr} {m : Mem} {r : (Sl × Mem)} (h : patrol_Patrol_Step k p0 m = some r) : CallP Try.prog 19 [(Value.pointer p0)] m fun v m' => v = (Value.slice r.1.a r.1.len r.1.cap) ∧ m' = r.2 := by
  refine (fn_sound (C := patrol_Patrol_Step_C k) (c := body Try.f19) tOk mixed (patrol_Patrol_Step_callOk k) Try.func19 (by kernel_rfl) (by kernel_rfl) (by kernel_rfl) (by kernel_rfl) ?_ (Eq.trans (patrol_Patrol_Step_eq k p0 m) h)).mono ?_
  · intro p hp
    rw [patrol_Patrol_Step_loops] at hp
    simp only [List.mem_cons, List.not_mem_nil, or_false] at hp
    rcases hp with rfl
    · exact patrol_Patrol_Step_l0_ok k
  · intro v m' hp
    unfold patrol_Patrol_Step_dec at hp
    split at hp
    · simp only [Option.some.injEq] at hp; subst hp; exact ⟨rfl, rfl⟩
    · cases hp

/-! ### patrol_Patrol_Cursor -/
def patrol_Patrol_Cursor (k : Nat) (p0 : Option Addr) (m : Mem) : Option (Int × Mem) :=
  (p0).bind fun a1 =>
  (ldInt .i64 m (plus a1 0)).bind fun t2 =>
  some (t2, m)

def patrol_Patrol_Cursor_call {R : Type} (k : Nat) : Fun R := fun _ _ _ _ => none

theorem patrol_Patrol_Cursor_callOk {R : Type} (k : Nat) : CallOk Try.prog (patrol_Patrol_Cursor_call (R := R) k) := by
  intro f vs m K r h
  unfold patrol_Patrol_Cursor_call at h
  cases h

def patrol_Patrol_Cursor_loop (k : Nat) : Nat → List Value → Mem → (Nat → List Value → Mem → Option (Int × Mem)) → Option (Int × Mem) := fun _ _ _ _ => none

def patrol_Patrol_Cursor_C (k : Nat) : Ctx (Int × Mem) := ⟨tt, patrol_Patrol_Cursor_call k, patrol_Patrol_Cursor_loop k, [], []⟩

def patrol_Patrol_Cursor_dec : Value → Mem → Option (Int × Mem) := fun v m => match v with
  | .int .i64 q0 => some (q0, m)
  | _ => none

theorem patrol_Patrol_Cursor_eq (k : Nat) (p0 : Option Addr) (m : Mem) : fnX (patrol_Patrol_Cursor_C k) Try.f23 [(Value.pointer p0)] m patrol_Patrol_Cursor_dec = patrol_Patrol_Cursor k p0 m := by kernel_rfl

theorem patrol_Patrol_Cursor_ok {k : Nat} {p0 : Option Addr} {m : Mem} {r : (Int × Mem)} (h : patrol_Patrol_Cursor k p0 m = some r) : CallP Try.prog 23 [(Value.pointer p0)] m fun v m' => v = (Value.int .i64 r.1) ∧ m' = r.2 := by
  refine (fn_sound (C := patrol_Patrol_Cursor_C k) (c := body Try.f23) tOk mixed (patrol_Patrol_Cursor_callOk k) Try.func23 (by kernel_rfl) (by kernel_rfl) (by kernel_rfl) (by kernel_rfl) ?_ (Eq.trans (patrol_Patrol_Cursor_eq k p0 m) h)).mono ?_
  · intro p hp; rw [show loopsOf 0 (body Try.f23) = [] by kernel_rfl] at hp; cases hp
  · intro v m' hp
    unfold patrol_Patrol_Cursor_dec at hp
    split at hp
    · simp only [Option.some.injEq] at hp; subst hp; exact ⟨rfl, rfl⟩
    · cases hp

/-! ### patrol_Patrol_Calls -/
def patrol_Patrol_Calls (k : Nat) (p0 : Option Addr) (m : Mem) : Option (Int × Mem) :=
  (p0).bind fun a1 =>
  (ldInt .i64 m (plus a1 1)).bind fun t2 =>
  some (t2, m)

def patrol_Patrol_Calls_call {R : Type} (k : Nat) : Fun R := fun _ _ _ _ => none

theorem patrol_Patrol_Calls_callOk {R : Type} (k : Nat) : CallOk Try.prog (patrol_Patrol_Calls_call (R := R) k) := by
  intro f vs m K r h
  unfold patrol_Patrol_Calls_call at h
  cases h

def patrol_Patrol_Calls_loop (k : Nat) : Nat → List Value → Mem → (Nat → List Value → Mem → Option (Int × Mem)) → Option (Int × Mem) := fun _ _ _ _ => none

def patrol_Patrol_Calls_C (k : Nat) : Ctx (Int × Mem) := ⟨tt, patrol_Patrol_Calls_call k, patrol_Patrol_Calls_loop k, [], []⟩

def patrol_Patrol_Calls_dec : Value → Mem → Option (Int × Mem) := fun v m => match v with
  | .int .i64 q0 => some (q0, m)
  | _ => none

theorem patrol_Patrol_Calls_eq (k : Nat) (p0 : Option Addr) (m : Mem) : fnX (patrol_Patrol_Calls_C k) Try.f24 [(Value.pointer p0)] m patrol_Patrol_Calls_dec = patrol_Patrol_Calls k p0 m := by kernel_rfl

theorem patrol_Patrol_Calls_ok {k : Nat} {p0 : Option Addr} {m : Mem} {r : (Int × Mem)} (h : patrol_Patrol_Calls k p0 m = some r) : CallP Try.prog 24 [(Value.pointer p0)] m fun v m' => v = (Value.int .i64 r.1) ∧ m' = r.2 := by
  refine (fn_sound (C := patrol_Patrol_Calls_C k) (c := body Try.f24) tOk mixed (patrol_Patrol_Calls_callOk k) Try.func24 (by kernel_rfl) (by kernel_rfl) (by kernel_rfl) (by kernel_rfl) ?_ (Eq.trans (patrol_Patrol_Calls_eq k p0 m) h)).mono ?_
  · intro p hp; rw [show loopsOf 0 (body Try.f24) = [] by kernel_rfl] at hp; cases hp
  · intro v m' hp
    unfold patrol_Patrol_Calls_dec at hp
    split at hp
    · simp only [Option.some.injEq] at hp; subst hp; exact ⟨rfl, rfl⟩
    · cases hp

/-! ### patinalaw15_up -/
def patinalaw15_up (k : Nat) (m : Mem) : Option (Bool × Mem) :=
  (patrol_New k 90 m).bind fun r1 =>
  bif Option.isNone r1.1 then (
  some (false, r1.2.2)) else (
  (isNil r1.2.1).bind fun b2 =>
  bif !b2 then (
  some (false, r1.2.2)) else (
  (patrol_Patrol_Step k r1.1 r1.2.2).bind fun r3 =>
  bif Nat.beq (List.length ((tt 27).zero)) 1 then (
  let m4 : Mem := r3.2 ++ [.live ((tt 27).zero)]
  (patrol_Queue_Add k (some ⟨List.length r3.2, 0, Option.none⟩) 3 m4).bind fun r5 =>
  (patrol_Queue_Next k (some ⟨List.length r3.2, 0, Option.none⟩) r5.2).bind fun r6 =>
  bif ((r3.1.len : Nat) : Int) == 8 then (
  bif inRange 0 r3.1.len then (
  (r3.1.a).bind fun a7 =>
  (ldInt .i64 r6.2.2 (plus a7 (Int.toNat 0 * 1))).bind fun t8 =>
  bif t8 == 90 then (
  bif inRange 5 r3.1.len then (
  (r3.1.a).bind fun a9 =>
  (ldInt .i64 r6.2.2 (plus a9 (Int.toNat 5 * 1))).bind fun t10 =>
  bif t10 == 95 then (
  bif inRange 6 r3.1.len then (
  (r3.1.a).bind fun a11 =>
  (ldInt .i64 r6.2.2 (plus a11 (Int.toNat 6 * 1))).bind fun t12 =>
  bif t12 == 0 then (
  (patrol_Patrol_Cursor k r1.1 r6.2.2).bind fun r13 =>
  bif r13.1 == 2 then (
  (patrol_Patrol_Calls k r1.1 r13.2).bind fun r14 =>
  bif r14.1 == 1 then (
  (isNil r5.1).bind fun b15 =>
  bif b15 then (
  bif r6.1 == 3 then (
  some (r6.2.1, r14.2)) else (
  some (false, r14.2))) else (
  some (false, r14.2))) else (
  some (false, r14.2))) else (
  some (false, r13.2))) else (
  some (false, r6.2.2))) else none) else (
  some (false, r6.2.2))) else none) else (
  some (false, r6.2.2))) else none) else (
  some (false, r6.2.2))) else none))

def patinalaw15_up_call {R : Type} (k : Nat) : Fun R := fun f args m K => match f, args with
  | 11, [.pointer p0, .int .i64 p1] => (patrol_Queue_Add k p0 p1 m).bind fun r => K r.1 r.2
  | 14, [.pointer p0] => (patrol_Queue_Next k p0 m).bind fun r => K (Value.tuple ⟨[(Value.int .i64 r.1), (Value.bool r.2.1)]⟩) r.2.2
  | 17, [.int .i64 p0] => (patrol_New k p0 m).bind fun r => K (Value.tuple ⟨[(Value.pointer r.1), r.2.1]⟩) r.2.2
  | 19, [.pointer p0] => (patrol_Patrol_Step k p0 m).bind fun r => K (Value.slice r.1.a r.1.len r.1.cap) r.2
  | 23, [.pointer p0] => (patrol_Patrol_Cursor k p0 m).bind fun r => K (Value.int .i64 r.1) r.2
  | 24, [.pointer p0] => (patrol_Patrol_Calls k p0 m).bind fun r => K (Value.int .i64 r.1) r.2
  | _, _ => none

theorem patinalaw15_up_callOk {R : Type} (k : Nat) : CallOk Try.prog (patinalaw15_up_call (R := R) k) := by
  intro f vs m K r h
  unfold patinalaw15_up_call at h
  split at h
  · obtain ⟨r, h1, h2⟩ := Option.bind_eq_some_iff.1 h; exact ⟨_, _, h2, fun K' => by simp only [patinalaw15_up_call, h1, Option.bind_some], patrol_Queue_Add_ok h1⟩
  · obtain ⟨r, h1, h2⟩ := Option.bind_eq_some_iff.1 h; exact ⟨_, _, h2, fun K' => by simp only [patinalaw15_up_call, h1, Option.bind_some], patrol_Queue_Next_ok h1⟩
  · obtain ⟨r, h1, h2⟩ := Option.bind_eq_some_iff.1 h; exact ⟨_, _, h2, fun K' => by simp only [patinalaw15_up_call, h1, Option.bind_some], patrol_New_ok h1⟩
  · obtain ⟨r, h1, h2⟩ := Option.bind_eq_some_iff.1 h; exact ⟨_, _, h2, fun K' => by simp only [patinalaw15_up_call, h1, Option.bind_some], patrol_Patrol_Step_ok h1⟩
  · obtain ⟨r, h1, h2⟩ := Option.bind_eq_some_iff.1 h; exact ⟨_, _, h2, fun K' => by simp only [patinalaw15_up_call, h1, Option.bind_some], patrol_Patrol_Cursor_ok h1⟩
  · obtain ⟨r, h1, h2⟩ := Option.bind_eq_some_iff.1 h; exact ⟨_, _, h2, fun K' => by simp only [patinalaw15_up_call, h1, Option.bind_some], patrol_Patrol_Calls_ok h1⟩
  · cases h

def patinalaw15_up_loop (k : Nat) : Nat → List Value → Mem → (Nat → List Value → Mem → Option (Bool × Mem)) → Option (Bool × Mem) := fun _ _ _ _ => none

def patinalaw15_up_C (k : Nat) : Ctx (Bool × Mem) := ⟨tt, patinalaw15_up_call k, patinalaw15_up_loop k, [], []⟩

def patinalaw15_up_dec : Value → Mem → Option (Bool × Mem) := fun v m => match v with
  | .bool q0 => some (q0, m)
  | _ => none

theorem patinalaw15_up_eq (k : Nat) (m : Mem) : fnX (patinalaw15_up_C k) Try.f9 [] m patinalaw15_up_dec = patinalaw15_up k  m := by kernel_rfl

theorem patinalaw15_up_ok {k : Nat} {m : Mem} {r : (Bool × Mem)} (h : patinalaw15_up k  m = some r) : CallP Try.prog 9 [] m fun v m' => v = (Value.bool r.1) ∧ m' = r.2 := by
  refine (fn_sound (C := patinalaw15_up_C k) (c := body Try.f9) tOk mixed (patinalaw15_up_callOk k) Try.func9 (by kernel_rfl) (by kernel_rfl) (by kernel_rfl) (by kernel_rfl) ?_ (Eq.trans (patinalaw15_up_eq k  m) h)).mono ?_
  · intro p hp; rw [show loopsOf 0 (body Try.f9) = [] by kernel_rfl] at hp; cases hp
  · intro v m' hp
    unfold patinalaw15_up_dec at hp
    split at hp
    · simp only [Option.some.injEq] at hp; subst hp; exact ⟨rfl, rfl⟩
    · cases hp

/-! ### patinalaw15_pick -/
def patinalaw15_pick_j1 (k : Nat) (p1 : Int) (x0_ : Int) (mj : Mem) : Option (Int × Mem) :=
  bif isZero p1 then none else (
  some (Int.tmod x0_ p1, mj))

def patinalaw15_pick (k : Nat) (p0 : Int) (p1 : Int) (m : Mem) : Option (Int × Mem) :=
  bif decide (p0 < 0) then (
  patinalaw15_pick_j1 k p1 (IntKind.wrap .i64 (0 - (IntKind.wrap .i64 (p0 + 1)))) m) else (
  patinalaw15_pick_j1 k p1 p0 m)

def patinalaw15_pick_call {R : Type} (k : Nat) : Fun R := fun _ _ _ _ => none

theorem patinalaw15_pick_callOk {R : Type} (k : Nat) : CallOk Try.prog (patinalaw15_pick_call (R := R) k) := by
  intro f vs m K r h
  unfold patinalaw15_pick_call at h
  cases h

def patinalaw15_pick_loop (k : Nat) : Nat → List Value → Mem → (Nat → List Value → Mem → Option (Int × Mem)) → Option (Int × Mem) := fun _ _ _ _ => none

def patinalaw15_pick_C (k : Nat) : Ctx (Int × Mem) := ⟨tt, patinalaw15_pick_call k, patinalaw15_pick_loop k, [], []⟩

def patinalaw15_pick_dec : Value → Mem → Option (Int × Mem) := fun v m => match v with
  | .int .i64 q0 => some (q0, m)
  | _ => none

theorem patinalaw15_pick_eq (k : Nat) (p0 : Int) (p1 : Int) (m : Mem) : fnX (patinalaw15_pick_C k) Try.f10 [(Value.int .i64 p0), (Value.int .i64 p1)] m patinalaw15_pick_dec = patinalaw15_pick k p0 p1 m := by kernel_rfl

theorem patinalaw15_pick_ok {k : Nat} {p0 : Int} {p1 : Int} {m : Mem} {r : (Int × Mem)} (h : patinalaw15_pick k p0 p1 m = some r) : CallP Try.prog 10 [(Value.int .i64 p0), (Value.int .i64 p1)] m fun v m' => v = (Value.int .i64 r.1) ∧ m' = r.2 := by
  refine (fn_sound (C := patinalaw15_pick_C k) (c := body Try.f10) tOk mixed (patinalaw15_pick_callOk k) Try.func10 (by kernel_rfl) (by kernel_rfl) (by kernel_rfl) (by kernel_rfl) ?_ (Eq.trans (patinalaw15_pick_eq k p0 p1 m) h)).mono ?_
  · intro p hp; rw [show loopsOf 0 (body Try.f10) = [] by kernel_rfl] at hp; cases hp
  · intro v m' hp
    unfold patinalaw15_pick_dec at hp
    split at hp
    · simp only [Option.some.injEq] at hp; subst hp; exact ⟨rfl, rfl⟩
    · cases hp

/-! ### patinaref15_New -/
def patinaref15_New (k : Nat) (p0 : Int) (m : Mem) : Option ((Option Addr) × Bool × Mem) :=
  bif decide (p0 < 0) then (
  some (none, false, m)) else (
  bif decide (p0 > 95) then (
  some (none, false, m)) else (
  bif Nat.beq (List.length (putAt ((tt 53).zero) 0 1 [(Value.int .i64 p0)])) 2 then (
  let m1 : Mem := m ++ [.live (putAt ((tt 53).zero) 0 1 [(Value.int .i64 p0)])]
  some ((some ⟨List.length m, 0, Option.none⟩), true, m1)) else none))

def patinaref15_New_call {R : Type} (k : Nat) : Fun R := fun _ _ _ _ => none

theorem patinaref15_New_callOk {R : Type} (k : Nat) : CallOk Try.prog (patinaref15_New_call (R := R) k) := by
  intro f vs m K r h
  unfold patinaref15_New_call at h
  cases h

def patinaref15_New_loop (k : Nat) : Nat → List Value → Mem → (Nat → List Value → Mem → Option ((Option Addr) × Bool × Mem)) → Option ((Option Addr) × Bool × Mem) := fun _ _ _ _ => none

def patinaref15_New_C (k : Nat) : Ctx ((Option Addr) × Bool × Mem) := ⟨tt, patinaref15_New_call k, patinaref15_New_loop k, [], []⟩

def patinaref15_New_dec : Value → Mem → Option ((Option Addr) × Bool × Mem) := fun v m => match v with
  | .tuple ⟨[.pointer q0, .bool q1]⟩ => some (q0, q1, m)
  | _ => none

theorem patinaref15_New_eq (k : Nat) (p0 : Int) (m : Mem) : fnX (patinaref15_New_C k) Try.f18 [(Value.int .i64 p0)] m patinaref15_New_dec = patinaref15_New k p0 m := by kernel_rfl

theorem patinaref15_New_ok {k : Nat} {p0 : Int} {m : Mem} {r : ((Option Addr) × Bool × Mem)} (h : patinaref15_New k p0 m = some r) : CallP Try.prog 18 [(Value.int .i64 p0)] m fun v m' => v = (Value.tuple ⟨[(Value.pointer r.1), (Value.bool r.2.1)]⟩) ∧ m' = r.2.2 := by
  refine (fn_sound (C := patinaref15_New_C k) (c := body Try.f18) tOk mixed (patinaref15_New_callOk k) Try.func18 (by kernel_rfl) (by kernel_rfl) (by kernel_rfl) (by kernel_rfl) ?_ (Eq.trans (patinaref15_New_eq k p0 m) h)).mono ?_
  · intro p hp; rw [show loopsOf 0 (body Try.f18) = [] by kernel_rfl] at hp; cases hp
  · intro v m' hp
    unfold patinaref15_New_dec at hp
    split at hp
    · simp only [Option.some.injEq] at hp; subst hp; exact ⟨rfl, rfl⟩
    · cases hp

/-! ### patinalaw15_same -/
def patinalaw15_same_l0_b (k : Nat) (nx : Option Addr → Nat → Nat → Option Addr → Nat → Nat → Int → Mem → Option (Bool × Mem)) (kx0 : Bool → Mem → Option (Bool × Mem)) (kx2 : Mem → Option (Bool × Mem)) (x0a : Option Addr) (x0n : Nat) (x0c : Nat) (x1a : Option Addr) (x1n : Nat) (x1c : Nat) (x5 : Int) (m : Mem) : Option (Bool × Mem) :=
  bif decide (x5 < ((x0n : Nat) : Int)) then (
  bif inRange x5 x0n then (
  (x0a).bind fun a1 =>
  (ldInt .i64 m (plus a1 (Int.toNat x5 * 1))).bind fun t2 =>
  bif inRange x5 x1n then (
  (x1a).bind fun a3 =>
  (ldInt .i64 m (plus a3 (Int.toNat x5 * 1))).bind fun t4 =>
  bif t2 != t4 then (
  kx0 false m) else (
  bif inRange x5 x0n then (
  (x0a).bind fun a5 =>
  (st m (plus a5 (Int.toNat x5 * 1)) (Value.int .i64 (-9))).bind fun m6 =>
  nx x0a x0n x0c x1a x1n x1c (IntKind.wrap .i64 (x5 + 1)) m6) else none)) else none) else none) else (
  kx2  m)

def patinalaw15_same_l0 (k : Nat) (kx0 : Bool → Mem → Option (Bool × Mem)) (kx2 : Mem → Option (Bool × Mem)) : Nat → Option Addr → Nat → Nat → Option Addr → Nat → Nat → Int → Mem → Option (Bool × Mem)
  | 0, _, _, _, _, _, _, _, _ => none
  | n + 1, x0a, x0n, x0c, x1a, x1n, x1c, x5, m => patinalaw15_same_l0_b k (fun x0a x0n x0c x1a x1n x1c x5 m => patinalaw15_same_l0 k kx0 kx2 n x0a x0n x0c x1a x1n x1c x5 m) kx0 kx2 x0a x0n x0c x1a x1n x1c x5 m

def patinalaw15_same (k : Nat) (p0a : Option Addr) (p0n : Nat) (p0c : Nat) (p1a : Option Addr) (p1n : Nat) (p1c : Nat) (m : Mem) : Option (Bool × Mem) :=
  bif ((p0n : Nat) : Int) != ((p1n : Nat) : Int) then (
  some (false, m)) else (
  patinalaw15_same_l0 k (fun y4 m7 => 
  some (y4, m7)) (fun m8 => 
  some (true, m8)) k p0a p0n p0c p1a p1n p1c 0 m)

def patinalaw15_same_call {R : Type} (k : Nat) : Fun R := fun _ _ _ _ => none

theorem patinalaw15_same_callOk {R : Type} (k : Nat) : CallOk Try.prog (patinalaw15_same_call (R := R) k) := by
  intro f vs m K r h
  unfold patinalaw15_same_call at h
  cases h

def patinalaw15_same_l0_L (k : Nat) (K : Nat → List Value → Mem → Option (Bool × Mem)) (n : Nat) (vs : List Value) (m : Mem) : Option (Bool × Mem) := match vs with
  | [.slice x0a x0n x0c, .slice x1a x1n x1c, .int .i64 x5] => patinalaw15_same_l0 k (fun y4 m => K 0 [(Value.bool y4)] m) (fun m => K 2 [] m) n x0a x0n x0c x1a x1n x1c x5 m
  | _ => none

def patinalaw15_same_loop (k : Nat) : Nat → List Value → Mem → (Nat → List Value → Mem → Option (Bool × Mem)) → Option (Bool × Mem) := fun cur vs m K => match cur with
  | 0 => patinalaw15_same_l0_L k K k vs m
  | _ => none

def patinalaw15_same_C (k : Nat) : Ctx (Bool × Mem) := ⟨tt, patinalaw15_same_call k, patinalaw15_same_loop k, [(0, [0, 1, 5])], [(0, [4]), (2, [])]⟩

noncomputable def patinalaw15_same_l0_c : Code := ((loopsOf 0 (body Try.f20)).map (·.2)).getD 0 .skip

theorem patinalaw15_same_loops : loopsOf 0 (body Try.f20) = [(0, patinalaw15_same_l0_c)] := by kernel_rfl

theorem patinalaw15_same_l0_ok (k : Nat) : LoopOk (patinalaw15_same_C k) 0 patinalaw15_same_l0_c := by
  refine ⟨[0, 1, 5], by kernel_rfl, fun K r => ⟨patinalaw15_same_l0_L k K, fun vs m h => ⟨k, h⟩, ?_⟩⟩
  intro n vs m h
  unfold patinalaw15_same_l0_L at h
  split at h
  · cases n with
    | zero => cases h
    | succ n => exact ⟨n, rfl, Eq.trans (by kernel_rfl) h⟩
  · cases h

def patinalaw15_same_dec : Value → Mem → Option (Bool × Mem) := fun v m => match v with
  | .bool q0 => some (q0, m)
  | _ => none

theorem patinalaw15_same_eq (k : Nat) (p0a : Option Addr) (p0n : Nat) (p0c : Nat) (p1a : Option Addr) (p1n : Nat) (p1c : Nat) (m : Mem) : fnX (patinalaw15_same_C k) Try.f20 [(Value.slice p0a p0n p0c), (Value.slice p1a p1n p1c)] m patinalaw15_same_dec = patinalaw15_same k p0a p0n p0c p1a p1n p1c m := by kernel_rfl

theorem patinalaw15_same_ok {k : Nat} {p0a : Option Addr} {p0n : Nat} {p0c : Nat} {p1a : Option Addr} {p1n : Nat} {p1c : Nat} {m : Mem} {r : (Bool × Mem)} (h : patinalaw15_same k p0a p0n p0c p1a p1n p1c m = some r) : CallP Try.prog 20 [(Value.slice p0a p0n p0c), (Value.slice p1a p1n p1c)] m fun v m' => v = (Value.bool r.1) ∧ m' = r.2 := by
  refine (fn_sound (C := patinalaw15_same_C k) (c := body Try.f20) tOk mixed (patinalaw15_same_callOk k) Try.func20 (by kernel_rfl) (by kernel_rfl) (by kernel_rfl) (by kernel_rfl) ?_ (Eq.trans (patinalaw15_same_eq k p0a p0n p0c p1a p1n p1c m) h)).mono ?_
  · intro p hp
    rw [patinalaw15_same_loops] at hp
    simp only [List.mem_cons, List.not_mem_nil, or_false] at hp
    rcases hp with rfl
    · exact patinalaw15_same_l0_ok k
  · intro v m' hp
    unfold patinalaw15_same_dec at hp
    split at hp
    · simp only [Option.some.injEq] at hp; subst hp; exact ⟨rfl, rfl⟩
    · cases hp

/-! ### patinaref15_Patrol_Step -/
def patinaref15_Patrol_Step_l0_b (k : Nat) (nx : Option Addr → Option Addr → Nat → Nat → Int → Mem → Option (Sl × Mem)) (kx2 : Option Addr → Option Addr → Nat → Nat → Mem → Option (Sl × Mem)) (x0 : Option Addr) (x3a : Option Addr) (x3n : Nat) (x3c : Nat) (x4 : Int) (m : Mem) : Option (Sl × Mem) :=
  bif decide (x4 < 8) then (
  (x0).bind fun a1 =>
  (ldInt .i64 m (plus a1 0)).bind fun t2 =>
  let m3 : Mem := m ++ [.live (putAt (repl 1 (tt 3).zero) 0 1 [(Value.int .i64 (Int.tmod (IntKind.wrap .i64 (t2 + x4)) 96))])]
  (rdSl m3 (some ⟨List.length m, 0, Option.none⟩) 1 1).bind fun l4 =>
  (appM 1 8 m3 x3a x3n x3c 1 l4).bind fun r5 =>
  nx x0 r5.1.a r5.1.len r5.1.cap (IntKind.wrap .i64 (x4 + 1)) r5.2) else (
  kx2 x0 x3a x3n x3c m)

def patinaref15_Patrol_Step_l0 (k : Nat) (kx2 : Option Addr → Option Addr → Nat → Nat → Mem → Option (Sl × Mem)) : Nat → Option Addr → Option Addr → Nat → Nat → Int → Mem → Option (Sl × Mem)
  | 0, _, _, _, _, _, _ => none
  | n + 1, x0, x3a, x3n, x3c, x4, m => patinaref15_Patrol_Step_l0_b k (fun x0 x3a x3n x3c x4 m => patinaref15_Patrol_Step_l0 k kx2 n x0 x3a x3n x3c x4 m) kx2 x0 x3a x3n x3c x4 m

def patinaref15_Patrol_Step (k : Nat) (p0 : Option Addr) (m : Mem) : Option (Sl × Mem) :=
  patinaref15_Patrol_Step_l0 k (fun y0 y3a y3n y3c m6 => 
  (y0).bind fun a7 =>
  (ldInt .i64 m6 (plus a7 0)).bind fun t8 =>
  (y0).bind fun a9 =>
  (st m6 (plus a9 0) (Value.int .i64 (Int.tmod (IntKind.wrap .i64 (t8 + 8)) 96))).bind fun m10 =>
  (y0).bind fun a11 =>
  (ldInt .i64 m10 (plus a11 1)).bind fun t12 =>
  (y0).bind fun a13 =>
  (st m10 (plus a13 1) (Value.int .i64 (IntKind.wrap .i64 (t12 + 1)))).bind fun m14 =>
  some ((⟨y3a, y3n, y3c⟩ : Sl), m14)) k p0 none 0 0 0 m

def patinaref15_Patrol_Step_call {R : Type} (k : Nat) : Fun R := fun _ _ _ _ => none

theorem patinaref15_Patrol_Step_callOk {R : Type} (k : Nat) : CallOk Try.prog (patinaref15_Patrol_Step_call (R := R) k) := by
  intro f vs m K r h
  unfold patinaref15_Patrol_Step_call at h
  cases h

def patinaref15_Patrol_Step_l0_L (k : Nat) (K : Nat → List Value → Mem → Option (Sl × Mem)) (n : Nat) (vs : List Value) (m : Mem) : Option (Sl × Mem) := match vs with
  | [.pointer x0, .slice x3a x3n x3c, .int .i64 x4] => patinaref15_Patrol_Step_l0 k (fun y0 y3a y3n y3c m => K 2 [(Value.pointer y0), (Value.slice y3a y3n y3c)] m) n x0 x3a x3n x3c x4 m
  | _ => none

def patinaref15_Patrol_Step_loop (k : Nat) : Nat → List Value → Mem → (Nat → List Value → Mem → Option (Sl × Mem)) → Option (Sl × Mem) := fun cur vs m K => match cur with
  | 0 => patinaref15_Patrol_Step_l0_L k K k vs m
  | _ => none

def patinaref15_Patrol_Step_C (k : Nat) : Ctx (Sl × Mem) := ⟨tt, patinaref15_Patrol_Step_call k, patinaref15_Patrol_Step_loop k, [(0, [0, 3, 4])], [(2, [0, 3])]⟩

noncomputable def patinaref15_Patrol_Step_l0_c : Code := ((loopsOf 0 (body Try.f21)).map (·.2)).getD 0 .skip

theorem patinaref15_Patrol_Step_loops : loopsOf 0 (body Try.f21) = [(0, patinaref15_Patrol_Step_l0_c)] := by kernel_rfl

theorem patinaref15_Patrol_Step_l0_ok (k : Nat) : LoopOk (patinaref15_Patrol_Step_C k) 0 patinaref15_Patrol_Step_l0_c := by
  refine ⟨[0, 3, 4], by kernel_rfl, fun K r => ⟨patinaref15_Patrol_Step_l0_L k K, fun vs m h => ⟨k, h⟩, ?_⟩⟩
  intro n vs m h
  unfold patinaref15_Patrol_Step_l0_L at h
  split at h
  · cases n with
    | zero => cases h
    | succ n => exact ⟨n, rfl, Eq.trans (by kernel_rfl) h⟩
  · cases h

def patinaref15_Patrol_Step_dec : Value → Mem → Option (Sl × Mem) := fun v m => match v with
  | .slice q0a q0n q0c => some ((⟨q0a, q0n, q0c⟩ : Sl), m)
  | _ => none

theorem patinaref15_Patrol_Step_eq (k : Nat) (p0 : Option Addr) (m : Mem) : fnX (patinaref15_Patrol_Step_C k) Try.f21 [(Value.pointer p0)] m patinaref15_Patrol_Step_dec = patinaref15_Patrol_Step k p0 m := by kernel_rfl

theorem patinaref15_Patrol_Step_ok {k : Nat} {p0 : Option Addr} {m : Mem} {r : (Sl × Mem)} (h : patinaref15_Patrol_Step k p0 m = some r) : CallP Try.prog 21 [(Value.pointer p0)] m fun v m' => v = (Value.slice r.1.a r.1.len r.1.cap) ∧ m' = r.2 := by
  refine (fn_sound (C := patinaref15_Patrol_Step_C k) (c := body Try.f21) tOk mixed (patinaref15_Patrol_Step_callOk k) Try.func21 (by kernel_rfl) (by kernel_rfl) (by kernel_rfl) (by kernel_rfl) ?_ (Eq.trans (patinaref15_Patrol_Step_eq k p0 m) h)).mono ?_
  · intro p hp
    rw [patinaref15_Patrol_Step_loops] at hp
    simp only [List.mem_cons, List.not_mem_nil, or_false] at hp
    rcases hp with rfl
    · exact patinaref15_Patrol_Step_l0_ok k
  · intro v m' hp
    unfold patinaref15_Patrol_Step_dec at hp
    split at hp
    · simp only [Option.some.injEq] at hp; subst hp; exact ⟨rfl, rfl⟩
    · cases hp

/-! ### patrol_Patrol_Noted -/
def patrol_Patrol_Noted (k : Nat) (p0 : Option Addr) (m : Mem) : Option Mem :=
  (p0).bind fun a1 =>
  (st m (plus a1 1) (Value.int .i64 0)).bind fun m2 =>
  some (m2)

def patrol_Patrol_Noted_call {R : Type} (k : Nat) : Fun R := fun _ _ _ _ => none

theorem patrol_Patrol_Noted_callOk {R : Type} (k : Nat) : CallOk Try.prog (patrol_Patrol_Noted_call (R := R) k) := by
  intro f vs m K r h
  unfold patrol_Patrol_Noted_call at h
  cases h

def patrol_Patrol_Noted_loop (k : Nat) : Nat → List Value → Mem → (Nat → List Value → Mem → Option Mem) → Option Mem := fun _ _ _ _ => none

def patrol_Patrol_Noted_C (k : Nat) : Ctx Mem := ⟨tt, patrol_Patrol_Noted_call k, patrol_Patrol_Noted_loop k, [], []⟩

def patrol_Patrol_Noted_dec : Value → Mem → Option Mem := fun v m => match v with
  | .tuple ⟨[]⟩ => some (m)
  | _ => none

theorem patrol_Patrol_Noted_eq (k : Nat) (p0 : Option Addr) (m : Mem) : fnX (patrol_Patrol_Noted_C k) Try.f22 [(Value.pointer p0)] m patrol_Patrol_Noted_dec = patrol_Patrol_Noted k p0 m := by kernel_rfl

theorem patrol_Patrol_Noted_ok {k : Nat} {p0 : Option Addr} {m : Mem} {r : Mem} (h : patrol_Patrol_Noted k p0 m = some r) : CallP Try.prog 22 [(Value.pointer p0)] m fun v m' => v = (Value.tuple ⟨[]⟩) ∧ m' = r := by
  refine (fn_sound (C := patrol_Patrol_Noted_C k) (c := body Try.f22) tOk mixed (patrol_Patrol_Noted_callOk k) Try.func22 (by kernel_rfl) (by kernel_rfl) (by kernel_rfl) (by kernel_rfl) ?_ (Eq.trans (patrol_Patrol_Noted_eq k p0 m) h)).mono ?_
  · intro p hp; rw [show loopsOf 0 (body Try.f22) = [] by kernel_rfl] at hp; cases hp
  · intro v m' hp
    unfold patrol_Patrol_Noted_dec at hp
    split at hp
    · simp only [Option.some.injEq] at hp; subst hp; exact ⟨rfl, rfl⟩
    · cases hp

/-! ### patrol_Patrol_Due -/
def patrol_Patrol_Due (k : Nat) (p0 : Option Addr) (m : Mem) : Option (Bool × Mem) :=
  (p0).bind fun a1 =>
  (ldInt .i64 m (plus a1 1)).bind fun t2 =>
  some (decide (t2 ≥ 8), m)

def patrol_Patrol_Due_call {R : Type} (k : Nat) : Fun R := fun _ _ _ _ => none

theorem patrol_Patrol_Due_callOk {R : Type} (k : Nat) : CallOk Try.prog (patrol_Patrol_Due_call (R := R) k) := by
  intro f vs m K r h
  unfold patrol_Patrol_Due_call at h
  cases h

def patrol_Patrol_Due_loop (k : Nat) : Nat → List Value → Mem → (Nat → List Value → Mem → Option (Bool × Mem)) → Option (Bool × Mem) := fun _ _ _ _ => none

def patrol_Patrol_Due_C (k : Nat) : Ctx (Bool × Mem) := ⟨tt, patrol_Patrol_Due_call k, patrol_Patrol_Due_loop k, [], []⟩

def patrol_Patrol_Due_dec : Value → Mem → Option (Bool × Mem) := fun v m => match v with
  | .bool q0 => some (q0, m)
  | _ => none

theorem patrol_Patrol_Due_eq (k : Nat) (p0 : Option Addr) (m : Mem) : fnX (patrol_Patrol_Due_C k) Try.f25 [(Value.pointer p0)] m patrol_Patrol_Due_dec = patrol_Patrol_Due k p0 m := by kernel_rfl

theorem patrol_Patrol_Due_ok {k : Nat} {p0 : Option Addr} {m : Mem} {r : (Bool × Mem)} (h : patrol_Patrol_Due k p0 m = some r) : CallP Try.prog 25 [(Value.pointer p0)] m fun v m' => v = (Value.bool r.1) ∧ m' = r.2 := by
  refine (fn_sound (C := patrol_Patrol_Due_C k) (c := body Try.f25) tOk mixed (patrol_Patrol_Due_callOk k) Try.func25 (by kernel_rfl) (by kernel_rfl) (by kernel_rfl) (by kernel_rfl) ?_ (Eq.trans (patrol_Patrol_Due_eq k p0 m) h)).mono ?_
  · intro p hp; rw [show loopsOf 0 (body Try.f25) = [] by kernel_rfl] at hp; cases hp
  · intro v m' hp
    unfold patrol_Patrol_Due_dec at hp
    split at hp
    · simp only [Option.some.injEq] at hp; subst hp; exact ⟨rfl, rfl⟩
    · cases hp

/-! ### patinalaw15_PatrolPlays -/
def patinalaw15_PatrolPlays_j1 (k : Nat) (x1a : Option Addr) (x1n : Nat) (x1c : Nat) (x5 : Bool) (x6 : Option Addr) (x8 : Option Addr) (x10 : Int) (nx : Option Addr → Nat → Nat → Bool → Option Addr → Option Addr → Int → Mem → Option (Bool × Mem)) (kx0 : Bool → Mem → Option (Bool × Mem)) (mj : Mem) : Option (Bool × Mem) :=
  (patrol_Patrol_Cursor k x6 mj).bind fun r6 =>
  (x8).bind fun a7 =>
  (ldInt .i64 r6.2 (plus a7 0)).bind fun t8 =>
  bif r6.1 != t8 then (
  (ldInt .i64 mj (plus a7 0)).bind fun t9 =>
  bif t9 == t8 then (
  kx0 false r6.2) else none) else (
  (patrol_Patrol_Calls k x6 r6.2).bind fun r10 =>
  (x8).bind fun a11 =>
  (ldInt .i64 r10.2 (plus a11 1)).bind fun t12 =>
  bif r10.1 != t12 then (
  (ldInt .i64 mj (plus a7 0)).bind fun t13 =>
  bif t13 == t8 then (
  (ldInt .i64 r6.2 (plus a11 1)).bind fun t14 =>
  bif t14 == t12 then (
  kx0 false r10.2) else none) else none) else (
  (patrol_Patrol_Due k x6 r10.2).bind fun r15 =>
  (x8).bind fun a16 =>
  (ldInt .i64 r15.2 (plus a16 1)).bind fun t17 =>
  (ldInt .i64 mj (plus a7 0)).bind fun t18 =>
  bif t18 == t8 then (
  (ldInt .i64 r6.2 (plus a11 1)).bind fun t19 =>
  bif t19 == t12 then (
  (ldInt .i64 r10.2 (plus a16 1)).bind fun t20 =>
  bif t20 == t17 then (
  bif !(r15.1 == (decide (t17 ≥ 8))) then (
  kx0 false r15.2) else (
  nx x1a x1n x1c x5 x6 x8 (IntKind.wrap .i64 (x10 + 1)) r15.2)) else none) else none) else none))

def patinalaw15_PatrolPlays_j2 (k : Nat) (x1a : Option Addr) (x1n : Nat) (x1c : Nat) (x5 : Bool) (x6 : Option Addr) (x8 : Option Addr) (x10 : Int) (nx : Option Addr → Nat → Nat → Bool → Option Addr → Option Addr → Int → Mem → Option (Bool × Mem)) (kx0 : Bool → Mem → Option (Bool × Mem)) (r23 : Int × Mem) (x53_ : Bool) (mj : Mem) : Option (Bool × Mem) :=
  bif x53_ then (
  (patrol_Patrol_Step k x6 mj).bind fun r24 =>
  (patinaref15_Patrol_Step k x8 r24.2).bind fun r25 =>
  (patinalaw15_same k r24.1.a r24.1.len r24.1.cap r25.1.a r25.1.len r25.1.cap r25.2).bind fun r26 =>
  bif !r26.1 then (
  kx0 false r26.2) else (
  patinalaw15_PatrolPlays_j1 k x1a x1n x1c x5 x6 x8 x10 nx kx0 r26.2)) else (
  bif r23.1 == 2 then (
  (patrol_Patrol_Noted k x6 mj).bind fun r27 =>
  (x8).bind fun a28 =>
  (st r27 (plus a28 1) (Value.int .i64 0)).bind fun m29 =>
  patinalaw15_PatrolPlays_j1 k x1a x1n x1c x5 x6 x8 x10 nx kx0 m29) else (
  patinalaw15_PatrolPlays_j1 k x1a x1n x1c x5 x6 x8 x10 nx kx0 mj))

def patinalaw15_PatrolPlays_l0_b (k : Nat) (nx : Option Addr → Nat → Nat → Bool → Option Addr → Option Addr → Int → Mem → Option (Bool × Mem)) (kx0 : Bool → Mem → Option (Bool × Mem)) (kx2 : Bool → Mem → Option (Bool × Mem)) (x1a : Option Addr) (x1n : Nat) (x1c : Nat) (x5 : Bool) (x6 : Option Addr) (x8 : Option Addr) (x10 : Int) (m : Mem) : Option (Bool × Mem) :=
  bif decide (x10 < ((x1n : Nat) : Int)) then (
  bif inRange x10 x1n then (
  (x1a).bind fun a21 =>
  (ldInt .i64 m (plus a21 (Int.toNat x10 * 1))).bind fun t22 =>
  (patinalaw15_pick k t22 4 m).bind fun r23 =>
  bif r23.1 == 0 then (
  patinalaw15_PatrolPlays_j2 k x1a x1n x1c x5 x6 x8 x10 nx kx0 r23 (r23.1 == 0) r23.2) else (
  patinalaw15_PatrolPlays_j2 k x1a x1n x1c x5 x6 x8 x10 nx kx0 r23 (r23.1 == 1) r23.2)) else none) else (
  kx2 x5 m)

def patinalaw15_PatrolPlays_l0 (k : Nat) (kx0 : Bool → Mem → Option (Bool × Mem)) (kx2 : Bool → Mem → Option (Bool × Mem)) : Nat → Option Addr → Nat → Nat → Bool → Option Addr → Option Addr → Int → Mem → Option (Bool × Mem)
  | 0, _, _, _, _, _, _, _, _ => none
  | n + 1, x1a, x1n, x1c, x5, x6, x8, x10, m => patinalaw15_PatrolPlays_l0_b k (fun x1a x1n x1c x5 x6 x8 x10 m => patinalaw15_PatrolPlays_l0 k kx0 kx2 n x1a x1n x1c x5 x6 x8 x10 m) kx0 kx2 x1a x1n x1c x5 x6 x8 x10 m

def patinalaw15_PatrolPlays (k : Nat) (p0 : Int) (p1a : Option Addr) (p1n : Nat) (p1c : Nat) (m : Mem) : Option (Bool × Mem) :=
  (patinalaw15_up k  m).bind fun r1 =>
  (patrol_New k p0 r1.2).bind fun r2 =>
  (patinaref15_New k p0 r2.2.2).bind fun r3 =>
  bif !r3.2.1 then (
  bif r1.1 then (
  bif Option.isNone r2.1 then (
  (ifEq tt r2.2.1 (Value.iface 49 (Value.int .i64 1))).bind fun b4 =>
  some (b4, r3.2.2)) else (
  some (false, r3.2.2))) else (
  some (false, r3.2.2))) else (
  bif Option.isNone r2.1 then (
  some (false, r3.2.2)) else (
  (isNil r2.2.1).bind fun b5 =>
  bif !b5 then (
  some (false, r3.2.2)) else (
  patinalaw15_PatrolPlays_l0 k (fun y4 m30 => 
  some (y4, m30)) (fun y5 m31 => 
  some (y5, m31)) k p1a p1n p1c r1.1 r2.1 r3.1 0 r3.2.2)))

def patinalaw15_PatrolPlays_call {R : Type} (k : Nat) : Fun R := fun f args m K => match f, args with
  | 9, [] => (patinalaw15_up k  m).bind fun r => K (Value.bool r.1) r.2
  | 10, [.int .i64 p0, .int .i64 p1] => (patinalaw15_pick k p0 p1 m).bind fun r => K (Value.int .i64 r.1) r.2
  | 17, [.int .i64 p0] => (patrol_New k p0 m).bind fun r => K (Value.tuple ⟨[(Value.pointer r.1), r.2.1]⟩) r.2.2
  | 18, [.int .i64 p0] => (patinaref15_New k p0 m).bind fun r => K (Value.tuple ⟨[(Value.pointer r.1), (Value.bool r.2.1)]⟩) r.2.2
  | 19, [.pointer p0] => (patrol_Patrol_Step k p0 m).bind fun r => K (Value.slice r.1.a r.1.len r.1.cap) r.2
  | 20, [.slice p0a p0n p0c, .slice p1a p1n p1c] => (patinalaw15_same k p0a p0n p0c p1a p1n p1c m).bind fun r => K (Value.bool r.1) r.2
  | 21, [.pointer p0] => (patinaref15_Patrol_Step k p0 m).bind fun r => K (Value.slice r.1.a r.1.len r.1.cap) r.2
  | 22, [.pointer p0] => (patrol_Patrol_Noted k p0 m).bind fun r => K (Value.tuple ⟨[]⟩) r
  | 23, [.pointer p0] => (patrol_Patrol_Cursor k p0 m).bind fun r => K (Value.int .i64 r.1) r.2
  | 24, [.pointer p0] => (patrol_Patrol_Calls k p0 m).bind fun r => K (Value.int .i64 r.1) r.2
  | 25, [.pointer p0] => (patrol_Patrol_Due k p0 m).bind fun r => K (Value.bool r.1) r.2
  | _, _ => none

theorem patinalaw15_PatrolPlays_callOk {R : Type} (k : Nat) : CallOk Try.prog (patinalaw15_PatrolPlays_call (R := R) k) := by
  intro f vs m K r h
  unfold patinalaw15_PatrolPlays_call at h
  split at h
  · obtain ⟨r, h1, h2⟩ := Option.bind_eq_some_iff.1 h; exact ⟨_, _, h2, fun K' => by simp only [patinalaw15_PatrolPlays_call, h1, Option.bind_some], patinalaw15_up_ok h1⟩
  · obtain ⟨r, h1, h2⟩ := Option.bind_eq_some_iff.1 h; exact ⟨_, _, h2, fun K' => by simp only [patinalaw15_PatrolPlays_call, h1, Option.bind_some], patinalaw15_pick_ok h1⟩
  · obtain ⟨r, h1, h2⟩ := Option.bind_eq_some_iff.1 h; exact ⟨_, _, h2, fun K' => by simp only [patinalaw15_PatrolPlays_call, h1, Option.bind_some], patrol_New_ok h1⟩
  · obtain ⟨r, h1, h2⟩ := Option.bind_eq_some_iff.1 h; exact ⟨_, _, h2, fun K' => by simp only [patinalaw15_PatrolPlays_call, h1, Option.bind_some], patinaref15_New_ok h1⟩
  · obtain ⟨r, h1, h2⟩ := Option.bind_eq_some_iff.1 h; exact ⟨_, _, h2, fun K' => by simp only [patinalaw15_PatrolPlays_call, h1, Option.bind_some], patrol_Patrol_Step_ok h1⟩
  · obtain ⟨r, h1, h2⟩ := Option.bind_eq_some_iff.1 h; exact ⟨_, _, h2, fun K' => by simp only [patinalaw15_PatrolPlays_call, h1, Option.bind_some], patinalaw15_same_ok h1⟩
  · obtain ⟨r, h1, h2⟩ := Option.bind_eq_some_iff.1 h; exact ⟨_, _, h2, fun K' => by simp only [patinalaw15_PatrolPlays_call, h1, Option.bind_some], patinaref15_Patrol_Step_ok h1⟩
  · obtain ⟨r, h1, h2⟩ := Option.bind_eq_some_iff.1 h; exact ⟨_, _, h2, fun K' => by simp only [patinalaw15_PatrolPlays_call, h1, Option.bind_some], patrol_Patrol_Noted_ok h1⟩
  · obtain ⟨r, h1, h2⟩ := Option.bind_eq_some_iff.1 h; exact ⟨_, _, h2, fun K' => by simp only [patinalaw15_PatrolPlays_call, h1, Option.bind_some], patrol_Patrol_Cursor_ok h1⟩
  · obtain ⟨r, h1, h2⟩ := Option.bind_eq_some_iff.1 h; exact ⟨_, _, h2, fun K' => by simp only [patinalaw15_PatrolPlays_call, h1, Option.bind_some], patrol_Patrol_Calls_ok h1⟩
  · obtain ⟨r, h1, h2⟩ := Option.bind_eq_some_iff.1 h; exact ⟨_, _, h2, fun K' => by simp only [patinalaw15_PatrolPlays_call, h1, Option.bind_some], patrol_Patrol_Due_ok h1⟩
  · cases h

def patinalaw15_PatrolPlays_l0_L (k : Nat) (K : Nat → List Value → Mem → Option (Bool × Mem)) (n : Nat) (vs : List Value) (m : Mem) : Option (Bool × Mem) := match vs with
  | [.slice x1a x1n x1c, .bool x5, .pointer x6, .pointer x8, .int .i64 x10] => patinalaw15_PatrolPlays_l0 k (fun y4 m => K 0 [(Value.bool y4)] m) (fun y5 m => K 2 [(Value.bool y5)] m) n x1a x1n x1c x5 x6 x8 x10 m
  | _ => none

def patinalaw15_PatrolPlays_loop (k : Nat) : Nat → List Value → Mem → (Nat → List Value → Mem → Option (Bool × Mem)) → Option (Bool × Mem) := fun cur vs m K => match cur with
  | 0 => patinalaw15_PatrolPlays_l0_L k K k vs m
  | _ => none

def patinalaw15_PatrolPlays_C (k : Nat) : Ctx (Bool × Mem) := ⟨tt, patinalaw15_PatrolPlays_call k, patinalaw15_PatrolPlays_loop k, [(0, [1, 5, 6, 8, 10])], [(0, [4]), (2, [5])]⟩

noncomputable def patinalaw15_PatrolPlays_l0_c : Code := ((loopsOf 0 (body Try.f4)).map (·.2)).getD 0 .skip

theorem patinalaw15_PatrolPlays_loops : loopsOf 0 (body Try.f4) = [(0, patinalaw15_PatrolPlays_l0_c)] := by kernel_rfl

theorem patinalaw15_PatrolPlays_l0_ok (k : Nat) : LoopOk (patinalaw15_PatrolPlays_C k) 0 patinalaw15_PatrolPlays_l0_c := by
  refine ⟨[1, 5, 6, 8, 10], by kernel_rfl, fun K r => ⟨patinalaw15_PatrolPlays_l0_L k K, fun vs m h => ⟨k, h⟩, ?_⟩⟩
  intro n vs m h
  unfold patinalaw15_PatrolPlays_l0_L at h
  split at h
  · cases n with
    | zero => cases h
    | succ n => exact ⟨n, rfl, Eq.trans (by kernel_rfl) h⟩
  · cases h

def patinalaw15_PatrolPlays_dec : Value → Mem → Option (Bool × Mem) := fun v m => match v with
  | .bool q0 => some (q0, m)
  | _ => none

theorem patinalaw15_PatrolPlays_eq (k : Nat) (p0 : Int) (p1a : Option Addr) (p1n : Nat) (p1c : Nat) (m : Mem) : fnX (patinalaw15_PatrolPlays_C k) Try.f4 [(Value.int .i64 p0), (Value.slice p1a p1n p1c)] m patinalaw15_PatrolPlays_dec = patinalaw15_PatrolPlays k p0 p1a p1n p1c m := by kernel_rfl

theorem patinalaw15_PatrolPlays_ok {k : Nat} {p0 : Int} {p1a : Option Addr} {p1n : Nat} {p1c : Nat} {m : Mem} {r : (Bool × Mem)} (h : patinalaw15_PatrolPlays k p0 p1a p1n p1c m = some r) : CallP Try.prog 4 [(Value.int .i64 p0), (Value.slice p1a p1n p1c)] m fun v m' => v = (Value.bool r.1) ∧ m' = r.2 := by
  refine (fn_sound (C := patinalaw15_PatrolPlays_C k) (c := body Try.f4) tOk mixed (patinalaw15_PatrolPlays_callOk k) Try.func4 (by kernel_rfl) (by kernel_rfl) (by kernel_rfl) (by kernel_rfl) ?_ (Eq.trans (patinalaw15_PatrolPlays_eq k p0 p1a p1n p1c m) h)).mono ?_
  · intro p hp
    rw [patinalaw15_PatrolPlays_loops] at hp
    simp only [List.mem_cons, List.not_mem_nil, or_false] at hp
    rcases hp with rfl
    · exact patinalaw15_PatrolPlays_l0_ok k
  · intro v m' hp
    unfold patinalaw15_PatrolPlays_dec at hp
    split at hp
    · simp only [Option.some.injEq] at hp; subst hp; exact ⟨rfl, rfl⟩
    · cases hp

end Go.Proofs.Ytnilidpafijdlac
