/- The program's functions as plain Lean functions over a clean memory, each held against the program by the kernel. Written by mx.py. -/
import Derived.Test.YtnilidpafijdlabF0
import Derived.Test.YtnilidpafijdlabFpatinalaw00
import Derived.Test.YtnilidpafijdlabFpatinaref11
import Derived.Test.YtnilidpafijdlabFpool
set_option linter.unusedVariables false
set_option maxRecDepth 100000
namespace Go.Proofs.Ytnilidpafijdlab
open Go.Mx

/-! ### patinalaw11_up -/
def patinalaw11_up (k : Nat) (m : Mem) : Option (Bool × Mem) :=
  (pool_New k  m).bind fun r1 =>
  bif Option.isNone r1.1 then (
  some (false, r1.2)) else (
  (pool_Pool_Take k r1.1 r1.2).bind fun r2 =>
  (pool_Pool_Take k r1.1 r2.2.2).bind fun r3 =>
  (pool_Pool_Set k r1.1 0 0 r3.2.2).bind fun r4 =>
  (pool_Pool_Take k r1.1 r4.2).bind fun r5 =>
  bif r2.1 == 0 then (
  bif r3.1 == 1 then (
  bif r5.1 == 2 then (
  (isNil r2.2.1).bind fun b6 =>
  bif b6 then (
  (isNil r3.2.1).bind fun b7 =>
  bif b7 then (
  (isNil r4.1).bind fun b8 =>
  bif b8 then (
  (isNil r5.2.1).bind fun b9 =>
  bif b9 then (
  (pool_Pool_Bound k r1.1 r5.2.2).bind fun r10 =>
  some (r10.1 == 5, r10.2)) else (
  some (false, r5.2.2))) else (
  some (false, r5.2.2))) else (
  some (false, r5.2.2))) else (
  some (false, r5.2.2))) else (
  some (false, r5.2.2))) else (
  some (false, r5.2.2))) else (
  some (false, r5.2.2)))

def patinalaw11_up_call {R : Type} (k : Nat) : Fun R := fun f args m K => match f, args with
  | 25, [] => (pool_New k  m).bind fun r => K (Value.pointer r.1) r.2
  | 27, [.pointer p0] => (pool_Pool_Bound k p0 m).bind fun r => K (Value.int .i64 r.1) r.2
  | 29, [.pointer p0, .int .i64 p1, .int .i64 p2] => (pool_Pool_Set k p0 p1 p2 m).bind fun r => K r.1 r.2
  | 30, [.pointer p0] => (pool_Pool_Take k p0 m).bind fun r => K (Value.tuple ⟨[(Value.int .i64 r.1), r.2.1]⟩) r.2.2
  | _, _ => none

theorem patinalaw11_up_callOk {R : Type} (k : Nat) : CallOk Try.prog (patinalaw11_up_call (R := R) k) := by
  intro f vs m K r h
  unfold patinalaw11_up_call at h
  split at h
  · obtain ⟨r, h1, h2⟩ := Option.bind_eq_some_iff.1 h; exact ⟨_, _, h2, fun K' => by simp only [patinalaw11_up_call, h1, Option.bind_some], pool_New_ok h1⟩
  · obtain ⟨r, h1, h2⟩ := Option.bind_eq_some_iff.1 h; exact ⟨_, _, h2, fun K' => by simp only [patinalaw11_up_call, h1, Option.bind_some], pool_Pool_Bound_ok h1⟩
  · obtain ⟨r, h1, h2⟩ := Option.bind_eq_some_iff.1 h; exact ⟨_, _, h2, fun K' => by simp only [patinalaw11_up_call, h1, Option.bind_some], pool_Pool_Set_ok h1⟩
  · obtain ⟨r, h1, h2⟩ := Option.bind_eq_some_iff.1 h; exact ⟨_, _, h2, fun K' => by simp only [patinalaw11_up_call, h1, Option.bind_some], pool_Pool_Take_ok h1⟩
  · cases h

def patinalaw11_up_loop (k : Nat) : Nat → List Value → Mem → (Nat → List Value → Mem → Option (Bool × Mem)) → Option (Bool × Mem) := fun _ _ _ _ => none

def patinalaw11_up_C (k : Nat) : Ctx (Bool × Mem) := ⟨tt, patinalaw11_up_call k, patinalaw11_up_loop k, [], []⟩

def patinalaw11_up_dec : Value → Mem → Option (Bool × Mem) := fun v m => match v with
  | .bool q0 => some (q0, m)
  | _ => none

theorem patinalaw11_up_eq (k : Nat) (m : Mem) : fnX (patinalaw11_up_C k) Try.f24 [] m patinalaw11_up_dec = patinalaw11_up k  m := by kernel_rfl

theorem patinalaw11_up_ok {k : Nat} {m : Mem} {r : (Bool × Mem)} (h : patinalaw11_up k  m = some r) : CallP Try.prog 24 [] m fun v m' => v = (Value.bool r.1) ∧ m' = r.2 := by
  refine (fn_sound (C := patinalaw11_up_C k) (c := body Try.f24) tOk mixed (patinalaw11_up_callOk k) Try.func24 (by kernel_rfl) (by kernel_rfl) (by kernel_rfl) (by kernel_rfl) ?_ (Eq.trans (patinalaw11_up_eq k  m) h)).mono ?_
  · intro p hp; rw [show loopsOf 0 (body Try.f24) = [] by kernel_rfl] at hp; cases hp
  · intro v m' hp
    unfold patinalaw11_up_dec at hp
    split at hp
    · simp only [Option.some.injEq] at hp; subst hp; exact ⟨rfl, rfl⟩
    · cases hp

/-! ### patinalaw11_pick -/
def patinalaw11_pick_j1 (k : Nat) (p1 : Int) (x0_ : Int) (mj : Mem) : Option (Int × Mem) :=
  bif isZero p1 then none else (
  some (Int.tmod x0_ p1, mj))

def patinalaw11_pick (k : Nat) (p0 : Int) (p1 : Int) (m : Mem) : Option (Int × Mem) :=
  bif decide (p0 < 0) then (
  patinalaw11_pick_j1 k p1 (IntKind.wrap .i64 (0 - (IntKind.wrap .i64 (p0 + 1)))) m) else (
  patinalaw11_pick_j1 k p1 p0 m)

def patinalaw11_pick_call {R : Type} (k : Nat) : Fun R := fun _ _ _ _ => none

theorem patinalaw11_pick_callOk {R : Type} (k : Nat) : CallOk Try.prog (patinalaw11_pick_call (R := R) k) := by
  intro f vs m K r h
  unfold patinalaw11_pick_call at h
  cases h

def patinalaw11_pick_loop (k : Nat) : Nat → List Value → Mem → (Nat → List Value → Mem → Option (Int × Mem)) → Option (Int × Mem) := fun _ _ _ _ => none

def patinalaw11_pick_C (k : Nat) : Ctx (Int × Mem) := ⟨tt, patinalaw11_pick_call k, patinalaw11_pick_loop k, [], []⟩

def patinalaw11_pick_dec : Value → Mem → Option (Int × Mem) := fun v m => match v with
  | .int .i64 q0 => some (q0, m)
  | _ => none

theorem patinalaw11_pick_eq (k : Nat) (p0 : Int) (p1 : Int) (m : Mem) : fnX (patinalaw11_pick_C k) Try.f28 [(Value.int .i64 p0), (Value.int .i64 p1)] m patinalaw11_pick_dec = patinalaw11_pick k p0 p1 m := by kernel_rfl

theorem patinalaw11_pick_ok {k : Nat} {p0 : Int} {p1 : Int} {m : Mem} {r : (Int × Mem)} (h : patinalaw11_pick k p0 p1 m = some r) : CallP Try.prog 28 [(Value.int .i64 p0), (Value.int .i64 p1)] m fun v m' => v = (Value.int .i64 r.1) ∧ m' = r.2 := by
  refine (fn_sound (C := patinalaw11_pick_C k) (c := body Try.f28) tOk mixed (patinalaw11_pick_callOk k) Try.func28 (by kernel_rfl) (by kernel_rfl) (by kernel_rfl) (by kernel_rfl) ?_ (Eq.trans (patinalaw11_pick_eq k p0 p1 m) h)).mono ?_
  · intro p hp; rw [show loopsOf 0 (body Try.f28) = [] by kernel_rfl] at hp; cases hp
  · intro v m' hp
    unfold patinalaw11_pick_dec at hp
    split at hp
    · simp only [Option.some.injEq] at hp; subst hp; exact ⟨rfl, rfl⟩
    · cases hp

/-! ### patinalaw11_stands -/
def patinalaw11_stands_l0_b (k : Nat) (nx : Option Addr → Option Addr → Nat → Nat → Int → Mem → Option (Bool × Mem)) (kx0 : Bool → Mem → Option (Bool × Mem)) (kx2 : Mem → Option (Bool × Mem)) (x1 : Option Addr) (x5a : Option Addr) (x5n : Nat) (x5c : Nat) (x6 : Int) (m : Mem) : Option (Bool × Mem) :=
  bif decide (x6 < ((x5n : Nat) : Int)) then (
  bif inRange x6 x5n then (
  (x5a).bind fun a2 =>
  (ldInt .i64 m (plus a2 (Int.toNat x6 * 1))).bind fun t3 =>
  (x1).bind fun a4 =>
  bif inRange x6 12 then (
  (ldInt .i64 m (plus (plus a4 0) (Int.toNat x6 * 1))).bind fun t5 =>
  bif t3 != t5 then (
  kx0 false m) else (
  bif inRange x6 x5n then (
  (x5a).bind fun a6 =>
  (st m (plus a6 (Int.toNat x6 * 1)) (Value.int .i64 (-7))).bind fun m7 =>
  nx x1 x5a x5n x5c (IntKind.wrap .i64 (x6 + 1)) m7) else none)) else none) else none) else (
  kx2  m)

def patinalaw11_stands_l0 (k : Nat) (kx0 : Bool → Mem → Option (Bool × Mem)) (kx2 : Mem → Option (Bool × Mem)) : Nat → Option Addr → Option Addr → Nat → Nat → Int → Mem → Option (Bool × Mem)
  | 0, _, _, _, _, _, _ => none
  | n + 1, x1, x5a, x5n, x5c, x6, m => patinalaw11_stands_l0_b k (fun x1 x5a x5n x5c x6 m => patinalaw11_stands_l0 k kx0 kx2 n x1 x5a x5n x5c x6 m) kx0 kx2 x1 x5a x5n x5c x6 m

theorem patinalaw11_stands_l0_rule (k : Nat) (kx0 : Bool → Mem → Option (Bool × Mem)) (kx2 : Mem → Option (Bool × Mem)) {P : (Bool × Mem) → Prop} (I : Nat → Option Addr → Option Addr → Nat → Nat → Int → Mem → Prop)
    (step : ∀ d (nx : Option Addr → Option Addr → Nat → Nat → Int → Mem → Option (Bool × Mem)) (x1 : Option Addr) (x5a : Option Addr) (x5n : Nat) (x5c : Nat) (x6 : Int) (m : Mem), I d x1 x5a x5n x5c x6 m → (∀ d' (x1 : Option Addr) (x5a : Option Addr) (x5n : Nat) (x5c : Nat) (x6 : Int) (m : Mem), d' < d → I d' x1 x5a x5n x5c x6 m → Ok (nx x1 x5a x5n x5c x6 m) P) → Ok (patinalaw11_stands_l0_b k nx kx0 kx2 x1 x5a x5n x5c x6 m) P) :
    ∀ n d (x1 : Option Addr) (x5a : Option Addr) (x5n : Nat) (x5c : Nat) (x6 : Int) (m : Mem), d < n → I d x1 x5a x5n x5c x6 m → Ok (patinalaw11_stands_l0 k kx0 kx2 n x1 x5a x5n x5c x6 m) P
  | 0, d, x1, x5a, x5n, x5c, x6, m, h, _ => absurd h (Nat.not_lt_zero _)
  | n + 1, d, x1, x5a, x5n, x5c, x6, m, h, hI => step d _ x1 x5a x5n x5c x6 m hI fun d' x1 x5a x5n x5c x6 m h' hI' => patinalaw11_stands_l0_rule k kx0 kx2 I step n d' x1 x5a x5n x5c x6 m (by omega) hI'

def patinalaw11_stands (k : Nat) (p0 : Option Addr) (p1 : Option Addr) (m : Mem) : Option (Bool × Mem) :=
  (pool_Pool_States k p0 m).bind fun r1 =>
  bif ((r1.1.len : Nat) : Int) != 12 then (
  some (false, r1.2)) else (
  patinalaw11_stands_l0 k (fun y4 m8 => 
  some (y4, m8)) (fun m9 => 
  some (true, m9)) k p1 r1.1.a r1.1.len r1.1.cap 0 r1.2)

def patinalaw11_stands_call {R : Type} (k : Nat) : Fun R := fun f args m K => match f, args with
  | 26, [.pointer p0] => (pool_Pool_States k p0 m).bind fun r => K (Value.slice r.1.a r.1.len r.1.cap) r.2
  | _, _ => none

theorem patinalaw11_stands_callOk {R : Type} (k : Nat) : CallOk Try.prog (patinalaw11_stands_call (R := R) k) := by
  intro f vs m K r h
  unfold patinalaw11_stands_call at h
  split at h
  · obtain ⟨r, h1, h2⟩ := Option.bind_eq_some_iff.1 h; exact ⟨_, _, h2, fun K' => by simp only [patinalaw11_stands_call, h1, Option.bind_some], pool_Pool_States_ok h1⟩
  · cases h

def patinalaw11_stands_l0_L (k : Nat) (K : Nat → List Value → Mem → Option (Bool × Mem)) (n : Nat) (vs : List Value) (m : Mem) : Option (Bool × Mem) := match vs with
  | [.pointer x1, .slice x5a x5n x5c, .int .i64 x6] => patinalaw11_stands_l0 k (fun y4 m => K 0 [(Value.bool y4)] m) (fun m => K 2 [] m) n x1 x5a x5n x5c x6 m
  | _ => none

def patinalaw11_stands_loop (k : Nat) : Nat → List Value → Mem → (Nat → List Value → Mem → Option (Bool × Mem)) → Option (Bool × Mem) := fun cur vs m K => match cur with
  | 0 => patinalaw11_stands_l0_L k K k vs m
  | _ => none

def patinalaw11_stands_C (k : Nat) : Ctx (Bool × Mem) := ⟨tt, patinalaw11_stands_call k, patinalaw11_stands_loop k, [(0, [1, 5, 6])], [(0, [4]), (2, [])]⟩

noncomputable def patinalaw11_stands_l0_c : Code := ((loopsOf 0 (body Try.f36)).map (·.2)).getD 0 .skip

theorem patinalaw11_stands_loops : loopsOf 0 (body Try.f36) = [(0, patinalaw11_stands_l0_c)] := by kernel_rfl

theorem patinalaw11_stands_l0_ok (k : Nat) : LoopOk (patinalaw11_stands_C k) 0 patinalaw11_stands_l0_c := by
  refine ⟨[1, 5, 6], by kernel_rfl, fun K r => ⟨patinalaw11_stands_l0_L k K, fun vs m h => ⟨k, h⟩, ?_⟩⟩
  intro n vs m h
  unfold patinalaw11_stands_l0_L at h
  split at h
  · cases n with
    | zero => cases h
    | succ n => exact ⟨n, rfl, Eq.trans (by kernel_rfl) h⟩
  · cases h

def patinalaw11_stands_dec : Value → Mem → Option (Bool × Mem) := fun v m => match v with
  | .bool q0 => some (q0, m)
  | _ => none

theorem patinalaw11_stands_eq (k : Nat) (p0 : Option Addr) (p1 : Option Addr) (m : Mem) : fnX (patinalaw11_stands_C k) Try.f36 [(Value.pointer p0), (Value.pointer p1)] m patinalaw11_stands_dec = patinalaw11_stands k p0 p1 m := by kernel_rfl

theorem patinalaw11_stands_ok {k : Nat} {p0 : Option Addr} {p1 : Option Addr} {m : Mem} {r : (Bool × Mem)} (h : patinalaw11_stands k p0 p1 m = some r) : CallP Try.prog 36 [(Value.pointer p0), (Value.pointer p1)] m fun v m' => v = (Value.bool r.1) ∧ m' = r.2 := by
  refine (fn_sound (C := patinalaw11_stands_C k) (c := body Try.f36) tOk mixed (patinalaw11_stands_callOk k) Try.func36 (by kernel_rfl) (by kernel_rfl) (by kernel_rfl) (by kernel_rfl) ?_ (Eq.trans (patinalaw11_stands_eq k p0 p1 m) h)).mono ?_
  · intro p hp
    rw [patinalaw11_stands_loops] at hp
    simp only [List.mem_cons, List.not_mem_nil, or_false] at hp
    rcases hp with rfl
    · exact patinalaw11_stands_l0_ok k
  · intro v m' hp
    unfold patinalaw11_stands_dec at hp
    split at hp
    · simp only [Option.some.injEq] at hp; subst hp; exact ⟨rfl, rfl⟩
    · cases hp

/-! ### patinalaw11_step -/
def patinalaw11_step (k : Nat) (p0 : Option Addr) (p1 : Option Addr) (p2 : List Value) (m : Mem) : Option (Bool × Mem) :=
  bif Nat.beq (List.length p2) 3 then (
  let m1 : Mem := m ++ [.live p2]
  (ldInt .i64 m1 (plus ⟨List.length m, 0, Option.none⟩ 0)).bind fun t2 =>
  (patinalaw11_pick k t2 6 m1).bind fun r3 =>
  bif r3.1 == 0 then (
  (ldInt .i64 r3.2 (plus ⟨List.length m, 0, Option.none⟩ 1)).bind fun t4 =>
  (ldInt .i64 r3.2 (plus ⟨List.length m, 0, Option.none⟩ 2)).bind fun t5 =>
  (pool_Pool_Set k p0 t4 t5 r3.2).bind fun r6 =>
  (patinalaw00_Code k r6.1 r6.2).bind fun r7 =>
  (ldInt .i64 r7.2 (plus ⟨List.length m, 0, Option.none⟩ 1)).bind fun t8 =>
  (ldInt .i64 r7.2 (plus ⟨List.length m, 0, Option.none⟩ 2)).bind fun t9 =>
  (patinaref11_Pool_Set k p1 t8 t9 r7.2).bind fun r10 =>
  (ldInt .i64 r6.2 (plus ⟨List.length m, 0, Option.none⟩ 1)).bind fun t11 =>
  bif t11 == t8 then (
  (ldInt .i64 r6.2 (plus ⟨List.length m, 0, Option.none⟩ 2)).bind fun t12 =>
  bif t12 == t9 then (
  some (r7.1 == r10.1, r10.2)) else none) else none) else (
  bif r3.1 == 1 then (
  (pool_Pool_Take k p0 r3.2).bind fun r13 =>
  (patinaref11_Pool_Take k p1 r13.2.2).bind fun r14 =>
  bif r13.1 == r14.1 then (
  (patinalaw00_Code k r13.2.1 r14.2.2).bind fun r15 =>
  some (r15.1 == r14.2.1, r15.2)) else (
  some (false, r14.2.2))) else (
  bif r3.1 == 2 then (
  (ldInt .i64 r3.2 (plus ⟨List.length m, 0, Option.none⟩ 1)).bind fun t16 =>
  (pool_Pool_State k p0 t16 r3.2).bind fun r17 =>
  (ldInt .i64 r17.2.2 (plus ⟨List.length m, 0, Option.none⟩ 1)).bind fun t18 =>
  (patinaref11_Pool_State k p1 t18 r17.2.2).bind fun r19 =>
  bif r17.1 == r19.1 then (
  (patinalaw00_Code k r17.2.1 r19.2.2).bind fun r20 =>
  some (r20.1 == r19.2.1, r20.2)) else (
  some (false, r19.2.2))) else (
  bif r3.1 == 3 then (
  (ldInt .i64 r3.2 (plus ⟨List.length m, 0, Option.none⟩ 2)).bind fun t21 =>
  (pool_Pool_Count k p0 t21 r3.2).bind fun r22 =>
  (ldInt .i64 r22.2 (plus ⟨List.length m, 0, Option.none⟩ 2)).bind fun t23 =>
  (patinaref11_Pool_Count k p1 t23 r22.2).bind fun r24 =>
  (ldInt .i64 r3.2 (plus ⟨List.length m, 0, Option.none⟩ 2)).bind fun t25 =>
  bif t25 == t23 then (
  some (r22.1 == r24.1, r24.2)) else none) else (
  bif r3.1 == 4 then (
  (patinalaw11_stands k p0 p1 r3.2).bind fun r26 =>
  some (r26.1, r26.2)) else (
  (pool_Pool_Bound k p0 r3.2).bind fun r27 =>
  (patinaref11_Pool_Bound k p1 r27.2).bind fun r28 =>
  bif r27.1 == r28.1 then (
  (pool_Pool_Spare k p0 r28.2).bind fun r29 =>
  (patinaref11_Pool_Spare k p1 r29.2).bind fun r30 =>
  bif r29.1 == r30.1 then (
  (pool_Pool_Worn k p0 r30.2).bind fun r31 =>
  (patinaref11_Pool_Worn k p1 r31.2).bind fun r32 =>
  some (r31.1 == r32.1, r32.2)) else (
  some (false, r30.2))) else (
  some (false, r28.2)))))))) else none

def patinalaw11_step_call {R : Type} (k : Nat) : Fun R := fun f args m K => match f, args with
  | 13, [p0] => (patinalaw00_Code k p0 m).bind fun r => K (Value.int .i64 r.1) r.2
  | 27, [.pointer p0] => (pool_Pool_Bound k p0 m).bind fun r => K (Value.int .i64 r.1) r.2
  | 28, [.int .i64 p0, .int .i64 p1] => (patinalaw11_pick k p0 p1 m).bind fun r => K (Value.int .i64 r.1) r.2
  | 29, [.pointer p0, .int .i64 p1, .int .i64 p2] => (pool_Pool_Set k p0 p1 p2 m).bind fun r => K r.1 r.2
  | 30, [.pointer p0] => (pool_Pool_Take k p0 m).bind fun r => K (Value.tuple ⟨[(Value.int .i64 r.1), r.2.1]⟩) r.2.2
  | 31, [.pointer p0, .int .i64 p1] => (pool_Pool_State k p0 p1 m).bind fun r => K (Value.tuple ⟨[(Value.int .i64 r.1), r.2.1]⟩) r.2.2
  | 32, [.pointer p0, .int .i64 p1] => (pool_Pool_Count k p0 p1 m).bind fun r => K (Value.int .i64 r.1) r.2
  | 33, [.pointer p0] => (pool_Pool_Worn k p0 m).bind fun r => K (Value.bool r.1) r.2
  | 36, [.pointer p0, .pointer p1] => (patinalaw11_stands k p0 p1 m).bind fun r => K (Value.bool r.1) r.2
  | 52, [.pointer p0, .int .i64 p1, .int .i64 p2] => (patinaref11_Pool_Set k p0 p1 p2 m).bind fun r => K (Value.int .i64 r.1) r.2
  | 53, [.pointer p0] => (patinaref11_Pool_Take k p0 m).bind fun r => K (Value.tuple ⟨[(Value.int .i64 r.1), (Value.int .i64 r.2.1)]⟩) r.2.2
  | 54, [.pointer p0, .int .i64 p1] => (patinaref11_Pool_State k p0 p1 m).bind fun r => K (Value.tuple ⟨[(Value.int .i64 r.1), (Value.int .i64 r.2.1)]⟩) r.2.2
  | 55, [.pointer p0, .int .i64 p1] => (patinaref11_Pool_Count k p0 p1 m).bind fun r => K (Value.int .i64 r.1) r.2
  | 56, [.pointer p0] => (patinaref11_Pool_Bound k p0 m).bind fun r => K (Value.int .i64 r.1) r.2
  | 57, [.pointer p0] => (pool_Pool_Spare k p0 m).bind fun r => K (Value.bool r.1) r.2
  | 58, [.pointer p0] => (patinaref11_Pool_Spare k p0 m).bind fun r => K (Value.bool r.1) r.2
  | 59, [.pointer p0] => (patinaref11_Pool_Worn k p0 m).bind fun r => K (Value.bool r.1) r.2
  | _, _ => none

theorem patinalaw11_step_callOk {R : Type} (k : Nat) : CallOk Try.prog (patinalaw11_step_call (R := R) k) := by
  intro f vs m K r h
  unfold patinalaw11_step_call at h
  split at h
  · obtain ⟨r, h1, h2⟩ := Option.bind_eq_some_iff.1 h; exact ⟨_, _, h2, fun K' => by simp only [patinalaw11_step_call, h1, Option.bind_some], patinalaw00_Code_ok h1⟩
  · obtain ⟨r, h1, h2⟩ := Option.bind_eq_some_iff.1 h; exact ⟨_, _, h2, fun K' => by simp only [patinalaw11_step_call, h1, Option.bind_some], pool_Pool_Bound_ok h1⟩
  · obtain ⟨r, h1, h2⟩ := Option.bind_eq_some_iff.1 h; exact ⟨_, _, h2, fun K' => by simp only [patinalaw11_step_call, h1, Option.bind_some], patinalaw11_pick_ok h1⟩
  · obtain ⟨r, h1, h2⟩ := Option.bind_eq_some_iff.1 h; exact ⟨_, _, h2, fun K' => by simp only [patinalaw11_step_call, h1, Option.bind_some], pool_Pool_Set_ok h1⟩
  · obtain ⟨r, h1, h2⟩ := Option.bind_eq_some_iff.1 h; exact ⟨_, _, h2, fun K' => by simp only [patinalaw11_step_call, h1, Option.bind_some], pool_Pool_Take_ok h1⟩
  · obtain ⟨r, h1, h2⟩ := Option.bind_eq_some_iff.1 h; exact ⟨_, _, h2, fun K' => by simp only [patinalaw11_step_call, h1, Option.bind_some], pool_Pool_State_ok h1⟩
  · obtain ⟨r, h1, h2⟩ := Option.bind_eq_some_iff.1 h; exact ⟨_, _, h2, fun K' => by simp only [patinalaw11_step_call, h1, Option.bind_some], pool_Pool_Count_ok h1⟩
  · obtain ⟨r, h1, h2⟩ := Option.bind_eq_some_iff.1 h; exact ⟨_, _, h2, fun K' => by simp only [patinalaw11_step_call, h1, Option.bind_some], pool_Pool_Worn_ok h1⟩
  · obtain ⟨r, h1, h2⟩ := Option.bind_eq_some_iff.1 h; exact ⟨_, _, h2, fun K' => by simp only [patinalaw11_step_call, h1, Option.bind_some], patinalaw11_stands_ok h1⟩
  · obtain ⟨r, h1, h2⟩ := Option.bind_eq_some_iff.1 h; exact ⟨_, _, h2, fun K' => by simp only [patinalaw11_step_call, h1, Option.bind_some], patinaref11_Pool_Set_ok h1⟩
  · obtain ⟨r, h1, h2⟩ := Option.bind_eq_some_iff.1 h; exact ⟨_, _, h2, fun K' => by simp only [patinalaw11_step_call, h1, Option.bind_some], patinaref11_Pool_Take_ok h1⟩
  · obtain ⟨r, h1, h2⟩ := Option.bind_eq_some_iff.1 h; exact ⟨_, _, h2, fun K' => by simp only [patinalaw11_step_call, h1, Option.bind_some], patinaref11_Pool_State_ok h1⟩
  · obtain ⟨r, h1, h2⟩ := Option.bind_eq_some_iff.1 h; exact ⟨_, _, h2, fun K' => by simp only [patinalaw11_step_call, h1, Option.bind_some], patinaref11_Pool_Count_ok h1⟩
  · obtain ⟨r, h1, h2⟩ := Option.bind_eq_some_iff.1 h; exact ⟨_, _, h2, fun K' => by simp only [patinalaw11_step_call, h1, Option.bind_some], patinaref11_Pool_Bound_ok h1⟩
  · obtain ⟨r, h1, h2⟩ := Option.bind_eq_some_iff.1 h; exact ⟨_, _, h2, fun K' => by simp only [patinalaw11_step_call, h1, Option.bind_some], pool_Pool_Spare_ok h1⟩
  · obtain ⟨r, h1, h2⟩ := Option.bind_eq_some_iff.1 h; exact ⟨_, _, h2, fun K' => by simp only [patinalaw11_step_call, h1, Option.bind_some], patinaref11_Pool_Spare_ok h1⟩
  · obtain ⟨r, h1, h2⟩ := Option.bind_eq_some_iff.1 h; exact ⟨_, _, h2, fun K' => by simp only [patinalaw11_step_call, h1, Option.bind_some], patinaref11_Pool_Worn_ok h1⟩
  · cases h

def patinalaw11_step_loop (k : Nat) : Nat → List Value → Mem → (Nat → List Value → Mem → Option (Bool × Mem)) → Option (Bool × Mem) := fun _ _ _ _ => none

def patinalaw11_step_C (k : Nat) : Ctx (Bool × Mem) := ⟨tt, patinalaw11_step_call k, patinalaw11_step_loop k, [], []⟩

def patinalaw11_step_dec : Value → Mem → Option (Bool × Mem) := fun v m => match v with
  | .bool q0 => some (q0, m)
  | _ => none

theorem patinalaw11_step_eq (k : Nat) (p0 : Option Addr) (p1 : Option Addr) (p2 : List Value) (m : Mem) : fnX (patinalaw11_step_C k) Try.f35 [(Value.pointer p0), (Value.pointer p1), (Value.agg ⟨p2⟩)] m patinalaw11_step_dec = patinalaw11_step k p0 p1 p2 m := by kernel_rfl

theorem patinalaw11_step_ok {k : Nat} {p0 : Option Addr} {p1 : Option Addr} {p2 : List Value} {m : Mem} {r : (Bool × Mem)} (h : patinalaw11_step k p0 p1 p2 m = some r) : CallP Try.prog 35 [(Value.pointer p0), (Value.pointer p1), (Value.agg ⟨p2⟩)] m fun v m' => v = (Value.bool r.1) ∧ m' = r.2 := by
  refine (fn_sound (C := patinalaw11_step_C k) (c := body Try.f35) tOk mixed (patinalaw11_step_callOk k) Try.func35 (by kernel_rfl) (by kernel_rfl) (by kernel_rfl) (by kernel_rfl) ?_ (Eq.trans (patinalaw11_step_eq k p0 p1 p2 m) h)).mono ?_
  · intro p hp; rw [show loopsOf 0 (body Try.f35) = [] by kernel_rfl] at hp; cases hp
  · intro v m' hp
    unfold patinalaw11_step_dec at hp
    split at hp
    · simp only [Option.some.injEq] at hp; subst hp; exact ⟨rfl, rfl⟩
    · cases hp

end Go.Proofs.Ytnilidpafijdlab
