/- The program's functions as plain Lean functions over a clean memory, each held against the program by the kernel. Written by mx.py. -/
import Derived.Test.YtnilidpafijdlabF0
import Derived.Test.YtnilidpafijdlabFpatinalaw11
import Derived.Test.YtnilidpafijdlabFpool
set_option linter.unusedVariables false
set_option maxRecDepth 100000
namespace Go.Proofs.Ytnilidpafijdlab
open Go.Mx

/-! ### patinalaw11_PoolKeeps -/
def patinalaw11_PoolKeeps_j2 (k : Nat) (x0a : Option Addr) (x0n : Nat) (x0c : Nat) (x4 : Option Addr) (x5 : Int) (x6 : Int) (x7a : Option Addr) (x7n : Nat) (x7c : Nat) (x8 : Int) (x14a : Option Addr) (x14n : Nat) (x14c : Nat) (x15 : Int) (nx : Option Addr → Nat → Nat → Option Addr → Int → Int → Option Addr → Nat → Nat → Int → Option Addr → Nat → Nat → Int → Mem → Option (Bool × Mem)) (mj : Mem) : Option (Bool × Mem) :=
  nx x0a x0n x0c x4 x5 x6 x7a x7n x7c x8 x14a x14n x14c (IntKind.wrap .i64 (x15 + 1)) mj

def patinalaw11_PoolKeeps_l2_b (k : Nat) (nx : Option Addr → Nat → Nat → Option Addr → Int → Int → Option Addr → Nat → Nat → Int → Option Addr → Nat → Nat → Int → Mem → Option (Bool × Mem)) (kx0 : Bool → Mem → Option (Bool × Mem)) (kx4 : Option Addr → Nat → Nat → Option Addr → Int → Int → Int → Mem → Option (Bool × Mem)) (x0a : Option Addr) (x0n : Nat) (x0c : Nat) (x4 : Option Addr) (x5 : Int) (x6 : Int) (x7a : Option Addr) (x7n : Nat) (x7c : Nat) (x8 : Int) (x14a : Option Addr) (x14n : Nat) (x14c : Nat) (x15 : Int) (m : Mem) : Option (Bool × Mem) :=
  bif decide (x15 < 12) then (
  bif inRange x15 x7n then (
  (x7a).bind fun a10 =>
  (ldInt .i64 m (plus a10 (Int.toNat x15 * 1))).bind fun t11 =>
  bif t11 == 3 then (
  bif inRange x15 x14n then (
  (x14a).bind fun a12 =>
  (ldInt .i64 m (plus a12 (Int.toNat x15 * 1))).bind fun t13 =>
  bif t13 != 3 then (
  kx0 false m) else (
  patinalaw11_PoolKeeps_j2 k x0a x0n x0c x4 x5 x6 x7a x7n x7c x8 x14a x14n x14c x15 nx m)) else none) else (
  patinalaw11_PoolKeeps_j2 k x0a x0n x0c x4 x5 x6 x7a x7n x7c x8 x14a x14n x14c x15 nx m)) else none) else (
  kx4 x0a x0n x0c x4 x5 x6 x8 m)

def patinalaw11_PoolKeeps_l2 (k : Nat) (kx0 : Bool → Mem → Option (Bool × Mem)) (kx4 : Option Addr → Nat → Nat → Option Addr → Int → Int → Int → Mem → Option (Bool × Mem)) : Nat → Option Addr → Nat → Nat → Option Addr → Int → Int → Option Addr → Nat → Nat → Int → Option Addr → Nat → Nat → Int → Mem → Option (Bool × Mem)
  | 0, _, _, _, _, _, _, _, _, _, _, _, _, _, _, _ => none
  | n + 1, x0a, x0n, x0c, x4, x5, x6, x7a, x7n, x7c, x8, x14a, x14n, x14c, x15, m => patinalaw11_PoolKeeps_l2_b k (fun x0a x0n x0c x4 x5 x6 x7a x7n x7c x8 x14a x14n x14c x15 m => patinalaw11_PoolKeeps_l2 k kx0 kx4 n x0a x0n x0c x4 x5 x6 x7a x7n x7c x8 x14a x14n x14c x15 m) kx0 kx4 x0a x0n x0c x4 x5 x6 x7a x7n x7c x8 x14a x14n x14c x15 m

theorem patinalaw11_PoolKeeps_l2_rule (k : Nat) (kx0 : Bool → Mem → Option (Bool × Mem)) (kx4 : Option Addr → Nat → Nat → Option Addr → Int → Int → Int → Mem → Option (Bool × Mem)) {P : (Bool × Mem) → Prop} (I : Nat → Option Addr → Nat → Nat → Option Addr → Int → Int → Option Addr → Nat → Nat → Int → Option Addr → Nat → Nat → Int → Mem → Prop)
    (step : ∀ d (nx : Option Addr → Nat → Nat → Option Addr → Int → Int → Option Addr → Nat → Nat → Int → Option Addr → Nat → Nat → Int → Mem → Option (Bool × Mem)) (x0a : Option Addr) (x0n : Nat) (x0c : Nat) (x4 : Option Addr) (x5 : Int) (x6 : Int) (x7a : Option Addr) (x7n : Nat) (x7c : Nat) (x8 : Int) (x14a : Option Addr) (x14n : Nat) (x14c : Nat) (x15 : Int) (m : Mem), I d x0a x0n x0c x4 x5 x6 x7a x7n x7c x8 x14a x14n x14c x15 m → (∀ d' (x0a : Option Addr) (x0n : Nat) (x0c : Nat) (x4 : Option Addr) (x5 : Int) (x6 : Int) (x7a : Option Addr) (x7n : Nat) (x7c : Nat) (x8 : Int) (x14a : Option Addr) (x14n : Nat) (x14c : Nat) (x15 : Int) (m : Mem), d' < d → I d' x0a x0n x0c x4 x5 x6 x7a x7n x7c x8 x14a x14n x14c x15 m → Ok (nx x0a x0n x0c x4 x5 x6 x7a x7n x7c x8 x14a x14n x14c x15 m) P) → Ok (patinalaw11_PoolKeeps_l2_b k nx kx0 kx4 x0a x0n x0c x4 x5 x6 x7a x7n x7c x8 x14a x14n x14c x15 m) P) :
    ∀ n d (x0a : Option Addr) (x0n : Nat) (x0c : Nat) (x4 : Option Addr) (x5 : Int) (x6 : Int) (x7a : Option Addr) (x7n : Nat) (x7c : Nat) (x8 : Int) (x14a : Option Addr) (x14n : Nat) (x14c : Nat) (x15 : Int) (m : Mem), d < n → I d x0a x0n x0c x4 x5 x6 x7a x7n x7c x8 x14a x14n x14c x15 m → Ok (patinalaw11_PoolKeeps_l2 k kx0 kx4 n x0a x0n x0c x4 x5 x6 x7a x7n x7c x8 x14a x14n x14c x15 m) P
  | 0, d, x0a, x0n, x0c, x4, x5, x6, x7a, x7n, x7c, x8, x14a, x14n, x14c, x15, m, h, _ => absurd h (Nat.not_lt_zero _)
  | n + 1, d, x0a, x0n, x0c, x4, x5, x6, x7a, x7n, x7c, x8, x14a, x14n, x14c, x15, m, h, hI => step d _ x0a x0n x0c x4 x5 x6 x7a x7n x7c x8 x14a x14n x14c x15 m hI fun d' x0a x0n x0c x4 x5 x6 x7a x7n x7c x8 x14a x14n x14c x15 m h' hI' => patinalaw11_PoolKeeps_l2_rule k kx0 kx4 I step n d' x0a x0n x0c x4 x5 x6 x7a x7n x7c x8 x14a x14n x14c x15 m (by omega) hI'

def patinalaw11_PoolKeeps_j4 (k : Nat) (y0a : Option Addr) (y0n : Nat) (y0c : Nat) (y4 : Option Addr) (y6 : Int) (nx : Option Addr → Nat → Nat → Option Addr → Int → Int → Mem → Option (Bool × Mem)) (r16 : Int × Mem) (mj : Mem) : Option (Bool × Mem) :=
  nx y0a y0n y0c y4 r16.1 (IntKind.wrap .i64 (y6 + 1)) mj

def patinalaw11_PoolKeeps_j3 (k : Nat) (y0a : Option Addr) (y0n : Nat) (y0c : Nat) (y4 : Option Addr) (y5 : Int) (y6 : Int) (y8 : Int) (nx : Option Addr → Nat → Nat → Option Addr → Int → Int → Mem → Option (Bool × Mem)) (kx0 : Bool → Mem → Option (Bool × Mem)) (r16 : Int × Mem) (mj : Mem) : Option (Bool × Mem) :=
  bif r16.1 == (IntKind.wrap .i64 (y5 + 1)) then (
  bif decide (y8 ≥ 3) then (
  (pool_Pool_Bound k y4 mj).bind fun r17 =>
  bif r17.1 != (IntKind.wrap .i64 (y8 - 2)) then (
  kx0 false r17.2) else (
  patinalaw11_PoolKeeps_j4 k y0a y0n y0c y4 y6 nx r16 r17.2)) else (
  patinalaw11_PoolKeeps_j4 k y0a y0n y0c y4 y6 nx r16 mj)) else (
  patinalaw11_PoolKeeps_j4 k y0a y0n y0c y4 y6 nx r16 mj)

def patinalaw11_PoolKeeps_j1 (k : Nat) (x0a : Option Addr) (x0n : Nat) (x0c : Nat) (x4 : Option Addr) (x5 : Int) (x6 : Int) (nx : Option Addr → Nat → Nat → Option Addr → Int → Int → Mem → Option (Bool × Mem)) (kx0 : Bool → Mem → Option (Bool × Mem)) (r3 : Sl × Mem) (r4 : Int × Mem) (mj : Mem) : Option (Bool × Mem) :=
  (pool_Pool_States k x4 mj).bind fun r9 =>
  bif ((r9.1.len : Nat) : Int) != 12 then (
  kx0 false r9.2) else (
  bif ((r3.1.len : Nat) : Int) != 12 then (
  kx0 false r9.2) else (
  patinalaw11_PoolKeeps_l2 k (fun y2 m14 => 
  kx0 y2 m14) (fun y0a y0n y0c y4 y5 y6 y8 m15 => 
  (pool_Pool_Count k y4 3 m15).bind fun r16 =>
  (pool_Pool_Count k y4 0 r16.2).bind fun r18 =>
  (pool_Pool_Count k y4 1 r18.2).bind fun r19 =>
  (pool_Pool_Count k y4 2 r19.2).bind fun r20 =>
  bif (IntKind.wrap .i64 ((IntKind.wrap .i64 ((IntKind.wrap .i64 (r18.1 + r19.1)) + r20.1)) + r16.1)) != 12 then (
  kx0 false r20.2) else (
  bif decide (r16.1 < y5) then (
  kx0 false r20.2) else (
  (pool_Pool_Bound k y4 r20.2).bind fun r21 =>
  bif decide (r21.1 > y8) then (
  kx0 false r21.2) else (
  bif r16.1 == y5 then (
  (pool_Pool_Bound k y4 r21.2).bind fun r22 =>
  bif r22.1 != y8 then (
  kx0 false r22.2) else (
  (pool_Pool_Worn k y4 r22.2).bind fun r23 =>
  bif !(r23.1 == (decide (r16.1 > 2))) then (
  kx0 false r23.2) else (
  patinalaw11_PoolKeeps_j3 k y0a y0n y0c y4 y5 y6 y8 nx kx0 r16 r23.2))) else (
  (pool_Pool_Worn k y4 r21.2).bind fun r24 =>
  bif !(r24.1 == (decide (r16.1 > 2))) then (
  kx0 false r24.2) else (
  patinalaw11_PoolKeeps_j3 k y0a y0n y0c y4 y5 y6 y8 nx kx0 r16 r24.2)))))) k x0a x0n x0c x4 x5 x6 r3.1.a r3.1.len r3.1.cap r4.1 r9.1.a r9.1.len r9.1.cap 0 r9.2))

def patinalaw11_PoolKeeps_j5 (k : Nat) (x0a : Option Addr) (x0n : Nat) (x0c : Nat) (x4 : Option Addr) (x5 : Int) (x6 : Int) (nx : Option Addr → Nat → Nat → Option Addr → Int → Int → Mem → Option (Bool × Mem)) (kx0 : Bool → Mem → Option (Bool × Mem)) (r3 : Sl × Mem) (r4 : Int × Mem) (r33 : Int × Value × Mem) (mj : Mem) : Option (Bool × Mem) :=
  (isNil r33.2.1).bind fun b34 =>
  bif b34 then (
  (pool_Pool_State k x4 r33.1 mj).bind fun r35 =>
  (isNil r35.2.1).bind fun b36 =>
  bif !b36 then (
  kx0 false r35.2.2) else (
  bif r35.1 != 1 then (
  kx0 false r35.2.2) else (
  patinalaw11_PoolKeeps_j1 k x0a x0n x0c x4 x5 x6 nx kx0 r3 r4 r35.2.2))) else (
  patinalaw11_PoolKeeps_j1 k x0a x0n x0c x4 x5 x6 nx kx0 r3 r4 mj)

def patinalaw11_PoolKeeps_l0_b (k : Nat) (nx : Option Addr → Nat → Nat → Option Addr → Int → Int → Mem → Option (Bool × Mem)) (kx0 : Bool → Mem → Option (Bool × Mem)) (kx2 : Mem → Option (Bool × Mem)) (x0a : Option Addr) (x0n : Nat) (x0c : Nat) (x4 : Option Addr) (x5 : Int) (x6 : Int) (m : Mem) : Option (Bool × Mem) :=
  bif decide (x6 < ((x0n : Nat) : Int)) then (
  (pool_Pool_States k x4 m).bind fun r3 =>
  (pool_Pool_Bound k x4 r3.2).bind fun r4 =>
  bif inRange x6 x0n then (
  (x0a).bind fun a5 =>
  (ldCells r4.2 (plus a5 (Int.toNat x6 * 3)) 3).bind fun t6 =>
  let m7 : Mem := r4.2 ++ [.live [.int .i64 0, .int .i64 0, .int .i64 0]]
  bif Nat.beq (List.length t6) 3 then (
  (stCells m7 ⟨List.length r4.2, 0, Option.none⟩ t6).bind fun m8 =>
  (ldInt .i64 m8 (plus ⟨List.length r4.2, 0, Option.none⟩ 0)).bind fun t25 =>
  (patinalaw11_pick k t25 2 m8).bind fun r26 =>
  bif r26.1 == 0 then (
  (ldInt .i64 r26.2 (plus ⟨List.length r4.2, 0, Option.none⟩ 1)).bind fun t27 =>
  (patinalaw11_pick k t27 12 r26.2).bind fun r28 =>
  (ldInt .i64 r28.2 (plus ⟨List.length r4.2, 0, Option.none⟩ 2)).bind fun t29 =>
  (patinalaw11_pick k t29 4 r28.2).bind fun r30 =>
  (pool_Pool_Set k x4 r28.1 r30.1 r30.2).bind fun r31 =>
  (ldInt .i64 r26.2 (plus ⟨List.length r4.2, 0, Option.none⟩ 2)).bind fun t32 =>
  bif t32 == t29 then (
  patinalaw11_PoolKeeps_j1 k x0a x0n x0c x4 x5 x6 nx kx0 r3 r4 r31.2) else none) else (
  (pool_Pool_Take k x4 r26.2).bind fun r33 =>
  (isNil r33.2.1).bind fun b37 =>
  bif b37 then (
  bif decide (r33.1 < 0) then (
  kx0 false r33.2.2) else (
  bif decide (r33.1 ≥ 12) then (
  kx0 false r33.2.2) else (
  bif inRange r33.1 r3.1.len then (
  (r3.1.a).bind fun a38 =>
  (ldInt .i64 r33.2.2 (plus a38 (Int.toNat r33.1 * 1))).bind fun t39 =>
  bif t39 != 0 then (
  kx0 false r33.2.2) else (
  patinalaw11_PoolKeeps_j5 k x0a x0n x0c x4 x5 x6 nx kx0 r3 r4 r33 r33.2.2)) else none))) else (
  patinalaw11_PoolKeeps_j5 k x0a x0n x0c x4 x5 x6 nx kx0 r3 r4 r33 r33.2.2))) else none) else none) else (
  kx2  m)

def patinalaw11_PoolKeeps_l0 (k : Nat) (kx0 : Bool → Mem → Option (Bool × Mem)) (kx2 : Mem → Option (Bool × Mem)) : Nat → Option Addr → Nat → Nat → Option Addr → Int → Int → Mem → Option (Bool × Mem)
  | 0, _, _, _, _, _, _, _ => none
  | n + 1, x0a, x0n, x0c, x4, x5, x6, m => patinalaw11_PoolKeeps_l0_b k (fun x0a x0n x0c x4 x5 x6 m => patinalaw11_PoolKeeps_l0 k kx0 kx2 n x0a x0n x0c x4 x5 x6 m) kx0 kx2 x0a x0n x0c x4 x5 x6 m

theorem patinalaw11_PoolKeeps_l0_rule (k : Nat) (kx0 : Bool → Mem → Option (Bool × Mem)) (kx2 : Mem → Option (Bool × Mem)) {P : (Bool × Mem) → Prop} (I : Nat → Option Addr → Nat → Nat → Option Addr → Int → Int → Mem → Prop)
    (step : ∀ d (nx : Option Addr → Nat → Nat → Option Addr → Int → Int → Mem → Option (Bool × Mem)) (x0a : Option Addr) (x0n : Nat) (x0c : Nat) (x4 : Option Addr) (x5 : Int) (x6 : Int) (m : Mem), I d x0a x0n x0c x4 x5 x6 m → (∀ d' (x0a : Option Addr) (x0n : Nat) (x0c : Nat) (x4 : Option Addr) (x5 : Int) (x6 : Int) (m : Mem), d' < d → I d' x0a x0n x0c x4 x5 x6 m → Ok (nx x0a x0n x0c x4 x5 x6 m) P) → Ok (patinalaw11_PoolKeeps_l0_b k nx kx0 kx2 x0a x0n x0c x4 x5 x6 m) P) :
    ∀ n d (x0a : Option Addr) (x0n : Nat) (x0c : Nat) (x4 : Option Addr) (x5 : Int) (x6 : Int) (m : Mem), d < n → I d x0a x0n x0c x4 x5 x6 m → Ok (patinalaw11_PoolKeeps_l0 k kx0 kx2 n x0a x0n x0c x4 x5 x6 m) P
  | 0, d, x0a, x0n, x0c, x4, x5, x6, m, h, _ => absurd h (Nat.not_lt_zero _)
  | n + 1, d, x0a, x0n, x0c, x4, x5, x6, m, h, hI => step d _ x0a x0n x0c x4 x5 x6 m hI fun d' x0a x0n x0c x4 x5 x6 m h' hI' => patinalaw11_PoolKeeps_l0_rule k kx0 kx2 I step n d' x0a x0n x0c x4 x5 x6 m (by omega) hI'

def patinalaw11_PoolKeeps (k : Nat) (p0a : Option Addr) (p0n : Nat) (p0c : Nat) (m : Mem) : Option (Bool × Mem) :=
  (patinalaw11_up k  m).bind fun r1 =>
  (pool_New k  r1.2).bind fun r2 =>
  bif !r1.1 then (
  some (false, r2.2)) else (
  bif Option.isNone r2.1 then (
  some (false, r2.2)) else (
  patinalaw11_PoolKeeps_l0 k (fun y2 m40 => 
  some (y2, m40)) (fun m41 => 
  some (true, m41)) k p0a p0n p0c r2.1 0 0 r2.2))

def patinalaw11_PoolKeeps_call {R : Type} (k : Nat) : Fun R := fun f args m K => match f, args with
  | 24, [] => (patinalaw11_up k  m).bind fun r => K (Value.bool r.1) r.2
  | 25, [] => (pool_New k  m).bind fun r => K (Value.pointer r.1) r.2
  | 26, [.pointer p0] => (pool_Pool_States k p0 m).bind fun r => K (Value.slice r.1.a r.1.len r.1.cap) r.2
  | 27, [.pointer p0] => (pool_Pool_Bound k p0 m).bind fun r => K (Value.int .i64 r.1) r.2
  | 28, [.int .i64 p0, .int .i64 p1] => (patinalaw11_pick k p0 p1 m).bind fun r => K (Value.int .i64 r.1) r.2
  | 29, [.pointer p0, .int .i64 p1, .int .i64 p2] => (pool_Pool_Set k p0 p1 p2 m).bind fun r => K r.1 r.2
  | 30, [.pointer p0] => (pool_Pool_Take k p0 m).bind fun r => K (Value.tuple ⟨[(Value.int .i64 r.1), r.2.1]⟩) r.2.2
  | 31, [.pointer p0, .int .i64 p1] => (pool_Pool_State k p0 p1 m).bind fun r => K (Value.tuple ⟨[(Value.int .i64 r.1), r.2.1]⟩) r.2.2
  | 32, [.pointer p0, .int .i64 p1] => (pool_Pool_Count k p0 p1 m).bind fun r => K (Value.int .i64 r.1) r.2
  | 33, [.pointer p0] => (pool_Pool_Worn k p0 m).bind fun r => K (Value.bool r.1) r.2
  | _, _ => none

theorem patinalaw11_PoolKeeps_callOk {R : Type} (k : Nat) : CallOk Try.prog (patinalaw11_PoolKeeps_call (R := R) k) := by
  intro f vs m K r h
  unfold patinalaw11_PoolKeeps_call at h
  split at h
  · obtain ⟨r, h1, h2⟩ := Option.bind_eq_some_iff.1 h; exact ⟨_, _, h2, fun K' => by simp only [patinalaw11_PoolKeeps_call, h1, Option.bind_some], patinalaw11_up_ok h1⟩
  · obtain ⟨r, h1, h2⟩ := Option.bind_eq_some_iff.1 h; exact ⟨_, _, h2, fun K' => by simp only [patinalaw11_PoolKeeps_call, h1, Option.bind_some], pool_New_ok h1⟩
  · obtain ⟨r, h1, h2⟩ := Option.bind_eq_some_iff.1 h; exact ⟨_, _, h2, fun K' => by simp only [patinalaw11_PoolKeeps_call, h1, Option.bind_some], pool_Pool_States_ok h1⟩
  · obtain ⟨r, h1, h2⟩ := Option.bind_eq_some_iff.1 h; exact ⟨_, _, h2, fun K' => by simp only [patinalaw11_PoolKeeps_call, h1, Option.bind_some], pool_Pool_Bound_ok h1⟩
  · obtain ⟨r, h1, h2⟩ := Option.bind_eq_some_iff.1 h; exact ⟨_, _, h2, fun K' => by simp only [patinalaw11_PoolKeeps_call, h1, Option.bind_some], patinalaw11_pick_ok h1⟩
  · obtain ⟨r, h1, h2⟩ := Option.bind_eq_some_iff.1 h; exact ⟨_, _, h2, fun K' => by simp only [patinalaw11_PoolKeeps_call, h1, Option.bind_some], pool_Pool_Set_ok h1⟩
  · obtain ⟨r, h1, h2⟩ := Option.bind_eq_some_iff.1 h; exact ⟨_, _, h2, fun K' => by simp only [patinalaw11_PoolKeeps_call, h1, Option.bind_some], pool_Pool_Take_ok h1⟩
  · obtain ⟨r, h1, h2⟩ := Option.bind_eq_some_iff.1 h; exact ⟨_, _, h2, fun K' => by simp only [patinalaw11_PoolKeeps_call, h1, Option.bind_some], pool_Pool_State_ok h1⟩
  · obtain ⟨r, h1, h2⟩ := Option.bind_eq_some_iff.1 h; exact ⟨_, _, h2, fun K' => by simp only [patinalaw11_PoolKeeps_call, h1, Option.bind_some], pool_Pool_Count_ok h1⟩
  · obtain ⟨r, h1, h2⟩ := Option.bind_eq_some_iff.1 h; exact ⟨_, _, h2, fun K' => by simp only [patinalaw11_PoolKeeps_call, h1, Option.bind_some], pool_Pool_Worn_ok h1⟩
  · cases h

def patinalaw11_PoolKeeps_l0_L (k : Nat) (K : Nat → List Value → Mem → Option (Bool × Mem)) (n : Nat) (vs : List Value) (m : Mem) : Option (Bool × Mem) := match vs with
  | [.slice x0a x0n x0c, .pointer x4, .int .i64 x5, .int .i64 x6] => patinalaw11_PoolKeeps_l0 k (fun y2 m => K 0 [(Value.bool y2)] m) (fun m => K 2 [] m) n x0a x0n x0c x4 x5 x6 m
  | _ => none

def patinalaw11_PoolKeeps_l2_L (k : Nat) (K : Nat → List Value → Mem → Option (Bool × Mem)) (n : Nat) (vs : List Value) (m : Mem) : Option (Bool × Mem) := match vs with
  | [.slice x0a x0n x0c, .pointer x4, .int .i64 x5, .int .i64 x6, .slice x7a x7n x7c, .int .i64 x8, .slice x14a x14n x14c, .int .i64 x15] => patinalaw11_PoolKeeps_l2 k (fun y2 m => K 0 [(Value.bool y2)] m) (fun y0a y0n y0c y4 y5 y6 y8 m => K 4 [(Value.slice y0a y0n y0c), (Value.pointer y4), (Value.int .i64 y5), (Value.int .i64 y6), (Value.int .i64 y8)] m) n x0a x0n x0c x4 x5 x6 x7a x7n x7c x8 x14a x14n x14c x15 m
  | _ => none

def patinalaw11_PoolKeeps_loop (k : Nat) : Nat → List Value → Mem → (Nat → List Value → Mem → Option (Bool × Mem)) → Option (Bool × Mem) := fun cur vs m K => match cur with
  | 0 => patinalaw11_PoolKeeps_l0_L k K k vs m
  | 2 => patinalaw11_PoolKeeps_l2_L k K k vs m
  | _ => none

def patinalaw11_PoolKeeps_C (k : Nat) : Ctx (Bool × Mem) := ⟨tt, patinalaw11_PoolKeeps_call k, patinalaw11_PoolKeeps_loop k, [(0, [0, 4, 5, 6]), (2, [0, 4, 5, 6, 7, 8, 14, 15])], [(0, [2]), (2, []), (4, [0, 4, 5, 6, 8])]⟩

noncomputable def patinalaw11_PoolKeeps_l0_c : Code := ((loopsOf 0 (body Try.f6)).map (·.2)).getD 0 .skip

noncomputable def patinalaw11_PoolKeeps_l2_c : Code := ((loopsOf 0 (body Try.f6)).map (·.2)).getD 1 .skip

theorem patinalaw11_PoolKeeps_loops : loopsOf 0 (body Try.f6) = [(0, patinalaw11_PoolKeeps_l0_c), (2, patinalaw11_PoolKeeps_l2_c)] := by kernel_rfl

theorem patinalaw11_PoolKeeps_l0_ok (k : Nat) : LoopOk (patinalaw11_PoolKeeps_C k) 0 patinalaw11_PoolKeeps_l0_c := by
  refine ⟨[0, 4, 5, 6], by kernel_rfl, fun K r => ⟨patinalaw11_PoolKeeps_l0_L k K, fun vs m h => ⟨k, h⟩, ?_⟩⟩
  intro n vs m h
  unfold patinalaw11_PoolKeeps_l0_L at h
  split at h
  · cases n with
    | zero => cases h
    | succ n => exact ⟨n, rfl, Eq.trans (by kernel_rfl) h⟩
  · cases h

theorem patinalaw11_PoolKeeps_l2_ok (k : Nat) : LoopOk (patinalaw11_PoolKeeps_C k) 2 patinalaw11_PoolKeeps_l2_c := by
  refine ⟨[0, 4, 5, 6, 7, 8, 14, 15], by kernel_rfl, fun K r => ⟨patinalaw11_PoolKeeps_l2_L k K, fun vs m h => ⟨k, h⟩, ?_⟩⟩
  intro n vs m h
  unfold patinalaw11_PoolKeeps_l2_L at h
  split at h
  · cases n with
    | zero => cases h
    | succ n => exact ⟨n, rfl, Eq.trans (by kernel_rfl) h⟩
  · cases h

def patinalaw11_PoolKeeps_dec : Value → Mem → Option (Bool × Mem) := fun v m => match v with
  | .bool q0 => some (q0, m)
  | _ => none

theorem patinalaw11_PoolKeeps_eq (k : Nat) (p0a : Option Addr) (p0n : Nat) (p0c : Nat) (m : Mem) : fnX (patinalaw11_PoolKeeps_C k) Try.f6 [(Value.slice p0a p0n p0c)] m patinalaw11_PoolKeeps_dec = patinalaw11_PoolKeeps k p0a p0n p0c m := by kernel_rfl

theorem patinalaw11_PoolKeeps_ok {k : Nat} {p0a : Option Addr} {p0n : Nat} {p0c : Nat} {m : Mem} {r : (Bool × Mem)} (h : patinalaw11_PoolKeeps k p0a p0n p0c m = some r) : CallP Try.prog 6 [(Value.slice p0a p0n p0c)] m fun v m' => v = (Value.bool r.1) ∧ m' = r.2 := by
  refine (fn_sound (C := patinalaw11_PoolKeeps_C k) (c := body Try.f6) tOk mixed (patinalaw11_PoolKeeps_callOk k) Try.func6 (by kernel_rfl) (by kernel_rfl) (by kernel_rfl) (by kernel_rfl) ?_ (Eq.trans (patinalaw11_PoolKeeps_eq k p0a p0n p0c m) h)).mono ?_
  · intro p hp
    rw [patinalaw11_PoolKeeps_loops] at hp
    simp only [List.mem_cons, List.not_mem_nil, or_false] at hp
    rcases hp with rfl | rfl
    · exact patinalaw11_PoolKeeps_l0_ok k
    · exact patinalaw11_PoolKeeps_l2_ok k
  · intro v m' hp
    unfold patinalaw11_PoolKeeps_dec at hp
    split at hp
    · simp only [Option.some.injEq] at hp; subst hp; exact ⟨rfl, rfl⟩
    · cases hp

end Go.Proofs.Ytnilidpafijdlab
