/- The program's functions as plain Lean functions over a clean memory, each held against the program by the kernel. Written by mx.py. -/
import Derived.Test.YtnilidpafijdlaaF0
import Derived.Test.YtnilidpafijdlaaFpatinalaw11
import Derived.Test.YtnilidpafijdlaaFpool
set_option linter.unusedVariables false
set_option maxRecDepth 100000
namespace Go.Proofs.Ytnilidpafijdlaa
open Go.Mx

/-! ### patinalaw11_PoolRound -/
def patinalaw11_PoolRound_l0_b (k : Nat) (nx : Option Addr → Nat → Nat → Int → Option Addr → Addr → Int → Mem → Option (Bool × Mem)) (kx2 : Int → Option Addr → Addr → Mem → Option (Bool × Mem)) (x0a : Option Addr) (x0n : Nat) (x0c : Nat) (x1 : Int) (x6 : Option Addr) (x7 : Addr) (x8 : Int) (m : Mem) : Option (Bool × Mem) :=
  bif decide (x8 < ((x0n : Nat) : Int)) then (
  bif decide (x8 < 9) then (
  bif inRange x8 x0n then (
  (x0a).bind fun a4 =>
  (ldInt .i64 m (plus a4 (Int.toNat x8 * 1))).bind fun t5 =>
  (patinalaw11_pick k t5 12 m).bind fun r6 =>
  bif inRange r6.1 12 then (
  (st r6.2 (plus x7 (Int.toNat r6.1 * 1)) (Value.bool true)).bind fun m7 =>
  (pool_Pool_Set k x6 r6.1 2 m7).bind fun r8 =>
  nx x0a x0n x0c x1 x6 x7 (IntKind.wrap .i64 (x8 + 1)) r8.2) else none) else none) else (
  kx2 x1 x6 x7 m)) else (
  kx2 x1 x6 x7 m)

def patinalaw11_PoolRound_l0 (k : Nat) (kx2 : Int → Option Addr → Addr → Mem → Option (Bool × Mem)) : Nat → Option Addr → Nat → Nat → Int → Option Addr → Addr → Int → Mem → Option (Bool × Mem)
  | 0, _, _, _, _, _, _, _, _ => none
  | n + 1, x0a, x0n, x0c, x1, x6, x7, x8, m => patinalaw11_PoolRound_l0_b k (fun x0a x0n x0c x1 x6 x7 x8 m => patinalaw11_PoolRound_l0 k kx2 n x0a x0n x0c x1 x6 x7 x8 m) kx2 x0a x0n x0c x1 x6 x7 x8 m

theorem patinalaw11_PoolRound_l0_rule (k : Nat) (kx2 : Int → Option Addr → Addr → Mem → Option (Bool × Mem)) {P : (Bool × Mem) → Prop} (I : Nat → Option Addr → Nat → Nat → Int → Option Addr → Addr → Int → Mem → Prop)
    (step : ∀ d (nx : Option Addr → Nat → Nat → Int → Option Addr → Addr → Int → Mem → Option (Bool × Mem)) (x0a : Option Addr) (x0n : Nat) (x0c : Nat) (x1 : Int) (x6 : Option Addr) (x7 : Addr) (x8 : Int) (m : Mem), I d x0a x0n x0c x1 x6 x7 x8 m → (∀ d' (x0a : Option Addr) (x0n : Nat) (x0c : Nat) (x1 : Int) (x6 : Option Addr) (x7 : Addr) (x8 : Int) (m : Mem), d' < d → I d' x0a x0n x0c x1 x6 x7 x8 m → Ok (nx x0a x0n x0c x1 x6 x7 x8 m) P) → Ok (patinalaw11_PoolRound_l0_b k nx kx2 x0a x0n x0c x1 x6 x7 x8 m) P) :
    ∀ n d (x0a : Option Addr) (x0n : Nat) (x0c : Nat) (x1 : Int) (x6 : Option Addr) (x7 : Addr) (x8 : Int) (m : Mem), d < n → I d x0a x0n x0c x1 x6 x7 x8 m → Ok (patinalaw11_PoolRound_l0 k kx2 n x0a x0n x0c x1 x6 x7 x8 m) P
  | 0, d, x0a, x0n, x0c, x1, x6, x7, x8, m, h, _ => absurd h (Nat.not_lt_zero _)
  | n + 1, d, x0a, x0n, x0c, x1, x6, x7, x8, m, h, hI => step d _ x0a x0n x0c x1 x6 x7 x8 m hI fun d' x0a x0n x0c x1 x6 x7 x8 m h' hI' => patinalaw11_PoolRound_l0_rule k kx2 I step n d' x0a x0n x0c x1 x6 x7 x8 m (by omega) hI'

def patinalaw11_PoolRound_j1 (k : Nat) (nx : Option Addr → Addr → Addr → Int → Int → Mem → Option (Bool × Mem)) (x6_ : Option Addr) (x7_ : Addr) (x10_ : Addr) (x11_ : Int) (x12_ : Int) (x13_ : Int) (mj : Mem) : Option (Bool × Mem) :=
  bif inRange x13_ 12 then (
  (st mj (plus x10_ (Int.toNat x13_ * 1)) (Value.int .i64 x12_)).bind fun m15 =>
  (pool_Pool_Set k x6_ x13_ 0 m15).bind fun r16 =>
  nx x6_ x7_ x10_ x11_ (IntKind.wrap .i64 (x12_ + 1)) r16.2) else none

def patinalaw11_PoolRound_j2 (k : Nat) (x6 : Option Addr) (x7 : Addr) (x10 : Addr) (x11 : Int) (x12 : Int) (x13 : Int) (x15 : Int) (nx : Option Addr → Addr → Addr → Int → Int → Int → Int → Mem → Option (Bool × Mem)) (mj : Mem) : Option (Bool × Mem) :=
  nx x6 x7 x10 x11 x12 x13 (IntKind.wrap .i64 (x15 + 1)) mj

def patinalaw11_PoolRound_l4_b (k : Nat) (nx : Option Addr → Addr → Addr → Int → Int → Int → Int → Mem → Option (Bool × Mem)) (kx0 : Bool → Mem → Option (Bool × Mem)) (kx6 : Option Addr → Addr → Addr → Int → Int → Int → Mem → Option (Bool × Mem)) (x6 : Option Addr) (x7 : Addr) (x10 : Addr) (x11 : Int) (x12 : Int) (x13 : Int) (x15 : Int) (m : Mem) : Option (Bool × Mem) :=
  bif decide (x15 < 12) then (
  bif inRange x15 12 then (
  (ldBool m (plus x7 (Int.toNat x15 * 1))).bind fun t18 =>
  bif !t18 then (
  bif x15 != x13 then (
  bif inRange x15 12 then (
  (ldInt .i64 m (plus x10 (Int.toNat x15 * 1))).bind fun t19 =>
  bif inRange x13 12 then (
  (ldInt .i64 m (plus x10 (Int.toNat x13 * 1))).bind fun t20 =>
  bif decide (t19 ≤ t20) then (
  kx0 false m) else (
  patinalaw11_PoolRound_j2 k x6 x7 x10 x11 x12 x13 x15 nx m)) else none) else none) else (
  patinalaw11_PoolRound_j2 k x6 x7 x10 x11 x12 x13 x15 nx m)) else (
  patinalaw11_PoolRound_j2 k x6 x7 x10 x11 x12 x13 x15 nx m)) else none) else (
  kx6 x6 x7 x10 x11 x12 x13 m)

def patinalaw11_PoolRound_l4 (k : Nat) (kx0 : Bool → Mem → Option (Bool × Mem)) (kx6 : Option Addr → Addr → Addr → Int → Int → Int → Mem → Option (Bool × Mem)) : Nat → Option Addr → Addr → Addr → Int → Int → Int → Int → Mem → Option (Bool × Mem)
  | 0, _, _, _, _, _, _, _, _ => none
  | n + 1, x6, x7, x10, x11, x12, x13, x15, m => patinalaw11_PoolRound_l4_b k (fun x6 x7 x10 x11 x12 x13 x15 m => patinalaw11_PoolRound_l4 k kx0 kx6 n x6 x7 x10 x11 x12 x13 x15 m) kx0 kx6 x6 x7 x10 x11 x12 x13 x15 m

theorem patinalaw11_PoolRound_l4_rule (k : Nat) (kx0 : Bool → Mem → Option (Bool × Mem)) (kx6 : Option Addr → Addr → Addr → Int → Int → Int → Mem → Option (Bool × Mem)) {P : (Bool × Mem) → Prop} (I : Nat → Option Addr → Addr → Addr → Int → Int → Int → Int → Mem → Prop)
    (step : ∀ d (nx : Option Addr → Addr → Addr → Int → Int → Int → Int → Mem → Option (Bool × Mem)) (x6 : Option Addr) (x7 : Addr) (x10 : Addr) (x11 : Int) (x12 : Int) (x13 : Int) (x15 : Int) (m : Mem), I d x6 x7 x10 x11 x12 x13 x15 m → (∀ d' (x6 : Option Addr) (x7 : Addr) (x10 : Addr) (x11 : Int) (x12 : Int) (x13 : Int) (x15 : Int) (m : Mem), d' < d → I d' x6 x7 x10 x11 x12 x13 x15 m → Ok (nx x6 x7 x10 x11 x12 x13 x15 m) P) → Ok (patinalaw11_PoolRound_l4_b k nx kx0 kx6 x6 x7 x10 x11 x12 x13 x15 m) P) :
    ∀ n d (x6 : Option Addr) (x7 : Addr) (x10 : Addr) (x11 : Int) (x12 : Int) (x13 : Int) (x15 : Int) (m : Mem), d < n → I d x6 x7 x10 x11 x12 x13 x15 m → Ok (patinalaw11_PoolRound_l4 k kx0 kx6 n x6 x7 x10 x11 x12 x13 x15 m) P
  | 0, d, x6, x7, x10, x11, x12, x13, x15, m, h, _ => absurd h (Nat.not_lt_zero _)
  | n + 1, d, x6, x7, x10, x11, x12, x13, x15, m, h, hI => step d _ x6 x7 x10 x11 x12 x13 x15 m hI fun d' x6 x7 x10 x11 x12 x13 x15 m h' hI' => patinalaw11_PoolRound_l4_rule k kx0 kx6 I step n d' x6 x7 x10 x11 x12 x13 x15 m (by omega) hI'

def patinalaw11_PoolRound_l2_b (k : Nat) (nx : Option Addr → Addr → Addr → Int → Int → Mem → Option (Bool × Mem)) (kx0 : Bool → Mem → Option (Bool × Mem)) (kx4 : Mem → Option (Bool × Mem)) (x6 : Option Addr) (x7 : Addr) (x10 : Addr) (x11 : Int) (x12 : Int) (m : Mem) : Option (Bool × Mem) :=
  bif decide (x12 ≤ x11) then (
  (pool_Pool_Take k x6 m).bind fun r12 =>
  (isNil r12.2.1).bind fun b13 =>
  bif !b13 then (
  kx0 false r12.2.2) else (
  bif decide (r12.1 < 0) then (
  kx0 false r12.2.2) else (
  bif decide (r12.1 ≥ 12) then (
  kx0 false r12.2.2) else (
  bif inRange r12.1 12 then (
  (ldBool r12.2.2 (plus x7 (Int.toNat r12.1 * 1))).bind fun t14 =>
  bif t14 then (
  kx0 false r12.2.2) else (
  bif inRange r12.1 12 then (
  (ldInt .i64 r12.2.2 (plus x10 (Int.toNat r12.1 * 1))).bind fun t17 =>
  bif decide (t17 > 0) then (
  patinalaw11_PoolRound_l4 k (fun y4 m21 => 
  kx0 y4 m21) (fun y6 y7 y10 y11 y12 y13 m22 => 
  patinalaw11_PoolRound_j1 k nx y6 y7 y10 y11 y12 y13 m22) k x6 x7 x10 x11 x12 r12.1 0 r12.2.2) else (
  patinalaw11_PoolRound_j1 k nx x6 x7 x10 x11 x12 r12.1 r12.2.2)) else none)) else none)))) else (
  kx4  m)

def patinalaw11_PoolRound_l2 (k : Nat) (kx0 : Bool → Mem → Option (Bool × Mem)) (kx4 : Mem → Option (Bool × Mem)) : Nat → Option Addr → Addr → Addr → Int → Int → Mem → Option (Bool × Mem)
  | 0, _, _, _, _, _, _ => none
  | n + 1, x6, x7, x10, x11, x12, m => patinalaw11_PoolRound_l2_b k (fun x6 x7 x10 x11 x12 m => patinalaw11_PoolRound_l2 k kx0 kx4 n x6 x7 x10 x11 x12 m) kx0 kx4 x6 x7 x10 x11 x12 m

theorem patinalaw11_PoolRound_l2_rule (k : Nat) (kx0 : Bool → Mem → Option (Bool × Mem)) (kx4 : Mem → Option (Bool × Mem)) {P : (Bool × Mem) → Prop} (I : Nat → Option Addr → Addr → Addr → Int → Int → Mem → Prop)
    (step : ∀ d (nx : Option Addr → Addr → Addr → Int → Int → Mem → Option (Bool × Mem)) (x6 : Option Addr) (x7 : Addr) (x10 : Addr) (x11 : Int) (x12 : Int) (m : Mem), I d x6 x7 x10 x11 x12 m → (∀ d' (x6 : Option Addr) (x7 : Addr) (x10 : Addr) (x11 : Int) (x12 : Int) (m : Mem), d' < d → I d' x6 x7 x10 x11 x12 m → Ok (nx x6 x7 x10 x11 x12 m) P) → Ok (patinalaw11_PoolRound_l2_b k nx kx0 kx4 x6 x7 x10 x11 x12 m) P) :
    ∀ n d (x6 : Option Addr) (x7 : Addr) (x10 : Addr) (x11 : Int) (x12 : Int) (m : Mem), d < n → I d x6 x7 x10 x11 x12 m → Ok (patinalaw11_PoolRound_l2 k kx0 kx4 n x6 x7 x10 x11 x12 m) P
  | 0, d, x6, x7, x10, x11, x12, m, h, _ => absurd h (Nat.not_lt_zero _)
  | n + 1, d, x6, x7, x10, x11, x12, m, h, hI => step d _ x6 x7 x10 x11 x12 m hI fun d' x6 x7 x10 x11 x12 m h' hI' => patinalaw11_PoolRound_l2_rule k kx0 kx4 I step n d' x6 x7 x10 x11 x12 m (by omega) hI'

def patinalaw11_PoolRound (k : Nat) (p0a : Option Addr) (p0n : Nat) (p0c : Nat) (p1 : Int) (m : Mem) : Option (Bool × Mem) :=
  (patinalaw11_up k  m).bind fun r1 =>
  (pool_New k  r1.2).bind fun r2 =>
  bif !r1.1 then (
  some (false, r2.2)) else (
  bif Option.isNone r2.1 then (
  some (false, r2.2)) else (
  let m3 : Mem := r2.2 ++ [.live (repl 12 [.bool false])]
  patinalaw11_PoolRound_l0 k (fun y1 y6 y7 m9 => 
  let m10 : Mem := m9 ++ [.live (repl 12 [.int .i64 0])]
  (patinalaw11_pick k y1 60 m10).bind fun r11 =>
  patinalaw11_PoolRound_l2 k (fun y4 m23 => 
  some (y4, m23)) (fun m24 => 
  some (true, m24)) k y6 y7 ⟨List.length m9, 0, Option.none⟩ (IntKind.wrap .i64 (1 + r11.1)) 1 r11.2) k p0a p0n p0c p1 r2.1 ⟨List.length r2.2, 0, Option.none⟩ 0 m3))

def patinalaw11_PoolRound_call {R : Type} (k : Nat) : Fun R := fun f args m K => match f, args with
  | 21, [] => (patinalaw11_up k  m).bind fun r => K (Value.bool r.1) r.2
  | 22, [] => (pool_New k  m).bind fun r => K (Value.pointer r.1) r.2
  | 23, [.int .i64 p0, .int .i64 p1] => (patinalaw11_pick k p0 p1 m).bind fun r => K (Value.int .i64 r.1) r.2
  | 24, [.pointer p0, .int .i64 p1, .int .i64 p2] => (pool_Pool_Set k p0 p1 p2 m).bind fun r => K r.1 r.2
  | 25, [.pointer p0] => (pool_Pool_Take k p0 m).bind fun r => K (Value.tuple ⟨[(Value.int .i64 r.1), r.2.1]⟩) r.2.2
  | _, _ => none

theorem patinalaw11_PoolRound_callOk {R : Type} (k : Nat) : CallOk Try.prog (patinalaw11_PoolRound_call (R := R) k) := by
  intro f vs m K r h
  unfold patinalaw11_PoolRound_call at h
  split at h
  · obtain ⟨r, h1, h2⟩ := Option.bind_eq_some_iff.1 h; exact ⟨_, _, h2, fun K' => by simp only [patinalaw11_PoolRound_call, h1, Option.bind_some], patinalaw11_up_ok h1⟩
  · obtain ⟨r, h1, h2⟩ := Option.bind_eq_some_iff.1 h; exact ⟨_, _, h2, fun K' => by simp only [patinalaw11_PoolRound_call, h1, Option.bind_some], pool_New_ok h1⟩
  · obtain ⟨r, h1, h2⟩ := Option.bind_eq_some_iff.1 h; exact ⟨_, _, h2, fun K' => by simp only [patinalaw11_PoolRound_call, h1, Option.bind_some], patinalaw11_pick_ok h1⟩
  · obtain ⟨r, h1, h2⟩ := Option.bind_eq_some_iff.1 h; exact ⟨_, _, h2, fun K' => by simp only [patinalaw11_PoolRound_call, h1, Option.bind_some], pool_Pool_Set_ok h1⟩
  · obtain ⟨r, h1, h2⟩ := Option.bind_eq_some_iff.1 h; exact ⟨_, _, h2, fun K' => by simp only [patinalaw11_PoolRound_call, h1, Option.bind_some], pool_Pool_Take_ok h1⟩
  · cases h

def patinalaw11_PoolRound_l0_L (k : Nat) (K : Nat → List Value → Mem → Option (Bool × Mem)) (n : Nat) (vs : List Value) (m : Mem) : Option (Bool × Mem) := match vs with
  | [.slice x0a x0n x0c, .int .i64 x1, .pointer x6, .pointer (some x7), .int .i64 x8] => patinalaw11_PoolRound_l0 k (fun y1 y6 y7 m => K 2 [(Value.int .i64 y1), (Value.pointer y6), (Value.pointer (some y7))] m) n x0a x0n x0c x1 x6 x7 x8 m
  | _ => none

def patinalaw11_PoolRound_l2_L (k : Nat) (K : Nat → List Value → Mem → Option (Bool × Mem)) (n : Nat) (vs : List Value) (m : Mem) : Option (Bool × Mem) := match vs with
  | [.pointer x6, .pointer (some x7), .pointer (some x10), .int .i64 x11, .int .i64 x12] => patinalaw11_PoolRound_l2 k (fun y4 m => K 0 [(Value.bool y4)] m) (fun m => K 4 [] m) n x6 x7 x10 x11 x12 m
  | _ => none

def patinalaw11_PoolRound_l4_L (k : Nat) (K : Nat → List Value → Mem → Option (Bool × Mem)) (n : Nat) (vs : List Value) (m : Mem) : Option (Bool × Mem) := match vs with
  | [.pointer x6, .pointer (some x7), .pointer (some x10), .int .i64 x11, .int .i64 x12, .int .i64 x13, .int .i64 x15] => patinalaw11_PoolRound_l4 k (fun y4 m => K 0 [(Value.bool y4)] m) (fun y6 y7 y10 y11 y12 y13 m => K 6 [(Value.pointer y6), (Value.pointer (some y7)), (Value.pointer (some y10)), (Value.int .i64 y11), (Value.int .i64 y12), (Value.int .i64 y13)] m) n x6 x7 x10 x11 x12 x13 x15 m
  | _ => none

def patinalaw11_PoolRound_loop (k : Nat) : Nat → List Value → Mem → (Nat → List Value → Mem → Option (Bool × Mem)) → Option (Bool × Mem) := fun cur vs m K => match cur with
  | 0 => patinalaw11_PoolRound_l0_L k K k vs m
  | 2 => patinalaw11_PoolRound_l2_L k K k vs m
  | 4 => patinalaw11_PoolRound_l4_L k K k vs m
  | _ => none

def patinalaw11_PoolRound_C (k : Nat) : Ctx (Bool × Mem) := ⟨tt, patinalaw11_PoolRound_call k, patinalaw11_PoolRound_loop k, [(0, [0, 1, 6, 7, 8]), (2, [6, 7, 10, 11, 12]), (4, [6, 7, 10, 11, 12, 13, 15])], [(0, [4]), (2, [1, 6, 7]), (4, []), (6, [6, 7, 10, 11, 12, 13])]⟩

noncomputable def patinalaw11_PoolRound_l0_c : Code := ((loopsOf 0 (body Try.f8)).map (·.2)).getD 0 .skip

noncomputable def patinalaw11_PoolRound_l2_c : Code := ((loopsOf 0 (body Try.f8)).map (·.2)).getD 1 .skip

noncomputable def patinalaw11_PoolRound_l4_c : Code := ((loopsOf 0 (body Try.f8)).map (·.2)).getD 2 .skip

theorem patinalaw11_PoolRound_loops : loopsOf 0 (body Try.f8) = [(0, patinalaw11_PoolRound_l0_c), (2, patinalaw11_PoolRound_l2_c), (4, patinalaw11_PoolRound_l4_c)] := by kernel_rfl

theorem patinalaw11_PoolRound_l0_ok (k : Nat) : LoopOk (patinalaw11_PoolRound_C k) 0 patinalaw11_PoolRound_l0_c := by
  refine ⟨[0, 1, 6, 7, 8], by kernel_rfl, fun K r => ⟨patinalaw11_PoolRound_l0_L k K, fun vs m h => ⟨k, h⟩, ?_⟩⟩
  intro n vs m h
  unfold patinalaw11_PoolRound_l0_L at h
  split at h
  · cases n with
    | zero => cases h
    | succ n => exact ⟨n, rfl, Eq.trans (by kernel_rfl) h⟩
  · cases h

theorem patinalaw11_PoolRound_l2_ok (k : Nat) : LoopOk (patinalaw11_PoolRound_C k) 2 patinalaw11_PoolRound_l2_c := by
  refine ⟨[6, 7, 10, 11, 12], by kernel_rfl, fun K r => ⟨patinalaw11_PoolRound_l2_L k K, fun vs m h => ⟨k, h⟩, ?_⟩⟩
  intro n vs m h
  unfold patinalaw11_PoolRound_l2_L at h
  split at h
  · cases n with
    | zero => cases h
    | succ n => exact ⟨n, rfl, Eq.trans (by kernel_rfl) h⟩
  · cases h

theorem patinalaw11_PoolRound_l4_ok (k : Nat) : LoopOk (patinalaw11_PoolRound_C k) 4 patinalaw11_PoolRound_l4_c := by
  refine ⟨[6, 7, 10, 11, 12, 13, 15], by kernel_rfl, fun K r => ⟨patinalaw11_PoolRound_l4_L k K, fun vs m h => ⟨k, h⟩, ?_⟩⟩
  intro n vs m h
  unfold patinalaw11_PoolRound_l4_L at h
  split at h
  · cases n with
    | zero => cases h
    | succ n => exact ⟨n, rfl, Eq.trans (by kernel_rfl) h⟩
  · cases h

def patinalaw11_PoolRound_dec : Value → Mem → Option (Bool × Mem) := fun v m => match v with
  | .bool q0 => some (q0, m)
  | _ => none

theorem patinalaw11_PoolRound_eq (k : Nat) (p0a : Option Addr) (p0n : Nat) (p0c : Nat) (p1 : Int) (m : Mem) : fnX (patinalaw11_PoolRound_C k) Try.f8 [(Value.slice p0a p0n p0c), (Value.int .i64 p1)] m patinalaw11_PoolRound_dec = patinalaw11_PoolRound k p0a p0n p0c p1 m := by kernel_rfl

theorem patinalaw11_PoolRound_ok {k : Nat} {p0a : Option Addr} {p0n : Nat} {p0c : Nat} {p1 : Int} {m : Mem} {r : (Bool × Mem)} (h : patinalaw11_PoolRound k p0a p0n p0c p1 m = some r) : CallP Try.prog 8 [(Value.slice p0a p0n p0c), (Value.int .i64 p1)] m fun v m' => v = (Value.bool r.1) ∧ m' = r.2 := by
  refine (fn_sound (C := patinalaw11_PoolRound_C k) (c := body Try.f8) tOk mixed (patinalaw11_PoolRound_callOk k) Try.func8 (by kernel_rfl) (by kernel_rfl) (by kernel_rfl) (by kernel_rfl) ?_ (Eq.trans (patinalaw11_PoolRound_eq k p0a p0n p0c p1 m) h)).mono ?_
  · intro p hp
    rw [patinalaw11_PoolRound_loops] at hp
    simp only [List.mem_cons, List.not_mem_nil, or_false] at hp
    rcases hp with rfl | rfl | rfl
    · exact patinalaw11_PoolRound_l0_ok k
    · exact patinalaw11_PoolRound_l2_ok k
    · exact patinalaw11_PoolRound_l4_ok k
  · intro v m' hp
    unfold patinalaw11_PoolRound_dec at hp
    split at hp
    · simp only [Option.some.injEq] at hp; subst hp; exact ⟨rfl, rfl⟩
    · cases hp

end Go.Proofs.Ytnilidpafijdlaa
