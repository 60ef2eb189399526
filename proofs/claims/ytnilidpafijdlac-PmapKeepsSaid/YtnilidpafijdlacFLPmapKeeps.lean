/- The program's functions as plain Lean functions over a clean memory, each held against the program by the kernel. Written by mx.py. -/
import Derived.Test.YtnilidpafijdlacF0
import Derived.Test.YtnilidpafijdlacFpatinalaw12
import Derived.Test.YtnilidpafijdlacFpmap
set_option linter.unusedVariables false
set_option maxRecDepth 100000
namespace Go.Proofs.Ytnilidpafijdlac
open Go.Mx

/-! ### patinalaw12_PmapKeeps -/
def patinalaw12_PmapKeeps_j1 (k : Nat) (x0a : Option Addr) (x0n : Nat) (x0c : Nat) (x4 : Option Addr) (x5 : Int) (nx : Option Addr → Nat → Nat → Option Addr → Int → Mem → Option (Bool × Mem)) (mj : Mem) : Option (Bool × Mem) :=
  nx x0a x0n x0c x4 (IntKind.wrap .i64 (x5 + 1)) mj

def patinalaw12_PmapKeeps_l0_b (k : Nat) (nx : Option Addr → Nat → Nat → Option Addr → Int → Mem → Option (Bool × Mem)) (kx2 : Option Addr → Mem → Option (Bool × Mem)) (x0a : Option Addr) (x0n : Nat) (x0c : Nat) (x4 : Option Addr) (x5 : Int) (m : Mem) : Option (Bool × Mem) :=
  bif decide (x5 < ((x0n : Nat) : Int)) then (
  bif inRange x5 x0n then (
  (x0a).bind fun a3 =>
  (ldCells m (plus a3 (Int.toNat x5 * 3)) 3).bind fun t4 =>
  let m5 : Mem := m ++ [.live [.int .i64 0, .int .i64 0, .int .i64 0]]
  bif Nat.beq (List.length t4) 3 then (
  (stCells m5 ⟨List.length m, 0, Option.none⟩ t4).bind fun m6 =>
  (ldInt .i64 m6 (plus ⟨List.length m, 0, Option.none⟩ 1)).bind fun t7 =>
  (patinalaw12_pick k t7 25 m6).bind fun r8 =>
  (ldInt .i64 r8.2 (plus ⟨List.length m, 0, Option.none⟩ 0)).bind fun t9 =>
  (patinalaw12_pick k t9 4 r8.2).bind fun r10 =>
  bif r10.1 == 0 then (
  (pmap_Map_Drop k x4 r8.1 r10.2).bind fun r11 =>
  patinalaw12_PmapKeeps_j1 k x0a x0n x0c x4 x5 nx r11.2) else (
  (ldInt .i64 r10.2 (plus ⟨List.length m, 0, Option.none⟩ 2)).bind fun t12 =>
  (patinalaw12_pick k t12 96 r10.2).bind fun r13 =>
  (pmap_Map_Set k x4 r8.1 r13.1 r13.2).bind fun r14 =>
  patinalaw12_PmapKeeps_j1 k x0a x0n x0c x4 x5 nx r14.2)) else none) else none) else (
  kx2 x4 m)

def patinalaw12_PmapKeeps_l0 (k : Nat) (kx2 : Option Addr → Mem → Option (Bool × Mem)) : Nat → Option Addr → Nat → Nat → Option Addr → Int → Mem → Option (Bool × Mem)
  | 0, _, _, _, _, _, _ => none
  | n + 1, x0a, x0n, x0c, x4, x5, m => patinalaw12_PmapKeeps_l0_b k (fun x0a x0n x0c x4 x5 m => patinalaw12_PmapKeeps_l0 k kx2 n x0a x0n x0c x4 x5 m) kx2 x0a x0n x0c x4 x5 m

theorem patinalaw12_PmapKeeps_l0_rule (k : Nat) (kx2 : Option Addr → Mem → Option (Bool × Mem)) {P : (Bool × Mem) → Prop} (I : Nat → Option Addr → Nat → Nat → Option Addr → Int → Mem → Prop)
    (step : ∀ d (nx : Option Addr → Nat → Nat → Option Addr → Int → Mem → Option (Bool × Mem)) (x0a : Option Addr) (x0n : Nat) (x0c : Nat) (x4 : Option Addr) (x5 : Int) (m : Mem), I d x0a x0n x0c x4 x5 m → (∀ d' (x0a : Option Addr) (x0n : Nat) (x0c : Nat) (x4 : Option Addr) (x5 : Int) (m : Mem), d' < d → I d' x0a x0n x0c x4 x5 m → Ok (nx x0a x0n x0c x4 x5 m) P) → Ok (patinalaw12_PmapKeeps_l0_b k nx kx2 x0a x0n x0c x4 x5 m) P) :
    ∀ n d (x0a : Option Addr) (x0n : Nat) (x0c : Nat) (x4 : Option Addr) (x5 : Int) (m : Mem), d < n → I d x0a x0n x0c x4 x5 m → Ok (patinalaw12_PmapKeeps_l0 k kx2 n x0a x0n x0c x4 x5 m) P
  | 0, d, x0a, x0n, x0c, x4, x5, m, h, _ => absurd h (Nat.not_lt_zero _)
  | n + 1, d, x0a, x0n, x0c, x4, x5, m, h, hI => step d _ x0a x0n x0c x4 x5 m hI fun d' x0a x0n x0c x4 x5 m h' hI' => patinalaw12_PmapKeeps_l0_rule k kx2 I step n d' x0a x0n x0c x4 x5 m (by omega) hI'

def patinalaw12_PmapKeeps_j2 (k : Nat) (x4 : Option Addr) (x9 : Int) (nx : Option Addr → Int → Int → Mem → Option (Bool × Mem)) (x8_ : Int) (mj : Mem) : Option (Bool × Mem) :=
  nx x4 x8_ (IntKind.wrap .i64 (x9 + 1)) mj

def patinalaw12_PmapKeeps_l2_b (k : Nat) (nx : Option Addr → Int → Int → Mem → Option (Bool × Mem)) (kx0 : Bool → Mem → Option (Bool × Mem)) (kx4 : Option Addr → Int → Mem → Option (Bool × Mem)) (x4 : Option Addr) (x8 : Int) (x9 : Int) (m : Mem) : Option (Bool × Mem) :=
  bif decide (x9 ≤ 24) then (
  (pmap_Map_At k x4 x9 m).bind fun r16 =>
  (isNil r16.2.1).bind fun b17 =>
  bif !b17 then (
  (ifEq tt r16.2.1 (Value.iface ty_api_Code (Value.int .i64 11))).bind fun b18 =>
  bif !b18 then (
  kx0 false r16.2.2) else (
  bif r16.1 != 0 then (
  kx0 false r16.2.2) else (
  patinalaw12_PmapKeeps_j2 k x4 x9 nx x8 r16.2.2))) else (
  (pmap_Map_Owner k x4 r16.1 r16.2.2).bind fun r19 =>
  (isNil r19.2.1).bind fun b20 =>
  bif !b20 then (
  kx0 false r19.2.2) else (
  bif r19.1 != x9 then (
  kx0 false r19.2.2) else (
  bif decide (x9 < 24) then (
  bif decide ((Int.tmod r16.1 8) ≥ 6) then (
  kx0 false r19.2.2) else (
  patinalaw12_PmapKeeps_j2 k x4 x9 nx (IntKind.wrap .i64 (x8 + 1)) r19.2.2)) else (
  patinalaw12_PmapKeeps_j2 k x4 x9 nx (IntKind.wrap .i64 (x8 + 1)) r19.2.2))))) else (
  kx4 x4 x8 m)

def patinalaw12_PmapKeeps_l2 (k : Nat) (kx0 : Bool → Mem → Option (Bool × Mem)) (kx4 : Option Addr → Int → Mem → Option (Bool × Mem)) : Nat → Option Addr → Int → Int → Mem → Option (Bool × Mem)
  | 0, _, _, _, _ => none
  | n + 1, x4, x8, x9, m => patinalaw12_PmapKeeps_l2_b k (fun x4 x8 x9 m => patinalaw12_PmapKeeps_l2 k kx0 kx4 n x4 x8 x9 m) kx0 kx4 x4 x8 x9 m

theorem patinalaw12_PmapKeeps_l2_rule (k : Nat) (kx0 : Bool → Mem → Option (Bool × Mem)) (kx4 : Option Addr → Int → Mem → Option (Bool × Mem)) {P : (Bool × Mem) → Prop} (I : Nat → Option Addr → Int → Int → Mem → Prop)
    (step : ∀ d (nx : Option Addr → Int → Int → Mem → Option (Bool × Mem)) (x4 : Option Addr) (x8 : Int) (x9 : Int) (m : Mem), I d x4 x8 x9 m → (∀ d' (x4 : Option Addr) (x8 : Int) (x9 : Int) (m : Mem), d' < d → I d' x4 x8 x9 m → Ok (nx x4 x8 x9 m) P) → Ok (patinalaw12_PmapKeeps_l2_b k nx kx0 kx4 x4 x8 x9 m) P) :
    ∀ n d (x4 : Option Addr) (x8 : Int) (x9 : Int) (m : Mem), d < n → I d x4 x8 x9 m → Ok (patinalaw12_PmapKeeps_l2 k kx0 kx4 n x4 x8 x9 m) P
  | 0, d, x4, x8, x9, m, h, _ => absurd h (Nat.not_lt_zero _)
  | n + 1, d, x4, x8, x9, m, h, hI => step d _ x4 x8 x9 m hI fun d' x4 x8 x9 m h' hI' => patinalaw12_PmapKeeps_l2_rule k kx0 kx4 I step n d' x4 x8 x9 m (by omega) hI'

def patinalaw12_PmapKeeps_l4_b (k : Nat) (nx : Option Addr → Int → Option Addr → Nat → Nat → Int → Int → Int → Mem → Option (Bool × Mem)) (kx0 : Bool → Mem → Option (Bool × Mem)) (kx6 : Option Addr → Int → Option Addr → Nat → Nat → Int → Int → Mem → Option (Bool × Mem)) (x4 : Option Addr) (x8 : Int) (x14a : Option Addr) (x14n : Nat) (x14c : Nat) (x15 : Int) (x16 : Int) (x17 : Int) (m : Mem) : Option (Bool × Mem) :=
  bif decide (x17 < ((x14n : Nat) : Int)) then (
  (pmap_Map_Of k x4 x17 m).bind fun r24 =>
  (isNil r24.2.1).bind fun b25 =>
  bif !b25 then (
  kx0 false r24.2.2) else (
  bif inRange x17 x14n then (
  (x14a).bind fun a26 =>
  (ldInt .i64 r24.2.2 (plus a26 (Int.toNat x17 * 1))).bind fun t27 =>
  bif ((r24.1.len : Nat) : Int) != t27 then (
  kx0 false r24.2.2) else (
  bif inRange x17 x14n then (
  (x14a).bind fun a28 =>
  (ldInt .i64 r24.2.2 (plus a28 (Int.toNat x17 * 1))).bind fun t29 =>
  nx x4 x8 x14a x14n x14c (IntKind.wrap .i64 (x15 + t29)) x16 (IntKind.wrap .i64 (x17 + 1)) r24.2.2) else none)) else none)) else (
  kx6 x4 x8 x14a x14n x14c x15 x16 m)

def patinalaw12_PmapKeeps_l4 (k : Nat) (kx0 : Bool → Mem → Option (Bool × Mem)) (kx6 : Option Addr → Int → Option Addr → Nat → Nat → Int → Int → Mem → Option (Bool × Mem)) : Nat → Option Addr → Int → Option Addr → Nat → Nat → Int → Int → Int → Mem → Option (Bool × Mem)
  | 0, _, _, _, _, _, _, _, _, _ => none
  | n + 1, x4, x8, x14a, x14n, x14c, x15, x16, x17, m => patinalaw12_PmapKeeps_l4_b k (fun x4 x8 x14a x14n x14c x15 x16 x17 m => patinalaw12_PmapKeeps_l4 k kx0 kx6 n x4 x8 x14a x14n x14c x15 x16 x17 m) kx0 kx6 x4 x8 x14a x14n x14c x15 x16 x17 m

theorem patinalaw12_PmapKeeps_l4_rule (k : Nat) (kx0 : Bool → Mem → Option (Bool × Mem)) (kx6 : Option Addr → Int → Option Addr → Nat → Nat → Int → Int → Mem → Option (Bool × Mem)) {P : (Bool × Mem) → Prop} (I : Nat → Option Addr → Int → Option Addr → Nat → Nat → Int → Int → Int → Mem → Prop)
    (step : ∀ d (nx : Option Addr → Int → Option Addr → Nat → Nat → Int → Int → Int → Mem → Option (Bool × Mem)) (x4 : Option Addr) (x8 : Int) (x14a : Option Addr) (x14n : Nat) (x14c : Nat) (x15 : Int) (x16 : Int) (x17 : Int) (m : Mem), I d x4 x8 x14a x14n x14c x15 x16 x17 m → (∀ d' (x4 : Option Addr) (x8 : Int) (x14a : Option Addr) (x14n : Nat) (x14c : Nat) (x15 : Int) (x16 : Int) (x17 : Int) (m : Mem), d' < d → I d' x4 x8 x14a x14n x14c x15 x16 x17 m → Ok (nx x4 x8 x14a x14n x14c x15 x16 x17 m) P) → Ok (patinalaw12_PmapKeeps_l4_b k nx kx0 kx6 x4 x8 x14a x14n x14c x15 x16 x17 m) P) :
    ∀ n d (x4 : Option Addr) (x8 : Int) (x14a : Option Addr) (x14n : Nat) (x14c : Nat) (x15 : Int) (x16 : Int) (x17 : Int) (m : Mem), d < n → I d x4 x8 x14a x14n x14c x15 x16 x17 m → Ok (patinalaw12_PmapKeeps_l4 k kx0 kx6 n x4 x8 x14a x14n x14c x15 x16 x17 m) P
  | 0, d, x4, x8, x14a, x14n, x14c, x15, x16, x17, m, h, _ => absurd h (Nat.not_lt_zero _)
  | n + 1, d, x4, x8, x14a, x14n, x14c, x15, x16, x17, m, h, hI => step d _ x4 x8 x14a x14n x14c x15 x16 x17 m hI fun d' x4 x8 x14a x14n x14c x15 x16 x17 m h' hI' => patinalaw12_PmapKeeps_l4_rule k kx0 kx6 I step n d' x4 x8 x14a x14n x14c x15 x16 x17 m (by omega) hI'

def patinalaw12_PmapKeeps_j3 (k : Nat) (x4 : Option Addr) (x8 : Int) (x14a : Option Addr) (x14n : Nat) (x14c : Nat) (x15 : Int) (x20 : Int) (nx : Option Addr → Int → Option Addr → Nat → Nat → Int → Int → Int → Mem → Option (Bool × Mem)) (x16_ : Int) (mj : Mem) : Option (Bool × Mem) :=
  nx x4 x8 x14a x14n x14c x15 x16_ (IntKind.wrap .i64 (x20 + 1)) mj

def patinalaw12_PmapKeeps_l6_b (k : Nat) (nx : Option Addr → Int → Option Addr → Nat → Nat → Int → Int → Int → Mem → Option (Bool × Mem)) (kx8 : Int → Option Addr → Nat → Nat → Int → Int → Mem → Option (Bool × Mem)) (x4 : Option Addr) (x8 : Int) (x14a : Option Addr) (x14n : Nat) (x14c : Nat) (x15 : Int) (x16 : Int) (x20 : Int) (m : Mem) : Option (Bool × Mem) :=
  bif decide (x20 < 96) then (
  (pmap_Map_Owner k x4 x20 m).bind fun r32 =>
  (isNil r32.2.1).bind fun b33 =>
  bif b33 then (
  patinalaw12_PmapKeeps_j3 k x4 x8 x14a x14n x14c x15 x20 nx (IntKind.wrap .i64 (x16 + 1)) r32.2.2) else (
  patinalaw12_PmapKeeps_j3 k x4 x8 x14a x14n x14c x15 x20 nx x16 r32.2.2)) else (
  kx8 x8 x14a x14n x14c x15 x16 m)

def patinalaw12_PmapKeeps_l6 (k : Nat) (kx8 : Int → Option Addr → Nat → Nat → Int → Int → Mem → Option (Bool × Mem)) : Nat → Option Addr → Int → Option Addr → Nat → Nat → Int → Int → Int → Mem → Option (Bool × Mem)
  | 0, _, _, _, _, _, _, _, _, _ => none
  | n + 1, x4, x8, x14a, x14n, x14c, x15, x16, x20, m => patinalaw12_PmapKeeps_l6_b k (fun x4 x8 x14a x14n x14c x15 x16 x20 m => patinalaw12_PmapKeeps_l6 k kx8 n x4 x8 x14a x14n x14c x15 x16 x20 m) kx8 x4 x8 x14a x14n x14c x15 x16 x20 m

theorem patinalaw12_PmapKeeps_l6_rule (k : Nat) (kx8 : Int → Option Addr → Nat → Nat → Int → Int → Mem → Option (Bool × Mem)) {P : (Bool × Mem) → Prop} (I : Nat → Option Addr → Int → Option Addr → Nat → Nat → Int → Int → Int → Mem → Prop)
    (step : ∀ d (nx : Option Addr → Int → Option Addr → Nat → Nat → Int → Int → Int → Mem → Option (Bool × Mem)) (x4 : Option Addr) (x8 : Int) (x14a : Option Addr) (x14n : Nat) (x14c : Nat) (x15 : Int) (x16 : Int) (x20 : Int) (m : Mem), I d x4 x8 x14a x14n x14c x15 x16 x20 m → (∀ d' (x4 : Option Addr) (x8 : Int) (x14a : Option Addr) (x14n : Nat) (x14c : Nat) (x15 : Int) (x16 : Int) (x20 : Int) (m : Mem), d' < d → I d' x4 x8 x14a x14n x14c x15 x16 x20 m → Ok (nx x4 x8 x14a x14n x14c x15 x16 x20 m) P) → Ok (patinalaw12_PmapKeeps_l6_b k nx kx8 x4 x8 x14a x14n x14c x15 x16 x20 m) P) :
    ∀ n d (x4 : Option Addr) (x8 : Int) (x14a : Option Addr) (x14n : Nat) (x14c : Nat) (x15 : Int) (x16 : Int) (x20 : Int) (m : Mem), d < n → I d x4 x8 x14a x14n x14c x15 x16 x20 m → Ok (patinalaw12_PmapKeeps_l6 k kx8 n x4 x8 x14a x14n x14c x15 x16 x20 m) P
  | 0, d, x4, x8, x14a, x14n, x14c, x15, x16, x20, m, h, _ => absurd h (Nat.not_lt_zero _)
  | n + 1, d, x4, x8, x14a, x14n, x14c, x15, x16, x20, m, h, hI => step d _ x4 x8 x14a x14n x14c x15 x16 x20 m hI fun d' x4 x8 x14a x14n x14c x15 x16 x20 m h' hI' => patinalaw12_PmapKeeps_l6_rule k kx8 I step n d' x4 x8 x14a x14n x14c x15 x16 x20 m (by omega) hI'

def patinalaw12_PmapKeeps (k : Nat) (p0a : Option Addr) (p0n : Nat) (p0c : Nat) (m : Mem) : Option (Bool × Mem) :=
  (patinalaw12_up k  m).bind fun r1 =>
  (pmap_New k  r1.2).bind fun r2 =>
  bif !r1.1 then (
  some (false, r2.2)) else (
  bif Option.isNone r2.1 then (
  some (false, r2.2)) else (
  patinalaw12_PmapKeeps_l0 k (fun y4 m15 => 
  patinalaw12_PmapKeeps_l2 k (fun y2 m21 => 
  some (y2, m21)) (fun y4 y8 m22 => 
  (pmap_Map_Live k y4 m22).bind fun r23 =>
  patinalaw12_PmapKeeps_l4 k (fun y2 m30 => 
  some (y2, m30)) (fun y4 y8 y14a y14n y14c y15 y16 m31 => 
  patinalaw12_PmapKeeps_l6 k (fun y8 y14a y14n y14c y15 y16 m34 => 
  bif ((y14n : Nat) : Int) == 12 then (
  bif y15 == y8 then (
  some (y16 == y8, m34)) else (
  some (false, m34))) else (
  some (false, m34))) k y4 y8 y14a y14n y14c y15 y16 0 m31) k y4 y8 r23.1.a r23.1.len r23.1.cap 0 0 0 r23.2) k y4 0 0 m15) k p0a p0n p0c r2.1 0 r2.2))

def patinalaw12_PmapKeeps_call {R : Type} (k : Nat) : Fun R := fun f args m K => match f, args with
  | 31, [] => (patinalaw12_up k  m).bind fun r => K (Value.bool r.1) r.2
  | 32, [] => (pmap_New k  m).bind fun r => K (Value.pointer r.1) r.2
  | 36, [.int .i64 p0, .int .i64 p1] => (patinalaw12_pick k p0 p1 m).bind fun r => K (Value.int .i64 r.1) r.2
  | 37, [.pointer p0, .int .i64 p1] => (pmap_Map_Drop k p0 p1 m).bind fun r => K r.1 r.2
  | 38, [.pointer p0, .int .i64 p1, .int .i64 p2] => (pmap_Map_Set k p0 p1 p2 m).bind fun r => K r.1 r.2
  | 39, [.pointer p0, .int .i64 p1] => (pmap_Map_At k p0 p1 m).bind fun r => K (Value.tuple ⟨[(Value.int .i64 r.1), r.2.1]⟩) r.2.2
  | 40, [.pointer p0, .int .i64 p1] => (pmap_Map_Owner k p0 p1 m).bind fun r => K (Value.tuple ⟨[(Value.int .i64 r.1), r.2.1]⟩) r.2.2
  | 41, [.pointer p0] => (pmap_Map_Live k p0 m).bind fun r => K (Value.slice r.1.a r.1.len r.1.cap) r.2
  | 42, [.pointer p0, .int .i64 p1] => (pmap_Map_Of k p0 p1 m).bind fun r => K (Value.tuple ⟨[(Value.slice r.1.a r.1.len r.1.cap), r.2.1]⟩) r.2.2
  | _, _ => none

theorem patinalaw12_PmapKeeps_callOk {R : Type} (k : Nat) : CallOk Try.prog (patinalaw12_PmapKeeps_call (R := R) k) := by
  intro f vs m K r h
  unfold patinalaw12_PmapKeeps_call at h
  split at h
  · obtain ⟨r, h1, h2⟩ := Option.bind_eq_some_iff.1 h; exact ⟨_, _, h2, fun K' => by simp only [patinalaw12_PmapKeeps_call, h1, Option.bind_some], patinalaw12_up_ok h1⟩
  · obtain ⟨r, h1, h2⟩ := Option.bind_eq_some_iff.1 h; exact ⟨_, _, h2, fun K' => by simp only [patinalaw12_PmapKeeps_call, h1, Option.bind_some], pmap_New_ok h1⟩
  · obtain ⟨r, h1, h2⟩ := Option.bind_eq_some_iff.1 h; exact ⟨_, _, h2, fun K' => by simp only [patinalaw12_PmapKeeps_call, h1, Option.bind_some], patinalaw12_pick_ok h1⟩
  · obtain ⟨r, h1, h2⟩ := Option.bind_eq_some_iff.1 h; exact ⟨_, _, h2, fun K' => by simp only [patinalaw12_PmapKeeps_call, h1, Option.bind_some], pmap_Map_Drop_ok h1⟩
  · obtain ⟨r, h1, h2⟩ := Option.bind_eq_some_iff.1 h; exact ⟨_, _, h2, fun K' => by simp only [patinalaw12_PmapKeeps_call, h1, Option.bind_some], pmap_Map_Set_ok h1⟩
  · obtain ⟨r, h1, h2⟩ := Option.bind_eq_some_iff.1 h; exact ⟨_, _, h2, fun K' => by simp only [patinalaw12_PmapKeeps_call, h1, Option.bind_some], pmap_Map_At_ok h1⟩
  · obtain ⟨r, h1, h2⟩ := Option.bind_eq_some_iff.1 h; exact ⟨_, _, h2, fun K' => by simp only [patinalaw12_PmapKeeps_call, h1, Option.bind_some], pmap_Map_Owner_ok h1⟩
  · obtain ⟨r, h1, h2⟩ := Option.bind_eq_some_iff.1 h; exact ⟨_, _, h2, fun K' => by simp only [patinalaw12_PmapKeeps_call, h1, Option.bind_some], pmap_Map_Live_ok h1⟩
  · obtain ⟨r, h1, h2⟩ := Option.bind_eq_some_iff.1 h; exact ⟨_, _, h2, fun K' => by simp only [patinalaw12_PmapKeeps_call, h1, Option.bind_some], pmap_Map_Of_ok h1⟩
  · cases h

def patinalaw12_PmapKeeps_l0_L (k : Nat) (K : Nat → List Value → Mem → Option (Bool × Mem)) (n : Nat) (vs : List Value) (m : Mem) : Option (Bool × Mem) := match vs with
  | [.slice x0a x0n x0c, .pointer x4, .int .i64 x5] => patinalaw12_PmapKeeps_l0 k (fun y4 m => K 2 [(Value.pointer y4)] m) n x0a x0n x0c x4 x5 m
  | _ => none

def patinalaw12_PmapKeeps_l2_L (k : Nat) (K : Nat → List Value → Mem → Option (Bool × Mem)) (n : Nat) (vs : List Value) (m : Mem) : Option (Bool × Mem) := match vs with
  | [.pointer x4, .int .i64 x8, .int .i64 x9] => patinalaw12_PmapKeeps_l2 k (fun y2 m => K 0 [(Value.bool y2)] m) (fun y4 y8 m => K 4 [(Value.pointer y4), (Value.int .i64 y8)] m) n x4 x8 x9 m
  | _ => none

def patinalaw12_PmapKeeps_l4_L (k : Nat) (K : Nat → List Value → Mem → Option (Bool × Mem)) (n : Nat) (vs : List Value) (m : Mem) : Option (Bool × Mem) := match vs with
  | [.pointer x4, .int .i64 x8, .slice x14a x14n x14c, .int .i64 x15, .int .i64 x16, .int .i64 x17] => patinalaw12_PmapKeeps_l4 k (fun y2 m => K 0 [(Value.bool y2)] m) (fun y4 y8 y14a y14n y14c y15 y16 m => K 6 [(Value.pointer y4), (Value.int .i64 y8), (Value.slice y14a y14n y14c), (Value.int .i64 y15), (Value.int .i64 y16)] m) n x4 x8 x14a x14n x14c x15 x16 x17 m
  | _ => none

def patinalaw12_PmapKeeps_l6_L (k : Nat) (K : Nat → List Value → Mem → Option (Bool × Mem)) (n : Nat) (vs : List Value) (m : Mem) : Option (Bool × Mem) := match vs with
  | [.pointer x4, .int .i64 x8, .slice x14a x14n x14c, .int .i64 x15, .int .i64 x16, .int .i64 x20] => patinalaw12_PmapKeeps_l6 k (fun y8 y14a y14n y14c y15 y16 m => K 8 [(Value.int .i64 y8), (Value.slice y14a y14n y14c), (Value.int .i64 y15), (Value.int .i64 y16)] m) n x4 x8 x14a x14n x14c x15 x16 x20 m
  | _ => none

def patinalaw12_PmapKeeps_loop (k : Nat) : Nat → List Value → Mem → (Nat → List Value → Mem → Option (Bool × Mem)) → Option (Bool × Mem) := fun cur vs m K => match cur with
  | 0 => patinalaw12_PmapKeeps_l0_L k K k vs m
  | 2 => patinalaw12_PmapKeeps_l2_L k K k vs m
  | 4 => patinalaw12_PmapKeeps_l4_L k K k vs m
  | 6 => patinalaw12_PmapKeeps_l6_L k K k vs m
  | _ => none

def patinalaw12_PmapKeeps_C (k : Nat) : Ctx (Bool × Mem) := ⟨tt, patinalaw12_PmapKeeps_call k, patinalaw12_PmapKeeps_loop k, [(0, [0, 4, 5]), (2, [4, 8, 9]), (4, [4, 8, 14, 15, 16, 17]), (6, [4, 8, 14, 15, 16, 20])], [(0, [2]), (2, [4]), (4, [4, 8]), (6, [4, 8, 14, 15, 16]), (8, [8, 14, 15, 16])]⟩

noncomputable def patinalaw12_PmapKeeps_l0_c : Code := ((loopsOf 0 (body Try.f8)).map (·.2)).getD 0 .skip

noncomputable def patinalaw12_PmapKeeps_l2_c : Code := ((loopsOf 0 (body Try.f8)).map (·.2)).getD 1 .skip

noncomputable def patinalaw12_PmapKeeps_l4_c : Code := ((loopsOf 0 (body Try.f8)).map (·.2)).getD 2 .skip

noncomputable def patinalaw12_PmapKeeps_l6_c : Code := ((loopsOf 0 (body Try.f8)).map (·.2)).getD 3 .skip

theorem patinalaw12_PmapKeeps_loops : loopsOf 0 (body Try.f8) = [(0, patinalaw12_PmapKeeps_l0_c), (2, patinalaw12_PmapKeeps_l2_c), (4, patinalaw12_PmapKeeps_l4_c), (6, patinalaw12_PmapKeeps_l6_c)] := by kernel_rfl

theorem patinalaw12_PmapKeeps_l0_ok (k : Nat) : LoopOk (patinalaw12_PmapKeeps_C k) 0 patinalaw12_PmapKeeps_l0_c := by
  refine ⟨[0, 4, 5], by kernel_rfl, fun K r => ⟨patinalaw12_PmapKeeps_l0_L k K, fun vs m h => ⟨k, h⟩, ?_⟩⟩
  intro n vs m h
  unfold patinalaw12_PmapKeeps_l0_L at h
  split at h
  · cases n with
    | zero => cases h
    | succ n => exact ⟨n, rfl, Eq.trans (by kernel_rfl) h⟩
  · cases h

theorem patinalaw12_PmapKeeps_l2_ok (k : Nat) : LoopOk (patinalaw12_PmapKeeps_C k) 2 patinalaw12_PmapKeeps_l2_c := by
  refine ⟨[4, 8, 9], by kernel_rfl, fun K r => ⟨patinalaw12_PmapKeeps_l2_L k K, fun vs m h => ⟨k, h⟩, ?_⟩⟩
  intro n vs m h
  unfold patinalaw12_PmapKeeps_l2_L at h
  split at h
  · cases n with
    | zero => cases h
    | succ n => exact ⟨n, rfl, Eq.trans (by kernel_rfl) h⟩
  · cases h

theorem patinalaw12_PmapKeeps_l4_ok (k : Nat) : LoopOk (patinalaw12_PmapKeeps_C k) 4 patinalaw12_PmapKeeps_l4_c := by
  refine ⟨[4, 8, 14, 15, 16, 17], by kernel_rfl, fun K r => ⟨patinalaw12_PmapKeeps_l4_L k K, fun vs m h => ⟨k, h⟩, ?_⟩⟩
  intro n vs m h
  unfold patinalaw12_PmapKeeps_l4_L at h
  split at h
  · cases n with
    | zero => cases h
    | succ n => exact ⟨n, rfl, Eq.trans (by kernel_rfl) h⟩
  · cases h

theorem patinalaw12_PmapKeeps_l6_ok (k : Nat) : LoopOk (patinalaw12_PmapKeeps_C k) 6 patinalaw12_PmapKeeps_l6_c := by
  refine ⟨[4, 8, 14, 15, 16, 20], by kernel_rfl, fun K r => ⟨patinalaw12_PmapKeeps_l6_L k K, fun vs m h => ⟨k, h⟩, ?_⟩⟩
  intro n vs m h
  unfold patinalaw12_PmapKeeps_l6_L at h
  split at h
  · cases n with
    | zero => cases h
    | succ n => exact ⟨n, rfl, Eq.trans (by kernel_rfl) h⟩
  · cases h

def patinalaw12_PmapKeeps_dec : Value → Mem → Option (Bool × Mem) := fun v m => match v with
  | .bool q0 => some (q0, m)
  | _ => none

theorem patinalaw12_PmapKeeps_eq (k : Nat) (p0a : Option Addr) (p0n : Nat) (p0c : Nat) (m : Mem) : fnX (patinalaw12_PmapKeeps_C k) Try.f8 [(Value.slice p0a p0n p0c)] m patinalaw12_PmapKeeps_dec = patinalaw12_PmapKeeps k p0a p0n p0c m := by kernel_rfl

theorem patinalaw12_PmapKeeps_ok {k : Nat} {p0a : Option Addr} {p0n : Nat} {p0c : Nat} {m : Mem} {r : (Bool × Mem)} (h : patinalaw12_PmapKeeps k p0a p0n p0c m = some r) : CallP Try.prog 8 [(Value.slice p0a p0n p0c)] m fun v m' => v = (Value.bool r.1) ∧ m' = r.2 := by
  refine (fn_sound (C := patinalaw12_PmapKeeps_C k) (c := body Try.f8) tOk mixed (patinalaw12_PmapKeeps_callOk k) Try.func8 (by kernel_rfl) (by kernel_rfl) (by kernel_rfl) (by kernel_rfl) ?_ (Eq.trans (patinalaw12_PmapKeeps_eq k p0a p0n p0c m) h)).mono ?_
  · intro p hp
    rw [patinalaw12_PmapKeeps_loops] at hp
    simp only [List.mem_cons, List.not_mem_nil, or_false] at hp
    rcases hp with rfl | rfl | rfl | rfl
    · exact patinalaw12_PmapKeeps_l0_ok k
    · exact patinalaw12_PmapKeeps_l2_ok k
    · exact patinalaw12_PmapKeeps_l4_ok k
    · exact patinalaw12_PmapKeeps_l6_ok k
  · intro v m' hp
    unfold patinalaw12_PmapKeeps_dec at hp
    split at hp
    · simp only [Option.some.injEq] at hp; subst hp; exact ⟨rfl, rfl⟩
    · cases hp

end Go.Proofs.Ytnilidpafijdlac
