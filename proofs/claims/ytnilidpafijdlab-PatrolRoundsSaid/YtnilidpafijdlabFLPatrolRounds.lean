/- The program's functions as plain Lean functions over a clean memory, each held against the program by the kernel. Written by mx.py. -/
import Derived.Test.YtnilidpafijdlabF0
import Derived.Test.YtnilidpafijdlabFpatinalaw15
import Derived.Test.YtnilidpafijdlabFpatrol
set_option linter.unusedVariables false
set_option maxRecDepth 100000
namespace Go.Proofs.Ytnilidpafijdlab
open Go.Mx

/-! ### patinalaw15_PatrolRounds -/
def patinalaw15_PatrolRounds_l0_b (k : Nat) (nx : Option Addr → Int → Int → Option Addr → Nat → Nat → Int → Mem → Option (Bool × Mem)) (kx2 : Option Addr → Int → Int → Option Addr → Nat → Nat → Mem → Option (Bool × Mem)) (x9 : Option Addr) (x11 : Int) (x12 : Int) (x13a : Option Addr) (x13n : Nat) (x13c : Nat) (x14 : Int) (m : Mem) : Option (Bool × Mem) :=
  bif decide (x14 < x11) then (
  (patrol_Patrol_Cursor k x9 m).bind fun r7 =>
  let m8 : Mem := r7.2 ++ [.live [(Value.int .i64 r7.1)]]
  (rdSl m8 (some ⟨List.length r7.2, 0, Option.none⟩) 1 1).bind fun l9 =>
  (appM 1 8 m8 x13a x13n x13c 1 l9).bind fun r10 =>
  (patrol_Patrol_Step k x9 r10.2).bind fun r11 =>
  nx x9 x11 x12 r10.1.a r10.1.len r10.1.cap (IntKind.wrap .i64 (x14 + 1)) r11.2) else (
  kx2 x9 x11 x12 x13a x13n x13c m)

def patinalaw15_PatrolRounds_l0 (k : Nat) (kx2 : Option Addr → Int → Int → Option Addr → Nat → Nat → Mem → Option (Bool × Mem)) : Nat → Option Addr → Int → Int → Option Addr → Nat → Nat → Int → Mem → Option (Bool × Mem)
  | 0, _, _, _, _, _, _, _, _ => none
  | n + 1, x9, x11, x12, x13a, x13n, x13c, x14, m => patinalaw15_PatrolRounds_l0_b k (fun x9 x11 x12 x13a x13n x13c x14 m => patinalaw15_PatrolRounds_l0 k kx2 n x9 x11 x12 x13a x13n x13c x14 m) kx2 x9 x11 x12 x13a x13n x13c x14 m

theorem patinalaw15_PatrolRounds_l0_rule (k : Nat) (kx2 : Option Addr → Int → Int → Option Addr → Nat → Nat → Mem → Option (Bool × Mem)) {P : (Bool × Mem) → Prop} (I : Nat → Option Addr → Int → Int → Option Addr → Nat → Nat → Int → Mem → Prop)
    (step : ∀ d (nx : Option Addr → Int → Int → Option Addr → Nat → Nat → Int → Mem → Option (Bool × Mem)) (x9 : Option Addr) (x11 : Int) (x12 : Int) (x13a : Option Addr) (x13n : Nat) (x13c : Nat) (x14 : Int) (m : Mem), I d x9 x11 x12 x13a x13n x13c x14 m → (∀ d' (x9 : Option Addr) (x11 : Int) (x12 : Int) (x13a : Option Addr) (x13n : Nat) (x13c : Nat) (x14 : Int) (m : Mem), d' < d → I d' x9 x11 x12 x13a x13n x13c x14 m → Ok (nx x9 x11 x12 x13a x13n x13c x14 m) P) → Ok (patinalaw15_PatrolRounds_l0_b k nx kx2 x9 x11 x12 x13a x13n x13c x14 m) P) :
    ∀ n d (x9 : Option Addr) (x11 : Int) (x12 : Int) (x13a : Option Addr) (x13n : Nat) (x13c : Nat) (x14 : Int) (m : Mem), d < n → I d x9 x11 x12 x13a x13n x13c x14 m → Ok (patinalaw15_PatrolRounds_l0 k kx2 n x9 x11 x12 x13a x13n x13c x14 m) P
  | 0, d, x9, x11, x12, x13a, x13n, x13c, x14, m, h, _ => absurd h (Nat.not_lt_zero _)
  | n + 1, d, x9, x11, x12, x13a, x13n, x13c, x14, m, h, hI => step d _ x9 x11 x12 x13a x13n x13c x14 m hI fun d' x9 x11 x12 x13a x13n x13c x14 m h' hI' => patinalaw15_PatrolRounds_l0_rule k kx2 I step n d' x9 x11 x12 x13a x13n x13c x14 m (by omega) hI'

def patinalaw15_PatrolRounds_l4_b (k : Nat) (nx : Option Addr → Int → Int → Option Addr → Nat → Nat → Int → Addr → Int → Option Addr → Nat → Nat → Int → Mem → Option (Bool × Mem)) (kx0 : Bool → Mem → Option (Bool × Mem)) (kx6 : Option Addr → Int → Int → Option Addr → Nat → Nat → Int → Addr → Int → Mem → Option (Bool × Mem)) (x9 : Option Addr) (x11 : Int) (x12 : Int) (x13a : Option Addr) (x13n : Nat) (x13c : Nat) (x15 : Int) (x16 : Addr) (x17 : Int) (x18a : Option Addr) (x18n : Nat) (x18c : Nat) (x19 : Int) (m : Mem) : Option (Bool × Mem) :=
  bif decide (x19 < ((x18n : Nat) : Int)) then (
  bif inRange x19 x18n then (
  (x18a).bind fun a16 =>
  (ldInt .i64 m (plus a16 (Int.toNat x19 * 1))).bind fun t17 =>
  bif decide (t17 < 0) then (
  kx0 false m) else (
  bif inRange x19 x18n then (
  (x18a).bind fun a18 =>
  (ldInt .i64 m (plus a18 (Int.toNat x19 * 1))).bind fun t19 =>
  bif decide (t19 ≥ 96) then (
  kx0 false m) else (
  bif inRange x19 x18n then (
  (x18a).bind fun a20 =>
  (ldInt .i64 m (plus a20 (Int.toNat x19 * 1))).bind fun t21 =>
  bif inRange t21 96 then (
  (ldInt .i64 m (plus x16 (Int.toNat t21 * 1))).bind fun t22 =>
  bif inRange t21 96 then (
  (st m (plus x16 (Int.toNat t21 * 1)) (Value.int .i64 (IntKind.wrap .i64 (t22 + 1)))).bind fun m23 =>
  nx x9 x11 x12 x13a x13n x13c x15 x16 x17 x18a x18n x18c (IntKind.wrap .i64 (x19 + 1)) m23) else none) else none) else none)) else none)) else none) else (
  kx6 x9 x11 x12 x13a x13n x13c x15 x16 x17 m)

def patinalaw15_PatrolRounds_l4 (k : Nat) (kx0 : Bool → Mem → Option (Bool × Mem)) (kx6 : Option Addr → Int → Int → Option Addr → Nat → Nat → Int → Addr → Int → Mem → Option (Bool × Mem)) : Nat → Option Addr → Int → Int → Option Addr → Nat → Nat → Int → Addr → Int → Option Addr → Nat → Nat → Int → Mem → Option (Bool × Mem)
  | 0, _, _, _, _, _, _, _, _, _, _, _, _, _, _ => none
  | n + 1, x9, x11, x12, x13a, x13n, x13c, x15, x16, x17, x18a, x18n, x18c, x19, m => patinalaw15_PatrolRounds_l4_b k (fun x9 x11 x12 x13a x13n x13c x15 x16 x17 x18a x18n x18c x19 m => patinalaw15_PatrolRounds_l4 k kx0 kx6 n x9 x11 x12 x13a x13n x13c x15 x16 x17 x18a x18n x18c x19 m) kx0 kx6 x9 x11 x12 x13a x13n x13c x15 x16 x17 x18a x18n x18c x19 m

theorem patinalaw15_PatrolRounds_l4_rule (k : Nat) (kx0 : Bool → Mem → Option (Bool × Mem)) (kx6 : Option Addr → Int → Int → Option Addr → Nat → Nat → Int → Addr → Int → Mem → Option (Bool × Mem)) {P : (Bool × Mem) → Prop} (I : Nat → Option Addr → Int → Int → Option Addr → Nat → Nat → Int → Addr → Int → Option Addr → Nat → Nat → Int → Mem → Prop)
    (step : ∀ d (nx : Option Addr → Int → Int → Option Addr → Nat → Nat → Int → Addr → Int → Option Addr → Nat → Nat → Int → Mem → Option (Bool × Mem)) (x9 : Option Addr) (x11 : Int) (x12 : Int) (x13a : Option Addr) (x13n : Nat) (x13c : Nat) (x15 : Int) (x16 : Addr) (x17 : Int) (x18a : Option Addr) (x18n : Nat) (x18c : Nat) (x19 : Int) (m : Mem), I d x9 x11 x12 x13a x13n x13c x15 x16 x17 x18a x18n x18c x19 m → (∀ d' (x9 : Option Addr) (x11 : Int) (x12 : Int) (x13a : Option Addr) (x13n : Nat) (x13c : Nat) (x15 : Int) (x16 : Addr) (x17 : Int) (x18a : Option Addr) (x18n : Nat) (x18c : Nat) (x19 : Int) (m : Mem), d' < d → I d' x9 x11 x12 x13a x13n x13c x15 x16 x17 x18a x18n x18c x19 m → Ok (nx x9 x11 x12 x13a x13n x13c x15 x16 x17 x18a x18n x18c x19 m) P) → Ok (patinalaw15_PatrolRounds_l4_b k nx kx0 kx6 x9 x11 x12 x13a x13n x13c x15 x16 x17 x18a x18n x18c x19 m) P) :
    ∀ n d (x9 : Option Addr) (x11 : Int) (x12 : Int) (x13a : Option Addr) (x13n : Nat) (x13c : Nat) (x15 : Int) (x16 : Addr) (x17 : Int) (x18a : Option Addr) (x18n : Nat) (x18c : Nat) (x19 : Int) (m : Mem), d < n → I d x9 x11 x12 x13a x13n x13c x15 x16 x17 x18a x18n x18c x19 m → Ok (patinalaw15_PatrolRounds_l4 k kx0 kx6 n x9 x11 x12 x13a x13n x13c x15 x16 x17 x18a x18n x18c x19 m) P
  | 0, d, x9, x11, x12, x13a, x13n, x13c, x15, x16, x17, x18a, x18n, x18c, x19, m, h, _ => absurd h (Nat.not_lt_zero _)
  | n + 1, d, x9, x11, x12, x13a, x13n, x13c, x15, x16, x17, x18a, x18n, x18c, x19, m, h, hI => step d _ x9 x11 x12 x13a x13n x13c x15 x16 x17 x18a x18n x18c x19 m hI fun d' x9 x11 x12 x13a x13n x13c x15 x16 x17 x18a x18n x18c x19 m h' hI' => patinalaw15_PatrolRounds_l4_rule k kx0 kx6 I step n d' x9 x11 x12 x13a x13n x13c x15 x16 x17 x18a x18n x18c x19 m (by omega) hI'

def patinalaw15_PatrolRounds_l2_b (k : Nat) (nx : Option Addr → Int → Int → Option Addr → Nat → Nat → Int → Addr → Int → Mem → Option (Bool × Mem)) (kx0 : Bool → Mem → Option (Bool × Mem)) (kx4 : Option Addr → Int → Int → Option Addr → Nat → Nat → Int → Addr → Mem → Option (Bool × Mem)) (x9 : Option Addr) (x11 : Int) (x12 : Int) (x13a : Option Addr) (x13n : Nat) (x13c : Nat) (x15 : Int) (x16 : Addr) (x17 : Int) (m : Mem) : Option (Bool × Mem) :=
  bif decide (x17 < 12) then (
  (patrol_Patrol_Step k x9 m).bind fun r15 =>
  patinalaw15_PatrolRounds_l4 k (fun y6 m24 => 
  kx0 y6 m24) (fun y9 y11 y12 y13a y13n y13c y15 y16 y17 m25 => 
  nx y9 y11 y12 y13a y13n y13c y15 y16 (IntKind.wrap .i64 (y17 + 1)) m25) k x9 x11 x12 x13a x13n x13c x15 x16 x17 r15.1.a r15.1.len r15.1.cap 0 r15.2) else (
  kx4 x9 x11 x12 x13a x13n x13c x15 x16 m)

def patinalaw15_PatrolRounds_l2 (k : Nat) (kx0 : Bool → Mem → Option (Bool × Mem)) (kx4 : Option Addr → Int → Int → Option Addr → Nat → Nat → Int → Addr → Mem → Option (Bool × Mem)) : Nat → Option Addr → Int → Int → Option Addr → Nat → Nat → Int → Addr → Int → Mem → Option (Bool × Mem)
  | 0, _, _, _, _, _, _, _, _, _, _ => none
  | n + 1, x9, x11, x12, x13a, x13n, x13c, x15, x16, x17, m => patinalaw15_PatrolRounds_l2_b k (fun x9 x11 x12 x13a x13n x13c x15 x16 x17 m => patinalaw15_PatrolRounds_l2 k kx0 kx4 n x9 x11 x12 x13a x13n x13c x15 x16 x17 m) kx0 kx4 x9 x11 x12 x13a x13n x13c x15 x16 x17 m

theorem patinalaw15_PatrolRounds_l2_rule (k : Nat) (kx0 : Bool → Mem → Option (Bool × Mem)) (kx4 : Option Addr → Int → Int → Option Addr → Nat → Nat → Int → Addr → Mem → Option (Bool × Mem)) {P : (Bool × Mem) → Prop} (I : Nat → Option Addr → Int → Int → Option Addr → Nat → Nat → Int → Addr → Int → Mem → Prop)
    (step : ∀ d (nx : Option Addr → Int → Int → Option Addr → Nat → Nat → Int → Addr → Int → Mem → Option (Bool × Mem)) (x9 : Option Addr) (x11 : Int) (x12 : Int) (x13a : Option Addr) (x13n : Nat) (x13c : Nat) (x15 : Int) (x16 : Addr) (x17 : Int) (m : Mem), I d x9 x11 x12 x13a x13n x13c x15 x16 x17 m → (∀ d' (x9 : Option Addr) (x11 : Int) (x12 : Int) (x13a : Option Addr) (x13n : Nat) (x13c : Nat) (x15 : Int) (x16 : Addr) (x17 : Int) (m : Mem), d' < d → I d' x9 x11 x12 x13a x13n x13c x15 x16 x17 m → Ok (nx x9 x11 x12 x13a x13n x13c x15 x16 x17 m) P) → Ok (patinalaw15_PatrolRounds_l2_b k nx kx0 kx4 x9 x11 x12 x13a x13n x13c x15 x16 x17 m) P) :
    ∀ n d (x9 : Option Addr) (x11 : Int) (x12 : Int) (x13a : Option Addr) (x13n : Nat) (x13c : Nat) (x15 : Int) (x16 : Addr) (x17 : Int) (m : Mem), d < n → I d x9 x11 x12 x13a x13n x13c x15 x16 x17 m → Ok (patinalaw15_PatrolRounds_l2 k kx0 kx4 n x9 x11 x12 x13a x13n x13c x15 x16 x17 m) P
  | 0, d, x9, x11, x12, x13a, x13n, x13c, x15, x16, x17, m, h, _ => absurd h (Nat.not_lt_zero _)
  | n + 1, d, x9, x11, x12, x13a, x13n, x13c, x15, x16, x17, m, h, hI => step d _ x9 x11 x12 x13a x13n x13c x15 x16 x17 m hI fun d' x9 x11 x12 x13a x13n x13c x15 x16 x17 m h' hI' => patinalaw15_PatrolRounds_l2_rule k kx0 kx4 I step n d' x9 x11 x12 x13a x13n x13c x15 x16 x17 m (by omega) hI'

def patinalaw15_PatrolRounds_l6_b (k : Nat) (nx : Int → Int → Option Addr → Nat → Nat → Int → Addr → Int → Mem → Option (Bool × Mem)) (kx0 : Bool → Mem → Option (Bool × Mem)) (kx8 : Int → Int → Option Addr → Nat → Nat → Int → Mem → Option (Bool × Mem)) (x11 : Int) (x12 : Int) (x13a : Option Addr) (x13n : Nat) (x13c : Nat) (x15 : Int) (x16 : Addr) (x20 : Int) (m : Mem) : Option (Bool × Mem) :=
  bif decide (x20 < 96) then (
  bif inRange x20 96 then (
  (ldInt .i64 m (plus x16 (Int.toNat x20 * 1))).bind fun t29 =>
  bif t29 != 1 then (
  kx0 false m) else (
  nx x11 x12 x13a x13n x13c x15 x16 (IntKind.wrap .i64 (x20 + 1)) m)) else none) else (
  kx8 x11 x12 x13a x13n x13c x15 m)

def patinalaw15_PatrolRounds_l6 (k : Nat) (kx0 : Bool → Mem → Option (Bool × Mem)) (kx8 : Int → Int → Option Addr → Nat → Nat → Int → Mem → Option (Bool × Mem)) : Nat → Int → Int → Option Addr → Nat → Nat → Int → Addr → Int → Mem → Option (Bool × Mem)
  | 0, _, _, _, _, _, _, _, _, _ => none
  | n + 1, x11, x12, x13a, x13n, x13c, x15, x16, x20, m => patinalaw15_PatrolRounds_l6_b k (fun x11 x12 x13a x13n x13c x15 x16 x20 m => patinalaw15_PatrolRounds_l6 k kx0 kx8 n x11 x12 x13a x13n x13c x15 x16 x20 m) kx0 kx8 x11 x12 x13a x13n x13c x15 x16 x20 m

theorem patinalaw15_PatrolRounds_l6_rule (k : Nat) (kx0 : Bool → Mem → Option (Bool × Mem)) (kx8 : Int → Int → Option Addr → Nat → Nat → Int → Mem → Option (Bool × Mem)) {P : (Bool × Mem) → Prop} (I : Nat → Int → Int → Option Addr → Nat → Nat → Int → Addr → Int → Mem → Prop)
    (step : ∀ d (nx : Int → Int → Option Addr → Nat → Nat → Int → Addr → Int → Mem → Option (Bool × Mem)) (x11 : Int) (x12 : Int) (x13a : Option Addr) (x13n : Nat) (x13c : Nat) (x15 : Int) (x16 : Addr) (x20 : Int) (m : Mem), I d x11 x12 x13a x13n x13c x15 x16 x20 m → (∀ d' (x11 : Int) (x12 : Int) (x13a : Option Addr) (x13n : Nat) (x13c : Nat) (x15 : Int) (x16 : Addr) (x20 : Int) (m : Mem), d' < d → I d' x11 x12 x13a x13n x13c x15 x16 x20 m → Ok (nx x11 x12 x13a x13n x13c x15 x16 x20 m) P) → Ok (patinalaw15_PatrolRounds_l6_b k nx kx0 kx8 x11 x12 x13a x13n x13c x15 x16 x20 m) P) :
    ∀ n d (x11 : Int) (x12 : Int) (x13a : Option Addr) (x13n : Nat) (x13c : Nat) (x15 : Int) (x16 : Addr) (x20 : Int) (m : Mem), d < n → I d x11 x12 x13a x13n x13c x15 x16 x20 m → Ok (patinalaw15_PatrolRounds_l6 k kx0 kx8 n x11 x12 x13a x13n x13c x15 x16 x20 m) P
  | 0, d, x11, x12, x13a, x13n, x13c, x15, x16, x20, m, h, _ => absurd h (Nat.not_lt_zero _)
  | n + 1, d, x11, x12, x13a, x13n, x13c, x15, x16, x20, m, h, hI => step d _ x11 x12 x13a x13n x13c x15 x16 x20 m hI fun d' x11 x12 x13a x13n x13c x15 x16 x20 m h' hI' => patinalaw15_PatrolRounds_l6_rule k kx0 kx8 I step n d' x11 x12 x13a x13n x13c x15 x16 x20 m (by omega) hI'

def patinalaw15_PatrolRounds_l10_b (k : Nat) (nx : Int → Int → Option Addr → Nat → Nat → Option Addr → Addr → Int → Option Addr → Nat → Nat → Int → Mem → Option (Bool × Mem)) (kx12 : Int → Int → Option Addr → Nat → Nat → Option Addr → Addr → Int → Mem → Option (Bool × Mem)) (x11 : Int) (x12 : Int) (x13a : Option Addr) (x13n : Nat) (x13c : Nat) (x21 : Option Addr) (x23 : Addr) (x24 : Int) (x25a : Option Addr) (x25n : Nat) (x25c : Nat) (x26 : Int) (m : Mem) : Option (Bool × Mem) :=
  bif decide (x26 < ((x25n : Nat) : Int)) then (
  bif inRange x26 x25n then (
  (x25a).bind fun a36 =>
  (ldInt .i64 m (plus a36 (Int.toNat x26 * 1))).bind fun t37 =>
  bif inRange t37 96 then (
  (st m (plus x23 (Int.toNat t37 * 1)) (Value.bool true)).bind fun m38 =>
  nx x11 x12 x13a x13n x13c x21 x23 x24 x25a x25n x25c (IntKind.wrap .i64 (x26 + 1)) m38) else none) else none) else (
  kx12 x11 x12 x13a x13n x13c x21 x23 x24 m)

def patinalaw15_PatrolRounds_l10 (k : Nat) (kx12 : Int → Int → Option Addr → Nat → Nat → Option Addr → Addr → Int → Mem → Option (Bool × Mem)) : Nat → Int → Int → Option Addr → Nat → Nat → Option Addr → Addr → Int → Option Addr → Nat → Nat → Int → Mem → Option (Bool × Mem)
  | 0, _, _, _, _, _, _, _, _, _, _, _, _, _ => none
  | n + 1, x11, x12, x13a, x13n, x13c, x21, x23, x24, x25a, x25n, x25c, x26, m => patinalaw15_PatrolRounds_l10_b k (fun x11 x12 x13a x13n x13c x21 x23 x24 x25a x25n x25c x26 m => patinalaw15_PatrolRounds_l10 k kx12 n x11 x12 x13a x13n x13c x21 x23 x24 x25a x25n x25c x26 m) kx12 x11 x12 x13a x13n x13c x21 x23 x24 x25a x25n x25c x26 m

theorem patinalaw15_PatrolRounds_l10_rule (k : Nat) (kx12 : Int → Int → Option Addr → Nat → Nat → Option Addr → Addr → Int → Mem → Option (Bool × Mem)) {P : (Bool × Mem) → Prop} (I : Nat → Int → Int → Option Addr → Nat → Nat → Option Addr → Addr → Int → Option Addr → Nat → Nat → Int → Mem → Prop)
    (step : ∀ d (nx : Int → Int → Option Addr → Nat → Nat → Option Addr → Addr → Int → Option Addr → Nat → Nat → Int → Mem → Option (Bool × Mem)) (x11 : Int) (x12 : Int) (x13a : Option Addr) (x13n : Nat) (x13c : Nat) (x21 : Option Addr) (x23 : Addr) (x24 : Int) (x25a : Option Addr) (x25n : Nat) (x25c : Nat) (x26 : Int) (m : Mem), I d x11 x12 x13a x13n x13c x21 x23 x24 x25a x25n x25c x26 m → (∀ d' (x11 : Int) (x12 : Int) (x13a : Option Addr) (x13n : Nat) (x13c : Nat) (x21 : Option Addr) (x23 : Addr) (x24 : Int) (x25a : Option Addr) (x25n : Nat) (x25c : Nat) (x26 : Int) (m : Mem), d' < d → I d' x11 x12 x13a x13n x13c x21 x23 x24 x25a x25n x25c x26 m → Ok (nx x11 x12 x13a x13n x13c x21 x23 x24 x25a x25n x25c x26 m) P) → Ok (patinalaw15_PatrolRounds_l10_b k nx kx12 x11 x12 x13a x13n x13c x21 x23 x24 x25a x25n x25c x26 m) P) :
    ∀ n d (x11 : Int) (x12 : Int) (x13a : Option Addr) (x13n : Nat) (x13c : Nat) (x21 : Option Addr) (x23 : Addr) (x24 : Int) (x25a : Option Addr) (x25n : Nat) (x25c : Nat) (x26 : Int) (m : Mem), d < n → I d x11 x12 x13a x13n x13c x21 x23 x24 x25a x25n x25c x26 m → Ok (patinalaw15_PatrolRounds_l10 k kx12 n x11 x12 x13a x13n x13c x21 x23 x24 x25a x25n x25c x26 m) P
  | 0, d, x11, x12, x13a, x13n, x13c, x21, x23, x24, x25a, x25n, x25c, x26, m, h, _ => absurd h (Nat.not_lt_zero _)
  | n + 1, d, x11, x12, x13a, x13n, x13c, x21, x23, x24, x25a, x25n, x25c, x26, m, h, hI => step d _ x11 x12 x13a x13n x13c x21 x23 x24 x25a x25n x25c x26 m hI fun d' x11 x12 x13a x13n x13c x21 x23 x24 x25a x25n x25c x26 m h' hI' => patinalaw15_PatrolRounds_l10_rule k kx12 I step n d' x11 x12 x13a x13n x13c x21 x23 x24 x25a x25n x25c x26 m (by omega) hI'

def patinalaw15_PatrolRounds_l8_b (k : Nat) (nx : Int → Int → Option Addr → Nat → Nat → Option Addr → Addr → Int → Mem → Option (Bool × Mem)) (kx10 : Int → Int → Option Addr → Nat → Nat → Addr → Mem → Option (Bool × Mem)) (x11 : Int) (x12 : Int) (x13a : Option Addr) (x13n : Nat) (x13c : Nat) (x21 : Option Addr) (x23 : Addr) (x24 : Int) (m : Mem) : Option (Bool × Mem) :=
  bif decide (x24 < x12) then (
  (patrol_Patrol_Step k x21 m).bind fun r35 =>
  patinalaw15_PatrolRounds_l10 k (fun y11 y12 y13a y13n y13c y21 y23 y24 m39 => 
  nx y11 y12 y13a y13n y13c y21 y23 (IntKind.wrap .i64 (y24 + 1)) m39) k x11 x12 x13a x13n x13c x21 x23 x24 r35.1.a r35.1.len r35.1.cap 0 r35.2) else (
  kx10 x11 x12 x13a x13n x13c x23 m)

def patinalaw15_PatrolRounds_l8 (k : Nat) (kx10 : Int → Int → Option Addr → Nat → Nat → Addr → Mem → Option (Bool × Mem)) : Nat → Int → Int → Option Addr → Nat → Nat → Option Addr → Addr → Int → Mem → Option (Bool × Mem)
  | 0, _, _, _, _, _, _, _, _, _ => none
  | n + 1, x11, x12, x13a, x13n, x13c, x21, x23, x24, m => patinalaw15_PatrolRounds_l8_b k (fun x11 x12 x13a x13n x13c x21 x23 x24 m => patinalaw15_PatrolRounds_l8 k kx10 n x11 x12 x13a x13n x13c x21 x23 x24 m) kx10 x11 x12 x13a x13n x13c x21 x23 x24 m

theorem patinalaw15_PatrolRounds_l8_rule (k : Nat) (kx10 : Int → Int → Option Addr → Nat → Nat → Addr → Mem → Option (Bool × Mem)) {P : (Bool × Mem) → Prop} (I : Nat → Int → Int → Option Addr → Nat → Nat → Option Addr → Addr → Int → Mem → Prop)
    (step : ∀ d (nx : Int → Int → Option Addr → Nat → Nat → Option Addr → Addr → Int → Mem → Option (Bool × Mem)) (x11 : Int) (x12 : Int) (x13a : Option Addr) (x13n : Nat) (x13c : Nat) (x21 : Option Addr) (x23 : Addr) (x24 : Int) (m : Mem), I d x11 x12 x13a x13n x13c x21 x23 x24 m → (∀ d' (x11 : Int) (x12 : Int) (x13a : Option Addr) (x13n : Nat) (x13c : Nat) (x21 : Option Addr) (x23 : Addr) (x24 : Int) (m : Mem), d' < d → I d' x11 x12 x13a x13n x13c x21 x23 x24 m → Ok (nx x11 x12 x13a x13n x13c x21 x23 x24 m) P) → Ok (patinalaw15_PatrolRounds_l8_b k nx kx10 x11 x12 x13a x13n x13c x21 x23 x24 m) P) :
    ∀ n d (x11 : Int) (x12 : Int) (x13a : Option Addr) (x13n : Nat) (x13c : Nat) (x21 : Option Addr) (x23 : Addr) (x24 : Int) (m : Mem), d < n → I d x11 x12 x13a x13n x13c x21 x23 x24 m → Ok (patinalaw15_PatrolRounds_l8 k kx10 n x11 x12 x13a x13n x13c x21 x23 x24 m) P
  | 0, d, x11, x12, x13a, x13n, x13c, x21, x23, x24, m, h, _ => absurd h (Nat.not_lt_zero _)
  | n + 1, d, x11, x12, x13a, x13n, x13c, x21, x23, x24, m, h, hI => step d _ x11 x12 x13a x13n x13c x21 x23 x24 m hI fun d' x11 x12 x13a x13n x13c x21 x23 x24 m h' hI' => patinalaw15_PatrolRounds_l8_rule k kx10 I step n d' x11 x12 x13a x13n x13c x21 x23 x24 m (by omega) hI'

def patinalaw15_PatrolRounds_l14_b (k : Nat) (nx : Option Addr → Addr → Int → Option Addr → Nat → Nat → Int → Mem → Option (Bool × Mem)) (kx16 : Option Addr → Addr → Int → Mem → Option (Bool × Mem)) (x21 : Option Addr) (x23 : Addr) (x27 : Int) (x28a : Option Addr) (x28n : Nat) (x28c : Nat) (x29 : Int) (m : Mem) : Option (Bool × Mem) :=
  bif decide (x29 < ((x28n : Nat) : Int)) then (
  bif inRange x29 x28n then (
  (x28a).bind fun a46 =>
  (ldInt .i64 m (plus a46 (Int.toNat x29 * 1))).bind fun t47 =>
  bif inRange t47 96 then (
  (st m (plus x23 (Int.toNat t47 * 1)) (Value.bool true)).bind fun m48 =>
  nx x21 x23 x27 x28a x28n x28c (IntKind.wrap .i64 (x29 + 1)) m48) else none) else none) else (
  kx16 x21 x23 x27 m)

def patinalaw15_PatrolRounds_l14 (k : Nat) (kx16 : Option Addr → Addr → Int → Mem → Option (Bool × Mem)) : Nat → Option Addr → Addr → Int → Option Addr → Nat → Nat → Int → Mem → Option (Bool × Mem)
  | 0, _, _, _, _, _, _, _, _ => none
  | n + 1, x21, x23, x27, x28a, x28n, x28c, x29, m => patinalaw15_PatrolRounds_l14_b k (fun x21 x23 x27 x28a x28n x28c x29 m => patinalaw15_PatrolRounds_l14 k kx16 n x21 x23 x27 x28a x28n x28c x29 m) kx16 x21 x23 x27 x28a x28n x28c x29 m

theorem patinalaw15_PatrolRounds_l14_rule (k : Nat) (kx16 : Option Addr → Addr → Int → Mem → Option (Bool × Mem)) {P : (Bool × Mem) → Prop} (I : Nat → Option Addr → Addr → Int → Option Addr → Nat → Nat → Int → Mem → Prop)
    (step : ∀ d (nx : Option Addr → Addr → Int → Option Addr → Nat → Nat → Int → Mem → Option (Bool × Mem)) (x21 : Option Addr) (x23 : Addr) (x27 : Int) (x28a : Option Addr) (x28n : Nat) (x28c : Nat) (x29 : Int) (m : Mem), I d x21 x23 x27 x28a x28n x28c x29 m → (∀ d' (x21 : Option Addr) (x23 : Addr) (x27 : Int) (x28a : Option Addr) (x28n : Nat) (x28c : Nat) (x29 : Int) (m : Mem), d' < d → I d' x21 x23 x27 x28a x28n x28c x29 m → Ok (nx x21 x23 x27 x28a x28n x28c x29 m) P) → Ok (patinalaw15_PatrolRounds_l14_b k nx kx16 x21 x23 x27 x28a x28n x28c x29 m) P) :
    ∀ n d (x21 : Option Addr) (x23 : Addr) (x27 : Int) (x28a : Option Addr) (x28n : Nat) (x28c : Nat) (x29 : Int) (m : Mem), d < n → I d x21 x23 x27 x28a x28n x28c x29 m → Ok (patinalaw15_PatrolRounds_l14 k kx16 n x21 x23 x27 x28a x28n x28c x29 m) P
  | 0, d, x21, x23, x27, x28a, x28n, x28c, x29, m, h, _ => absurd h (Nat.not_lt_zero _)
  | n + 1, d, x21, x23, x27, x28a, x28n, x28c, x29, m, h, hI => step d _ x21 x23 x27 x28a x28n x28c x29 m hI fun d' x21 x23 x27 x28a x28n x28c x29 m h' hI' => patinalaw15_PatrolRounds_l14_rule k kx16 I step n d' x21 x23 x27 x28a x28n x28c x29 m (by omega) hI'

def patinalaw15_PatrolRounds_l12_b (k : Nat) (nx : Option Addr → Addr → Int → Mem → Option (Bool × Mem)) (kx14 : Addr → Mem → Option (Bool × Mem)) (x21 : Option Addr) (x23 : Addr) (x27 : Int) (m : Mem) : Option (Bool × Mem) :=
  bif decide (x27 < 12) then (
  (patrol_Patrol_Step k x21 m).bind fun r45 =>
  patinalaw15_PatrolRounds_l14 k (fun y21 y23 y27 m49 => 
  nx y21 y23 (IntKind.wrap .i64 (y27 + 1)) m49) k x21 x23 x27 r45.1.a r45.1.len r45.1.cap 0 r45.2) else (
  kx14 x23 m)

def patinalaw15_PatrolRounds_l12 (k : Nat) (kx14 : Addr → Mem → Option (Bool × Mem)) : Nat → Option Addr → Addr → Int → Mem → Option (Bool × Mem)
  | 0, _, _, _, _ => none
  | n + 1, x21, x23, x27, m => patinalaw15_PatrolRounds_l12_b k (fun x21 x23 x27 m => patinalaw15_PatrolRounds_l12 k kx14 n x21 x23 x27 m) kx14 x21 x23 x27 m

theorem patinalaw15_PatrolRounds_l12_rule (k : Nat) (kx14 : Addr → Mem → Option (Bool × Mem)) {P : (Bool × Mem) → Prop} (I : Nat → Option Addr → Addr → Int → Mem → Prop)
    (step : ∀ d (nx : Option Addr → Addr → Int → Mem → Option (Bool × Mem)) (x21 : Option Addr) (x23 : Addr) (x27 : Int) (m : Mem), I d x21 x23 x27 m → (∀ d' (x21 : Option Addr) (x23 : Addr) (x27 : Int) (m : Mem), d' < d → I d' x21 x23 x27 m → Ok (nx x21 x23 x27 m) P) → Ok (patinalaw15_PatrolRounds_l12_b k nx kx14 x21 x23 x27 m) P) :
    ∀ n d (x21 : Option Addr) (x23 : Addr) (x27 : Int) (m : Mem), d < n → I d x21 x23 x27 m → Ok (patinalaw15_PatrolRounds_l12 k kx14 n x21 x23 x27 m) P
  | 0, d, x21, x23, x27, m, h, _ => absurd h (Nat.not_lt_zero _)
  | n + 1, d, x21, x23, x27, m, h, hI => step d _ x21 x23 x27 m hI fun d' x21 x23 x27 m h' hI' => patinalaw15_PatrolRounds_l12_rule k kx14 I step n d' x21 x23 x27 m (by omega) hI'

def patinalaw15_PatrolRounds_l16_b (k : Nat) (nx : Addr → Int → Mem → Option (Bool × Mem)) (kx0 : Bool → Mem → Option (Bool × Mem)) (kx18 : Mem → Option (Bool × Mem)) (x23 : Addr) (x30 : Int) (m : Mem) : Option (Bool × Mem) :=
  bif decide (x30 < 96) then (
  bif inRange x30 96 then (
  (ldBool m (plus x23 (Int.toNat x30 * 1))).bind fun t51 =>
  bif !t51 then (
  kx0 false m) else (
  nx x23 (IntKind.wrap .i64 (x30 + 1)) m)) else none) else (
  kx18  m)

def patinalaw15_PatrolRounds_l16 (k : Nat) (kx0 : Bool → Mem → Option (Bool × Mem)) (kx18 : Mem → Option (Bool × Mem)) : Nat → Addr → Int → Mem → Option (Bool × Mem)
  | 0, _, _, _ => none
  | n + 1, x23, x30, m => patinalaw15_PatrolRounds_l16_b k (fun x23 x30 m => patinalaw15_PatrolRounds_l16 k kx0 kx18 n x23 x30 m) kx0 kx18 x23 x30 m

theorem patinalaw15_PatrolRounds_l16_rule (k : Nat) (kx0 : Bool → Mem → Option (Bool × Mem)) (kx18 : Mem → Option (Bool × Mem)) {P : (Bool × Mem) → Prop} (I : Nat → Addr → Int → Mem → Prop)
    (step : ∀ d (nx : Addr → Int → Mem → Option (Bool × Mem)) (x23 : Addr) (x30 : Int) (m : Mem), I d x23 x30 m → (∀ d' (x23 : Addr) (x30 : Int) (m : Mem), d' < d → I d' x23 x30 m → Ok (nx x23 x30 m) P) → Ok (patinalaw15_PatrolRounds_l16_b k nx kx0 kx18 x23 x30 m) P) :
    ∀ n d (x23 : Addr) (x30 : Int) (m : Mem), d < n → I d x23 x30 m → Ok (patinalaw15_PatrolRounds_l16 k kx0 kx18 n x23 x30 m) P
  | 0, d, x23, x30, m, h, _ => absurd h (Nat.not_lt_zero _)
  | n + 1, d, x23, x30, m, h, hI => step d _ x23 x30 m hI fun d' x23 x30 m h' hI' => patinalaw15_PatrolRounds_l16_rule k kx0 kx18 I step n d' x23 x30 m (by omega) hI'

def patinalaw15_PatrolRounds (k : Nat) (p0 : Int) (p1 : Int) (p2 : Int) (m : Mem) : Option (Bool × Mem) :=
  (patinalaw15_up k  m).bind fun r1 =>
  (patinalaw15_pick k p0 96 r1.2).bind fun r2 =>
  (patrol_New k r2.1 r2.2).bind fun r3 =>
  bif !r1.1 then (
  some (false, r3.2.2)) else (
  bif Option.isNone r3.1 then (
  some (false, r3.2.2)) else (
  (isNil r3.2.1).bind fun b4 =>
  bif !b4 then (
  some (false, r3.2.2)) else (
  (patinalaw15_pick k p1 30 r3.2.2).bind fun r5 =>
  (patinalaw15_pick k p2 9 r5.2).bind fun r6 =>
  patinalaw15_PatrolRounds_l0 k (fun y9 y11 y12 y13a y13n y13c m12 => 
  (patrol_Patrol_Cursor k y9 m12).bind fun r13 =>
  let m14 : Mem := r13.2 ++ [.live (repl 96 [.int .i64 0])]
  patinalaw15_PatrolRounds_l2 k (fun y6 m26 => 
  some (y6, m26)) (fun y9 y11 y12 y13a y13n y13c y15 y16 m27 => 
  (patrol_Patrol_Cursor k y9 m27).bind fun r28 =>
  bif r28.1 != y15 then (
  some (false, r28.2)) else (
  patinalaw15_PatrolRounds_l6 k (fun y6 m30 => 
  some (y6, m30)) (fun y11 y12 y13a y13n y13c y15 m31 => 
  bif decide (y11 < y12) then (
  some (true, m31)) else (
  bif decide (y11 < 1) then (
  some (true, m31)) else (
  bif decide (y12 < 1) then (
  some (true, m31)) else (
  (patrol_New k y15 m31).bind fun r32 =>
  bif Option.isNone r32.1 then (
  some (false, r32.2.2)) else (
  (isNil r32.2.1).bind fun b33 =>
  bif !b33 then (
  some (false, r32.2.2)) else (
  let m34 : Mem := r32.2.2 ++ [.live (repl 96 [.bool false])]
  patinalaw15_PatrolRounds_l8 k (fun y11 y12 y13a y13n y13c y23 m40 => 
  bif inRange (IntKind.wrap .i64 (y11 - y12)) y13n then (
  (y13a).bind fun a41 =>
  (ldInt .i64 m40 (plus a41 (Int.toNat (IntKind.wrap .i64 (y11 - y12)) * 1))).bind fun t42 =>
  (patrol_New k t42 m40).bind fun r43 =>
  bif Option.isNone r43.1 then (
  some (false, r43.2.2)) else (
  (isNil r43.2.1).bind fun b44 =>
  bif !b44 then (
  some (false, r43.2.2)) else (
  patinalaw15_PatrolRounds_l12 k (fun y23 m50 => 
  patinalaw15_PatrolRounds_l16 k (fun y6 m52 => 
  some (y6, m52)) (fun m53 => 
  some (true, m53)) k y23 0 m50) k r43.1 y23 0 r43.2.2))) else none) k y11 y12 y13a y13n y13c r32.1 ⟨List.length r32.2.2, 0, Option.none⟩ 0 m34)))))) k y11 y12 y13a y13n y13c y15 y16 0 r28.2)) k y9 y11 y12 y13a y13n y13c r13.1 ⟨List.length r13.2, 0, Option.none⟩ 0 m14) k r3.1 r5.1 r6.1 none 0 0 0 r6.2)))

def patinalaw15_PatrolRounds_call {R : Type} (k : Nat) : Fun R := fun f args m K => match f, args with
  | 37, [] => (patinalaw15_up k  m).bind fun r => K (Value.bool r.1) r.2
  | 38, [.int .i64 p0, .int .i64 p1] => (patinalaw15_pick k p0 p1 m).bind fun r => K (Value.int .i64 r.1) r.2
  | 39, [.int .i64 p0] => (patrol_New k p0 m).bind fun r => K (Value.tuple ⟨[(Value.pointer r.1), r.2.1]⟩) r.2.2
  | 40, [.pointer p0] => (patrol_Patrol_Cursor k p0 m).bind fun r => K (Value.int .i64 r.1) r.2
  | 41, [.pointer p0] => (patrol_Patrol_Step k p0 m).bind fun r => K (Value.slice r.1.a r.1.len r.1.cap) r.2
  | _, _ => none

theorem patinalaw15_PatrolRounds_callOk {R : Type} (k : Nat) : CallOk Try.prog (patinalaw15_PatrolRounds_call (R := R) k) := by
  intro f vs m K r h
  unfold patinalaw15_PatrolRounds_call at h
  split at h
  · obtain ⟨r, h1, h2⟩ := Option.bind_eq_some_iff.1 h; exact ⟨_, _, h2, fun K' => by simp only [patinalaw15_PatrolRounds_call, h1, Option.bind_some], patinalaw15_up_ok h1⟩
  · obtain ⟨r, h1, h2⟩ := Option.bind_eq_some_iff.1 h; exact ⟨_, _, h2, fun K' => by simp only [patinalaw15_PatrolRounds_call, h1, Option.bind_some], patinalaw15_pick_ok h1⟩
  · obtain ⟨r, h1, h2⟩ := Option.bind_eq_some_iff.1 h; exact ⟨_, _, h2, fun K' => by simp only [patinalaw15_PatrolRounds_call, h1, Option.bind_some], patrol_New_ok h1⟩
  · obtain ⟨r, h1, h2⟩ := Option.bind_eq_some_iff.1 h; exact ⟨_, _, h2, fun K' => by simp only [patinalaw15_PatrolRounds_call, h1, Option.bind_some], patrol_Patrol_Cursor_ok h1⟩
  · obtain ⟨r, h1, h2⟩ := Option.bind_eq_some_iff.1 h; exact ⟨_, _, h2, fun K' => by simp only [patinalaw15_PatrolRounds_call, h1, Option.bind_some], patrol_Patrol_Step_ok h1⟩
  · cases h

def patinalaw15_PatrolRounds_l0_L (k : Nat) (K : Nat → List Value → Mem → Option (Bool × Mem)) (n : Nat) (vs : List Value) (m : Mem) : Option (Bool × Mem) := match vs with
  | [.pointer x9, .int .i64 x11, .int .i64 x12, .slice x13a x13n x13c, .int .i64 x14] => patinalaw15_PatrolRounds_l0 k (fun y9 y11 y12 y13a y13n y13c m => K 2 [(Value.pointer y9), (Value.int .i64 y11), (Value.int .i64 y12), (Value.slice y13a y13n y13c)] m) n x9 x11 x12 x13a x13n x13c x14 m
  | _ => none

def patinalaw15_PatrolRounds_l2_L (k : Nat) (K : Nat → List Value → Mem → Option (Bool × Mem)) (n : Nat) (vs : List Value) (m : Mem) : Option (Bool × Mem) := match vs with
  | [.pointer x9, .int .i64 x11, .int .i64 x12, .slice x13a x13n x13c, .int .i64 x15, .pointer (some x16), .int .i64 x17] => patinalaw15_PatrolRounds_l2 k (fun y6 m => K 0 [(Value.bool y6)] m) (fun y9 y11 y12 y13a y13n y13c y15 y16 m => K 4 [(Value.pointer y9), (Value.int .i64 y11), (Value.int .i64 y12), (Value.slice y13a y13n y13c), (Value.int .i64 y15), (Value.pointer (some y16))] m) n x9 x11 x12 x13a x13n x13c x15 x16 x17 m
  | _ => none

def patinalaw15_PatrolRounds_l4_L (k : Nat) (K : Nat → List Value → Mem → Option (Bool × Mem)) (n : Nat) (vs : List Value) (m : Mem) : Option (Bool × Mem) := match vs with
  | [.pointer x9, .int .i64 x11, .int .i64 x12, .slice x13a x13n x13c, .int .i64 x15, .pointer (some x16), .int .i64 x17, .slice x18a x18n x18c, .int .i64 x19] => patinalaw15_PatrolRounds_l4 k (fun y6 m => K 0 [(Value.bool y6)] m) (fun y9 y11 y12 y13a y13n y13c y15 y16 y17 m => K 6 [(Value.pointer y9), (Value.int .i64 y11), (Value.int .i64 y12), (Value.slice y13a y13n y13c), (Value.int .i64 y15), (Value.pointer (some y16)), (Value.int .i64 y17)] m) n x9 x11 x12 x13a x13n x13c x15 x16 x17 x18a x18n x18c x19 m
  | _ => none

def patinalaw15_PatrolRounds_l6_L (k : Nat) (K : Nat → List Value → Mem → Option (Bool × Mem)) (n : Nat) (vs : List Value) (m : Mem) : Option (Bool × Mem) := match vs with
  | [.int .i64 x11, .int .i64 x12, .slice x13a x13n x13c, .int .i64 x15, .pointer (some x16), .int .i64 x20] => patinalaw15_PatrolRounds_l6 k (fun y6 m => K 0 [(Value.bool y6)] m) (fun y11 y12 y13a y13n y13c y15 m => K 8 [(Value.int .i64 y11), (Value.int .i64 y12), (Value.slice y13a y13n y13c), (Value.int .i64 y15)] m) n x11 x12 x13a x13n x13c x15 x16 x20 m
  | _ => none

def patinalaw15_PatrolRounds_l8_L (k : Nat) (K : Nat → List Value → Mem → Option (Bool × Mem)) (n : Nat) (vs : List Value) (m : Mem) : Option (Bool × Mem) := match vs with
  | [.int .i64 x11, .int .i64 x12, .slice x13a x13n x13c, .pointer x21, .pointer (some x23), .int .i64 x24] => patinalaw15_PatrolRounds_l8 k (fun y11 y12 y13a y13n y13c y23 m => K 10 [(Value.int .i64 y11), (Value.int .i64 y12), (Value.slice y13a y13n y13c), (Value.pointer (some y23))] m) n x11 x12 x13a x13n x13c x21 x23 x24 m
  | _ => none

def patinalaw15_PatrolRounds_l10_L (k : Nat) (K : Nat → List Value → Mem → Option (Bool × Mem)) (n : Nat) (vs : List Value) (m : Mem) : Option (Bool × Mem) := match vs with
  | [.int .i64 x11, .int .i64 x12, .slice x13a x13n x13c, .pointer x21, .pointer (some x23), .int .i64 x24, .slice x25a x25n x25c, .int .i64 x26] => patinalaw15_PatrolRounds_l10 k (fun y11 y12 y13a y13n y13c y21 y23 y24 m => K 12 [(Value.int .i64 y11), (Value.int .i64 y12), (Value.slice y13a y13n y13c), (Value.pointer y21), (Value.pointer (some y23)), (Value.int .i64 y24)] m) n x11 x12 x13a x13n x13c x21 x23 x24 x25a x25n x25c x26 m
  | _ => none

def patinalaw15_PatrolRounds_l12_L (k : Nat) (K : Nat → List Value → Mem → Option (Bool × Mem)) (n : Nat) (vs : List Value) (m : Mem) : Option (Bool × Mem) := match vs with
  | [.pointer x21, .pointer (some x23), .int .i64 x27] => patinalaw15_PatrolRounds_l12 k (fun y23 m => K 14 [(Value.pointer (some y23))] m) n x21 x23 x27 m
  | _ => none

def patinalaw15_PatrolRounds_l14_L (k : Nat) (K : Nat → List Value → Mem → Option (Bool × Mem)) (n : Nat) (vs : List Value) (m : Mem) : Option (Bool × Mem) := match vs with
  | [.pointer x21, .pointer (some x23), .int .i64 x27, .slice x28a x28n x28c, .int .i64 x29] => patinalaw15_PatrolRounds_l14 k (fun y21 y23 y27 m => K 16 [(Value.pointer y21), (Value.pointer (some y23)), (Value.int .i64 y27)] m) n x21 x23 x27 x28a x28n x28c x29 m
  | _ => none

def patinalaw15_PatrolRounds_l16_L (k : Nat) (K : Nat → List Value → Mem → Option (Bool × Mem)) (n : Nat) (vs : List Value) (m : Mem) : Option (Bool × Mem) := match vs with
  | [.pointer (some x23), .int .i64 x30] => patinalaw15_PatrolRounds_l16 k (fun y6 m => K 0 [(Value.bool y6)] m) (fun m => K 18 [] m) n x23 x30 m
  | _ => none

def patinalaw15_PatrolRounds_loop (k : Nat) : Nat → List Value → Mem → (Nat → List Value → Mem → Option (Bool × Mem)) → Option (Bool × Mem) := fun cur vs m K => match cur with
  | 0 => patinalaw15_PatrolRounds_l0_L k K k vs m
  | 2 => patinalaw15_PatrolRounds_l2_L k K k vs m
  | 4 => patinalaw15_PatrolRounds_l4_L k K k vs m
  | 6 => patinalaw15_PatrolRounds_l6_L k K k vs m
  | 8 => patinalaw15_PatrolRounds_l8_L k K k vs m
  | 10 => patinalaw15_PatrolRounds_l10_L k K k vs m
  | 12 => patinalaw15_PatrolRounds_l12_L k K k vs m
  | 14 => patinalaw15_PatrolRounds_l14_L k K k vs m
  | 16 => patinalaw15_PatrolRounds_l16_L k K k vs m
  | _ => none

def patinalaw15_PatrolRounds_C (k : Nat) : Ctx (Bool × Mem) := ⟨tt, patinalaw15_PatrolRounds_call k, patinalaw15_PatrolRounds_loop k, [(0, [9, 11, 12, 13, 14]), (2, [9, 11, 12, 13, 15, 16, 17]), (4, [9, 11, 12, 13, 15, 16, 17, 18, 19]), (6, [11, 12, 13, 15, 16, 20]), (8, [11, 12, 13, 21, 23, 24]), (10, [11, 12, 13, 21, 23, 24, 25, 26]), (12, [21, 23, 27]), (14, [21, 23, 27, 28, 29]), (16, [23, 30])], [(0, [6]), (2, [9, 11, 12, 13]), (4, [9, 11, 12, 13, 15, 16]), (6, [9, 11, 12, 13, 15, 16, 17]), (8, [11, 12, 13, 15]), (10, [11, 12, 13, 23]), (12, [11, 12, 13, 21, 23, 24]), (14, [23]), (16, [21, 23, 27]), (18, [])]⟩

noncomputable def patinalaw15_PatrolRounds_l0_c : Code := ((loopsOf 0 (body Try.f8)).map (·.2)).getD 0 .skip

noncomputable def patinalaw15_PatrolRounds_l2_c : Code := ((loopsOf 0 (body Try.f8)).map (·.2)).getD 1 .skip

noncomputable def patinalaw15_PatrolRounds_l4_c : Code := ((loopsOf 0 (body Try.f8)).map (·.2)).getD 2 .skip

noncomputable def patinalaw15_PatrolRounds_l6_c : Code := ((loopsOf 0 (body Try.f8)).map (·.2)).getD 3 .skip

noncomputable def patinalaw15_PatrolRounds_l8_c : Code := ((loopsOf 0 (body Try.f8)).map (·.2)).getD 4 .skip

noncomputable def patinalaw15_PatrolRounds_l10_c : Code := ((loopsOf 0 (body Try.f8)).map (·.2)).getD 5 .skip

noncomputable def patinalaw15_PatrolRounds_l12_c : Code := ((loopsOf 0 (body Try.f8)).map (·.2)).getD 6 .skip

noncomputable def patinalaw15_PatrolRounds_l14_c : Code := ((loopsOf 0 (body Try.f8)).map (·.2)).getD 7 .skip

noncomputable def patinalaw15_PatrolRounds_l16_c : Code := ((loopsOf 0 (body Try.f8)).map (·.2)).getD 8 .skip

theorem patinalaw15_PatrolRounds_loops : loopsOf 0 (body Try.f8) = [(0, patinalaw15_PatrolRounds_l0_c), (2, patinalaw15_PatrolRounds_l2_c), (4, patinalaw15_PatrolRounds_l4_c), (6, patinalaw15_PatrolRounds_l6_c), (8, patinalaw15_PatrolRounds_l8_c), (10, patinalaw15_PatrolRounds_l10_c), (12, patinalaw15_PatrolRounds_l12_c), (14, patinalaw15_PatrolRounds_l14_c), (16, patinalaw15_PatrolRounds_l16_c)] := by kernel_rfl

theorem patinalaw15_PatrolRounds_l0_ok (k : Nat) : LoopOk (patinalaw15_PatrolRounds_C k) 0 patinalaw15_PatrolRounds_l0_c := by
  refine ⟨[9, 11, 12, 13, 14], by kernel_rfl, fun K r => ⟨patinalaw15_PatrolRounds_l0_L k K, fun vs m h => ⟨k, h⟩, ?_⟩⟩
  intro n vs m h
  unfold patinalaw15_PatrolRounds_l0_L at h
  split at h
  · cases n with
    | zero => cases h
    | succ n => exact ⟨n, rfl, Eq.trans (by kernel_rfl) h⟩
  · cases h

theorem patinalaw15_PatrolRounds_l2_ok (k : Nat) : LoopOk (patinalaw15_PatrolRounds_C k) 2 patinalaw15_PatrolRounds_l2_c := by
  refine ⟨[9, 11, 12, 13, 15, 16, 17], by kernel_rfl, fun K r => ⟨patinalaw15_PatrolRounds_l2_L k K, fun vs m h => ⟨k, h⟩, ?_⟩⟩
  intro n vs m h
  unfold patinalaw15_PatrolRounds_l2_L at h
  split at h
  · cases n with
    | zero => cases h
    | succ n => exact ⟨n, rfl, Eq.trans (by kernel_rfl) h⟩
  · cases h

theorem patinalaw15_PatrolRounds_l4_ok (k : Nat) : LoopOk (patinalaw15_PatrolRounds_C k) 4 patinalaw15_PatrolRounds_l4_c := by
  refine ⟨[9, 11, 12, 13, 15, 16, 17, 18, 19], by kernel_rfl, fun K r => ⟨patinalaw15_PatrolRounds_l4_L k K, fun vs m h => ⟨k, h⟩, ?_⟩⟩
  intro n vs m h
  unfold patinalaw15_PatrolRounds_l4_L at h
  split at h
  · cases n with
    | zero => cases h
    | succ n => exact ⟨n, rfl, Eq.trans (by kernel_rfl) h⟩
  · cases h

theorem patinalaw15_PatrolRounds_l6_ok (k : Nat) : LoopOk (patinalaw15_PatrolRounds_C k) 6 patinalaw15_PatrolRounds_l6_c := by
  refine ⟨[11, 12, 13, 15, 16, 20], by kernel_rfl, fun K r => ⟨patinalaw15_PatrolRounds_l6_L k K, fun vs m h => ⟨k, h⟩, ?_⟩⟩
  intro n vs m h
  unfold patinalaw15_PatrolRounds_l6_L at h
  split at h
  · cases n with
    | zero => cases h
    | succ n => exact ⟨n, rfl, Eq.trans (by kernel_rfl) h⟩
  · cases h

theorem patinalaw15_PatrolRounds_l8_ok (k : Nat) : LoopOk (patinalaw15_PatrolRounds_C k) 8 patinalaw15_PatrolRounds_l8_c := by
  refine ⟨[11, 12, 13, 21, 23, 24], by kernel_rfl, fun K r => ⟨patinalaw15_PatrolRounds_l8_L k K, fun vs m h => ⟨k, h⟩, ?_⟩⟩
  intro n vs m h
  unfold patinalaw15_PatrolRounds_l8_L at h
  split at h
  · cases n with
    | zero => cases h
    | succ n => exact ⟨n, rfl, Eq.trans (by kernel_rfl) h⟩
  · cases h

theorem patinalaw15_PatrolRounds_l10_ok (k : Nat) : LoopOk (patinalaw15_PatrolRounds_C k) 10 patinalaw15_PatrolRounds_l10_c := by
  refine ⟨[11, 12, 13, 21, 23, 24, 25, 26], by kernel_rfl, fun K r => ⟨patinalaw15_PatrolRounds_l10_L k K, fun vs m h => ⟨k, h⟩, ?_⟩⟩
  intro n vs m h
  unfold patinalaw15_PatrolRounds_l10_L at h
  split at h
  · cases n with
    | zero => cases h
    | succ n => exact ⟨n, rfl, Eq.trans (by kernel_rfl) h⟩
  · cases h

theorem patinalaw15_PatrolRounds_l12_ok (k : Nat) : LoopOk (patinalaw15_PatrolRounds_C k) 12 patinalaw15_PatrolRounds_l12_c := by
  refine ⟨[21, 23, 27], by kernel_rfl, fun K r => ⟨patinalaw15_PatrolRounds_l12_L k K, fun vs m h => ⟨k, h⟩, ?_⟩⟩
  intro n vs m h
  unfold patinalaw15_PatrolRounds_l12_L at h
  split at h
  · cases n with
    | zero => cases h
    | succ n => exact ⟨n, rfl, Eq.trans (by kernel_rfl) h⟩
  · cases h

theorem patinalaw15_PatrolRounds_l14_ok (k : Nat) : LoopOk (patinalaw15_PatrolRounds_C k) 14 patinalaw15_PatrolRounds_l14_c := by
  refine ⟨[21, 23, 27, 28, 29], by kernel_rfl, fun K r => ⟨patinalaw15_PatrolRounds_l14_L k K, fun vs m h => ⟨k, h⟩, ?_⟩⟩
  intro n vs m h
  unfold patinalaw15_PatrolRounds_l14_L at h
  split at h
  · cases n with
    | zero => cases h
    | succ n => exact ⟨n, rfl, Eq.trans (by kernel_rfl) h⟩
  · cases h

theorem patinalaw15_PatrolRounds_l16_ok (k : Nat) : LoopOk (patinalaw15_PatrolRounds_C k) 16 patinalaw15_PatrolRounds_l16_c := by
  refine ⟨[23, 30], by kernel_rfl, fun K r => ⟨patinalaw15_PatrolRounds_l16_L k K, fun vs m h => ⟨k, h⟩, ?_⟩⟩
  intro n vs m h
  unfold patinalaw15_PatrolRounds_l16_L at h
  split at h
  · cases n with
    | zero => cases h
    | succ n => exact ⟨n, rfl, Eq.trans (by kernel_rfl) h⟩
  · cases h

def patinalaw15_PatrolRounds_dec : Value → Mem → Option (Bool × Mem) := fun v m => match v with
  | .bool q0 => some (q0, m)
  | _ => none

theorem patinalaw15_PatrolRounds_eq (k : Nat) (p0 : Int) (p1 : Int) (p2 : Int) (m : Mem) : fnX (patinalaw15_PatrolRounds_C k) Try.f8 [(Value.int .i64 p0), (Value.int .i64 p1), (Value.int .i64 p2)] m patinalaw15_PatrolRounds_dec = patinalaw15_PatrolRounds k p0 p1 p2 m := by kernel_rfl

theorem patinalaw15_PatrolRounds_ok {k : Nat} {p0 : Int} {p1 : Int} {p2 : Int} {m : Mem} {r : (Bool × Mem)} (h : patinalaw15_PatrolRounds k p0 p1 p2 m = some r) : CallP Try.prog 8 [(Value.int .i64 p0), (Value.int .i64 p1), (Value.int .i64 p2)] m fun v m' => v = (Value.bool r.1) ∧ m' = r.2 := by
  refine (fn_sound (C := patinalaw15_PatrolRounds_C k) (c := body Try.f8) tOk mixed (patinalaw15_PatrolRounds_callOk k) Try.func8 (by kernel_rfl) (by kernel_rfl) (by kernel_rfl) (by kernel_rfl) ?_ (Eq.trans (patinalaw15_PatrolRounds_eq k p0 p1 p2 m) h)).mono ?_
  · intro p hp
    rw [patinalaw15_PatrolRounds_loops] at hp
    simp only [List.mem_cons, List.not_mem_nil, or_false] at hp
    rcases hp with rfl | rfl | rfl | rfl | rfl | rfl | rfl | rfl | rfl
    · exact patinalaw15_PatrolRounds_l0_ok k
    · exact patinalaw15_PatrolRounds_l2_ok k
    · exact patinalaw15_PatrolRounds_l4_ok k
    · exact patinalaw15_PatrolRounds_l6_ok k
    · exact patinalaw15_PatrolRounds_l8_ok k
    · exact patinalaw15_PatrolRounds_l10_ok k
    · exact patinalaw15_PatrolRounds_l12_ok k
    · exact patinalaw15_PatrolRounds_l14_ok k
    · exact patinalaw15_PatrolRounds_l16_ok k
  · intro v m' hp
    unfold patinalaw15_PatrolRounds_dec at hp
    split at hp
    · simp only [Option.some.injEq] at hp; subst hp; exact ⟨rfl, rfl⟩
    · cases hp

end Go.Proofs.Ytnilidpafijdlab
