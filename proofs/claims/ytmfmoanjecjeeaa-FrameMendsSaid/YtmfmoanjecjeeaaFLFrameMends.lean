/- The program's functions as plain Lean functions over a clean memory, each held against the program by the kernel. Written by mx.py. -/
import Derived.Test.YtmfmoanjecjeeaaF0
import Derived.Test.YtmfmoanjecjeeaaFframe
import Derived.Test.YtmfmoanjecjeeaaFpatinalaw06
import Derived.Test.YtmfmoanjecjeeaaFpatinaref01
import Derived.Test.YtmfmoanjecjeeaaFpatinaref02
set_option linter.unusedVariables false
set_option maxRecDepth 100000
namespace Go.Proofs.Ytmfmoanjecjeeaa
open Go.Mx

/-! ### patinalaw06_FrameMends -/
def patinalaw06_FrameMends_l0_b (k : Nat) (nx : Option Addr → Nat → Nat → Bool → Option Addr → Option Addr → Nat → Nat → Option Addr → Nat → Nat → Int → Mem → Option (Bool × Mem)) (kx2 : Option Addr → Nat → Nat → Bool → Option Addr → Option Addr → Nat → Nat → Option Addr → Nat → Nat → Mem → Option (Bool × Mem)) (x1a : Option Addr) (x1n : Nat) (x1c : Nat) (x5 : Bool) (x6 : Option Addr) (x7a : Option Addr) (x7n : Nat) (x7c : Nat) (x8a : Option Addr) (x8n : Nat) (x8c : Nat) (x9 : Int) (m : Mem) : Option (Bool × Mem) :=
  bif decide (x9 < ((x8n : Nat) : Int)) then (
  bif inRange (IntKind.wrap .i64 (3 * x9)) x7n then (
  (x7a).bind fun a5 =>
  (ldInt .u8 m (plus a5 (Int.toNat (IntKind.wrap .i64 (3 * x9)) * 1))).bind fun t6 =>
  bif inRange x9 x8n then (
  (x8a).bind fun a7 =>
  (st m (plus a7 (Int.toNat x9 * 1)) (Value.int .u8 (bitI .xor .u8 t6 53))).bind fun m8 =>
  nx x1a x1n x1c x5 x6 x7a x7n x7c x8a x8n x8c (IntKind.wrap .i64 (x9 + 1)) m8) else none) else none) else (
  kx2 x1a x1n x1c x5 x6 x7a x7n x7c x8a x8n x8c m)

def patinalaw06_FrameMends_l0 (k : Nat) (kx2 : Option Addr → Nat → Nat → Bool → Option Addr → Option Addr → Nat → Nat → Option Addr → Nat → Nat → Mem → Option (Bool × Mem)) : Nat → Option Addr → Nat → Nat → Bool → Option Addr → Option Addr → Nat → Nat → Option Addr → Nat → Nat → Int → Mem → Option (Bool × Mem)
  | 0, _, _, _, _, _, _, _, _, _, _, _, _, _ => none
  | n + 1, x1a, x1n, x1c, x5, x6, x7a, x7n, x7c, x8a, x8n, x8c, x9, m => patinalaw06_FrameMends_l0_b k (fun x1a x1n x1c x5 x6 x7a x7n x7c x8a x8n x8c x9 m => patinalaw06_FrameMends_l0 k kx2 n x1a x1n x1c x5 x6 x7a x7n x7c x8a x8n x8c x9 m) kx2 x1a x1n x1c x5 x6 x7a x7n x7c x8a x8n x8c x9 m
termination_by structural x => x

theorem patinalaw06_FrameMends_l0_rule (k : Nat) (kx2 : Option Addr → Nat → Nat → Bool → Option Addr → Option Addr → Nat → Nat → Option Addr → Nat → Nat → Mem → Option (Bool × Mem)) {P : (Bool × Mem) → Prop} (I : Nat → Option Addr → Nat → Nat → Bool → Option Addr → Option Addr → Nat → Nat → Option Addr → Nat → Nat → Int → Mem → Prop)
    (step : ∀ d (nx : Option Addr → Nat → Nat → Bool → Option Addr → Option Addr → Nat → Nat → Option Addr → Nat → Nat → Int → Mem → Option (Bool × Mem)) (x1a : Option Addr) (x1n : Nat) (x1c : Nat) (x5 : Bool) (x6 : Option Addr) (x7a : Option Addr) (x7n : Nat) (x7c : Nat) (x8a : Option Addr) (x8n : Nat) (x8c : Nat) (x9 : Int) (m : Mem), I d x1a x1n x1c x5 x6 x7a x7n x7c x8a x8n x8c x9 m → (∀ d' (x1a : Option Addr) (x1n : Nat) (x1c : Nat) (x5 : Bool) (x6 : Option Addr) (x7a : Option Addr) (x7n : Nat) (x7c : Nat) (x8a : Option Addr) (x8n : Nat) (x8c : Nat) (x9 : Int) (m : Mem), d' < d → I d' x1a x1n x1c x5 x6 x7a x7n x7c x8a x8n x8c x9 m → Ok (nx x1a x1n x1c x5 x6 x7a x7n x7c x8a x8n x8c x9 m) P) → Ok (patinalaw06_FrameMends_l0_b k nx kx2 x1a x1n x1c x5 x6 x7a x7n x7c x8a x8n x8c x9 m) P) :
    ∀ n d (x1a : Option Addr) (x1n : Nat) (x1c : Nat) (x5 : Bool) (x6 : Option Addr) (x7a : Option Addr) (x7n : Nat) (x7c : Nat) (x8a : Option Addr) (x8n : Nat) (x8c : Nat) (x9 : Int) (m : Mem), d < n → I d x1a x1n x1c x5 x6 x7a x7n x7c x8a x8n x8c x9 m → Ok (patinalaw06_FrameMends_l0 k kx2 n x1a x1n x1c x5 x6 x7a x7n x7c x8a x8n x8c x9 m) P
  | 0, d, x1a, x1n, x1c, x5, x6, x7a, x7n, x7c, x8a, x8n, x8c, x9, m, h, _ => absurd h (Nat.not_lt_zero _)
  | n + 1, d, x1a, x1n, x1c, x5, x6, x7a, x7n, x7c, x8a, x8n, x8c, x9, m, h, hI => step d _ x1a x1n x1c x5 x6 x7a x7n x7c x8a x8n x8c x9 m hI fun d' x1a x1n x1c x5 x6 x7a x7n x7c x8a x8n x8c x9 m h' hI' => patinalaw06_FrameMends_l0_rule k kx2 I step n d' x1a x1n x1c x5 x6 x7a x7n x7c x8a x8n x8c x9 m (by omega) hI'

def patinalaw06_FrameMends_l2_b (k : Nat) (nx : Option Addr → Nat → Nat → Bool → Option Addr → Option Addr → Nat → Nat → Option Addr → Nat → Nat → Option Addr → Nat → Nat → Option Addr → Nat → Nat → Int → Mem → Option (Bool × Mem)) (kx4 : Option Addr → Nat → Nat → Bool → Option Addr → Option Addr → Nat → Nat → Option Addr → Nat → Nat → Option Addr → Nat → Nat → Mem → Option (Bool × Mem)) (x1a : Option Addr) (x1n : Nat) (x1c : Nat) (x5 : Bool) (x6 : Option Addr) (x7a : Option Addr) (x7n : Nat) (x7c : Nat) (x8a : Option Addr) (x8n : Nat) (x8c : Nat) (x10a : Option Addr) (x10n : Nat) (x10c : Nat) (x12a : Option Addr) (x12n : Nat) (x12c : Nat) (x13 : Int) (m : Mem) : Option (Bool × Mem) :=
  bif decide (x13 < 4) then (
  bif inRange x13 x10n then (
  (x10a).bind fun a12 =>
  (ldSl m (plus a12 (Int.toNat x13 * 1))).bind fun t13 =>
  (rdSl m t13.a t13.len 1).bind fun l14 =>
  (appM 1 1 m x12a x12n x12c t13.len l14).bind fun r15 =>
  nx x1a x1n x1c x5 x6 x7a x7n x7c x8a x8n x8c x10a x10n x10c r15.1.a r15.1.len r15.1.cap (IntKind.wrap .i64 (x13 + 1)) r15.2) else none) else (
  kx4 x1a x1n x1c x5 x6 x7a x7n x7c x8a x8n x8c x12a x12n x12c m)

def patinalaw06_FrameMends_l2 (k : Nat) (kx4 : Option Addr → Nat → Nat → Bool → Option Addr → Option Addr → Nat → Nat → Option Addr → Nat → Nat → Option Addr → Nat → Nat → Mem → Option (Bool × Mem)) : Nat → Option Addr → Nat → Nat → Bool → Option Addr → Option Addr → Nat → Nat → Option Addr → Nat → Nat → Option Addr → Nat → Nat → Option Addr → Nat → Nat → Int → Mem → Option (Bool × Mem)
  | 0, _, _, _, _, _, _, _, _, _, _, _, _, _, _, _, _, _, _, _ => none
  | n + 1, x1a, x1n, x1c, x5, x6, x7a, x7n, x7c, x8a, x8n, x8c, x10a, x10n, x10c, x12a, x12n, x12c, x13, m => patinalaw06_FrameMends_l2_b k (fun x1a x1n x1c x5 x6 x7a x7n x7c x8a x8n x8c x10a x10n x10c x12a x12n x12c x13 m => patinalaw06_FrameMends_l2 k kx4 n x1a x1n x1c x5 x6 x7a x7n x7c x8a x8n x8c x10a x10n x10c x12a x12n x12c x13 m) kx4 x1a x1n x1c x5 x6 x7a x7n x7c x8a x8n x8c x10a x10n x10c x12a x12n x12c x13 m
termination_by structural x => x

theorem patinalaw06_FrameMends_l2_rule (k : Nat) (kx4 : Option Addr → Nat → Nat → Bool → Option Addr → Option Addr → Nat → Nat → Option Addr → Nat → Nat → Option Addr → Nat → Nat → Mem → Option (Bool × Mem)) {P : (Bool × Mem) → Prop} (I : Nat → Option Addr → Nat → Nat → Bool → Option Addr → Option Addr → Nat → Nat → Option Addr → Nat → Nat → Option Addr → Nat → Nat → Option Addr → Nat → Nat → Int → Mem → Prop)
    (step : ∀ d (nx : Option Addr → Nat → Nat → Bool → Option Addr → Option Addr → Nat → Nat → Option Addr → Nat → Nat → Option Addr → Nat → Nat → Option Addr → Nat → Nat → Int → Mem → Option (Bool × Mem)) (x1a : Option Addr) (x1n : Nat) (x1c : Nat) (x5 : Bool) (x6 : Option Addr) (x7a : Option Addr) (x7n : Nat) (x7c : Nat) (x8a : Option Addr) (x8n : Nat) (x8c : Nat) (x10a : Option Addr) (x10n : Nat) (x10c : Nat) (x12a : Option Addr) (x12n : Nat) (x12c : Nat) (x13 : Int) (m : Mem), I d x1a x1n x1c x5 x6 x7a x7n x7c x8a x8n x8c x10a x10n x10c x12a x12n x12c x13 m → (∀ d' (x1a : Option Addr) (x1n : Nat) (x1c : Nat) (x5 : Bool) (x6 : Option Addr) (x7a : Option Addr) (x7n : Nat) (x7c : Nat) (x8a : Option Addr) (x8n : Nat) (x8c : Nat) (x10a : Option Addr) (x10n : Nat) (x10c : Nat) (x12a : Option Addr) (x12n : Nat) (x12c : Nat) (x13 : Int) (m : Mem), d' < d → I d' x1a x1n x1c x5 x6 x7a x7n x7c x8a x8n x8c x10a x10n x10c x12a x12n x12c x13 m → Ok (nx x1a x1n x1c x5 x6 x7a x7n x7c x8a x8n x8c x10a x10n x10c x12a x12n x12c x13 m) P) → Ok (patinalaw06_FrameMends_l2_b k nx kx4 x1a x1n x1c x5 x6 x7a x7n x7c x8a x8n x8c x10a x10n x10c x12a x12n x12c x13 m) P) :
    ∀ n d (x1a : Option Addr) (x1n : Nat) (x1c : Nat) (x5 : Bool) (x6 : Option Addr) (x7a : Option Addr) (x7n : Nat) (x7c : Nat) (x8a : Option Addr) (x8n : Nat) (x8c : Nat) (x10a : Option Addr) (x10n : Nat) (x10c : Nat) (x12a : Option Addr) (x12n : Nat) (x12c : Nat) (x13 : Int) (m : Mem), d < n → I d x1a x1n x1c x5 x6 x7a x7n x7c x8a x8n x8c x10a x10n x10c x12a x12n x12c x13 m → Ok (patinalaw06_FrameMends_l2 k kx4 n x1a x1n x1c x5 x6 x7a x7n x7c x8a x8n x8c x10a x10n x10c x12a x12n x12c x13 m) P
  | 0, d, x1a, x1n, x1c, x5, x6, x7a, x7n, x7c, x8a, x8n, x8c, x10a, x10n, x10c, x12a, x12n, x12c, x13, m, h, _ => absurd h (Nat.not_lt_zero _)
  | n + 1, d, x1a, x1n, x1c, x5, x6, x7a, x7n, x7c, x8a, x8n, x8c, x10a, x10n, x10c, x12a, x12n, x12c, x13, m, h, hI => step d _ x1a x1n x1c x5 x6 x7a x7n x7c x8a x8n x8c x10a x10n x10c x12a x12n x12c x13 m hI fun d' x1a x1n x1c x5 x6 x7a x7n x7c x8a x8n x8c x10a x10n x10c x12a x12n x12c x13 m h' hI' => patinalaw06_FrameMends_l2_rule k kx4 I step n d' x1a x1n x1c x5 x6 x7a x7n x7c x8a x8n x8c x10a x10n x10c x12a x12n x12c x13 m (by omega) hI'

def patinalaw06_FrameMends_l4_b (k : Nat) (nx : Option Addr → Nat → Nat → Bool → Option Addr → Option Addr → Nat → Nat → Option Addr → Nat → Nat → Option Addr → Nat → Nat → Option Addr → Nat → Nat → Int → Mem → Option (Bool × Mem)) (kx6 : Bool → Option Addr → Option Addr → Nat → Nat → Option Addr → Nat → Nat → Option Addr → Nat → Nat → Option Addr → Nat → Nat → Mem → Option (Bool × Mem)) (x1a : Option Addr) (x1n : Nat) (x1c : Nat) (x5 : Bool) (x6 : Option Addr) (x7a : Option Addr) (x7n : Nat) (x7c : Nat) (x8a : Option Addr) (x8n : Nat) (x8c : Nat) (x12a : Option Addr) (x12n : Nat) (x12c : Nat) (x14a : Option Addr) (x14n : Nat) (x14c : Nat) (x15 : Int) (m : Mem) : Option (Bool × Mem) :=
  bif decide (x15 < ((x1n : Nat) : Int)) then (
  bif inRange x15 x1n then (
  (x1a).bind fun a19 =>
  (ldInt .i64 m (plus (plus a19 (Int.toNat x15 * 2)) 0)).bind fun t20 =>
  (patinalaw06_pick k t20 256 m).bind fun r21 =>
  bif inRange r21.1 x14n then (
  (x14a).bind fun a22 =>
  (ldInt .u8 r21.2 (plus a22 (Int.toNat r21.1 * 1))).bind fun t23 =>
  bif inRange x15 x1n then (
  (x1a).bind fun a24 =>
  (ldInt .u8 r21.2 (plus (plus a24 (Int.toNat x15 * 2)) 1)).bind fun t25 =>
  bif inRange r21.1 x14n then (
  (x14a).bind fun a26 =>
  (st r21.2 (plus a26 (Int.toNat r21.1 * 1)) (Value.int .u8 (bitI .xor .u8 t23 t25))).bind fun m27 =>
  nx x1a x1n x1c x5 x6 x7a x7n x7c x8a x8n x8c x12a x12n x12c x14a x14n x14c (IntKind.wrap .i64 (x15 + 1)) m27) else none) else none) else none) else none) else (
  kx6 x5 x6 x7a x7n x7c x8a x8n x8c x12a x12n x12c x14a x14n x14c m)

def patinalaw06_FrameMends_l4 (k : Nat) (kx6 : Bool → Option Addr → Option Addr → Nat → Nat → Option Addr → Nat → Nat → Option Addr → Nat → Nat → Option Addr → Nat → Nat → Mem → Option (Bool × Mem)) : Nat → Option Addr → Nat → Nat → Bool → Option Addr → Option Addr → Nat → Nat → Option Addr → Nat → Nat → Option Addr → Nat → Nat → Option Addr → Nat → Nat → Int → Mem → Option (Bool × Mem)
  | 0, _, _, _, _, _, _, _, _, _, _, _, _, _, _, _, _, _, _, _ => none
  | n + 1, x1a, x1n, x1c, x5, x6, x7a, x7n, x7c, x8a, x8n, x8c, x12a, x12n, x12c, x14a, x14n, x14c, x15, m => patinalaw06_FrameMends_l4_b k (fun x1a x1n x1c x5 x6 x7a x7n x7c x8a x8n x8c x12a x12n x12c x14a x14n x14c x15 m => patinalaw06_FrameMends_l4 k kx6 n x1a x1n x1c x5 x6 x7a x7n x7c x8a x8n x8c x12a x12n x12c x14a x14n x14c x15 m) kx6 x1a x1n x1c x5 x6 x7a x7n x7c x8a x8n x8c x12a x12n x12c x14a x14n x14c x15 m
termination_by structural x => x

theorem patinalaw06_FrameMends_l4_rule (k : Nat) (kx6 : Bool → Option Addr → Option Addr → Nat → Nat → Option Addr → Nat → Nat → Option Addr → Nat → Nat → Option Addr → Nat → Nat → Mem → Option (Bool × Mem)) {P : (Bool × Mem) → Prop} (I : Nat → Option Addr → Nat → Nat → Bool → Option Addr → Option Addr → Nat → Nat → Option Addr → Nat → Nat → Option Addr → Nat → Nat → Option Addr → Nat → Nat → Int → Mem → Prop)
    (step : ∀ d (nx : Option Addr → Nat → Nat → Bool → Option Addr → Option Addr → Nat → Nat → Option Addr → Nat → Nat → Option Addr → Nat → Nat → Option Addr → Nat → Nat → Int → Mem → Option (Bool × Mem)) (x1a : Option Addr) (x1n : Nat) (x1c : Nat) (x5 : Bool) (x6 : Option Addr) (x7a : Option Addr) (x7n : Nat) (x7c : Nat) (x8a : Option Addr) (x8n : Nat) (x8c : Nat) (x12a : Option Addr) (x12n : Nat) (x12c : Nat) (x14a : Option Addr) (x14n : Nat) (x14c : Nat) (x15 : Int) (m : Mem), I d x1a x1n x1c x5 x6 x7a x7n x7c x8a x8n x8c x12a x12n x12c x14a x14n x14c x15 m → (∀ d' (x1a : Option Addr) (x1n : Nat) (x1c : Nat) (x5 : Bool) (x6 : Option Addr) (x7a : Option Addr) (x7n : Nat) (x7c : Nat) (x8a : Option Addr) (x8n : Nat) (x8c : Nat) (x12a : Option Addr) (x12n : Nat) (x12c : Nat) (x14a : Option Addr) (x14n : Nat) (x14c : Nat) (x15 : Int) (m : Mem), d' < d → I d' x1a x1n x1c x5 x6 x7a x7n x7c x8a x8n x8c x12a x12n x12c x14a x14n x14c x15 m → Ok (nx x1a x1n x1c x5 x6 x7a x7n x7c x8a x8n x8c x12a x12n x12c x14a x14n x14c x15 m) P) → Ok (patinalaw06_FrameMends_l4_b k nx kx6 x1a x1n x1c x5 x6 x7a x7n x7c x8a x8n x8c x12a x12n x12c x14a x14n x14c x15 m) P) :
    ∀ n d (x1a : Option Addr) (x1n : Nat) (x1c : Nat) (x5 : Bool) (x6 : Option Addr) (x7a : Option Addr) (x7n : Nat) (x7c : Nat) (x8a : Option Addr) (x8n : Nat) (x8c : Nat) (x12a : Option Addr) (x12n : Nat) (x12c : Nat) (x14a : Option Addr) (x14n : Nat) (x14c : Nat) (x15 : Int) (m : Mem), d < n → I d x1a x1n x1c x5 x6 x7a x7n x7c x8a x8n x8c x12a x12n x12c x14a x14n x14c x15 m → Ok (patinalaw06_FrameMends_l4 k kx6 n x1a x1n x1c x5 x6 x7a x7n x7c x8a x8n x8c x12a x12n x12c x14a x14n x14c x15 m) P
  | 0, d, x1a, x1n, x1c, x5, x6, x7a, x7n, x7c, x8a, x8n, x8c, x12a, x12n, x12c, x14a, x14n, x14c, x15, m, h, _ => absurd h (Nat.not_lt_zero _)
  | n + 1, d, x1a, x1n, x1c, x5, x6, x7a, x7n, x7c, x8a, x8n, x8c, x12a, x12n, x12c, x14a, x14n, x14c, x15, m, h, hI => step d _ x1a x1n x1c x5 x6 x7a x7n x7c x8a x8n x8c x12a x12n x12c x14a x14n x14c x15 m hI fun d' x1a x1n x1c x5 x6 x7a x7n x7c x8a x8n x8c x12a x12n x12c x14a x14n x14c x15 m h' hI' => patinalaw06_FrameMends_l4_rule k kx6 I step n d' x1a x1n x1c x5 x6 x7a x7n x7c x8a x8n x8c x12a x12n x12c x14a x14n x14c x15 m (by omega) hI'

def patinalaw06_FrameMends_j1 (k : Nat) (x5 : Bool) (x6 : Option Addr) (x7a : Option Addr) (x7n : Nat) (x7c : Nat) (x8a : Option Addr) (x8n : Nat) (x8c : Nat) (x12a : Option Addr) (x12n : Nat) (x12c : Nat) (x14a : Option Addr) (x14n : Nat) (x14c : Nat) (x18 : Int) (nx : Bool → Option Addr → Option Addr → Nat → Nat → Option Addr → Nat → Nat → Option Addr → Nat → Nat → Option Addr → Nat → Nat → Int → Int → Mem → Option (Bool × Mem)) (x17_ : Int) (mj : Mem) : Option (Bool × Mem) :=
  nx x5 x6 x7a x7n x7c x8a x8n x8c x12a x12n x12c x14a x14n x14c x17_ (IntKind.wrap .i64 (x18 + 1)) mj

def patinalaw06_FrameMends_l6_b (k : Nat) (nx : Bool → Option Addr → Option Addr → Nat → Nat → Option Addr → Nat → Nat → Option Addr → Nat → Nat → Option Addr → Nat → Nat → Int → Int → Mem → Option (Bool × Mem)) (kx8 : Bool → Option Addr → Option Addr → Nat → Nat → Option Addr → Nat → Nat → Option Addr → Nat → Nat → Option Addr → Nat → Nat → Int → Mem → Option (Bool × Mem)) (x5 : Bool) (x6 : Option Addr) (x7a : Option Addr) (x7n : Nat) (x7c : Nat) (x8a : Option Addr) (x8n : Nat) (x8c : Nat) (x12a : Option Addr) (x12n : Nat) (x12c : Nat) (x14a : Option Addr) (x14n : Nat) (x14c : Nat) (x17 : Int) (x18 : Int) (m : Mem) : Option (Bool × Mem) :=
  bif decide (x18 < 3) then (
  bif sliceK.okZ x14a 1 false && inUpto (IntKind.wrap .i64 ((IntKind.wrap .i64 (64 * x18)) + 64)) x14c && inUpto (IntKind.wrap .i64 (64 * x18)) (Int.toNat (IntKind.wrap .i64 ((IntKind.wrap .i64 (64 * x18)) + 64))) then (
  bif sliceK.okZ x12a 1 false && inUpto (IntKind.wrap .i64 ((IntKind.wrap .i64 (64 * x18)) + 64)) x12c && inUpto (IntKind.wrap .i64 (64 * x18)) (Int.toNat (IntKind.wrap .i64 ((IntKind.wrap .i64 (64 * x18)) + 64))) then (
  (patinaref02_Apart k ((sliceK.clear x14a false).map fun a => plus a ((Int.toNat (IntKind.wrap .i64 (64 * x18))) * 1)) ((Int.toNat (IntKind.wrap .i64 ((IntKind.wrap .i64 (64 * x18)) + 64))) - (Int.toNat (IntKind.wrap .i64 (64 * x18)))) (x14c - (Int.toNat (IntKind.wrap .i64 (64 * x18)))) ((sliceK.clear x12a false).map fun a => plus a ((Int.toNat (IntKind.wrap .i64 (64 * x18))) * 1)) ((Int.toNat (IntKind.wrap .i64 ((IntKind.wrap .i64 (64 * x18)) + 64))) - (Int.toNat (IntKind.wrap .i64 (64 * x18)))) (x12c - (Int.toNat (IntKind.wrap .i64 (64 * x18)))) m).bind fun r29 =>
  bif decide (r29.1 > x17) then (
  patinalaw06_FrameMends_j1 k x5 x6 x7a x7n x7c x8a x8n x8c x12a x12n x12c x14a x14n x14c x18 nx r29.1 r29.2) else (
  patinalaw06_FrameMends_j1 k x5 x6 x7a x7n x7c x8a x8n x8c x12a x12n x12c x14a x14n x14c x18 nx x17 r29.2)) else none) else none) else (
  kx8 x5 x6 x7a x7n x7c x8a x8n x8c x12a x12n x12c x14a x14n x14c x17 m)

def patinalaw06_FrameMends_l6 (k : Nat) (kx8 : Bool → Option Addr → Option Addr → Nat → Nat → Option Addr → Nat → Nat → Option Addr → Nat → Nat → Option Addr → Nat → Nat → Int → Mem → Option (Bool × Mem)) : Nat → Bool → Option Addr → Option Addr → Nat → Nat → Option Addr → Nat → Nat → Option Addr → Nat → Nat → Option Addr → Nat → Nat → Int → Int → Mem → Option (Bool × Mem)
  | 0, _, _, _, _, _, _, _, _, _, _, _, _, _, _, _, _, _ => none
  | n + 1, x5, x6, x7a, x7n, x7c, x8a, x8n, x8c, x12a, x12n, x12c, x14a, x14n, x14c, x17, x18, m => patinalaw06_FrameMends_l6_b k (fun x5 x6 x7a x7n x7c x8a x8n x8c x12a x12n x12c x14a x14n x14c x17 x18 m => patinalaw06_FrameMends_l6 k kx8 n x5 x6 x7a x7n x7c x8a x8n x8c x12a x12n x12c x14a x14n x14c x17 x18 m) kx8 x5 x6 x7a x7n x7c x8a x8n x8c x12a x12n x12c x14a x14n x14c x17 x18 m
termination_by structural x => x

theorem patinalaw06_FrameMends_l6_rule (k : Nat) (kx8 : Bool → Option Addr → Option Addr → Nat → Nat → Option Addr → Nat → Nat → Option Addr → Nat → Nat → Option Addr → Nat → Nat → Int → Mem → Option (Bool × Mem)) {P : (Bool × Mem) → Prop} (I : Nat → Bool → Option Addr → Option Addr → Nat → Nat → Option Addr → Nat → Nat → Option Addr → Nat → Nat → Option Addr → Nat → Nat → Int → Int → Mem → Prop)
    (step : ∀ d (nx : Bool → Option Addr → Option Addr → Nat → Nat → Option Addr → Nat → Nat → Option Addr → Nat → Nat → Option Addr → Nat → Nat → Int → Int → Mem → Option (Bool × Mem)) (x5 : Bool) (x6 : Option Addr) (x7a : Option Addr) (x7n : Nat) (x7c : Nat) (x8a : Option Addr) (x8n : Nat) (x8c : Nat) (x12a : Option Addr) (x12n : Nat) (x12c : Nat) (x14a : Option Addr) (x14n : Nat) (x14c : Nat) (x17 : Int) (x18 : Int) (m : Mem), I d x5 x6 x7a x7n x7c x8a x8n x8c x12a x12n x12c x14a x14n x14c x17 x18 m → (∀ d' (x5 : Bool) (x6 : Option Addr) (x7a : Option Addr) (x7n : Nat) (x7c : Nat) (x8a : Option Addr) (x8n : Nat) (x8c : Nat) (x12a : Option Addr) (x12n : Nat) (x12c : Nat) (x14a : Option Addr) (x14n : Nat) (x14c : Nat) (x17 : Int) (x18 : Int) (m : Mem), d' < d → I d' x5 x6 x7a x7n x7c x8a x8n x8c x12a x12n x12c x14a x14n x14c x17 x18 m → Ok (nx x5 x6 x7a x7n x7c x8a x8n x8c x12a x12n x12c x14a x14n x14c x17 x18 m) P) → Ok (patinalaw06_FrameMends_l6_b k nx kx8 x5 x6 x7a x7n x7c x8a x8n x8c x12a x12n x12c x14a x14n x14c x17 x18 m) P) :
    ∀ n d (x5 : Bool) (x6 : Option Addr) (x7a : Option Addr) (x7n : Nat) (x7c : Nat) (x8a : Option Addr) (x8n : Nat) (x8c : Nat) (x12a : Option Addr) (x12n : Nat) (x12c : Nat) (x14a : Option Addr) (x14n : Nat) (x14c : Nat) (x17 : Int) (x18 : Int) (m : Mem), d < n → I d x5 x6 x7a x7n x7c x8a x8n x8c x12a x12n x12c x14a x14n x14c x17 x18 m → Ok (patinalaw06_FrameMends_l6 k kx8 n x5 x6 x7a x7n x7c x8a x8n x8c x12a x12n x12c x14a x14n x14c x17 x18 m) P
  | 0, d, x5, x6, x7a, x7n, x7c, x8a, x8n, x8c, x12a, x12n, x12c, x14a, x14n, x14c, x17, x18, m, h, _ => absurd h (Nat.not_lt_zero _)
  | n + 1, d, x5, x6, x7a, x7n, x7c, x8a, x8n, x8c, x12a, x12n, x12c, x14a, x14n, x14c, x17, x18, m, h, hI => step d _ x5 x6 x7a x7n x7c x8a x8n x8c x12a x12n x12c x14a x14n x14c x17 x18 m hI fun d' x5 x6 x7a x7n x7c x8a x8n x8c x12a x12n x12c x14a x14n x14c x17 x18 m h' hI' => patinalaw06_FrameMends_l6_rule k kx8 I step n d' x5 x6 x7a x7n x7c x8a x8n x8c x12a x12n x12c x14a x14n x14c x17 x18 m (by omega) hI'

def patinalaw06_FrameMends_j2 (k : Nat) (y5 : Bool) (y8a : Option Addr) (y8n : Nat) (y8c : Nat) (r31 : Int × Mem) (r33 : Sl × Int × Value × Mem) (mj : Mem) : Option (Bool × Mem) :=
  bif decide (r31.1 ≤ 2) then (
  (patinaref01_Same k r33.1.a r33.1.len r33.1.cap y8a y8n y8c mj).bind fun r34 =>
  bif y5 then (
  (isNil r33.2.2.1).bind fun b35 =>
  bif b35 then (
  bif r34.1 then (
  some (r33.2.1 == r31.1, r34.2)) else (
  some (false, r34.2))) else (
  some (false, r34.2))) else (
  some (false, r34.2))) else (
  bif y5 then (
  bif decide (r31.1 > 4) then (
  some (true, mj)) else (
  (ifEq tt r33.2.2.1 (Value.iface ty_api_Code (Value.int .i64 5))).bind fun b36 =>
  bif b36 then (
  some (((r33.1.len : Nat) : Int) == 0, mj)) else (
  some (false, mj)))) else (
  some (false, mj)))

def patinalaw06_FrameMends (k : Nat) (p0a : Option Addr) (p0n : Nat) (p0c : Nat) (p1a : Option Addr) (p1n : Nat) (p1c : Nat) (m : Mem) : Option (Bool × Mem) :=
  (patinalaw06_shown k  m).bind fun r1 =>
  (frame_New k  r1.2).bind fun r2 =>
  bif Option.isNone r2.1 then (
  some (false, r2.2)) else (
  (patinalaw06_fill k p0a p0n p0c 174 r2.2).bind fun r3 =>
  let m4 : Mem := r3.2 ++ [.live (repl (Int.toNat 50) [.int .u8 0])]
  patinalaw06_FrameMends_l0 k (fun y1a y1n y1c y5 y6 y7a y7n y7c y8a y8n y8c m9 => 
  (frame_Frame_Lay k y6 y7a y7n y7c y8a y8n y8c m9).bind fun r10 =>
  (isNil r10.2.1).bind fun b11 =>
  bif !b11 then (
  some (false, r10.2.2)) else (
  bif ((r10.1.len : Nat) : Int) != 4 then (
  some (false, r10.2.2)) else (
  patinalaw06_FrameMends_l2 k (fun y1a y1n y1c y5 y6 y7a y7n y7c y8a y8n y8c y12a y12n y12c m16 => 
  (rdSl m16 y12a y12n 1).bind fun l17 =>
  (appM 1 1 m16 none 0 0 y12n l17).bind fun r18 =>
  bif ((r18.1.len : Nat) : Int) != 256 then (
  some (false, r18.2)) else (
  patinalaw06_FrameMends_l4 k (fun y5 y6 y7a y7n y7c y8a y8n y8c y12a y12n y12c y14a y14n y14c m28 => 
  patinalaw06_FrameMends_l6 k (fun y5 y6 y7a y7n y7c y8a y8n y8c y12a y12n y12c y14a y14n y14c y17 m30 => 
  bif sliceK.okZ y14a 1 false && inUpto 192 y14n then (
  bif sliceK.okZ y12a 1 false && inUpto 192 y12n then (
  (patinaref02_Apart k ((sliceK.clear y14a false).map fun a => plus a ((Int.toNat 192) * 1)) (y14n - (Int.toNat 192)) (y14c - (Int.toNat 192)) ((sliceK.clear y12a false).map fun a => plus a ((Int.toNat 192) * 1)) (y12n - (Int.toNat 192)) (y12c - (Int.toNat 192)) m30).bind fun r31 =>
  (frame_Frame_Data k y6 y14a y14n y14c r31.2).bind fun r32 =>
  (frame_Frame_Body k y6 y14a y14n y14c r32.2.2.2).bind fun r33 =>
  bif decide (y17 ≤ 2) then (
  (patinaref01_Same k r32.1.a r32.1.len r32.1.cap y7a y7n y7c r33.2.2.2).bind fun r37 =>
  (isNil r32.2.2.1).bind fun b38 =>
  bif !b38 then (
  some (false, r37.2)) else (
  bif !r37.1 then (
  some (false, r37.2)) else (
  bif r32.2.1 != y17 then (
  some (false, r37.2)) else (
  patinalaw06_FrameMends_j2 k y5 y8a y8n y8c r31 r33 r37.2)))) else (
  bif decide (y17 ≤ 4) then (
  (ifEq tt r32.2.2.1 (Value.iface ty_api_Code (Value.int .i64 5))).bind fun b39 =>
  bif !b39 then (
  some (false, r33.2.2.2)) else (
  bif ((r32.1.len : Nat) : Int) != 0 then (
  some (false, r33.2.2.2)) else (
  patinalaw06_FrameMends_j2 k y5 y8a y8n y8c r31 r33 r33.2.2.2))) else (
  patinalaw06_FrameMends_j2 k y5 y8a y8n y8c r31 r33 r33.2.2.2))) else none) else none) k y5 y6 y7a y7n y7c y8a y8n y8c y12a y12n y12c y14a y14n y14c 0 0 m28) k y1a y1n y1c y5 y6 y7a y7n y7c y8a y8n y8c y12a y12n y12c r18.1.a r18.1.len r18.1.cap 0 r18.2)) k y1a y1n y1c y5 y6 y7a y7n y7c y8a y8n y8c r10.1.a r10.1.len r10.1.cap none 0 0 0 r10.2.2))) k p1a p1n p1c r1.1 r2.1 r3.1.a r3.1.len r3.1.cap (some ⟨List.length r3.2, 0, Option.none⟩) (Int.toNat 50) (Int.toNat 50) 0 m4)

def patinalaw06_FrameMends_call {R : Type} (k : Nat) : Fun R := callCons 7 (patinalaw06_shown_arm k) (callCons 8 (frame_New_arm k) (callCons 10 (frame_Frame_Lay_arm k) (callCons 15 (patinaref01_Same_arm k) (callCons 18 (frame_Frame_Data_arm k) (callCons 19 (frame_Frame_Body_arm k) (callCons 24 (patinalaw06_fill_arm k) (callCons 25 (patinalaw06_pick_arm k) (callCons 26 (patinaref02_Apart_arm k) (callNil)))))))))

theorem patinalaw06_FrameMends_callOk {R : Type} (k : Nat) : CallOk Try.prog (patinalaw06_FrameMends_call (R := R) k) := callOk_cons (patinalaw06_shown_armOk k) (callOk_cons (frame_New_armOk k) (callOk_cons (frame_Frame_Lay_armOk k) (callOk_cons (patinaref01_Same_armOk k) (callOk_cons (frame_Frame_Data_armOk k) (callOk_cons (frame_Frame_Body_armOk k) (callOk_cons (patinalaw06_fill_armOk k) (callOk_cons (patinalaw06_pick_armOk k) (callOk_cons (patinaref02_Apart_armOk k) (callOk_nil)))))))))

def patinalaw06_FrameMends_l0_L (k : Nat) (K : Nat → List Value → Mem → Option (Bool × Mem)) (n : Nat) (vs : List Value) (m : Mem) : Option (Bool × Mem) := match vs with
  | [.slice x1a x1n x1c, .bool x5, .pointer x6, .slice x7a x7n x7c, .slice x8a x8n x8c, .int .i64 x9] => patinalaw06_FrameMends_l0 k (fun y1a y1n y1c y5 y6 y7a y7n y7c y8a y8n y8c m => K 2 [(Value.slice y1a y1n y1c), (Value.bool y5), (Value.pointer y6), (Value.slice y7a y7n y7c), (Value.slice y8a y8n y8c)] m) n x1a x1n x1c x5 x6 x7a x7n x7c x8a x8n x8c x9 m
  | _ => none

def patinalaw06_FrameMends_l2_L (k : Nat) (K : Nat → List Value → Mem → Option (Bool × Mem)) (n : Nat) (vs : List Value) (m : Mem) : Option (Bool × Mem) := match vs with
  | [.slice x1a x1n x1c, .bool x5, .pointer x6, .slice x7a x7n x7c, .slice x8a x8n x8c, .slice x10a x10n x10c, .slice x12a x12n x12c, .int .i64 x13] => patinalaw06_FrameMends_l2 k (fun y1a y1n y1c y5 y6 y7a y7n y7c y8a y8n y8c y12a y12n y12c m => K 4 [(Value.slice y1a y1n y1c), (Value.bool y5), (Value.pointer y6), (Value.slice y7a y7n y7c), (Value.slice y8a y8n y8c), (Value.slice y12a y12n y12c)] m) n x1a x1n x1c x5 x6 x7a x7n x7c x8a x8n x8c x10a x10n x10c x12a x12n x12c x13 m
  | _ => none

def patinalaw06_FrameMends_l4_L (k : Nat) (K : Nat → List Value → Mem → Option (Bool × Mem)) (n : Nat) (vs : List Value) (m : Mem) : Option (Bool × Mem) := match vs with
  | [.slice x1a x1n x1c, .bool x5, .pointer x6, .slice x7a x7n x7c, .slice x8a x8n x8c, .slice x12a x12n x12c, .slice x14a x14n x14c, .int .i64 x15] => patinalaw06_FrameMends_l4 k (fun y5 y6 y7a y7n y7c y8a y8n y8c y12a y12n y12c y14a y14n y14c m => K 6 [(Value.bool y5), (Value.pointer y6), (Value.slice y7a y7n y7c), (Value.slice y8a y8n y8c), (Value.slice y12a y12n y12c), (Value.slice y14a y14n y14c)] m) n x1a x1n x1c x5 x6 x7a x7n x7c x8a x8n x8c x12a x12n x12c x14a x14n x14c x15 m
  | _ => none

def patinalaw06_FrameMends_l6_L (k : Nat) (K : Nat → List Value → Mem → Option (Bool × Mem)) (n : Nat) (vs : List Value) (m : Mem) : Option (Bool × Mem) := match vs with
  | [.bool x5, .pointer x6, .slice x7a x7n x7c, .slice x8a x8n x8c, .slice x12a x12n x12c, .slice x14a x14n x14c, .int .i64 x17, .int .i64 x18] => patinalaw06_FrameMends_l6 k (fun y5 y6 y7a y7n y7c y8a y8n y8c y12a y12n y12c y14a y14n y14c y17 m => K 8 [(Value.bool y5), (Value.pointer y6), (Value.slice y7a y7n y7c), (Value.slice y8a y8n y8c), (Value.slice y12a y12n y12c), (Value.slice y14a y14n y14c), (Value.int .i64 y17)] m) n x5 x6 x7a x7n x7c x8a x8n x8c x12a x12n x12c x14a x14n x14c x17 x18 m
  | _ => none

def patinalaw06_FrameMends_loop (k : Nat) : Nat → List Value → Mem → (Nat → List Value → Mem → Option (Bool × Mem)) → Option (Bool × Mem) := fun cur vs m K => match cur with
  | 0 => patinalaw06_FrameMends_l0_L k K k vs m
  | 2 => patinalaw06_FrameMends_l2_L k K k vs m
  | 4 => patinalaw06_FrameMends_l4_L k K k vs m
  | 6 => patinalaw06_FrameMends_l6_L k K k vs m
  | _ => none

def patinalaw06_FrameMends_C (k : Nat) : Ctx (Bool × Mem) := ⟨tt, patinalaw06_FrameMends_call k, patinalaw06_FrameMends_loop k, [(0, [1, 5, 6, 7, 8, 9]), (2, [1, 5, 6, 7, 8, 10, 12, 13]), (4, [1, 5, 6, 7, 8, 12, 14, 15]), (6, [5, 6, 7, 8, 12, 14, 17, 18])], [(2, [1, 5, 6, 7, 8]), (4, [1, 5, 6, 7, 8, 12]), (6, [5, 6, 7, 8, 12, 14]), (8, [5, 6, 7, 8, 12, 14, 17])]⟩

noncomputable def patinalaw06_FrameMends_l0_c : Code := ((loopsOf 0 (body Try.f5)).map (·.2)).getD 0 .skip

noncomputable def patinalaw06_FrameMends_l2_c : Code := ((loopsOf 0 (body Try.f5)).map (·.2)).getD 1 .skip

noncomputable def patinalaw06_FrameMends_l4_c : Code := ((loopsOf 0 (body Try.f5)).map (·.2)).getD 2 .skip

noncomputable def patinalaw06_FrameMends_l6_c : Code := ((loopsOf 0 (body Try.f5)).map (·.2)).getD 3 .skip

theorem patinalaw06_FrameMends_loops : loopsOf 0 (body Try.f5) = [(0, patinalaw06_FrameMends_l0_c), (2, patinalaw06_FrameMends_l2_c), (4, patinalaw06_FrameMends_l4_c), (6, patinalaw06_FrameMends_l6_c)] := by kernel_rfl

theorem patinalaw06_FrameMends_l0_ok (k : Nat) : LoopOk (patinalaw06_FrameMends_C k) 0 patinalaw06_FrameMends_l0_c := by
  refine ⟨[1, 5, 6, 7, 8, 9], by kernel_rfl, fun K r => ⟨patinalaw06_FrameMends_l0_L k K, fun vs m h => ⟨k, h⟩, ?_⟩⟩
  intro n vs m h
  unfold patinalaw06_FrameMends_l0_L at h
  split at h
  · cases n with
    | zero => cases h
    | succ n => exact ⟨n, rfl, Eq.trans (by kernel_rfl) h⟩
  · cases h

theorem patinalaw06_FrameMends_l2_ok (k : Nat) : LoopOk (patinalaw06_FrameMends_C k) 2 patinalaw06_FrameMends_l2_c := by
  refine ⟨[1, 5, 6, 7, 8, 10, 12, 13], by kernel_rfl, fun K r => ⟨patinalaw06_FrameMends_l2_L k K, fun vs m h => ⟨k, h⟩, ?_⟩⟩
  intro n vs m h
  unfold patinalaw06_FrameMends_l2_L at h
  split at h
  · cases n with
    | zero => cases h
    | succ n => exact ⟨n, rfl, Eq.trans (by kernel_rfl) h⟩
  · cases h

theorem patinalaw06_FrameMends_l4_ok (k : Nat) : LoopOk (patinalaw06_FrameMends_C k) 4 patinalaw06_FrameMends_l4_c := by
  refine ⟨[1, 5, 6, 7, 8, 12, 14, 15], by kernel_rfl, fun K r => ⟨patinalaw06_FrameMends_l4_L k K, fun vs m h => ⟨k, h⟩, ?_⟩⟩
  intro n vs m h
  unfold patinalaw06_FrameMends_l4_L at h
  split at h
  · cases n with
    | zero => cases h
    | succ n => exact ⟨n, rfl, Eq.trans (by kernel_rfl) h⟩
  · cases h

theorem patinalaw06_FrameMends_l6_ok (k : Nat) : LoopOk (patinalaw06_FrameMends_C k) 6 patinalaw06_FrameMends_l6_c := by
  refine ⟨[5, 6, 7, 8, 12, 14, 17, 18], by kernel_rfl, fun K r => ⟨patinalaw06_FrameMends_l6_L k K, fun vs m h => ⟨k, h⟩, ?_⟩⟩
  intro n vs m h
  unfold patinalaw06_FrameMends_l6_L at h
  split at h
  · cases n with
    | zero => cases h
    | succ n => exact ⟨n, rfl, Eq.trans (by kernel_rfl) h⟩
  · cases h

def patinalaw06_FrameMends_dec : Value → Mem → Option (Bool × Mem) := fun v m => match v with
  | .bool q0 => some (q0, m)
  | _ => none

theorem patinalaw06_FrameMends_eq (k : Nat) (p0a : Option Addr) (p0n : Nat) (p0c : Nat) (p1a : Option Addr) (p1n : Nat) (p1c : Nat) (m : Mem) : fnX (patinalaw06_FrameMends_C k) Try.f5 [(Value.slice p0a p0n p0c), (Value.slice p1a p1n p1c)] m patinalaw06_FrameMends_dec = patinalaw06_FrameMends k p0a p0n p0c p1a p1n p1c m := by kernel_rfl

theorem patinalaw06_FrameMends_ok {k : Nat} {p0a : Option Addr} {p0n : Nat} {p0c : Nat} {p1a : Option Addr} {p1n : Nat} {p1c : Nat} {m : Mem} {r : (Bool × Mem)} (h : patinalaw06_FrameMends k p0a p0n p0c p1a p1n p1c m = some r) : CallP Try.prog 5 [(Value.slice p0a p0n p0c), (Value.slice p1a p1n p1c)] m fun v m' => v = (Value.bool r.1) ∧ m' = r.2 := by
  refine (fn_sound (C := patinalaw06_FrameMends_C k) (c := body Try.f5) tOk mixed (patinalaw06_FrameMends_callOk k) Try.func5 (by kernel_rfl) (by kernel_rfl) (by kernel_rfl) (by kernel_rfl) ?_ ?_ (Eq.trans (patinalaw06_FrameMends_eq k p0a p0n p0c p1a p1n p1c m) h)).mono ?_
  · intro p hp
    rw [patinalaw06_FrameMends_loops] at hp
    simp only [List.mem_cons, List.not_mem_nil, or_false] at hp
    rcases hp with rfl | rfl | rfl | rfl
    · exact patinalaw06_FrameMends_l0_ok k
    · exact patinalaw06_FrameMends_l2_ok k
    · exact patinalaw06_FrameMends_l4_ok k
    · exact patinalaw06_FrameMends_l6_ok k
  · intro p hp; rw [show rangesOf 0 (body Try.f5) = [] by kernel_rfl] at hp; cases hp
  · intro v m' hp
    unfold patinalaw06_FrameMends_dec at hp
    split at hp
    · simp only [Option.some.injEq] at hp; subst hp; exact ⟨rfl, rfl⟩
    · cases hp

def patinalaw06_FrameMends_arm {R : Type} (k : Nat) : Arm R := fun vs m K => match vs with
  | [.slice p0a p0n p0c, .slice p1a p1n p1c] => (patinalaw06_FrameMends k p0a p0n p0c p1a p1n p1c m).bind fun r => K (Value.bool r.1) r.2
  | _ => none

theorem patinalaw06_FrameMends_armOk {R : Type} (k : Nat) : ArmOk Try.prog 5 (patinalaw06_FrameMends_arm (R := R) k) := by
  intro vs m K r h
  unfold patinalaw06_FrameMends_arm at h
  split at h
  · obtain ⟨r, h1, h2⟩ := Option.bind_eq_some_iff.1 h; exact ⟨_, _, h2, fun K' => by simp only [patinalaw06_FrameMends_arm, h1, Option.bind_some], patinalaw06_FrameMends_ok h1⟩
  · cases h

end Go.Proofs.Ytmfmoanjecjeeaa
