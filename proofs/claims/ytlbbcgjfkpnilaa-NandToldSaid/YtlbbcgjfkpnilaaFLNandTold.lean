/- The program's functions as plain Lean functions over a clean memory, each held against the program by the kernel. Written by mx.py. -/
import Derived.Test.YtlbbcgjfkpnilaaF0
import Derived.Test.YtlbbcgjfkpnilaaFnand
import Derived.Test.YtlbbcgjfkpnilaaFpatinalaw05
import Derived.Test.YtlbbcgjfkpnilaaFpatinaref01
import Derived.Test.YtlbbcgjfkpnilaaFpatinaref05
set_option linter.unusedVariables false
set_option maxRecDepth 100000
namespace Go.Proofs.Ytlbbcgjfkpnilaa
open Go.Mx

/-! ### patinalaw05_NandTold -/
def patinalaw05_NandTold_l0_b (k : Nat) (nx : Option Addr → Nat → Nat → Int → Int → Bool → Addr → Int → Mem → Option (Bool × Mem)) (kx2 : Int → Int → Bool → Addr → Mem → Option (Bool × Mem)) (x0a : Option Addr) (x0n : Nat) (x0c : Nat) (x1 : Int) (x2 : Int) (x7 : Bool) (x8 : Addr) (x9 : Int) (m : Mem) : Option (Bool × Mem) :=
  bif decide (x9 < ((x0n : Nat) : Int)) then (
  bif inRange x9 x0n then (
  (x0a).bind fun a8 =>
  (ldInt .i64 m (plus (plus a8 (Int.toNat x9 * 4)) 0)).bind fun t9 =>
  (patinalaw05_pick k t9 8 m).bind fun r10 =>
  bif inRange x9 x0n then (
  (x0a).bind fun a11 =>
  (ldInt .i64 r10.2 (plus (plus a11 (Int.toNat x9 * 4)) 1)).bind fun t12 =>
  bif inRange x9 x0n then (
  (x0a).bind fun a13 =>
  (ldInt .i64 r10.2 (plus (plus a13 (Int.toNat x9 * 4)) 2)).bind fun t14 =>
  bif inRange x9 x0n then (
  (x0a).bind fun a15 =>
  (ldSl r10.2 (plus (plus a15 (Int.toNat x9 * 4)) 3)).bind fun t16 =>
  (patinalaw05_Two_step k (some x8) [(Value.int .i64 r10.1), (Value.int .i64 t12), (Value.int .i64 t14), (Value.slice t16.a t16.len t16.cap)] r10.2).bind fun r17 =>
  nx x0a x0n x0c x1 x2 x7 x8 (IntKind.wrap .i64 (x9 + 1)) r17.2) else none) else none) else none) else none) else (
  kx2 x1 x2 x7 x8 m)

def patinalaw05_NandTold_l0 (k : Nat) (kx2 : Int → Int → Bool → Addr → Mem → Option (Bool × Mem)) : Nat → Option Addr → Nat → Nat → Int → Int → Bool → Addr → Int → Mem → Option (Bool × Mem)
  | 0, _, _, _, _, _, _, _, _, _ => none
  | n + 1, x0a, x0n, x0c, x1, x2, x7, x8, x9, m => patinalaw05_NandTold_l0_b k (fun x0a x0n x0c x1 x2 x7 x8 x9 m => patinalaw05_NandTold_l0 k kx2 n x0a x0n x0c x1 x2 x7 x8 x9 m) kx2 x0a x0n x0c x1 x2 x7 x8 x9 m
termination_by structural x => x

theorem patinalaw05_NandTold_l0_rule (k : Nat) (kx2 : Int → Int → Bool → Addr → Mem → Option (Bool × Mem)) {P : (Bool × Mem) → Prop} (I : Nat → Option Addr → Nat → Nat → Int → Int → Bool → Addr → Int → Mem → Prop)
    (step : ∀ d (nx : Option Addr → Nat → Nat → Int → Int → Bool → Addr → Int → Mem → Option (Bool × Mem)) (x0a : Option Addr) (x0n : Nat) (x0c : Nat) (x1 : Int) (x2 : Int) (x7 : Bool) (x8 : Addr) (x9 : Int) (m : Mem), I d x0a x0n x0c x1 x2 x7 x8 x9 m → (∀ d' (x0a : Option Addr) (x0n : Nat) (x0c : Nat) (x1 : Int) (x2 : Int) (x7 : Bool) (x8 : Addr) (x9 : Int) (m : Mem), d' < d → I d' x0a x0n x0c x1 x2 x7 x8 x9 m → Ok (nx x0a x0n x0c x1 x2 x7 x8 x9 m) P) → Ok (patinalaw05_NandTold_l0_b k nx kx2 x0a x0n x0c x1 x2 x7 x8 x9 m) P) :
    ∀ n d (x0a : Option Addr) (x0n : Nat) (x0c : Nat) (x1 : Int) (x2 : Int) (x7 : Bool) (x8 : Addr) (x9 : Int) (m : Mem), d < n → I d x0a x0n x0c x1 x2 x7 x8 x9 m → Ok (patinalaw05_NandTold_l0 k kx2 n x0a x0n x0c x1 x2 x7 x8 x9 m) P
  | 0, d, x0a, x0n, x0c, x1, x2, x7, x8, x9, m, h, _ => absurd h (Nat.not_lt_zero _)
  | n + 1, d, x0a, x0n, x0c, x1, x2, x7, x8, x9, m, h, hI => step d _ x0a x0n x0c x1 x2 x7 x8 x9 m hI fun d' x0a x0n x0c x1 x2 x7 x8 x9 m h' hI' => patinalaw05_NandTold_l0_rule k kx2 I step n d' x0a x0n x0c x1 x2 x7 x8 x9 m (by omega) hI'

def patinalaw05_NandTold_j1 (k : Nat) (x1 : Int) (x2 : Int) (x7 : Bool) (x8 : Addr) (x11a : Option Addr) (x11n : Nat) (x11c : Nat) (x13 : Int) (x14 : Int) (x15 : Int) (x17a : Option Addr) (x17n : Nat) (x17c : Nat) (x21 : Int) (nx : Int → Int → Bool → Addr → Option Addr → Nat → Nat → Int → Int → Int → Option Addr → Nat → Nat → Int → Int → Mem → Option (Bool × Mem)) (x20_ : Int) (mj : Mem) : Option (Bool × Mem) :=
  nx x1 x2 x7 x8 x11a x11n x11c x13 x14 x15 x17a x17n x17c x20_ (IntKind.wrap .i64 (x21 + 1)) mj

def patinalaw05_NandTold_l4_b (k : Nat) (nx : Int → Int → Bool → Addr → Option Addr → Nat → Nat → Int → Int → Int → Option Addr → Nat → Nat → Int → Int → Mem → Option (Bool × Mem)) (kx6 : Int → Int → Bool → Addr → Option Addr → Nat → Nat → Int → Int → Int → Int → Mem → Option (Bool × Mem)) (x1 : Int) (x2 : Int) (x7 : Bool) (x8 : Addr) (x11a : Option Addr) (x11n : Nat) (x11c : Nat) (x13 : Int) (x14 : Int) (x15 : Int) (x17a : Option Addr) (x17n : Nat) (x17c : Nat) (x20 : Int) (x21 : Int) (m : Mem) : Option (Bool × Mem) :=
  bif decide (x21 < 64) then (
  bif inRange (IntKind.wrap .i64 ((IntKind.wrap .i64 (64 * x13)) + x21)) x11n then (
  (x11a).bind fun a31 =>
  (ldInt .u8 m (plus a31 (Int.toNat (IntKind.wrap .i64 ((IntKind.wrap .i64 (64 * x13)) + x21)) * 1))).bind fun t32 =>
  bif inRange x21 x17n then (
  (x17a).bind fun a33 =>
  (ldInt .u8 m (plus a33 (Int.toNat x21 * 1))).bind fun t34 =>
  bif t32 != t34 then (
  patinalaw05_NandTold_j1 k x1 x2 x7 x8 x11a x11n x11c x13 x14 x15 x17a x17n x17c x21 nx (IntKind.wrap .i64 (x20 + 1)) m) else (
  patinalaw05_NandTold_j1 k x1 x2 x7 x8 x11a x11n x11c x13 x14 x15 x17a x17n x17c x21 nx x20 m)) else none) else none) else (
  kx6 x1 x2 x7 x8 x11a x11n x11c x13 x14 x15 x20 m)

def patinalaw05_NandTold_l4 (k : Nat) (kx6 : Int → Int → Bool → Addr → Option Addr → Nat → Nat → Int → Int → Int → Int → Mem → Option (Bool × Mem)) : Nat → Int → Int → Bool → Addr → Option Addr → Nat → Nat → Int → Int → Int → Option Addr → Nat → Nat → Int → Int → Mem → Option (Bool × Mem)
  | 0, _, _, _, _, _, _, _, _, _, _, _, _, _, _, _, _ => none
  | n + 1, x1, x2, x7, x8, x11a, x11n, x11c, x13, x14, x15, x17a, x17n, x17c, x20, x21, m => patinalaw05_NandTold_l4_b k (fun x1 x2 x7 x8 x11a x11n x11c x13 x14 x15 x17a x17n x17c x20 x21 m => patinalaw05_NandTold_l4 k kx6 n x1 x2 x7 x8 x11a x11n x11c x13 x14 x15 x17a x17n x17c x20 x21 m) kx6 x1 x2 x7 x8 x11a x11n x11c x13 x14 x15 x17a x17n x17c x20 x21 m
termination_by structural x => x

theorem patinalaw05_NandTold_l4_rule (k : Nat) (kx6 : Int → Int → Bool → Addr → Option Addr → Nat → Nat → Int → Int → Int → Int → Mem → Option (Bool × Mem)) {P : (Bool × Mem) → Prop} (I : Nat → Int → Int → Bool → Addr → Option Addr → Nat → Nat → Int → Int → Int → Option Addr → Nat → Nat → Int → Int → Mem → Prop)
    (step : ∀ d (nx : Int → Int → Bool → Addr → Option Addr → Nat → Nat → Int → Int → Int → Option Addr → Nat → Nat → Int → Int → Mem → Option (Bool × Mem)) (x1 : Int) (x2 : Int) (x7 : Bool) (x8 : Addr) (x11a : Option Addr) (x11n : Nat) (x11c : Nat) (x13 : Int) (x14 : Int) (x15 : Int) (x17a : Option Addr) (x17n : Nat) (x17c : Nat) (x20 : Int) (x21 : Int) (m : Mem), I d x1 x2 x7 x8 x11a x11n x11c x13 x14 x15 x17a x17n x17c x20 x21 m → (∀ d' (x1 : Int) (x2 : Int) (x7 : Bool) (x8 : Addr) (x11a : Option Addr) (x11n : Nat) (x11c : Nat) (x13 : Int) (x14 : Int) (x15 : Int) (x17a : Option Addr) (x17n : Nat) (x17c : Nat) (x20 : Int) (x21 : Int) (m : Mem), d' < d → I d' x1 x2 x7 x8 x11a x11n x11c x13 x14 x15 x17a x17n x17c x20 x21 m → Ok (nx x1 x2 x7 x8 x11a x11n x11c x13 x14 x15 x17a x17n x17c x20 x21 m) P) → Ok (patinalaw05_NandTold_l4_b k nx kx6 x1 x2 x7 x8 x11a x11n x11c x13 x14 x15 x17a x17n x17c x20 x21 m) P) :
    ∀ n d (x1 : Int) (x2 : Int) (x7 : Bool) (x8 : Addr) (x11a : Option Addr) (x11n : Nat) (x11c : Nat) (x13 : Int) (x14 : Int) (x15 : Int) (x17a : Option Addr) (x17n : Nat) (x17c : Nat) (x20 : Int) (x21 : Int) (m : Mem), d < n → I d x1 x2 x7 x8 x11a x11n x11c x13 x14 x15 x17a x17n x17c x20 x21 m → Ok (patinalaw05_NandTold_l4 k kx6 n x1 x2 x7 x8 x11a x11n x11c x13 x14 x15 x17a x17n x17c x20 x21 m) P
  | 0, d, x1, x2, x7, x8, x11a, x11n, x11c, x13, x14, x15, x17a, x17n, x17c, x20, x21, m, h, _ => absurd h (Nat.not_lt_zero _)
  | n + 1, d, x1, x2, x7, x8, x11a, x11n, x11c, x13, x14, x15, x17a, x17n, x17c, x20, x21, m, h, hI => step d _ x1 x2 x7 x8 x11a x11n x11c x13 x14 x15 x17a x17n x17c x20 x21 m hI fun d' x1 x2 x7 x8 x11a x11n x11c x13 x14 x15 x17a x17n x17c x20 x21 m h' hI' => patinalaw05_NandTold_l4_rule k kx6 I step n d' x1 x2 x7 x8 x11a x11n x11c x13 x14 x15 x17a x17n x17c x20 x21 m (by omega) hI'

def patinalaw05_NandTold_l2_b (k : Nat) (nx : Int → Int → Bool → Addr → Option Addr → Nat → Nat → Int → Mem → Option (Bool × Mem)) (kx0 : Bool → Mem → Option (Bool × Mem)) (kx4 : Int → Int → Bool → Addr → Option Addr → Nat → Nat → Mem → Option (Bool × Mem)) (x1 : Int) (x2 : Int) (x7 : Bool) (x8 : Addr) (x11a : Option Addr) (x11n : Nat) (x11c : Nat) (x13 : Int) (m : Mem) : Option (Bool × Mem) :=
  bif decide (x13 < 4) then (
  (ldPtr m (plus x8 0)).bind fun t25 =>
  (nand_Chip_Damage k t25 x1 x13 m).bind fun r26 =>
  (ldPtr r26.2.2.2 (plus x8 0)).bind fun t27 =>
  (nand_Chip_Truth k t27 x1 x13 r26.2.2.2).bind fun r28 =>
  (isNil r26.2.2.1).bind fun b29 =>
  bif !b29 then (
  kx0 false r28.2.2.2) else (
  (isNil r28.2.2.1).bind fun b30 =>
  bif !b30 then (
  kx0 false r28.2.2.2) else (
  bif ((r28.1.len : Nat) : Int) != 64 then (
  kx0 false r28.2.2.2) else (
  bif ((x11n : Nat) : Int) != 256 then (
  kx0 false r28.2.2.2) else (
  patinalaw05_NandTold_l4 k (fun y1 y2 y7 y8 y11a y11n y11c y13 y14 y15 y20 m35 => 
  bif y20 != y14 then (
  kx0 false m35) else (
  bif decide (y15 < y14) then (
  kx0 false m35) else (
  nx y1 y2 y7 y8 y11a y11n y11c (IntKind.wrap .i64 (y13 + 1)) m35))) k x1 x2 x7 x8 x11a x11n x11c x13 r26.1 r26.2.1 r28.1.a r28.1.len r28.1.cap 0 0 r28.2.2.2))))) else (
  kx4 x1 x2 x7 x8 x11a x11n x11c m)

def patinalaw05_NandTold_l2 (k : Nat) (kx0 : Bool → Mem → Option (Bool × Mem)) (kx4 : Int → Int → Bool → Addr → Option Addr → Nat → Nat → Mem → Option (Bool × Mem)) : Nat → Int → Int → Bool → Addr → Option Addr → Nat → Nat → Int → Mem → Option (Bool × Mem)
  | 0, _, _, _, _, _, _, _, _, _ => none
  | n + 1, x1, x2, x7, x8, x11a, x11n, x11c, x13, m => patinalaw05_NandTold_l2_b k (fun x1 x2 x7 x8 x11a x11n x11c x13 m => patinalaw05_NandTold_l2 k kx0 kx4 n x1 x2 x7 x8 x11a x11n x11c x13 m) kx0 kx4 x1 x2 x7 x8 x11a x11n x11c x13 m
termination_by structural x => x

theorem patinalaw05_NandTold_l2_rule (k : Nat) (kx0 : Bool → Mem → Option (Bool × Mem)) (kx4 : Int → Int → Bool → Addr → Option Addr → Nat → Nat → Mem → Option (Bool × Mem)) {P : (Bool × Mem) → Prop} (I : Nat → Int → Int → Bool → Addr → Option Addr → Nat → Nat → Int → Mem → Prop)
    (step : ∀ d (nx : Int → Int → Bool → Addr → Option Addr → Nat → Nat → Int → Mem → Option (Bool × Mem)) (x1 : Int) (x2 : Int) (x7 : Bool) (x8 : Addr) (x11a : Option Addr) (x11n : Nat) (x11c : Nat) (x13 : Int) (m : Mem), I d x1 x2 x7 x8 x11a x11n x11c x13 m → (∀ d' (x1 : Int) (x2 : Int) (x7 : Bool) (x8 : Addr) (x11a : Option Addr) (x11n : Nat) (x11c : Nat) (x13 : Int) (m : Mem), d' < d → I d' x1 x2 x7 x8 x11a x11n x11c x13 m → Ok (nx x1 x2 x7 x8 x11a x11n x11c x13 m) P) → Ok (patinalaw05_NandTold_l2_b k nx kx0 kx4 x1 x2 x7 x8 x11a x11n x11c x13 m) P) :
    ∀ n d (x1 : Int) (x2 : Int) (x7 : Bool) (x8 : Addr) (x11a : Option Addr) (x11n : Nat) (x11c : Nat) (x13 : Int) (m : Mem), d < n → I d x1 x2 x7 x8 x11a x11n x11c x13 m → Ok (patinalaw05_NandTold_l2 k kx0 kx4 n x1 x2 x7 x8 x11a x11n x11c x13 m) P
  | 0, d, x1, x2, x7, x8, x11a, x11n, x11c, x13, m, h, _ => absurd h (Nat.not_lt_zero _)
  | n + 1, d, x1, x2, x7, x8, x11a, x11n, x11c, x13, m, h, hI => step d _ x1 x2 x7 x8 x11a x11n x11c x13 m hI fun d' x1 x2 x7 x8 x11a x11n x11c x13 m h' hI' => patinalaw05_NandTold_l2_rule k kx0 kx4 I step n d' x1 x2 x7 x8 x11a x11n x11c x13 m (by omega) hI'

def patinalaw05_NandTold (k : Nat) (p0a : Option Addr) (p0n : Nat) (p0c : Nat) (p1 : Int) (p2 : Int) (m : Mem) : Option (Bool × Mem) :=
  (patinalaw05_shown k  m).bind fun r1 =>
  (nand_New k  r1.2).bind fun r2 =>
  (nand_New k  r2.2).bind fun r3 =>
  (patinaref05_New k  r3.2).bind fun r4 =>
  (patinaref05_New k  r4.2).bind fun r5 =>
  let m6 : Mem := r5.2 ++ [.live [(Value.pointer r2.1), (Value.pointer r3.1), (Value.pointer r4.1), (Value.pointer r5.1), .slice none 0 0, .slice none 0 0]]
  (ldPtr m6 (plus ⟨List.length r5.2, 0, Option.none⟩ 0)).bind fun t7 =>
  bif Option.isNone t7 then (
  some (false, m6)) else (
  patinalaw05_NandTold_l0 k (fun y1 y2 y7 y8 m18 => 
  (ldPtr m18 (plus y8 0)).bind fun t19 =>
  (nand_Chip_Power k t19 m18).bind fun r20 =>
  (ldPtr r20 (plus y8 0)).bind fun t21 =>
  (nand_Chip_Read k t21 y1 r20).bind fun r22 =>
  (isNil r22.2.1).bind fun b23 =>
  bif !b23 then (
  bif y7 then (
  (ifEq tt r22.2.1 (Value.iface ty_api_Code (Value.int .i64 1))).bind fun b24 =>
  bif b24 then (
  bif decide (y1 < 0) then (
  some (true, r22.2.2)) else (
  some (decide (y1 ≥ 96), r22.2.2))) else (
  some (false, r22.2.2))) else (
  some (false, r22.2.2))) else (
  patinalaw05_NandTold_l2 k (fun y6 m36 => 
  some (y6, m36)) (fun y1 y2 y7 y8 y11a y11n y11c m37 => 
  (ldPtr m37 (plus y8 0)).bind fun t38 =>
  (nand_Chip_Flip k t38 y1 y2 m37).bind fun r39 =>
  (ldPtr r39.2 (plus y8 0)).bind fun t40 =>
  (nand_Chip_Flip k t40 y1 y2 r39.2).bind fun r41 =>
  (ldPtr r41.2 (plus y8 0)).bind fun t42 =>
  (nand_Chip_Read k t42 y1 r41.2).bind fun r43 =>
  (patinaref01_Same k y11a y11n y11c r43.1.a r43.1.len r43.1.cap r43.2.2).bind fun r44 =>
  bif y7 then (
  (isNil r43.2.1).bind fun b45 =>
  bif b45 then (
  bif r44.1 then (
  (patinalaw05_sameError k r39.1 r41.1 r44.2).bind fun r46 =>
  bif r46.1 then (
  (isNil r39.1).bind fun b47 =>
  bif decide (y2 ≥ 0) then (
  some (b47 == (decide (y2 < 2048)), r46.2)) else (
  some (b47 == false, r46.2))) else (
  some (false, r46.2))) else (
  some (false, r44.2))) else (
  some (false, r44.2))) else (
  some (false, r44.2))) k y1 y2 y7 y8 r22.1.a r22.1.len r22.1.cap 0 r22.2.2)) k p0a p0n p0c p1 p2 r1.1 ⟨List.length r5.2, 0, Option.none⟩ 0 m6)

def patinalaw05_NandTold_call {R : Type} (k : Nat) : Fun R := callCons 5 (patinalaw05_shown_arm k) (callCons 6 (nand_New_arm k) (callCons 7 (patinaref05_New_arm k) (callCons 8 (patinalaw05_Two_step_arm k) (callCons 9 (patinaref01_Same_arm k) (callCons 12 (patinalaw05_pick_arm k) (callCons 13 (nand_Chip_Power_arm k) (callCons 14 (nand_Chip_Read_arm k) (callCons 15 (nand_Chip_Damage_arm k) (callCons 16 (nand_Chip_Truth_arm k) (callCons 17 (nand_Chip_Flip_arm k) (callCons 18 (patinalaw05_sameError_arm k) (callNil))))))))))))

theorem patinalaw05_NandTold_callOk {R : Type} (k : Nat) : CallOk Try.prog (patinalaw05_NandTold_call (R := R) k) := callOk_cons (patinalaw05_shown_armOk k) (callOk_cons (nand_New_armOk k) (callOk_cons (patinaref05_New_armOk k) (callOk_cons (patinalaw05_Two_step_armOk k) (callOk_cons (patinaref01_Same_armOk k) (callOk_cons (patinalaw05_pick_armOk k) (callOk_cons (nand_Chip_Power_armOk k) (callOk_cons (nand_Chip_Read_armOk k) (callOk_cons (nand_Chip_Damage_armOk k) (callOk_cons (nand_Chip_Truth_armOk k) (callOk_cons (nand_Chip_Flip_armOk k) (callOk_cons (patinalaw05_sameError_armOk k) (callOk_nil))))))))))))

def patinalaw05_NandTold_l0_L (k : Nat) (K : Nat → List Value → Mem → Option (Bool × Mem)) (n : Nat) (vs : List Value) (m : Mem) : Option (Bool × Mem) := match vs with
  | [.slice x0a x0n x0c, .int .i64 x1, .int .i64 x2, .bool x7, .pointer (some x8), .int .i64 x9] => patinalaw05_NandTold_l0 k (fun y1 y2 y7 y8 m => K 2 [(Value.int .i64 y1), (Value.int .i64 y2), (Value.bool y7), (Value.pointer (some y8))] m) n x0a x0n x0c x1 x2 x7 x8 x9 m
  | _ => none

def patinalaw05_NandTold_l2_L (k : Nat) (K : Nat → List Value → Mem → Option (Bool × Mem)) (n : Nat) (vs : List Value) (m : Mem) : Option (Bool × Mem) := match vs with
  | [.int .i64 x1, .int .i64 x2, .bool x7, .pointer (some x8), .slice x11a x11n x11c, .int .i64 x13] => patinalaw05_NandTold_l2 k (fun y6 m => K 0 [(Value.bool y6)] m) (fun y1 y2 y7 y8 y11a y11n y11c m => K 4 [(Value.int .i64 y1), (Value.int .i64 y2), (Value.bool y7), (Value.pointer (some y8)), (Value.slice y11a y11n y11c)] m) n x1 x2 x7 x8 x11a x11n x11c x13 m
  | _ => none

def patinalaw05_NandTold_l4_L (k : Nat) (K : Nat → List Value → Mem → Option (Bool × Mem)) (n : Nat) (vs : List Value) (m : Mem) : Option (Bool × Mem) := match vs with
  | [.int .i64 x1, .int .i64 x2, .bool x7, .pointer (some x8), .slice x11a x11n x11c, .int .i64 x13, .int .i64 x14, .int .i64 x15, .slice x17a x17n x17c, .int .i64 x20, .int .i64 x21] => patinalaw05_NandTold_l4 k (fun y1 y2 y7 y8 y11a y11n y11c y13 y14 y15 y20 m => K 6 [(Value.int .i64 y1), (Value.int .i64 y2), (Value.bool y7), (Value.pointer (some y8)), (Value.slice y11a y11n y11c), (Value.int .i64 y13), (Value.int .i64 y14), (Value.int .i64 y15), (Value.int .i64 y20)] m) n x1 x2 x7 x8 x11a x11n x11c x13 x14 x15 x17a x17n x17c x20 x21 m
  | _ => none

def patinalaw05_NandTold_loop (k : Nat) : Nat → List Value → Mem → (Nat → List Value → Mem → Option (Bool × Mem)) → Option (Bool × Mem) := fun cur vs m K => match cur with
  | 0 => patinalaw05_NandTold_l0_L k K k vs m
  | 2 => patinalaw05_NandTold_l2_L k K k vs m
  | 4 => patinalaw05_NandTold_l4_L k K k vs m
  | _ => none

def patinalaw05_NandTold_C (k : Nat) : Ctx (Bool × Mem) := ⟨tt, patinalaw05_NandTold_call k, patinalaw05_NandTold_loop k, [(0, [0, 1, 2, 7, 8, 9]), (2, [1, 2, 7, 8, 11, 13]), (4, [1, 2, 7, 8, 11, 13, 14, 15, 17, 20, 21])], [(0, [6]), (2, [1, 2, 7, 8]), (4, [1, 2, 7, 8, 11]), (6, [1, 2, 7, 8, 11, 13, 14, 15, 20])]⟩

noncomputable def patinalaw05_NandTold_l0_c : Code := ((loopsOf 0 (body Try.f4)).map (·.2)).getD 0 .skip

noncomputable def patinalaw05_NandTold_l2_c : Code := ((loopsOf 0 (body Try.f4)).map (·.2)).getD 1 .skip

noncomputable def patinalaw05_NandTold_l4_c : Code := ((loopsOf 0 (body Try.f4)).map (·.2)).getD 2 .skip

theorem patinalaw05_NandTold_loops : loopsOf 0 (body Try.f4) = [(0, patinalaw05_NandTold_l0_c), (2, patinalaw05_NandTold_l2_c), (4, patinalaw05_NandTold_l4_c)] := by kernel_rfl

theorem patinalaw05_NandTold_l0_ok (k : Nat) : LoopOk (patinalaw05_NandTold_C k) 0 patinalaw05_NandTold_l0_c := by
  refine ⟨[0, 1, 2, 7, 8, 9], by kernel_rfl, fun K r => ⟨patinalaw05_NandTold_l0_L k K, fun vs m h => ⟨k, h⟩, ?_⟩⟩
  intro n vs m h
  unfold patinalaw05_NandTold_l0_L at h
  split at h
  · cases n with
    | zero => cases h
    | succ n => exact ⟨n, rfl, Eq.trans (by kernel_rfl) h⟩
  · cases h

theorem patinalaw05_NandTold_l2_ok (k : Nat) : LoopOk (patinalaw05_NandTold_C k) 2 patinalaw05_NandTold_l2_c := by
  refine ⟨[1, 2, 7, 8, 11, 13], by kernel_rfl, fun K r => ⟨patinalaw05_NandTold_l2_L k K, fun vs m h => ⟨k, h⟩, ?_⟩⟩
  intro n vs m h
  unfold patinalaw05_NandTold_l2_L at h
  split at h
  · cases n with
    | zero => cases h
    | succ n => exact ⟨n, rfl, Eq.trans (by kernel_rfl) h⟩
  · cases h

theorem patinalaw05_NandTold_l4_ok (k : Nat) : LoopOk (patinalaw05_NandTold_C k) 4 patinalaw05_NandTold_l4_c := by
  refine ⟨[1, 2, 7, 8, 11, 13, 14, 15, 17, 20, 21], by kernel_rfl, fun K r => ⟨patinalaw05_NandTold_l4_L k K, fun vs m h => ⟨k, h⟩, ?_⟩⟩
  intro n vs m h
  unfold patinalaw05_NandTold_l4_L at h
  split at h
  · cases n with
    | zero => cases h
    | succ n => exact ⟨n, rfl, Eq.trans (by kernel_rfl) h⟩
  · cases h

def patinalaw05_NandTold_dec : Value → Mem → Option (Bool × Mem) := fun v m => match v with
  | .bool q0 => some (q0, m)
  | _ => none

theorem patinalaw05_NandTold_eq (k : Nat) (p0a : Option Addr) (p0n : Nat) (p0c : Nat) (p1 : Int) (p2 : Int) (m : Mem) : fnX (patinalaw05_NandTold_C k) Try.f4 [(Value.slice p0a p0n p0c), (Value.int .i64 p1), (Value.int .i64 p2)] m patinalaw05_NandTold_dec = patinalaw05_NandTold k p0a p0n p0c p1 p2 m := by kernel_rfl

theorem patinalaw05_NandTold_ok {k : Nat} {p0a : Option Addr} {p0n : Nat} {p0c : Nat} {p1 : Int} {p2 : Int} {m : Mem} {r : (Bool × Mem)} (h : patinalaw05_NandTold k p0a p0n p0c p1 p2 m = some r) : CallP Try.prog 4 [(Value.slice p0a p0n p0c), (Value.int .i64 p1), (Value.int .i64 p2)] m fun v m' => v = (Value.bool r.1) ∧ m' = r.2 := by
  refine (fn_sound (C := patinalaw05_NandTold_C k) (c := body Try.f4) tOk mixed (patinalaw05_NandTold_callOk k) Try.func4 (by kernel_rfl) (by kernel_rfl) (by kernel_rfl) (by kernel_rfl) ?_ ?_ (Eq.trans (patinalaw05_NandTold_eq k p0a p0n p0c p1 p2 m) h)).mono ?_
  · intro p hp
    rw [patinalaw05_NandTold_loops] at hp
    simp only [List.mem_cons, List.not_mem_nil, or_false] at hp
    rcases hp with rfl | rfl | rfl
    · exact patinalaw05_NandTold_l0_ok k
    · exact patinalaw05_NandTold_l2_ok k
    · exact patinalaw05_NandTold_l4_ok k
  · intro p hp; rw [show rangesOf 0 (body Try.f4) = [] by kernel_rfl] at hp; cases hp
  · intro v m' hp
    unfold patinalaw05_NandTold_dec at hp
    split at hp
    · simp only [Option.some.injEq] at hp; subst hp; exact ⟨rfl, rfl⟩
    · cases hp

def patinalaw05_NandTold_arm {R : Type} (k : Nat) : Arm R := fun vs m K => match vs with
  | [.slice p0a p0n p0c, .int .i64 p1, .int .i64 p2] => (patinalaw05_NandTold k p0a p0n p0c p1 p2 m).bind fun r => K (Value.bool r.1) r.2
  | _ => none

theorem patinalaw05_NandTold_armOk {R : Type} (k : Nat) : ArmOk Try.prog 4 (patinalaw05_NandTold_arm (R := R) k) := by
  intro vs m K r h
  unfold patinalaw05_NandTold_arm at h
  split at h
  · obtain ⟨r, h1, h2⟩ := Option.bind_eq_some_iff.1 h; exact ⟨_, _, h2, fun K' => by simp only [patinalaw05_NandTold_arm, h1, Option.bind_some], patinalaw05_NandTold_ok h1⟩
  · cases h

end Go.Proofs.Ytlbbcgjfkpnilaa
