/- The program's functions as plain Lean functions over a clean memory, each held against the program by the kernel. Written by mx.py. -/
import Derived.Test.YtchonnaoojpdoaaF0
import Derived.Test.YtchonnaoojpdoaaFmedia
import Derived.Test.YtchonnaoojpdoaaFnand
import Derived.Test.YtchonnaoojpdoaaFpatinalaw08
import Derived.Test.YtchonnaoojpdoaaFpatinaref01
set_option linter.unusedVariables false
set_option maxRecDepth 100000
namespace Go.Proofs.Ytchonnaoojpdoaa
open Go.Mx

/-! ### patinalaw08_MediaMends -/
def patinalaw08_MediaMends_l0_b (k : Nat) (nx : Option Addr → Nat → Nat → Addr → Bool → Option Addr → Option Addr → Nat → Nat → Int → Mem → Option (Bool × Mem)) (kx0 : Bool → Mem → Option (Bool × Mem)) (kx2 : Addr → Bool → Option Addr → Option Addr → Nat → Nat → Mem → Option (Bool × Mem)) (x2a : Option Addr) (x2n : Nat) (x2c : Nat) (x3 : Addr) (x7 : Bool) (x8 : Option Addr) (x9a : Option Addr) (x9n : Nat) (x9c : Nat) (x11 : Int) (m : Mem) : Option (Bool × Mem) :=
  bif decide (x11 < ((x2n : Nat) : Int)) then (
  (x8).bind fun a12 =>
  (ldPtr m (plus a12 0)).bind fun t13 =>
  (ldInt .i64 m (plus x3 0)).bind fun t14 =>
  bif inRange x11 x2n then (
  (x2a).bind fun a15 =>
  (ldInt .i64 m (plus a15 (Int.toNat x11 * 1))).bind fun t16 =>
  (patinalaw08_pick k t16 2048 m).bind fun r17 =>
  (nand_Chip_Flip k t13 t14 r17.1 r17.2).bind fun r18 =>
  (ldPtr r17.2 (plus a12 0)).bind fun t19 =>
  bif decide (t19 = t13) then (
  (ldInt .i64 r17.2 (plus x3 0)).bind fun t20 =>
  bif t20 == t14 then (
  (isNil r18.1).bind fun b21 =>
  bif !b21 then (
  kx0 false r18.2) else (
  nx x2a x2n x2c x3 x7 x8 x9a x9n x9c (IntKind.wrap .i64 (x11 + 1)) r18.2)) else none) else none) else none) else (
  kx2 x3 x7 x8 x9a x9n x9c m)

def patinalaw08_MediaMends_l0 (k : Nat) (kx0 : Bool → Mem → Option (Bool × Mem)) (kx2 : Addr → Bool → Option Addr → Option Addr → Nat → Nat → Mem → Option (Bool × Mem)) : Nat → Option Addr → Nat → Nat → Addr → Bool → Option Addr → Option Addr → Nat → Nat → Int → Mem → Option (Bool × Mem)
  | 0, _, _, _, _, _, _, _, _, _, _, _ => none
  | n + 1, x2a, x2n, x2c, x3, x7, x8, x9a, x9n, x9c, x11, m => patinalaw08_MediaMends_l0_b k (fun x2a x2n x2c x3 x7 x8 x9a x9n x9c x11 m => patinalaw08_MediaMends_l0 k kx0 kx2 n x2a x2n x2c x3 x7 x8 x9a x9n x9c x11 m) kx0 kx2 x2a x2n x2c x3 x7 x8 x9a x9n x9c x11 m
termination_by structural x => x

theorem patinalaw08_MediaMends_l0_rule (k : Nat) (kx0 : Bool → Mem → Option (Bool × Mem)) (kx2 : Addr → Bool → Option Addr → Option Addr → Nat → Nat → Mem → Option (Bool × Mem)) {P : (Bool × Mem) → Prop} (I : Nat → Option Addr → Nat → Nat → Addr → Bool → Option Addr → Option Addr → Nat → Nat → Int → Mem → Prop)
    (step : ∀ d (nx : Option Addr → Nat → Nat → Addr → Bool → Option Addr → Option Addr → Nat → Nat → Int → Mem → Option (Bool × Mem)) (x2a : Option Addr) (x2n : Nat) (x2c : Nat) (x3 : Addr) (x7 : Bool) (x8 : Option Addr) (x9a : Option Addr) (x9n : Nat) (x9c : Nat) (x11 : Int) (m : Mem), I d x2a x2n x2c x3 x7 x8 x9a x9n x9c x11 m → (∀ d' (x2a : Option Addr) (x2n : Nat) (x2c : Nat) (x3 : Addr) (x7 : Bool) (x8 : Option Addr) (x9a : Option Addr) (x9n : Nat) (x9c : Nat) (x11 : Int) (m : Mem), d' < d → I d' x2a x2n x2c x3 x7 x8 x9a x9n x9c x11 m → Ok (nx x2a x2n x2c x3 x7 x8 x9a x9n x9c x11 m) P) → Ok (patinalaw08_MediaMends_l0_b k nx kx0 kx2 x2a x2n x2c x3 x7 x8 x9a x9n x9c x11 m) P) :
    ∀ n d (x2a : Option Addr) (x2n : Nat) (x2c : Nat) (x3 : Addr) (x7 : Bool) (x8 : Option Addr) (x9a : Option Addr) (x9n : Nat) (x9c : Nat) (x11 : Int) (m : Mem), d < n → I d x2a x2n x2c x3 x7 x8 x9a x9n x9c x11 m → Ok (patinalaw08_MediaMends_l0 k kx0 kx2 n x2a x2n x2c x3 x7 x8 x9a x9n x9c x11 m) P
  | 0, d, x2a, x2n, x2c, x3, x7, x8, x9a, x9n, x9c, x11, m, h, _ => absurd h (Nat.not_lt_zero _)
  | n + 1, d, x2a, x2n, x2c, x3, x7, x8, x9a, x9n, x9c, x11, m, h, hI => step d _ x2a x2n x2c x3 x7 x8 x9a x9n x9c x11 m hI fun d' x2a x2n x2c x3 x7 x8 x9a x9n x9c x11 m h' hI' => patinalaw08_MediaMends_l0_rule k kx0 kx2 I step n d' x2a x2n x2c x3 x7 x8 x9a x9n x9c x11 m (by omega) hI'

def patinalaw08_MediaMends_j1 (k : Nat) (x3 : Addr) (x7 : Bool) (x8 : Option Addr) (x9a : Option Addr) (x9n : Nat) (x9c : Nat) (x13 : Addr) (x15 : Int) (nx : Addr → Bool → Option Addr → Option Addr → Nat → Nat → Addr → Int → Int → Mem → Option (Bool × Mem)) (x14_ : Int) (mj : Mem) : Option (Bool × Mem) :=
  nx x3 x7 x8 x9a x9n x9c x13 x14_ (IntKind.wrap .i64 (x15 + 1)) mj

def patinalaw08_MediaMends_l2_b (k : Nat) (nx : Addr → Bool → Option Addr → Option Addr → Nat → Nat → Addr → Int → Int → Mem → Option (Bool × Mem)) (kx0 : Bool → Mem → Option (Bool × Mem)) (kx4 : Addr → Bool → Option Addr → Option Addr → Nat → Nat → Addr → Int → Mem → Option (Bool × Mem)) (x3 : Addr) (x7 : Bool) (x8 : Option Addr) (x9a : Option Addr) (x9n : Nat) (x9c : Nat) (x13 : Addr) (x14 : Int) (x15 : Int) (m : Mem) : Option (Bool × Mem) :=
  bif decide (x15 < 4) then (
  (x8).bind fun a25 =>
  (ldPtr m (plus a25 0)).bind fun t26 =>
  (ldInt .i64 m (plus x3 0)).bind fun t27 =>
  (nand_Chip_Damage k t26 t27 x15 m).bind fun r28 =>
  (isNil r28.2.2.1).bind fun b29 =>
  bif !b29 then (
  kx0 false r28.2.2.2) else (
  bif inRange x15 4 then (
  (st r28.2.2.2 (plus x13 (Int.toNat x15 * 1)) (Value.int .i64 r28.1)).bind fun m30 =>
  bif decide (r28.1 > x14) then (
  patinalaw08_MediaMends_j1 k x3 x7 x8 x9a x9n x9c x13 x15 nx r28.1 m30) else (
  patinalaw08_MediaMends_j1 k x3 x7 x8 x9a x9n x9c x13 x15 nx x14 m30)) else none)) else (
  kx4 x3 x7 x8 x9a x9n x9c x13 x14 m)

def patinalaw08_MediaMends_l2 (k : Nat) (kx0 : Bool → Mem → Option (Bool × Mem)) (kx4 : Addr → Bool → Option Addr → Option Addr → Nat → Nat → Addr → Int → Mem → Option (Bool × Mem)) : Nat → Addr → Bool → Option Addr → Option Addr → Nat → Nat → Addr → Int → Int → Mem → Option (Bool × Mem)
  | 0, _, _, _, _, _, _, _, _, _, _ => none
  | n + 1, x3, x7, x8, x9a, x9n, x9c, x13, x14, x15, m => patinalaw08_MediaMends_l2_b k (fun x3 x7 x8 x9a x9n x9c x13 x14 x15 m => patinalaw08_MediaMends_l2 k kx0 kx4 n x3 x7 x8 x9a x9n x9c x13 x14 x15 m) kx0 kx4 x3 x7 x8 x9a x9n x9c x13 x14 x15 m
termination_by structural x => x

theorem patinalaw08_MediaMends_l2_rule (k : Nat) (kx0 : Bool → Mem → Option (Bool × Mem)) (kx4 : Addr → Bool → Option Addr → Option Addr → Nat → Nat → Addr → Int → Mem → Option (Bool × Mem)) {P : (Bool × Mem) → Prop} (I : Nat → Addr → Bool → Option Addr → Option Addr → Nat → Nat → Addr → Int → Int → Mem → Prop)
    (step : ∀ d (nx : Addr → Bool → Option Addr → Option Addr → Nat → Nat → Addr → Int → Int → Mem → Option (Bool × Mem)) (x3 : Addr) (x7 : Bool) (x8 : Option Addr) (x9a : Option Addr) (x9n : Nat) (x9c : Nat) (x13 : Addr) (x14 : Int) (x15 : Int) (m : Mem), I d x3 x7 x8 x9a x9n x9c x13 x14 x15 m → (∀ d' (x3 : Addr) (x7 : Bool) (x8 : Option Addr) (x9a : Option Addr) (x9n : Nat) (x9c : Nat) (x13 : Addr) (x14 : Int) (x15 : Int) (m : Mem), d' < d → I d' x3 x7 x8 x9a x9n x9c x13 x14 x15 m → Ok (nx x3 x7 x8 x9a x9n x9c x13 x14 x15 m) P) → Ok (patinalaw08_MediaMends_l2_b k nx kx0 kx4 x3 x7 x8 x9a x9n x9c x13 x14 x15 m) P) :
    ∀ n d (x3 : Addr) (x7 : Bool) (x8 : Option Addr) (x9a : Option Addr) (x9n : Nat) (x9c : Nat) (x13 : Addr) (x14 : Int) (x15 : Int) (m : Mem), d < n → I d x3 x7 x8 x9a x9n x9c x13 x14 x15 m → Ok (patinalaw08_MediaMends_l2 k kx0 kx4 n x3 x7 x8 x9a x9n x9c x13 x14 x15 m) P
  | 0, d, x3, x7, x8, x9a, x9n, x9c, x13, x14, x15, m, h, _ => absurd h (Nat.not_lt_zero _)
  | n + 1, d, x3, x7, x8, x9a, x9n, x9c, x13, x14, x15, m, h, hI => step d _ x3 x7 x8 x9a x9n x9c x13 x14 x15 m hI fun d' x3 x7 x8 x9a x9n x9c x13 x14 x15 m h' hI' => patinalaw08_MediaMends_l2_rule k kx0 kx4 I step n d' x3 x7 x8 x9a x9n x9c x13 x14 x15 m (by omega) hI'

def patinalaw08_MediaMends_j2 (k : Nat) (y3 : Addr) (y7 : Bool) (r36 : (List Value) × Value × Mem) (r41 : Bool × Mem) (mj : Mem) : Option (Bool × Mem) :=
  bif y7 then (
  (ldBool mj (plus ⟨List.length r36.2.2, 0, Option.none⟩ 0)).bind fun t51 =>
  bif !t51 then (
  (ldBool mj (plus ⟨List.length r36.2.2, 0, Option.none⟩ 6)).bind fun t52 =>
  bif !t52 then (
  (ldBool mj (plus ⟨List.length r36.2.2, 0, Option.none⟩ 6)).bind fun t53 =>
  bif t53 then (
  some (true, mj)) else (
  (ldSl mj (plus ⟨List.length r36.2.2, 0, Option.none⟩ 7)).bind fun t54 =>
  some (((t54.len : Nat) : Int) == 0, mj))) else (
  bif r41.1 then (
  (ldBool mj (plus ⟨List.length r36.2.2, 0, Option.none⟩ 6)).bind fun t55 =>
  bif t55 then (
  some (true, mj)) else (
  (ldSl mj (plus ⟨List.length r36.2.2, 0, Option.none⟩ 7)).bind fun t56 =>
  some (((t56.len : Nat) : Int) == 0, mj))) else (
  some (false, mj)))) else (
  (ldCells mj (plus ⟨List.length r36.2.2, 0, Option.none⟩ 1) 5).bind fun t57 =>
  (ldCells mj y3 5).bind fun t58 =>
  (cellsEq (eqK tt 23) t57 t58).bind fun b59 =>
  bif b59 then (
  (ldBool mj (plus ⟨List.length r36.2.2, 0, Option.none⟩ 6)).bind fun t60 =>
  bif !t60 then (
  (ldBool mj (plus ⟨List.length r36.2.2, 0, Option.none⟩ 6)).bind fun t61 =>
  bif t61 then (
  some (true, mj)) else (
  (ldSl mj (plus ⟨List.length r36.2.2, 0, Option.none⟩ 7)).bind fun t62 =>
  some (((t62.len : Nat) : Int) == 0, mj))) else (
  bif r41.1 then (
  (ldBool mj (plus ⟨List.length r36.2.2, 0, Option.none⟩ 6)).bind fun t63 =>
  bif t63 then (
  some (true, mj)) else (
  (ldSl mj (plus ⟨List.length r36.2.2, 0, Option.none⟩ 7)).bind fun t64 =>
  some (((t64.len : Nat) : Int) == 0, mj))) else (
  some (false, mj)))) else (
  some (false, mj)))) else (
  some (false, mj))

def patinalaw08_MediaMends_j3 (k : Nat) (y3 : Addr) (y7 : Bool) (r36 : (List Value) × Value × Mem) (r41 : Bool × Mem) (mj : Mem) : Option (Bool × Mem) :=
  bif y7 then (
  (ldBool mj (plus ⟨List.length r36.2.2, 0, Option.none⟩ 0)).bind fun t71 =>
  bif !t71 then (
  (ldBool mj (plus ⟨List.length r36.2.2, 0, Option.none⟩ 6)).bind fun t72 =>
  bif !t72 then (
  (ldBool mj (plus ⟨List.length r36.2.2, 0, Option.none⟩ 6)).bind fun t73 =>
  bif t73 then (
  some (true, mj)) else (
  (ldSl mj (plus ⟨List.length r36.2.2, 0, Option.none⟩ 7)).bind fun t74 =>
  some (((t74.len : Nat) : Int) == 0, mj))) else (
  bif r41.1 then (
  (ldBool mj (plus ⟨List.length r36.2.2, 0, Option.none⟩ 6)).bind fun t75 =>
  bif t75 then (
  some (true, mj)) else (
  (ldSl mj (plus ⟨List.length r36.2.2, 0, Option.none⟩ 7)).bind fun t76 =>
  some (((t76.len : Nat) : Int) == 0, mj))) else (
  some (false, mj)))) else (
  (ldCells mj (plus ⟨List.length r36.2.2, 0, Option.none⟩ 1) 5).bind fun t77 =>
  (ldCells mj y3 5).bind fun t78 =>
  (cellsEq (eqK tt 23) t77 t78).bind fun b79 =>
  bif b79 then (
  (ldBool mj (plus ⟨List.length r36.2.2, 0, Option.none⟩ 6)).bind fun t80 =>
  bif !t80 then (
  (ldBool mj (plus ⟨List.length r36.2.2, 0, Option.none⟩ 6)).bind fun t81 =>
  bif t81 then (
  some (true, mj)) else (
  (ldSl mj (plus ⟨List.length r36.2.2, 0, Option.none⟩ 7)).bind fun t82 =>
  some (((t82.len : Nat) : Int) == 0, mj))) else (
  bif r41.1 then (
  (ldBool mj (plus ⟨List.length r36.2.2, 0, Option.none⟩ 6)).bind fun t83 =>
  bif t83 then (
  some (true, mj)) else (
  (ldSl mj (plus ⟨List.length r36.2.2, 0, Option.none⟩ 7)).bind fun t84 =>
  some (((t84.len : Nat) : Int) == 0, mj))) else (
  some (false, mj)))) else (
  some (false, mj)))) else (
  some (false, mj))

def patinalaw08_MediaMends_j4 (k : Nat) (y3 : Addr) (y7 : Bool) (r36 : (List Value) × Value × Mem) (r41 : Bool × Mem) (mj : Mem) : Option (Bool × Mem) :=
  bif y7 then (
  (ldBool mj (plus ⟨List.length r36.2.2, 0, Option.none⟩ 0)).bind fun t91 =>
  bif !t91 then (
  (ldBool mj (plus ⟨List.length r36.2.2, 0, Option.none⟩ 6)).bind fun t92 =>
  bif !t92 then (
  (ldBool mj (plus ⟨List.length r36.2.2, 0, Option.none⟩ 6)).bind fun t93 =>
  bif t93 then (
  some (true, mj)) else (
  (ldSl mj (plus ⟨List.length r36.2.2, 0, Option.none⟩ 7)).bind fun t94 =>
  some (((t94.len : Nat) : Int) == 0, mj))) else (
  bif r41.1 then (
  (ldBool mj (plus ⟨List.length r36.2.2, 0, Option.none⟩ 6)).bind fun t95 =>
  bif t95 then (
  some (true, mj)) else (
  (ldSl mj (plus ⟨List.length r36.2.2, 0, Option.none⟩ 7)).bind fun t96 =>
  some (((t96.len : Nat) : Int) == 0, mj))) else (
  some (false, mj)))) else (
  (ldCells mj (plus ⟨List.length r36.2.2, 0, Option.none⟩ 1) 5).bind fun t97 =>
  (ldCells mj y3 5).bind fun t98 =>
  (cellsEq (eqK tt 23) t97 t98).bind fun b99 =>
  bif b99 then (
  (ldBool mj (plus ⟨List.length r36.2.2, 0, Option.none⟩ 6)).bind fun t100 =>
  bif !t100 then (
  (ldBool mj (plus ⟨List.length r36.2.2, 0, Option.none⟩ 6)).bind fun t101 =>
  bif t101 then (
  some (true, mj)) else (
  (ldSl mj (plus ⟨List.length r36.2.2, 0, Option.none⟩ 7)).bind fun t102 =>
  some (((t102.len : Nat) : Int) == 0, mj))) else (
  bif r41.1 then (
  (ldBool mj (plus ⟨List.length r36.2.2, 0, Option.none⟩ 6)).bind fun t103 =>
  bif t103 then (
  some (true, mj)) else (
  (ldSl mj (plus ⟨List.length r36.2.2, 0, Option.none⟩ 7)).bind fun t104 =>
  some (((t104.len : Nat) : Int) == 0, mj))) else (
  some (false, mj)))) else (
  some (false, mj)))) else (
  some (false, mj))

def patinalaw08_MediaMends (k : Nat) (p0 : List Value) (p1 : Int) (p2a : Option Addr) (p2n : Nat) (p2c : Nat) (m : Mem) : Option (Bool × Mem) :=
  bif Nat.beq (List.length p0) 5 then (
  let m1 : Mem := m ++ [.live p0]
  (patinalaw08_shown k  m1).bind fun r2 =>
  (patinalaw08_begun k  r2.2).bind fun r3 =>
  bif Option.isNone r3.1 then (
  some (false, r3.2)) else (
  (patinalaw08_data k 174 p1 r3.2).bind fun r4 =>
  (r3.1).bind fun a5 =>
  (ldPtr r4.2 (plus a5 1)).bind fun t6 =>
  (ldInt .i64 r4.2 (plus ⟨List.length m, 0, Option.none⟩ 0)).bind fun t7 =>
  (ldCells r4.2 ⟨List.length m, 0, Option.none⟩ 5).bind fun t8 =>
  (media_Media_Program k t6 t7 t8 r4.1.a r4.1.len r4.1.cap r4.2).bind fun r9 =>
  (isNil r9.1).bind fun b10 =>
  bif !b10 then (
  bif r2.1 then (
  (ifEq tt r9.1 (Value.iface ty_api_Code (Value.int .i64 1))).bind fun b11 =>
  some (b11, r9.2)) else (
  some (false, r9.2))) else (
  patinalaw08_MediaMends_l0 k (fun y6 m22 => 
  some (y6, m22)) (fun y3 y7 y8 y9a y9n y9c m23 => 
  let m24 : Mem := m23 ++ [.live [.int .i64 0, .int .i64 0, .int .i64 0, .int .i64 0]]
  patinalaw08_MediaMends_l2 k (fun y6 m31 => 
  some (y6, m31)) (fun y3 y7 y8 y9a y9n y9c y13 y14 m32 => 
  (y8).bind fun a33 =>
  (ldPtr m32 (plus a33 1)).bind fun t34 =>
  (ldInt .i64 m32 (plus y3 0)).bind fun t35 =>
  (media_Media_Read k t34 t35 m32).bind fun r36 =>
  let m37 : Mem := r36.2.2 ++ [.live [.bool false, .int .i64 0, .int .i64 0, .int .i64 0, .int .i64 0, .bool false, .bool false, .slice none 0 0, .int .i64 0]]
  bif Nat.beq (List.length r36.1) 9 then (
  (stCells m37 ⟨List.length r36.2.2, 0, Option.none⟩ r36.1).bind fun m38 =>
  (isNil r36.2.1).bind fun b39 =>
  bif !b39 then (
  some (false, m38)) else (
  (ldSl m38 (plus ⟨List.length r36.2.2, 0, Option.none⟩ 7)).bind fun t40 =>
  (patinaref01_Same k t40.a t40.len t40.cap y9a y9n y9c m38).bind fun r41 =>
  bif decide (y14 ≤ 2) then (
  bif y7 then (
  (ldBool r41.2 (plus ⟨List.length r36.2.2, 0, Option.none⟩ 0)).bind fun t42 =>
  bif t42 then (
  (ldCells r41.2 (plus ⟨List.length r36.2.2, 0, Option.none⟩ 1) 5).bind fun t43 =>
  (ldCells r41.2 y3 5).bind fun t44 =>
  (cellsEq (eqK tt 23) t43 t44).bind fun b45 =>
  bif b45 then (
  (ldBool r41.2 (plus ⟨List.length r36.2.2, 0, Option.none⟩ 6)).bind fun t46 =>
  bif t46 then (
  bif r41.1 then (
  (ldInt .i64 r41.2 (plus ⟨List.length r36.2.2, 0, Option.none⟩ 8)).bind fun t47 =>
  some (t47 == y14, r41.2)) else (
  some (false, r41.2))) else (
  some (false, r41.2))) else (
  some (false, r41.2))) else (
  some (false, r41.2))) else (
  some (false, r41.2))) else (
  bif decide (y14 > 4) then (
  some (y7, r41.2)) else (
  (ldInt .i64 r41.2 (plus y13 (Int.toNat 0 * 1))).bind fun t48 =>
  bif decide (t48 ≤ 2) then (
  (ldInt .i64 r41.2 (plus y13 (Int.toNat 1 * 1))).bind fun t49 =>
  bif decide (t49 ≤ 2) then (
  (ldInt .i64 r41.2 (plus y13 (Int.toNat 2 * 1))).bind fun t50 =>
  (ldBool r41.2 (plus ⟨List.length r36.2.2, 0, Option.none⟩ 0)).bind fun t65 =>
  (ldInt .i64 r41.2 (plus y13 (Int.toNat 3 * 1))).bind fun t66 =>
  bif !(t65 == (decide (t66 ≤ 2))) then (
  some (false, r41.2)) else (
  (ldBool r41.2 (plus ⟨List.length r36.2.2, 0, Option.none⟩ 6)).bind fun t67 =>
  (ldBool r41.2 (plus ⟨List.length r36.2.2, 0, Option.none⟩ 0)).bind fun t68 =>
  bif t68 then (
  bif !(t67 == (decide (t50 ≤ 2))) then (
  some (false, r41.2)) else (
  (ldInt .i64 r41.2 (plus ⟨List.length r36.2.2, 0, Option.none⟩ 8)).bind fun t69 =>
  bif decide (t69 > 2) then (
  some (false, r41.2)) else (
  patinalaw08_MediaMends_j2 k y3 y7 r36 r41 r41.2))) else (
  bif !(t67 == false) then (
  some (false, r41.2)) else (
  (ldInt .i64 r41.2 (plus ⟨List.length r36.2.2, 0, Option.none⟩ 8)).bind fun t70 =>
  bif decide (t70 > 2) then (
  some (false, r41.2)) else (
  patinalaw08_MediaMends_j2 k y3 y7 r36 r41 r41.2))))) else (
  (ldBool r41.2 (plus ⟨List.length r36.2.2, 0, Option.none⟩ 0)).bind fun t85 =>
  (ldInt .i64 r41.2 (plus y13 (Int.toNat 3 * 1))).bind fun t86 =>
  bif !(t85 == (decide (t86 ≤ 2))) then (
  some (false, r41.2)) else (
  (ldBool r41.2 (plus ⟨List.length r36.2.2, 0, Option.none⟩ 6)).bind fun t87 =>
  (ldBool r41.2 (plus ⟨List.length r36.2.2, 0, Option.none⟩ 0)).bind fun t88 =>
  bif t88 then (
  bif !(t87 == false) then (
  some (false, r41.2)) else (
  (ldInt .i64 r41.2 (plus ⟨List.length r36.2.2, 0, Option.none⟩ 8)).bind fun t89 =>
  bif decide (t89 > 2) then (
  some (false, r41.2)) else (
  patinalaw08_MediaMends_j3 k y3 y7 r36 r41 r41.2))) else (
  bif !(t87 == false) then (
  some (false, r41.2)) else (
  (ldInt .i64 r41.2 (plus ⟨List.length r36.2.2, 0, Option.none⟩ 8)).bind fun t90 =>
  bif decide (t90 > 2) then (
  some (false, r41.2)) else (
  patinalaw08_MediaMends_j3 k y3 y7 r36 r41 r41.2)))))) else (
  (ldBool r41.2 (plus ⟨List.length r36.2.2, 0, Option.none⟩ 0)).bind fun t105 =>
  (ldInt .i64 r41.2 (plus y13 (Int.toNat 3 * 1))).bind fun t106 =>
  bif !(t105 == (decide (t106 ≤ 2))) then (
  some (false, r41.2)) else (
  (ldBool r41.2 (plus ⟨List.length r36.2.2, 0, Option.none⟩ 6)).bind fun t107 =>
  (ldBool r41.2 (plus ⟨List.length r36.2.2, 0, Option.none⟩ 0)).bind fun t108 =>
  bif t108 then (
  bif !(t107 == false) then (
  some (false, r41.2)) else (
  (ldInt .i64 r41.2 (plus ⟨List.length r36.2.2, 0, Option.none⟩ 8)).bind fun t109 =>
  bif decide (t109 > 2) then (
  some (false, r41.2)) else (
  patinalaw08_MediaMends_j4 k y3 y7 r36 r41 r41.2))) else (
  bif !(t107 == false) then (
  some (false, r41.2)) else (
  (ldInt .i64 r41.2 (plus ⟨List.length r36.2.2, 0, Option.none⟩ 8)).bind fun t110 =>
  bif decide (t110 > 2) then (
  some (false, r41.2)) else (
  patinalaw08_MediaMends_j4 k y3 y7 r36 r41 r41.2))))))))) else none) k y3 y7 y8 y9a y9n y9c ⟨List.length m23, 0, Option.none⟩ 0 0 m24) k p2a p2n p2c ⟨List.length m, 0, Option.none⟩ r2.1 r3.1 r4.1.a r4.1.len r4.1.cap 0 r9.2))) else none

def patinalaw08_MediaMends_call {R : Type} (k : Nat) : Fun R := callCons 5 (patinalaw08_shown_arm k) (callCons 6 (patinalaw08_begun_arm k) (callCons 7 (patinalaw08_data_arm k) (callCons 8 (media_Media_Program_arm k) (callCons 9 (nand_Chip_Flip_arm k) (callCons 10 (patinalaw08_pick_arm k) (callCons 11 (nand_Chip_Damage_arm k) (callCons 12 (media_Media_Read_arm k) (callCons 13 (patinaref01_Same_arm k) (callNil)))))))))

theorem patinalaw08_MediaMends_callOk {R : Type} (k : Nat) : CallOk Try.prog (patinalaw08_MediaMends_call (R := R) k) := callOk_cons (patinalaw08_shown_armOk k) (callOk_cons (patinalaw08_begun_armOk k) (callOk_cons (patinalaw08_data_armOk k) (callOk_cons (media_Media_Program_armOk k) (callOk_cons (nand_Chip_Flip_armOk k) (callOk_cons (patinalaw08_pick_armOk k) (callOk_cons (nand_Chip_Damage_armOk k) (callOk_cons (media_Media_Read_armOk k) (callOk_cons (patinaref01_Same_armOk k) (callOk_nil)))))))))

def patinalaw08_MediaMends_l0_L (k : Nat) (K : Nat → List Value → Mem → Option (Bool × Mem)) (n : Nat) (vs : List Value) (m : Mem) : Option (Bool × Mem) := match vs with
  | [.slice x2a x2n x2c, .pointer (some x3), .bool x7, .pointer x8, .slice x9a x9n x9c, .int .i64 x11] => patinalaw08_MediaMends_l0 k (fun y6 m => K 0 [(Value.bool y6)] m) (fun y3 y7 y8 y9a y9n y9c m => K 2 [(Value.pointer (some y3)), (Value.bool y7), (Value.pointer y8), (Value.slice y9a y9n y9c)] m) n x2a x2n x2c x3 x7 x8 x9a x9n x9c x11 m
  | _ => none

def patinalaw08_MediaMends_l2_L (k : Nat) (K : Nat → List Value → Mem → Option (Bool × Mem)) (n : Nat) (vs : List Value) (m : Mem) : Option (Bool × Mem) := match vs with
  | [.pointer (some x3), .bool x7, .pointer x8, .slice x9a x9n x9c, .pointer (some x13), .int .i64 x14, .int .i64 x15] => patinalaw08_MediaMends_l2 k (fun y6 m => K 0 [(Value.bool y6)] m) (fun y3 y7 y8 y9a y9n y9c y13 y14 m => K 4 [(Value.pointer (some y3)), (Value.bool y7), (Value.pointer y8), (Value.slice y9a y9n y9c), (Value.pointer (some y13)), (Value.int .i64 y14)] m) n x3 x7 x8 x9a x9n x9c x13 x14 x15 m
  | _ => none

def patinalaw08_MediaMends_loop (k : Nat) : Nat → List Value → Mem → (Nat → List Value → Mem → Option (Bool × Mem)) → Option (Bool × Mem) := fun cur vs m K => match cur with
  | 0 => patinalaw08_MediaMends_l0_L k K k vs m
  | 2 => patinalaw08_MediaMends_l2_L k K k vs m
  | _ => none

def patinalaw08_MediaMends_C (k : Nat) : Ctx (Bool × Mem) := ⟨tt, patinalaw08_MediaMends_call k, patinalaw08_MediaMends_loop k, [(0, [2, 3, 7, 8, 9, 11]), (2, [3, 7, 8, 9, 13, 14, 15])], [(0, [6]), (2, [3, 7, 8, 9]), (4, [3, 7, 8, 9, 13, 14])]⟩

noncomputable def patinalaw08_MediaMends_l0_c : Code := ((loopsOf 0 (body Try.f3)).map (·.2)).getD 0 .skip

noncomputable def patinalaw08_MediaMends_l2_c : Code := ((loopsOf 0 (body Try.f3)).map (·.2)).getD 1 .skip

theorem patinalaw08_MediaMends_loops : loopsOf 0 (body Try.f3) = [(0, patinalaw08_MediaMends_l0_c), (2, patinalaw08_MediaMends_l2_c)] := by kernel_rfl

theorem patinalaw08_MediaMends_l0_ok (k : Nat) : LoopOk (patinalaw08_MediaMends_C k) 0 patinalaw08_MediaMends_l0_c := by
  refine ⟨[2, 3, 7, 8, 9, 11], by kernel_rfl, fun K r => ⟨patinalaw08_MediaMends_l0_L k K, fun vs m h => ⟨k, h⟩, ?_⟩⟩
  intro n vs m h
  unfold patinalaw08_MediaMends_l0_L at h
  split at h
  · cases n with
    | zero => cases h
    | succ n => exact ⟨n, rfl, Eq.trans (by kernel_rfl) h⟩
  · cases h

theorem patinalaw08_MediaMends_l2_ok (k : Nat) : LoopOk (patinalaw08_MediaMends_C k) 2 patinalaw08_MediaMends_l2_c := by
  refine ⟨[3, 7, 8, 9, 13, 14, 15], by kernel_rfl, fun K r => ⟨patinalaw08_MediaMends_l2_L k K, fun vs m h => ⟨k, h⟩, ?_⟩⟩
  intro n vs m h
  unfold patinalaw08_MediaMends_l2_L at h
  split at h
  · cases n with
    | zero => cases h
    | succ n => exact ⟨n, rfl, Eq.trans (by kernel_rfl) h⟩
  · cases h

def patinalaw08_MediaMends_dec : Value → Mem → Option (Bool × Mem) := fun v m => match v with
  | .bool q0 => some (q0, m)
  | _ => none

theorem patinalaw08_MediaMends_eq (k : Nat) (p0 : List Value) (p1 : Int) (p2a : Option Addr) (p2n : Nat) (p2c : Nat) (m : Mem) : fnX (patinalaw08_MediaMends_C k) Try.f3 [(Value.agg ⟨p0⟩), (Value.int .u8 p1), (Value.slice p2a p2n p2c)] m patinalaw08_MediaMends_dec = patinalaw08_MediaMends k p0 p1 p2a p2n p2c m := by kernel_rfl

theorem patinalaw08_MediaMends_ok {k : Nat} {p0 : List Value} {p1 : Int} {p2a : Option Addr} {p2n : Nat} {p2c : Nat} {m : Mem} {r : (Bool × Mem)} (h : patinalaw08_MediaMends k p0 p1 p2a p2n p2c m = some r) : CallP Try.prog 3 [(Value.agg ⟨p0⟩), (Value.int .u8 p1), (Value.slice p2a p2n p2c)] m fun v m' => v = (Value.bool r.1) ∧ m' = r.2 := by
  refine (fn_sound (C := patinalaw08_MediaMends_C k) (c := body Try.f3) tOk mixed (patinalaw08_MediaMends_callOk k) Try.func3 (by kernel_rfl) (by kernel_rfl) (by kernel_rfl) (by kernel_rfl) ?_ ?_ (Eq.trans (patinalaw08_MediaMends_eq k p0 p1 p2a p2n p2c m) h)).mono ?_
  · intro p hp
    rw [patinalaw08_MediaMends_loops] at hp
    simp only [List.mem_cons, List.not_mem_nil, or_false] at hp
    rcases hp with rfl | rfl
    · exact patinalaw08_MediaMends_l0_ok k
    · exact patinalaw08_MediaMends_l2_ok k
  · intro p hp; rw [show rangesOf 0 (body Try.f3) = [] by kernel_rfl] at hp; cases hp
  · intro v m' hp
    unfold patinalaw08_MediaMends_dec at hp
    split at hp
    · simp only [Option.some.injEq] at hp; subst hp; exact ⟨rfl, rfl⟩
    · cases hp

def patinalaw08_MediaMends_arm {R : Type} (k : Nat) : Arm R := fun vs m K => match vs with
  | [.agg ⟨p0⟩, .int .u8 p1, .slice p2a p2n p2c] => (patinalaw08_MediaMends k p0 p1 p2a p2n p2c m).bind fun r => K (Value.bool r.1) r.2
  | _ => none

theorem patinalaw08_MediaMends_armOk {R : Type} (k : Nat) : ArmOk Try.prog 3 (patinalaw08_MediaMends_arm (R := R) k) := by
  intro vs m K r h
  unfold patinalaw08_MediaMends_arm at h
  split at h
  · obtain ⟨r, h1, h2⟩ := Option.bind_eq_some_iff.1 h; exact ⟨_, _, h2, fun K' => by simp only [patinalaw08_MediaMends_arm, h1, Option.bind_some], patinalaw08_MediaMends_ok h1⟩
  · cases h

end Go.Proofs.Ytchonnaoojpdoaa
