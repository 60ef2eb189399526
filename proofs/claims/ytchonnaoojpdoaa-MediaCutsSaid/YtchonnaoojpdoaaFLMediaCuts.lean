/- The program's functions as plain Lean functions over a clean memory, each held against the program by the kernel. Written by mx.py. -/
import Derived.Test.YtchonnaoojpdoaaF0
import Derived.Test.YtchonnaoojpdoaaFmedia
import Derived.Test.YtchonnaoojpdoaaFnand
import Derived.Test.YtchonnaoojpdoaaFpatinalaw08
set_option linter.unusedVariables false
set_option maxRecDepth 100000
namespace Go.Proofs.Ytchonnaoojpdoaa
open Go.Mx

/-! ### patinalaw08_MediaCuts -/
def patinalaw08_MediaCuts_l0_b (k : Nat) (nx : Option Addr → Nat → Nat → Addr → Bool → Option Addr → Int → Value → Int → Mem → Option (Bool × Mem)) (kx0 : Bool → Mem → Option (Bool × Mem)) (kx2 : Addr → Bool → Option Addr → Int → Value → Mem → Option (Bool × Mem)) (x2a : Option Addr) (x2n : Nat) (x2c : Nat) (x3 : Addr) (x7 : Bool) (x8 : Option Addr) (x9 : Int) (x11 : Value) (x12 : Int) (m : Mem) : Option (Bool × Mem) :=
  bif decide (x12 < ((x2n : Nat) : Int)) then (
  bif decide (x12 < 4) then (
  (x8).bind fun a22 =>
  (ldPtr m (plus a22 0)).bind fun t23 =>
  (ldInt .i64 m (plus x3 0)).bind fun t24 =>
  bif inRange x12 x2n then (
  (x2a).bind fun a25 =>
  (ldInt .i64 m (plus a25 (Int.toNat x12 * 1))).bind fun t26 =>
  (patinalaw08_pick k t26 512 m).bind fun r27 =>
  (nand_Chip_Flip k t23 t24 (IntKind.wrap .i64 (1536 + r27.1)) r27.2).bind fun r28 =>
  (ldPtr r27.2 (plus a22 0)).bind fun t29 =>
  bif decide (t29 = t23) then (
  (ldInt .i64 r27.2 (plus x3 0)).bind fun t30 =>
  bif t30 == t24 then (
  (isNil r28.1).bind fun b31 =>
  bif !b31 then (
  kx0 false r28.2) else (
  nx x2a x2n x2c x3 x7 x8 x9 x11 (IntKind.wrap .i64 (x12 + 1)) r28.2)) else none) else none) else none) else (
  kx2 x3 x7 x8 x9 x11 m)) else (
  kx2 x3 x7 x8 x9 x11 m)

def patinalaw08_MediaCuts_l0 (k : Nat) (kx0 : Bool → Mem → Option (Bool × Mem)) (kx2 : Addr → Bool → Option Addr → Int → Value → Mem → Option (Bool × Mem)) : Nat → Option Addr → Nat → Nat → Addr → Bool → Option Addr → Int → Value → Int → Mem → Option (Bool × Mem)
  | 0, _, _, _, _, _, _, _, _, _, _ => none
  | n + 1, x2a, x2n, x2c, x3, x7, x8, x9, x11, x12, m => patinalaw08_MediaCuts_l0_b k (fun x2a x2n x2c x3 x7 x8 x9 x11 x12 m => patinalaw08_MediaCuts_l0 k kx0 kx2 n x2a x2n x2c x3 x7 x8 x9 x11 x12 m) kx0 kx2 x2a x2n x2c x3 x7 x8 x9 x11 x12 m
termination_by structural x => x

theorem patinalaw08_MediaCuts_l0_rule (k : Nat) (kx0 : Bool → Mem → Option (Bool × Mem)) (kx2 : Addr → Bool → Option Addr → Int → Value → Mem → Option (Bool × Mem)) {P : (Bool × Mem) → Prop} (I : Nat → Option Addr → Nat → Nat → Addr → Bool → Option Addr → Int → Value → Int → Mem → Prop)
    (step : ∀ d (nx : Option Addr → Nat → Nat → Addr → Bool → Option Addr → Int → Value → Int → Mem → Option (Bool × Mem)) (x2a : Option Addr) (x2n : Nat) (x2c : Nat) (x3 : Addr) (x7 : Bool) (x8 : Option Addr) (x9 : Int) (x11 : Value) (x12 : Int) (m : Mem), I d x2a x2n x2c x3 x7 x8 x9 x11 x12 m → (∀ d' (x2a : Option Addr) (x2n : Nat) (x2c : Nat) (x3 : Addr) (x7 : Bool) (x8 : Option Addr) (x9 : Int) (x11 : Value) (x12 : Int) (m : Mem), d' < d → I d' x2a x2n x2c x3 x7 x8 x9 x11 x12 m → Ok (nx x2a x2n x2c x3 x7 x8 x9 x11 x12 m) P) → Ok (patinalaw08_MediaCuts_l0_b k nx kx0 kx2 x2a x2n x2c x3 x7 x8 x9 x11 x12 m) P) :
    ∀ n d (x2a : Option Addr) (x2n : Nat) (x2c : Nat) (x3 : Addr) (x7 : Bool) (x8 : Option Addr) (x9 : Int) (x11 : Value) (x12 : Int) (m : Mem), d < n → I d x2a x2n x2c x3 x7 x8 x9 x11 x12 m → Ok (patinalaw08_MediaCuts_l0 k kx0 kx2 n x2a x2n x2c x3 x7 x8 x9 x11 x12 m) P
  | 0, d, x2a, x2n, x2c, x3, x7, x8, x9, x11, x12, m, h, _ => absurd h (Nat.not_lt_zero _)
  | n + 1, d, x2a, x2n, x2c, x3, x7, x8, x9, x11, x12, m, h, hI => step d _ x2a x2n x2c x3 x7 x8 x9 x11 x12 m hI fun d' x2a x2n x2c x3 x7 x8 x9 x11 x12 m h' hI' => patinalaw08_MediaCuts_l0_rule k kx0 kx2 I step n d' x2a x2n x2c x3 x7 x8 x9 x11 x12 m (by omega) hI'

def patinalaw08_MediaCuts_l2_b (k : Nat) (nx : Addr → Bool → Option Addr → Int → Value → Addr → Int → Mem → Option (Bool × Mem)) (kx0 : Bool → Mem → Option (Bool × Mem)) (kx4 : Addr → Bool → Option Addr → Int → Value → Addr → Mem → Option (Bool × Mem)) (x3 : Addr) (x7 : Bool) (x8 : Option Addr) (x9 : Int) (x11 : Value) (x14 : Addr) (x16 : Int) (m : Mem) : Option (Bool × Mem) :=
  bif decide (x16 < 4) then (
  (x8).bind fun a41 =>
  (ldPtr m (plus a41 0)).bind fun t42 =>
  (ldInt .i64 m (plus x3 0)).bind fun t43 =>
  (nand_Chip_Truth k t42 t43 x16 m).bind fun r44 =>
  (isNil r44.2.2.1).bind fun b45 =>
  bif !b45 then (
  kx0 false r44.2.2.2) else (
  bif !(r44.2.1 == (decide (x16 < x9))) then (
  kx0 false r44.2.2.2) else (
  nx x3 x7 x8 x9 x11 x14 (IntKind.wrap .i64 (x16 + 1)) r44.2.2.2))) else (
  kx4 x3 x7 x8 x9 x11 x14 m)

def patinalaw08_MediaCuts_l2 (k : Nat) (kx0 : Bool → Mem → Option (Bool × Mem)) (kx4 : Addr → Bool → Option Addr → Int → Value → Addr → Mem → Option (Bool × Mem)) : Nat → Addr → Bool → Option Addr → Int → Value → Addr → Int → Mem → Option (Bool × Mem)
  | 0, _, _, _, _, _, _, _, _ => none
  | n + 1, x3, x7, x8, x9, x11, x14, x16, m => patinalaw08_MediaCuts_l2_b k (fun x3 x7 x8 x9 x11 x14 x16 m => patinalaw08_MediaCuts_l2 k kx0 kx4 n x3 x7 x8 x9 x11 x14 x16 m) kx0 kx4 x3 x7 x8 x9 x11 x14 x16 m
termination_by structural x => x

theorem patinalaw08_MediaCuts_l2_rule (k : Nat) (kx0 : Bool → Mem → Option (Bool × Mem)) (kx4 : Addr → Bool → Option Addr → Int → Value → Addr → Mem → Option (Bool × Mem)) {P : (Bool × Mem) → Prop} (I : Nat → Addr → Bool → Option Addr → Int → Value → Addr → Int → Mem → Prop)
    (step : ∀ d (nx : Addr → Bool → Option Addr → Int → Value → Addr → Int → Mem → Option (Bool × Mem)) (x3 : Addr) (x7 : Bool) (x8 : Option Addr) (x9 : Int) (x11 : Value) (x14 : Addr) (x16 : Int) (m : Mem), I d x3 x7 x8 x9 x11 x14 x16 m → (∀ d' (x3 : Addr) (x7 : Bool) (x8 : Option Addr) (x9 : Int) (x11 : Value) (x14 : Addr) (x16 : Int) (m : Mem), d' < d → I d' x3 x7 x8 x9 x11 x14 x16 m → Ok (nx x3 x7 x8 x9 x11 x14 x16 m) P) → Ok (patinalaw08_MediaCuts_l2_b k nx kx0 kx4 x3 x7 x8 x9 x11 x14 x16 m) P) :
    ∀ n d (x3 : Addr) (x7 : Bool) (x8 : Option Addr) (x9 : Int) (x11 : Value) (x14 : Addr) (x16 : Int) (m : Mem), d < n → I d x3 x7 x8 x9 x11 x14 x16 m → Ok (patinalaw08_MediaCuts_l2 k kx0 kx4 n x3 x7 x8 x9 x11 x14 x16 m) P
  | 0, d, x3, x7, x8, x9, x11, x14, x16, m, h, _ => absurd h (Nat.not_lt_zero _)
  | n + 1, d, x3, x7, x8, x9, x11, x14, x16, m, h, hI => step d _ x3 x7 x8 x9 x11 x14 x16 m hI fun d' x3 x7 x8 x9 x11 x14 x16 m h' hI' => patinalaw08_MediaCuts_l2_rule k kx0 kx4 I step n d' x3 x7 x8 x9 x11 x14 x16 m (by omega) hI'

def patinalaw08_MediaCuts_j1 (k : Nat) (x3 : Addr) (x7 : Bool) (x8 : Option Addr) (x9 : Int) (x11 : Value) (x14 : Addr) (x20 : Int) (nx : Addr → Bool → Option Addr → Int → Value → Addr → Int → Mem → Option (Bool × Mem)) (mj : Mem) : Option (Bool × Mem) :=
  nx x3 x7 x8 x9 x11 x14 (IntKind.wrap .i64 (x20 + 1)) mj

def patinalaw08_MediaCuts_l4_b (k : Nat) (nx : Addr → Bool → Option Addr → Int → Value → Addr → Int → Mem → Option (Bool × Mem)) (kx0 : Bool → Mem → Option (Bool × Mem)) (kx6 : Addr → Bool → Int → Value → Addr → Mem → Option (Bool × Mem)) (x3 : Addr) (x7 : Bool) (x8 : Option Addr) (x9 : Int) (x11 : Value) (x14 : Addr) (x20 : Int) (m : Mem) : Option (Bool × Mem) :=
  bif decide (x20 < 96) then (
  (ldInt .i64 m (plus x3 0)).bind fun t48 =>
  bif x20 == t48 then (
  patinalaw08_MediaCuts_j1 k x3 x7 x8 x9 x11 x14 x20 nx m) else (
  (x8).bind fun a49 =>
  (ldPtr m (plus a49 0)).bind fun t50 =>
  (nand_Chip_Truth k t50 x20 0 m).bind fun r51 =>
  (isNil r51.2.2.1).bind fun b52 =>
  bif !b52 then (
  kx0 false r51.2.2.2) else (
  bif r51.2.1 then (
  kx0 false r51.2.2.2) else (
  patinalaw08_MediaCuts_j1 k x3 x7 x8 x9 x11 x14 x20 nx r51.2.2.2)))) else (
  kx6 x3 x7 x9 x11 x14 m)

def patinalaw08_MediaCuts_l4 (k : Nat) (kx0 : Bool → Mem → Option (Bool × Mem)) (kx6 : Addr → Bool → Int → Value → Addr → Mem → Option (Bool × Mem)) : Nat → Addr → Bool → Option Addr → Int → Value → Addr → Int → Mem → Option (Bool × Mem)
  | 0, _, _, _, _, _, _, _, _ => none
  | n + 1, x3, x7, x8, x9, x11, x14, x20, m => patinalaw08_MediaCuts_l4_b k (fun x3 x7 x8 x9 x11 x14 x20 m => patinalaw08_MediaCuts_l4 k kx0 kx6 n x3 x7 x8 x9 x11 x14 x20 m) kx0 kx6 x3 x7 x8 x9 x11 x14 x20 m
termination_by structural x => x

theorem patinalaw08_MediaCuts_l4_rule (k : Nat) (kx0 : Bool → Mem → Option (Bool × Mem)) (kx6 : Addr → Bool → Int → Value → Addr → Mem → Option (Bool × Mem)) {P : (Bool × Mem) → Prop} (I : Nat → Addr → Bool → Option Addr → Int → Value → Addr → Int → Mem → Prop)
    (step : ∀ d (nx : Addr → Bool → Option Addr → Int → Value → Addr → Int → Mem → Option (Bool × Mem)) (x3 : Addr) (x7 : Bool) (x8 : Option Addr) (x9 : Int) (x11 : Value) (x14 : Addr) (x20 : Int) (m : Mem), I d x3 x7 x8 x9 x11 x14 x20 m → (∀ d' (x3 : Addr) (x7 : Bool) (x8 : Option Addr) (x9 : Int) (x11 : Value) (x14 : Addr) (x20 : Int) (m : Mem), d' < d → I d' x3 x7 x8 x9 x11 x14 x20 m → Ok (nx x3 x7 x8 x9 x11 x14 x20 m) P) → Ok (patinalaw08_MediaCuts_l4_b k nx kx0 kx6 x3 x7 x8 x9 x11 x14 x20 m) P) :
    ∀ n d (x3 : Addr) (x7 : Bool) (x8 : Option Addr) (x9 : Int) (x11 : Value) (x14 : Addr) (x20 : Int) (m : Mem), d < n → I d x3 x7 x8 x9 x11 x14 x20 m → Ok (patinalaw08_MediaCuts_l4 k kx0 kx6 n x3 x7 x8 x9 x11 x14 x20 m) P
  | 0, d, x3, x7, x8, x9, x11, x14, x20, m, h, _ => absurd h (Nat.not_lt_zero _)
  | n + 1, d, x3, x7, x8, x9, x11, x14, x20, m, h, hI => step d _ x3 x7 x8 x9 x11 x14 x20 m hI fun d' x3 x7 x8 x9 x11 x14 x20 m h' hI' => patinalaw08_MediaCuts_l4_rule k kx0 kx6 I step n d' x3 x7 x8 x9 x11 x14 x20 m (by omega) hI'

def patinalaw08_MediaCuts (k : Nat) (p0 : List Value) (p1 : Int) (p2a : Option Addr) (p2n : Nat) (p2c : Nat) (m : Mem) : Option (Bool × Mem) :=
  bif Nat.beq (List.length p0) 5 then (
  let m1 : Mem := m ++ [.live p0]
  (patinalaw08_shown k  m1).bind fun r2 =>
  (patinalaw08_begun k  r2.2).bind fun r3 =>
  bif Option.isNone r3.1 then (
  some (false, r3.2)) else (
  (patinalaw08_pick k p1 6 r3.2).bind fun r4 =>
  (r3.1).bind fun a5 =>
  (ldPtr r4.2 (plus a5 0)).bind fun t6 =>
  (nand_Chip_Cut k t6 r4.1 r4.2).bind fun r7 =>
  (r3.1).bind fun a8 =>
  (ldPtr r7.2 (plus a8 1)).bind fun t9 =>
  (ldInt .i64 r7.2 (plus ⟨List.length m, 0, Option.none⟩ 0)).bind fun t10 =>
  (ldCells r7.2 ⟨List.length m, 0, Option.none⟩ 5).bind fun t11 =>
  (patinalaw08_data k 174 9 r7.2).bind fun r12 =>
  (media_Media_Program k t9 t10 t11 r12.1.a r12.1.len r12.1.cap r12.2).bind fun r13 =>
  (ldPtr r12.2 (plus a8 1)).bind fun t14 =>
  bif decide (t14 = t9) then (
  (ldInt .i64 r12.2 (plus ⟨List.length m, 0, Option.none⟩ 0)).bind fun t15 =>
  bif t15 == t10 then (
  (ldCells r12.2 ⟨List.length m, 0, Option.none⟩ 5).bind fun t16 =>
  bif veqs t16 t11 then (
  (isNil r7.1).bind fun b17 =>
  bif !b17 then (
  some (false, r13.2)) else (
  (ifEq tt r13.1 (Value.iface ty_api_Code (Value.int .i64 1))).bind fun b18 =>
  bif b18 then (
  some (r2.1, r13.2)) else (
  (r3.1).bind fun a19 =>
  (ldPtr r13.2 (plus a19 0)).bind fun t20 =>
  (nand_Chip_Power k t20 r13.2).bind fun r21 =>
  patinalaw08_MediaCuts_l0 k (fun y6 m32 => 
  some (y6, m32)) (fun y3 y7 y8 y9 y11 m33 => 
  (y8).bind fun a34 =>
  (ldPtr m33 (plus a34 1)).bind fun t35 =>
  (ldInt .i64 m33 (plus y3 0)).bind fun t36 =>
  (media_Media_Read k t35 t36 m33).bind fun r37 =>
  let m38 : Mem := r37.2.2 ++ [.live [.bool false, .int .i64 0, .int .i64 0, .int .i64 0, .int .i64 0, .bool false, .bool false, .slice none 0 0, .int .i64 0]]
  bif Nat.beq (List.length r37.1) 9 then (
  (stCells m38 ⟨List.length r37.2.2, 0, Option.none⟩ r37.1).bind fun m39 =>
  (isNil r37.2.1).bind fun b40 =>
  bif !b40 then (
  some (false, m39)) else (
  patinalaw08_MediaCuts_l2 k (fun y6 m46 => 
  some (y6, m46)) (fun y3 y7 y8 y9 y11 y14 m47 => 
  patinalaw08_MediaCuts_l4 k (fun y6 m53 => 
  some (y6, m53)) (fun y3 y7 y9 y11 y14 m54 => 
  bif decide (y9 < 4) then (
  bif y7 then (
  (ifEq tt y11 (Value.iface ty_api_Code (Value.int .i64 7))).bind fun b55 =>
  bif b55 then (
  (ldBool m54 (plus y14 0)).bind fun t56 =>
  bif !t56 then (
  (ldBool m54 (plus y14 6)).bind fun t57 =>
  some (!t57, m54)) else (
  some (false, m54))) else (
  some (false, m54))) else (
  some (false, m54))) else (
  bif y7 then (
  (isNil y11).bind fun b58 =>
  bif b58 then (
  (ldBool m54 (plus y14 0)).bind fun t59 =>
  bif !t59 then (
  some (true, m54)) else (
  (ldCells m54 (plus y14 1) 5).bind fun t60 =>
  (ldCells m54 y3 5).bind fun t61 =>
  (cellsEq (eqK tt 23) t60 t61).bind fun b62 =>
  some (b62, m54))) else (
  some (false, m54))) else (
  some (false, m54)))) k y3 y7 y8 y9 y11 y14 0 m47) k y3 y7 y8 y9 y11 ⟨List.length r37.2.2, 0, Option.none⟩ 0 m39)) else none) k p2a p2n p2c ⟨List.length m, 0, Option.none⟩ r2.1 r3.1 r4.1 r13.1 0 r21))) else none) else none) else none)) else none

def patinalaw08_MediaCuts_call {R : Type} (k : Nat) : Fun R := callCons 5 (patinalaw08_shown_arm k) (callCons 6 (patinalaw08_begun_arm k) (callCons 7 (patinalaw08_data_arm k) (callCons 8 (media_Media_Program_arm k) (callCons 9 (nand_Chip_Flip_arm k) (callCons 10 (patinalaw08_pick_arm k) (callCons 12 (media_Media_Read_arm k) (callCons 14 (nand_Chip_Cut_arm k) (callCons 15 (nand_Chip_Power_arm k) (callCons 16 (nand_Chip_Truth_arm k) (callNil))))))))))

theorem patinalaw08_MediaCuts_callOk {R : Type} (k : Nat) : CallOk Try.prog (patinalaw08_MediaCuts_call (R := R) k) := callOk_cons (patinalaw08_shown_armOk k) (callOk_cons (patinalaw08_begun_armOk k) (callOk_cons (patinalaw08_data_armOk k) (callOk_cons (media_Media_Program_armOk k) (callOk_cons (nand_Chip_Flip_armOk k) (callOk_cons (patinalaw08_pick_armOk k) (callOk_cons (media_Media_Read_armOk k) (callOk_cons (nand_Chip_Cut_armOk k) (callOk_cons (nand_Chip_Power_armOk k) (callOk_cons (nand_Chip_Truth_armOk k) (callOk_nil))))))))))

def patinalaw08_MediaCuts_l0_L (k : Nat) (K : Nat → List Value → Mem → Option (Bool × Mem)) (n : Nat) (vs : List Value) (m : Mem) : Option (Bool × Mem) := match vs with
  | [.slice x2a x2n x2c, .pointer (some x3), .bool x7, .pointer x8, .int .i64 x9, x11, .int .i64 x12] => patinalaw08_MediaCuts_l0 k (fun y6 m => K 0 [(Value.bool y6)] m) (fun y3 y7 y8 y9 y11 m => K 2 [(Value.pointer (some y3)), (Value.bool y7), (Value.pointer y8), (Value.int .i64 y9), y11] m) n x2a x2n x2c x3 x7 x8 x9 x11 x12 m
  | _ => none

def patinalaw08_MediaCuts_l2_L (k : Nat) (K : Nat → List Value → Mem → Option (Bool × Mem)) (n : Nat) (vs : List Value) (m : Mem) : Option (Bool × Mem) := match vs with
  | [.pointer (some x3), .bool x7, .pointer x8, .int .i64 x9, x11, .pointer (some x14), .int .i64 x16] => patinalaw08_MediaCuts_l2 k (fun y6 m => K 0 [(Value.bool y6)] m) (fun y3 y7 y8 y9 y11 y14 m => K 4 [(Value.pointer (some y3)), (Value.bool y7), (Value.pointer y8), (Value.int .i64 y9), y11, (Value.pointer (some y14))] m) n x3 x7 x8 x9 x11 x14 x16 m
  | _ => none

def patinalaw08_MediaCuts_l4_L (k : Nat) (K : Nat → List Value → Mem → Option (Bool × Mem)) (n : Nat) (vs : List Value) (m : Mem) : Option (Bool × Mem) := match vs with
  | [.pointer (some x3), .bool x7, .pointer x8, .int .i64 x9, x11, .pointer (some x14), .int .i64 x20] => patinalaw08_MediaCuts_l4 k (fun y6 m => K 0 [(Value.bool y6)] m) (fun y3 y7 y9 y11 y14 m => K 6 [(Value.pointer (some y3)), (Value.bool y7), (Value.int .i64 y9), y11, (Value.pointer (some y14))] m) n x3 x7 x8 x9 x11 x14 x20 m
  | _ => none

def patinalaw08_MediaCuts_loop (k : Nat) : Nat → List Value → Mem → (Nat → List Value → Mem → Option (Bool × Mem)) → Option (Bool × Mem) := fun cur vs m K => match cur with
  | 0 => patinalaw08_MediaCuts_l0_L k K k vs m
  | 2 => patinalaw08_MediaCuts_l2_L k K k vs m
  | 4 => patinalaw08_MediaCuts_l4_L k K k vs m
  | _ => none

def patinalaw08_MediaCuts_C (k : Nat) : Ctx (Bool × Mem) := ⟨tt, patinalaw08_MediaCuts_call k, patinalaw08_MediaCuts_loop k, [(0, [2, 3, 7, 8, 9, 11, 12]), (2, [3, 7, 8, 9, 11, 14, 16]), (4, [3, 7, 8, 9, 11, 14, 20])], [(0, [6]), (2, [3, 7, 8, 9, 11]), (4, [3, 7, 8, 9, 11, 14]), (6, [3, 7, 9, 11, 14])]⟩

noncomputable def patinalaw08_MediaCuts_l0_c : Code := ((loopsOf 0 (body Try.f4)).map (·.2)).getD 0 .skip

noncomputable def patinalaw08_MediaCuts_l2_c : Code := ((loopsOf 0 (body Try.f4)).map (·.2)).getD 1 .skip

noncomputable def patinalaw08_MediaCuts_l4_c : Code := ((loopsOf 0 (body Try.f4)).map (·.2)).getD 2 .skip

theorem patinalaw08_MediaCuts_loops : loopsOf 0 (body Try.f4) = [(0, patinalaw08_MediaCuts_l0_c), (2, patinalaw08_MediaCuts_l2_c), (4, patinalaw08_MediaCuts_l4_c)] := by kernel_rfl

theorem patinalaw08_MediaCuts_l0_ok (k : Nat) : LoopOk (patinalaw08_MediaCuts_C k) 0 patinalaw08_MediaCuts_l0_c := by
  refine ⟨[2, 3, 7, 8, 9, 11, 12], by kernel_rfl, fun K r => ⟨patinalaw08_MediaCuts_l0_L k K, fun vs m h => ⟨k, h⟩, ?_⟩⟩
  intro n vs m h
  unfold patinalaw08_MediaCuts_l0_L at h
  split at h
  · cases n with
    | zero => cases h
    | succ n => exact ⟨n, rfl, Eq.trans (by kernel_rfl) h⟩
  · cases h

theorem patinalaw08_MediaCuts_l2_ok (k : Nat) : LoopOk (patinalaw08_MediaCuts_C k) 2 patinalaw08_MediaCuts_l2_c := by
  refine ⟨[3, 7, 8, 9, 11, 14, 16], by kernel_rfl, fun K r => ⟨patinalaw08_MediaCuts_l2_L k K, fun vs m h => ⟨k, h⟩, ?_⟩⟩
  intro n vs m h
  unfold patinalaw08_MediaCuts_l2_L at h
  split at h
  · cases n with
    | zero => cases h
    | succ n => exact ⟨n, rfl, Eq.trans (by kernel_rfl) h⟩
  · cases h

theorem patinalaw08_MediaCuts_l4_ok (k : Nat) : LoopOk (patinalaw08_MediaCuts_C k) 4 patinalaw08_MediaCuts_l4_c := by
  refine ⟨[3, 7, 8, 9, 11, 14, 20], by kernel_rfl, fun K r => ⟨patinalaw08_MediaCuts_l4_L k K, fun vs m h => ⟨k, h⟩, ?_⟩⟩
  intro n vs m h
  unfold patinalaw08_MediaCuts_l4_L at h
  split at h
  · cases n with
    | zero => cases h
    | succ n => exact ⟨n, rfl, Eq.trans (by kernel_rfl) h⟩
  · cases h

def patinalaw08_MediaCuts_dec : Value → Mem → Option (Bool × Mem) := fun v m => match v with
  | .bool q0 => some (q0, m)
  | _ => none

theorem patinalaw08_MediaCuts_eq (k : Nat) (p0 : List Value) (p1 : Int) (p2a : Option Addr) (p2n : Nat) (p2c : Nat) (m : Mem) : fnX (patinalaw08_MediaCuts_C k) Try.f4 [(Value.agg ⟨p0⟩), (Value.int .i64 p1), (Value.slice p2a p2n p2c)] m patinalaw08_MediaCuts_dec = patinalaw08_MediaCuts k p0 p1 p2a p2n p2c m := by kernel_rfl

theorem patinalaw08_MediaCuts_ok {k : Nat} {p0 : List Value} {p1 : Int} {p2a : Option Addr} {p2n : Nat} {p2c : Nat} {m : Mem} {r : (Bool × Mem)} (h : patinalaw08_MediaCuts k p0 p1 p2a p2n p2c m = some r) : CallP Try.prog 4 [(Value.agg ⟨p0⟩), (Value.int .i64 p1), (Value.slice p2a p2n p2c)] m fun v m' => v = (Value.bool r.1) ∧ m' = r.2 := by
  refine (fn_sound (C := patinalaw08_MediaCuts_C k) (c := body Try.f4) tOk mixed (patinalaw08_MediaCuts_callOk k) Try.func4 (by kernel_rfl) (by kernel_rfl) (by kernel_rfl) (by kernel_rfl) ?_ ?_ (Eq.trans (patinalaw08_MediaCuts_eq k p0 p1 p2a p2n p2c m) h)).mono ?_
  · intro p hp
    rw [patinalaw08_MediaCuts_loops] at hp
    simp only [List.mem_cons, List.not_mem_nil, or_false] at hp
    rcases hp with rfl | rfl | rfl
    · exact patinalaw08_MediaCuts_l0_ok k
    · exact patinalaw08_MediaCuts_l2_ok k
    · exact patinalaw08_MediaCuts_l4_ok k
  · intro p hp; rw [show rangesOf 0 (body Try.f4) = [] by kernel_rfl] at hp; cases hp
  · intro v m' hp
    unfold patinalaw08_MediaCuts_dec at hp
    split at hp
    · simp only [Option.some.injEq] at hp; subst hp; exact ⟨rfl, rfl⟩
    · cases hp

def patinalaw08_MediaCuts_arm {R : Type} (k : Nat) : Arm R := fun vs m K => match vs with
  | [.agg ⟨p0⟩, .int .i64 p1, .slice p2a p2n p2c] => (patinalaw08_MediaCuts k p0 p1 p2a p2n p2c m).bind fun r => K (Value.bool r.1) r.2
  | _ => none

theorem patinalaw08_MediaCuts_armOk {R : Type} (k : Nat) : ArmOk Try.prog 4 (patinalaw08_MediaCuts_arm (R := R) k) := by
  intro vs m K r h
  unfold patinalaw08_MediaCuts_arm at h
  split at h
  · obtain ⟨r, h1, h2⟩ := Option.bind_eq_some_iff.1 h; exact ⟨_, _, h2, fun K' => by simp only [patinalaw08_MediaCuts_arm, h1, Option.bind_some], patinalaw08_MediaCuts_ok h1⟩
  · cases h

end Go.Proofs.Ytchonnaoojpdoaa
