/- The program's functions as plain Lean functions over a clean memory, each held against the program by the kernel. Written by mx.py. -/
import Derived.Test.YtoljgolgecbcdabF0
import Derived.Test.YtoljgolgecbcdabFfield
import Derived.Test.YtoljgolgecbcdabFpatinalaw02
import Derived.Test.YtoljgolgecbcdabFpatinaref01
import Derived.Test.YtoljgolgecbcdabFrs
set_option linter.unusedVariables false
set_option maxRecDepth 100000
namespace Go.Proofs.Ytoljgolgecbcdab
open Go.Mx

/-! ### patinalaw02_RsRoots -/
def patinalaw02_RsRoots_l0_b (k : Nat) (nx : Option Addr → Nat → Nat → Bool → Option Addr → Option Addr → Option Addr → Nat → Nat → Option Addr → Nat → Nat → Option Addr → Nat → Nat → Int → Mem → Option (Bool × Mem)) (kx2 : Option Addr → Nat → Nat → Bool → Option Addr → Option Addr → Option Addr → Nat → Nat → Mem → Option (Bool × Mem)) (x2a : Option Addr) (x2n : Nat) (x2c : Nat) (x7 : Bool) (x8 : Option Addr) (x9 : Option Addr) (x10a : Option Addr) (x10n : Nat) (x10c : Nat) (x12a : Option Addr) (x12n : Nat) (x12c : Nat) (x14a : Option Addr) (x14n : Nat) (x14c : Nat) (x15 : Int) (m : Mem) : Option (Bool × Mem) :=
  bif decide (x15 < 64) then (
  bif inRange x15 x10n then (
  (x10a).bind fun a10 =>
  (ldInt .u8 m (plus a10 (Int.toNat x15 * 1))).bind fun t11 =>
  bif inRange x15 x12n then (
  (x12a).bind fun a12 =>
  (ldInt .u8 m (plus a12 (Int.toNat x15 * 1))).bind fun t13 =>
  let m14 : Mem := m ++ [.live [(Value.int .u8 (bitI .xor .u8 t11 t13))]]
  (rdSl m14 (some ⟨List.length m, 0, Option.none⟩) 1 1).bind fun l15 =>
  (appM 1 1 m14 x14a x14n x14c 1 l15).bind fun r16 =>
  nx x2a x2n x2c x7 x8 x9 x10a x10n x10c x12a x12n x12c r16.1.a r16.1.len r16.1.cap (IntKind.wrap .i64 (x15 + 1)) r16.2) else none) else none) else (
  kx2 x2a x2n x2c x7 x8 x9 x14a x14n x14c m)

def patinalaw02_RsRoots_l0 (k : Nat) (kx2 : Option Addr → Nat → Nat → Bool → Option Addr → Option Addr → Option Addr → Nat → Nat → Mem → Option (Bool × Mem)) : Nat → Option Addr → Nat → Nat → Bool → Option Addr → Option Addr → Option Addr → Nat → Nat → Option Addr → Nat → Nat → Option Addr → Nat → Nat → Int → Mem → Option (Bool × Mem)
  | 0, _, _, _, _, _, _, _, _, _, _, _, _, _, _, _, _, _ => none
  | n + 1, x2a, x2n, x2c, x7, x8, x9, x10a, x10n, x10c, x12a, x12n, x12c, x14a, x14n, x14c, x15, m => patinalaw02_RsRoots_l0_b k (fun x2a x2n x2c x7 x8 x9 x10a x10n x10c x12a x12n x12c x14a x14n x14c x15 m => patinalaw02_RsRoots_l0 k kx2 n x2a x2n x2c x7 x8 x9 x10a x10n x10c x12a x12n x12c x14a x14n x14c x15 m) kx2 x2a x2n x2c x7 x8 x9 x10a x10n x10c x12a x12n x12c x14a x14n x14c x15 m

theorem patinalaw02_RsRoots_l0_rule (k : Nat) (kx2 : Option Addr → Nat → Nat → Bool → Option Addr → Option Addr → Option Addr → Nat → Nat → Mem → Option (Bool × Mem)) {P : (Bool × Mem) → Prop} (I : Nat → Option Addr → Nat → Nat → Bool → Option Addr → Option Addr → Option Addr → Nat → Nat → Option Addr → Nat → Nat → Option Addr → Nat → Nat → Int → Mem → Prop)
    (step : ∀ d (nx : Option Addr → Nat → Nat → Bool → Option Addr → Option Addr → Option Addr → Nat → Nat → Option Addr → Nat → Nat → Option Addr → Nat → Nat → Int → Mem → Option (Bool × Mem)) (x2a : Option Addr) (x2n : Nat) (x2c : Nat) (x7 : Bool) (x8 : Option Addr) (x9 : Option Addr) (x10a : Option Addr) (x10n : Nat) (x10c : Nat) (x12a : Option Addr) (x12n : Nat) (x12c : Nat) (x14a : Option Addr) (x14n : Nat) (x14c : Nat) (x15 : Int) (m : Mem), I d x2a x2n x2c x7 x8 x9 x10a x10n x10c x12a x12n x12c x14a x14n x14c x15 m → (∀ d' (x2a : Option Addr) (x2n : Nat) (x2c : Nat) (x7 : Bool) (x8 : Option Addr) (x9 : Option Addr) (x10a : Option Addr) (x10n : Nat) (x10c : Nat) (x12a : Option Addr) (x12n : Nat) (x12c : Nat) (x14a : Option Addr) (x14n : Nat) (x14c : Nat) (x15 : Int) (m : Mem), d' < d → I d' x2a x2n x2c x7 x8 x9 x10a x10n x10c x12a x12n x12c x14a x14n x14c x15 m → Ok (nx x2a x2n x2c x7 x8 x9 x10a x10n x10c x12a x12n x12c x14a x14n x14c x15 m) P) → Ok (patinalaw02_RsRoots_l0_b k nx kx2 x2a x2n x2c x7 x8 x9 x10a x10n x10c x12a x12n x12c x14a x14n x14c x15 m) P) :
    ∀ n d (x2a : Option Addr) (x2n : Nat) (x2c : Nat) (x7 : Bool) (x8 : Option Addr) (x9 : Option Addr) (x10a : Option Addr) (x10n : Nat) (x10c : Nat) (x12a : Option Addr) (x12n : Nat) (x12c : Nat) (x14a : Option Addr) (x14n : Nat) (x14c : Nat) (x15 : Int) (m : Mem), d < n → I d x2a x2n x2c x7 x8 x9 x10a x10n x10c x12a x12n x12c x14a x14n x14c x15 m → Ok (patinalaw02_RsRoots_l0 k kx2 n x2a x2n x2c x7 x8 x9 x10a x10n x10c x12a x12n x12c x14a x14n x14c x15 m) P
  | 0, d, x2a, x2n, x2c, x7, x8, x9, x10a, x10n, x10c, x12a, x12n, x12c, x14a, x14n, x14c, x15, m, h, _ => absurd h (Nat.not_lt_zero _)
  | n + 1, d, x2a, x2n, x2c, x7, x8, x9, x10a, x10n, x10c, x12a, x12n, x12c, x14a, x14n, x14c, x15, m, h, hI => step d _ x2a x2n x2c x7 x8 x9 x10a x10n x10c x12a x12n x12c x14a x14n x14c x15 m hI fun d' x2a x2n x2c x7 x8 x9 x10a x10n x10c x12a x12n x12c x14a x14n x14c x15 m h' hI' => patinalaw02_RsRoots_l0_rule k kx2 I step n d' x2a x2n x2c x7 x8 x9 x10a x10n x10c x12a x12n x12c x14a x14n x14c x15 m (by omega) hI'

def patinalaw02_RsRoots_j1 (k : Nat) (x7 : Bool) (x9 : Option Addr) (x16a : Option Addr) (x16n : Nat) (x16c : Nat) (x17 : Int) (x18a : Option Addr) (x18n : Nat) (x18c : Nat) (x20a : Option Addr) (x20n : Nat) (x20c : Nat) (x23 : Int) (nx : Bool → Option Addr → Option Addr → Nat → Nat → Int → Option Addr → Nat → Nat → Option Addr → Nat → Nat → Bool → Int → Mem → Option (Bool × Mem)) (x22_ : Bool) (mj : Mem) : Option (Bool × Mem) :=
  nx x7 x9 x16a x16n x16c x17 x18a x18n x18c x20a x20n x20c x22_ (IntKind.wrap .i64 (x23 + 1)) mj

def patinalaw02_RsRoots_l2_b (k : Nat) (nx : Bool → Option Addr → Option Addr → Nat → Nat → Int → Option Addr → Nat → Nat → Option Addr → Nat → Nat → Bool → Int → Mem → Option (Bool × Mem)) (kx0 : Bool → Mem → Option (Bool × Mem)) (kx4 : Bool → Option Addr → Nat → Nat → Int → Option Addr → Nat → Nat → Bool → Mem → Option (Bool × Mem)) (x7 : Bool) (x9 : Option Addr) (x16a : Option Addr) (x16n : Nat) (x16c : Nat) (x17 : Int) (x18a : Option Addr) (x18n : Nat) (x18c : Nat) (x20a : Option Addr) (x20n : Nat) (x20c : Nat) (x22 : Bool) (x23 : Int) (m : Mem) : Option (Bool × Mem) :=
  bif decide (x23 < 6) then (
  bif x22 then (
  bif inRange x23 x18n then (
  (x18a).bind fun a23 =>
  (ldInt .u8 m (plus a23 (Int.toNat x23 * 1))).bind fun t24 =>
  bif inRange x23 x18n then (
  (x18a).bind fun a25 =>
  (ldInt .u8 m (plus a25 (Int.toNat x23 * 1))).bind fun t26 =>
  (field_Field_Exp k x9 x23 m).bind fun r27 =>
  (field_Field_Eval k x9 x16a x16n x16c r27.1 r27.2).bind fun r28 =>
  (ldInt .u8 r27.2 (plus a25 (Int.toNat x23 * 1))).bind fun t29 =>
  bif t29 == t26 then (
  (ldInt .u8 r28.2 (plus a25 (Int.toNat x23 * 1))).bind fun t30 =>
  bif t30 == t26 then (
  bif t26 != r28.1 then (
  kx0 false r28.2) else (
  patinalaw02_RsRoots_j1 k x7 x9 x16a x16n x16c x17 x18a x18n x18c x20a x20n x20c x23 nx (t24 == 0) r28.2)) else none) else none) else none) else none) else (
  bif inRange x23 x18n then (
  (x18a).bind fun a31 =>
  (ldInt .u8 m (plus a31 (Int.toNat x23 * 1))).bind fun t32 =>
  (field_Field_Exp k x9 x23 m).bind fun r33 =>
  (field_Field_Eval k x9 x16a x16n x16c r33.1 r33.2).bind fun r34 =>
  (ldInt .u8 r33.2 (plus a31 (Int.toNat x23 * 1))).bind fun t35 =>
  bif t35 == t32 then (
  (ldInt .u8 r34.2 (plus a31 (Int.toNat x23 * 1))).bind fun t36 =>
  bif t36 == t32 then (
  bif t32 != r34.1 then (
  kx0 false r34.2) else (
  patinalaw02_RsRoots_j1 k x7 x9 x16a x16n x16c x17 x18a x18n x18c x20a x20n x20c x23 nx false r34.2)) else none) else none) else none)) else (
  kx4 x7 x16a x16n x16c x17 x20a x20n x20c x22 m)

def patinalaw02_RsRoots_l2 (k : Nat) (kx0 : Bool → Mem → Option (Bool × Mem)) (kx4 : Bool → Option Addr → Nat → Nat → Int → Option Addr → Nat → Nat → Bool → Mem → Option (Bool × Mem)) : Nat → Bool → Option Addr → Option Addr → Nat → Nat → Int → Option Addr → Nat → Nat → Option Addr → Nat → Nat → Bool → Int → Mem → Option (Bool × Mem)
  | 0, _, _, _, _, _, _, _, _, _, _, _, _, _, _, _ => none
  | n + 1, x7, x9, x16a, x16n, x16c, x17, x18a, x18n, x18c, x20a, x20n, x20c, x22, x23, m => patinalaw02_RsRoots_l2_b k (fun x7 x9 x16a x16n x16c x17 x18a x18n x18c x20a x20n x20c x22 x23 m => patinalaw02_RsRoots_l2 k kx0 kx4 n x7 x9 x16a x16n x16c x17 x18a x18n x18c x20a x20n x20c x22 x23 m) kx0 kx4 x7 x9 x16a x16n x16c x17 x18a x18n x18c x20a x20n x20c x22 x23 m

theorem patinalaw02_RsRoots_l2_rule (k : Nat) (kx0 : Bool → Mem → Option (Bool × Mem)) (kx4 : Bool → Option Addr → Nat → Nat → Int → Option Addr → Nat → Nat → Bool → Mem → Option (Bool × Mem)) {P : (Bool × Mem) → Prop} (I : Nat → Bool → Option Addr → Option Addr → Nat → Nat → Int → Option Addr → Nat → Nat → Option Addr → Nat → Nat → Bool → Int → Mem → Prop)
    (step : ∀ d (nx : Bool → Option Addr → Option Addr → Nat → Nat → Int → Option Addr → Nat → Nat → Option Addr → Nat → Nat → Bool → Int → Mem → Option (Bool × Mem)) (x7 : Bool) (x9 : Option Addr) (x16a : Option Addr) (x16n : Nat) (x16c : Nat) (x17 : Int) (x18a : Option Addr) (x18n : Nat) (x18c : Nat) (x20a : Option Addr) (x20n : Nat) (x20c : Nat) (x22 : Bool) (x23 : Int) (m : Mem), I d x7 x9 x16a x16n x16c x17 x18a x18n x18c x20a x20n x20c x22 x23 m → (∀ d' (x7 : Bool) (x9 : Option Addr) (x16a : Option Addr) (x16n : Nat) (x16c : Nat) (x17 : Int) (x18a : Option Addr) (x18n : Nat) (x18c : Nat) (x20a : Option Addr) (x20n : Nat) (x20c : Nat) (x22 : Bool) (x23 : Int) (m : Mem), d' < d → I d' x7 x9 x16a x16n x16c x17 x18a x18n x18c x20a x20n x20c x22 x23 m → Ok (nx x7 x9 x16a x16n x16c x17 x18a x18n x18c x20a x20n x20c x22 x23 m) P) → Ok (patinalaw02_RsRoots_l2_b k nx kx0 kx4 x7 x9 x16a x16n x16c x17 x18a x18n x18c x20a x20n x20c x22 x23 m) P) :
    ∀ n d (x7 : Bool) (x9 : Option Addr) (x16a : Option Addr) (x16n : Nat) (x16c : Nat) (x17 : Int) (x18a : Option Addr) (x18n : Nat) (x18c : Nat) (x20a : Option Addr) (x20n : Nat) (x20c : Nat) (x22 : Bool) (x23 : Int) (m : Mem), d < n → I d x7 x9 x16a x16n x16c x17 x18a x18n x18c x20a x20n x20c x22 x23 m → Ok (patinalaw02_RsRoots_l2 k kx0 kx4 n x7 x9 x16a x16n x16c x17 x18a x18n x18c x20a x20n x20c x22 x23 m) P
  | 0, d, x7, x9, x16a, x16n, x16c, x17, x18a, x18n, x18c, x20a, x20n, x20c, x22, x23, m, h, _ => absurd h (Nat.not_lt_zero _)
  | n + 1, d, x7, x9, x16a, x16n, x16c, x17, x18a, x18n, x18c, x20a, x20n, x20c, x22, x23, m, h, hI => step d _ x7 x9 x16a x16n x16c x17 x18a x18n x18c x20a x20n x20c x22 x23 m hI fun d' x7 x9 x16a x16n x16c x17 x18a x18n x18c x20a x20n x20c x22 x23 m h' hI' => patinalaw02_RsRoots_l2_rule k kx0 kx4 I step n d' x7 x9 x16a x16n x16c x17 x18a x18n x18c x20a x20n x20c x22 x23 m (by omega) hI'

def patinalaw02_RsRoots (k : Nat) (p0a : Option Addr) (p0n : Nat) (p0c : Nat) (p1a : Option Addr) (p1n : Nat) (p1c : Nat) (p2a : Option Addr) (p2n : Nat) (p2c : Nat) (m : Mem) : Option (Bool × Mem) :=
  (patinalaw02_shown k  m).bind fun r1 =>
  (rs_New k  r1.2).bind fun r2 =>
  (field_New k  r2.2).bind fun r3 =>
  bif Option.isNone r2.1 then (
  some (false, r3.2)) else (
  bif Option.isNone r3.1 then (
  some (false, r3.2)) else (
  (patinalaw02_message k p0a p0n p0c r3.2).bind fun r4 =>
  (rs_Codec_Encode k r2.1 r4.1.a r4.1.len r4.1.cap r4.2).bind fun r5 =>
  (patinalaw02_message k p1a p1n p1c r5.2.2).bind fun r6 =>
  (rs_Codec_Encode k r2.1 r6.1.a r6.1.len r6.1.cap r6.2).bind fun r7 =>
  (isNil r5.2.1).bind fun b8 =>
  bif !b8 then (
  some (false, r7.2.2)) else (
  (isNil r7.2.1).bind fun b9 =>
  bif !b9 then (
  some (false, r7.2.2)) else (
  bif ((r5.1.len : Nat) : Int) != 64 then (
  some (false, r7.2.2)) else (
  bif ((r7.1.len : Nat) : Int) != 64 then (
  some (false, r7.2.2)) else (
  patinalaw02_RsRoots_l0 k (fun y2a y2n y2c y7 y8 y9 y14a y14n y14c m17 => 
  (patinalaw02_damage k y14a y14n y14c y2a y2n y2c m17).bind fun r18 =>
  (rs_Codec_Syndromes k y8 r18.1.a r18.1.len r18.1.cap r18.2.2).bind fun r19 =>
  bif inUpto 58 r18.1.cap then (
  (rs_Codec_Encode k y8 (sliceK.clear r18.1.a false) (Int.toNat 58) r18.1.cap r19.2.2).bind fun r20 =>
  (isNil r19.2.1).bind fun b21 =>
  bif !b21 then (
  some (false, r20.2.2)) else (
  (isNil r20.2.1).bind fun b22 =>
  bif !b22 then (
  some (false, r20.2.2)) else (
  bif ((r19.1.len : Nat) : Int) != 6 then (
  some (false, r20.2.2)) else (
  patinalaw02_RsRoots_l2 k (fun y6 m37 => 
  some (y6, m37)) (fun y7 y16a y16n y16c y17 y20a y20n y20c y22 m38 => 
  (patinaref01_Same k y20a y20n y20c y16a y16n y16c m38).bind fun r39 =>
  bif y7 then (
  bif y22 == r39.1 then (
  bif decide (y17 > 0) then (
  bif y17 == 0 then (
  some (true, r39.2)) else (
  bif decide (y17 > 6) then (
  some (true, r39.2)) else (
  some (!r39.1, r39.2)))) else (
  bif r39.1 then (
  bif y17 == 0 then (
  some (true, r39.2)) else (
  bif decide (y17 > 6) then (
  some (true, r39.2)) else (
  some (!r39.1, r39.2)))) else (
  some (false, r39.2)))) else (
  some (false, r39.2))) else (
  some (false, r39.2))) k y7 y9 r18.1.a r18.1.len r18.1.cap r18.2.1 r19.1.a r19.1.len r19.1.cap r20.1.a r20.1.len r20.1.cap true 0 r20.2.2)))) else none) k p2a p2n p2c r1.1 r2.1 r3.1 r5.1.a r5.1.len r5.1.cap r7.1.a r7.1.len r7.1.cap none 0 0 0 r7.2.2))))))

def patinalaw02_RsRoots_call {R : Type} (k : Nat) : Fun R := callCons 8 (patinalaw02_shown_arm k) (callCons 9 (rs_New_arm k) (callCons 11 (rs_Codec_Encode_arm k) (callCons 13 (patinalaw02_message_arm k) (callCons 14 (rs_Codec_Syndromes_arm k) (callCons 15 (patinaref01_Same_arm k) (callCons 17 (field_New_arm k) (callCons 18 (patinalaw02_damage_arm k) (callCons 19 (field_Field_Eval_arm k) (callCons 20 (field_Field_Exp_arm k) (callNil))))))))))

theorem patinalaw02_RsRoots_callOk {R : Type} (k : Nat) : CallOk Try.prog (patinalaw02_RsRoots_call (R := R) k) := callOk_cons (patinalaw02_shown_armOk k) (callOk_cons (rs_New_armOk k) (callOk_cons (rs_Codec_Encode_armOk k) (callOk_cons (patinalaw02_message_armOk k) (callOk_cons (rs_Codec_Syndromes_armOk k) (callOk_cons (patinaref01_Same_armOk k) (callOk_cons (field_New_armOk k) (callOk_cons (patinalaw02_damage_armOk k) (callOk_cons (field_Field_Eval_armOk k) (callOk_cons (field_Field_Exp_armOk k) (callOk_nil))))))))))

def patinalaw02_RsRoots_l0_L (k : Nat) (K : Nat → List Value → Mem → Option (Bool × Mem)) (n : Nat) (vs : List Value) (m : Mem) : Option (Bool × Mem) := match vs with
  | [.slice x2a x2n x2c, .bool x7, .pointer x8, .pointer x9, .slice x10a x10n x10c, .slice x12a x12n x12c, .slice x14a x14n x14c, .int .i64 x15] => patinalaw02_RsRoots_l0 k (fun y2a y2n y2c y7 y8 y9 y14a y14n y14c m => K 2 [(Value.slice y2a y2n y2c), (Value.bool y7), (Value.pointer y8), (Value.pointer y9), (Value.slice y14a y14n y14c)] m) n x2a x2n x2c x7 x8 x9 x10a x10n x10c x12a x12n x12c x14a x14n x14c x15 m
  | _ => none

def patinalaw02_RsRoots_l2_L (k : Nat) (K : Nat → List Value → Mem → Option (Bool × Mem)) (n : Nat) (vs : List Value) (m : Mem) : Option (Bool × Mem) := match vs with
  | [.bool x7, .pointer x9, .slice x16a x16n x16c, .int .i64 x17, .slice x18a x18n x18c, .slice x20a x20n x20c, .bool x22, .int .i64 x23] => patinalaw02_RsRoots_l2 k (fun y6 m => K 0 [(Value.bool y6)] m) (fun y7 y16a y16n y16c y17 y20a y20n y20c y22 m => K 4 [(Value.bool y7), (Value.slice y16a y16n y16c), (Value.int .i64 y17), (Value.slice y20a y20n y20c), (Value.bool y22)] m) n x7 x9 x16a x16n x16c x17 x18a x18n x18c x20a x20n x20c x22 x23 m
  | _ => none

def patinalaw02_RsRoots_loop (k : Nat) : Nat → List Value → Mem → (Nat → List Value → Mem → Option (Bool × Mem)) → Option (Bool × Mem) := fun cur vs m K => match cur with
  | 0 => patinalaw02_RsRoots_l0_L k K k vs m
  | 2 => patinalaw02_RsRoots_l2_L k K k vs m
  | _ => none

def patinalaw02_RsRoots_C (k : Nat) : Ctx (Bool × Mem) := ⟨tt, patinalaw02_RsRoots_call k, patinalaw02_RsRoots_loop k, [(0, [2, 7, 8, 9, 10, 12, 14, 15]), (2, [7, 9, 16, 17, 18, 20, 22, 23])], [(0, [6]), (2, [2, 7, 8, 9, 14]), (4, [7, 16, 17, 20, 22])]⟩

noncomputable def patinalaw02_RsRoots_l0_c : Code := ((loopsOf 0 (body Try.f5)).map (·.2)).getD 0 .skip

noncomputable def patinalaw02_RsRoots_l2_c : Code := ((loopsOf 0 (body Try.f5)).map (·.2)).getD 1 .skip

theorem patinalaw02_RsRoots_loops : loopsOf 0 (body Try.f5) = [(0, patinalaw02_RsRoots_l0_c), (2, patinalaw02_RsRoots_l2_c)] := by kernel_rfl

theorem patinalaw02_RsRoots_l0_ok (k : Nat) : LoopOk (patinalaw02_RsRoots_C k) 0 patinalaw02_RsRoots_l0_c := by
  refine ⟨[2, 7, 8, 9, 10, 12, 14, 15], by kernel_rfl, fun K r => ⟨patinalaw02_RsRoots_l0_L k K, fun vs m h => ⟨k, h⟩, ?_⟩⟩
  intro n vs m h
  unfold patinalaw02_RsRoots_l0_L at h
  split at h
  · cases n with
    | zero => cases h
    | succ n => exact ⟨n, rfl, Eq.trans (by kernel_rfl) h⟩
  · cases h

theorem patinalaw02_RsRoots_l2_ok (k : Nat) : LoopOk (patinalaw02_RsRoots_C k) 2 patinalaw02_RsRoots_l2_c := by
  refine ⟨[7, 9, 16, 17, 18, 20, 22, 23], by kernel_rfl, fun K r => ⟨patinalaw02_RsRoots_l2_L k K, fun vs m h => ⟨k, h⟩, ?_⟩⟩
  intro n vs m h
  unfold patinalaw02_RsRoots_l2_L at h
  split at h
  · cases n with
    | zero => cases h
    | succ n => exact ⟨n, rfl, Eq.trans (by kernel_rfl) h⟩
  · cases h

def patinalaw02_RsRoots_dec : Value → Mem → Option (Bool × Mem) := fun v m => match v with
  | .bool q0 => some (q0, m)
  | _ => none

theorem patinalaw02_RsRoots_eq (k : Nat) (p0a : Option Addr) (p0n : Nat) (p0c : Nat) (p1a : Option Addr) (p1n : Nat) (p1c : Nat) (p2a : Option Addr) (p2n : Nat) (p2c : Nat) (m : Mem) : fnX (patinalaw02_RsRoots_C k) Try.f5 [(Value.slice p0a p0n p0c), (Value.slice p1a p1n p1c), (Value.slice p2a p2n p2c)] m patinalaw02_RsRoots_dec = patinalaw02_RsRoots k p0a p0n p0c p1a p1n p1c p2a p2n p2c m := by kernel_rfl

theorem patinalaw02_RsRoots_ok {k : Nat} {p0a : Option Addr} {p0n : Nat} {p0c : Nat} {p1a : Option Addr} {p1n : Nat} {p1c : Nat} {p2a : Option Addr} {p2n : Nat} {p2c : Nat} {m : Mem} {r : (Bool × Mem)} (h : patinalaw02_RsRoots k p0a p0n p0c p1a p1n p1c p2a p2n p2c m = some r) : CallP Try.prog 5 [(Value.slice p0a p0n p0c), (Value.slice p1a p1n p1c), (Value.slice p2a p2n p2c)] m fun v m' => v = (Value.bool r.1) ∧ m' = r.2 := by
  refine (fn_sound (C := patinalaw02_RsRoots_C k) (c := body Try.f5) tOk mixed (patinalaw02_RsRoots_callOk k) Try.func5 (by kernel_rfl) (by kernel_rfl) (by kernel_rfl) (by kernel_rfl) ?_ (Eq.trans (patinalaw02_RsRoots_eq k p0a p0n p0c p1a p1n p1c p2a p2n p2c m) h)).mono ?_
  · intro p hp
    rw [patinalaw02_RsRoots_loops] at hp
    simp only [List.mem_cons, List.not_mem_nil, or_false] at hp
    rcases hp with rfl | rfl
    · exact patinalaw02_RsRoots_l0_ok k
    · exact patinalaw02_RsRoots_l2_ok k
  · intro v m' hp
    unfold patinalaw02_RsRoots_dec at hp
    split at hp
    · simp only [Option.some.injEq] at hp; subst hp; exact ⟨rfl, rfl⟩
    · cases hp

def patinalaw02_RsRoots_arm {R : Type} (k : Nat) : Arm R := fun vs m K => match vs with
  | [.slice p0a p0n p0c, .slice p1a p1n p1c, .slice p2a p2n p2c] => (patinalaw02_RsRoots k p0a p0n p0c p1a p1n p1c p2a p2n p2c m).bind fun r => K (Value.bool r.1) r.2
  | _ => none

theorem patinalaw02_RsRoots_armOk {R : Type} (k : Nat) : ArmOk Try.prog 5 (patinalaw02_RsRoots_arm (R := R) k) := by
  intro vs m K r h
  unfold patinalaw02_RsRoots_arm at h
  split at h
  · obtain ⟨r, h1, h2⟩ := Option.bind_eq_some_iff.1 h; exact ⟨_, _, h2, fun K' => by simp only [patinalaw02_RsRoots_arm, h1, Option.bind_some], patinalaw02_RsRoots_ok h1⟩
  · cases h

end Go.Proofs.Ytoljgolgecbcdab
