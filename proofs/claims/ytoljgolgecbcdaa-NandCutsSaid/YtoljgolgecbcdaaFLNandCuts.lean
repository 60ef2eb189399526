/- The program's functions as plain Lean functions over a clean memory, each held against the program by the kernel. Written by mx.py. -/
import Derived.Test.YtoljgolgecbcdaaF0
import Derived.Test.YtoljgolgecbcdaaFnand
import Derived.Test.YtoljgolgecbcdaaFpatinalaw05
set_option linter.unusedVariables false
set_option maxRecDepth 100000
namespace Go.Proofs.Ytoljgolgecbcdaa
open Go.Mx

/-! ### patinalaw05_NandCuts -/
def patinalaw05_NandCuts_j1 (k : Nat) (x1a : Option Addr) (x1n : Nat) (x1c : Nat) (x5 : Bool) (x6 : Option Addr) (x7 : Int) (x10 : Int) (nx : Option Addr → Nat → Nat → Bool → Option Addr → Int → Int → Int → Mem → Option (Bool × Mem)) (x9_ : Int) (mj : Mem) : Option (Bool × Mem) :=
  nx x1a x1n x1c x5 x6 x7 x9_ (IntKind.wrap .i64 (x10 + 1)) mj

def patinalaw05_NandCuts_l0_b (k : Nat) (nx : Option Addr → Nat → Nat → Bool → Option Addr → Int → Int → Int → Mem → Option (Bool × Mem)) (kx0 : Bool → Mem → Option (Bool × Mem)) (kx2 : Bool → Option Addr → Int → Int → Mem → Option (Bool × Mem)) (x1a : Option Addr) (x1n : Nat) (x1c : Nat) (x5 : Bool) (x6 : Option Addr) (x7 : Int) (x9 : Int) (x10 : Int) (m : Mem) : Option (Bool × Mem) :=
  bif decide (x10 < ((x1n : Nat) : Int)) then (
  bif inRange x10 x1n then (
  (x1a).bind fun a6 =>
  (ldInt .i64 m (plus a6 (Int.toNat x10 * 1))).bind fun t7 =>
  (patinalaw05_pick k t7 96 m).bind fun r8 =>
  (nand_Chip_Truth k x6 r8.1 (Int.tmod x10 4) r8.2).bind fun r9 =>
  (nand_Chip_On k x6 r9.2.2.2).bind fun r10 =>
  (patinalaw05_some k (IntKind.wrap .u8 x10) r10.2).bind fun r11 =>
  (nand_Chip_Write k x6 r8.1 (Int.tmod x10 4) r11.1.a r11.1.len r11.1.cap r11.2).bind fun r12 =>
  (nand_Chip_Truth k x6 r8.1 (Int.tmod x10 4) r12.2).bind fun r13 =>
  (isNil r9.2.2.1).bind fun b14 =>
  bif !b14 then (
  kx0 false r13.2.2.2) else (
  (isNil r13.2.2.1).bind fun b15 =>
  bif !b15 then (
  kx0 false r13.2.2.2) else (
  (isNil r12.1).bind fun b16 =>
  bif b16 then (
  bif r9.2.1 then (
  kx0 false r13.2.2.2) else (
  bif !r13.2.1 then (
  kx0 false r13.2.2.2) else (
  bif !r10.1 then (
  kx0 false r13.2.2.2) else (
  patinalaw05_NandCuts_j1 k x1a x1n x1c x5 x6 x7 x10 nx (IntKind.wrap .i64 (x9 + 1)) r13.2.2.2)))) else (
  (ifEq tt r12.1 (Value.iface ty_api_Code (Value.int .i64 9))).bind fun b17 =>
  bif b17 then (
  bif !r9.2.1 then (
  kx0 false r13.2.2.2) else (
  bif !r13.2.1 then (
  kx0 false r13.2.2.2) else (
  bif !r10.1 then (
  kx0 false r13.2.2.2) else (
  patinalaw05_NandCuts_j1 k x1a x1n x1c x5 x6 x7 x10 nx x9 r13.2.2.2)))) else (
  (ifEq tt r12.1 (Value.iface ty_api_Code (Value.int .i64 7))).bind fun b18 =>
  bif b18 then (
  bif !(r9.2.1 == r13.2.1) then (
  kx0 false r13.2.2.2) else (
  bif x9 != x7 then (
  kx0 false r13.2.2.2) else (
  (nand_Chip_On k x6 r13.2.2.2).bind fun r19 =>
  bif r19.1 then (
  kx0 false r19.2) else (
  patinalaw05_NandCuts_j1 k x1a x1n x1c x5 x6 x7 x10 nx x9 r19.2)))) else (
  kx0 false r13.2.2.2)))))) else none) else (
  kx2 x5 x6 x7 x9 m)

def patinalaw05_NandCuts_l0 (k : Nat) (kx0 : Bool → Mem → Option (Bool × Mem)) (kx2 : Bool → Option Addr → Int → Int → Mem → Option (Bool × Mem)) : Nat → Option Addr → Nat → Nat → Bool → Option Addr → Int → Int → Int → Mem → Option (Bool × Mem)
  | 0, _, _, _, _, _, _, _, _, _ => none
  | n + 1, x1a, x1n, x1c, x5, x6, x7, x9, x10, m => patinalaw05_NandCuts_l0_b k (fun x1a x1n x1c x5 x6 x7 x9 x10 m => patinalaw05_NandCuts_l0 k kx0 kx2 n x1a x1n x1c x5 x6 x7 x9 x10 m) kx0 kx2 x1a x1n x1c x5 x6 x7 x9 x10 m

theorem patinalaw05_NandCuts_l0_rule (k : Nat) (kx0 : Bool → Mem → Option (Bool × Mem)) (kx2 : Bool → Option Addr → Int → Int → Mem → Option (Bool × Mem)) {P : (Bool × Mem) → Prop} (I : Nat → Option Addr → Nat → Nat → Bool → Option Addr → Int → Int → Int → Mem → Prop)
    (step : ∀ d (nx : Option Addr → Nat → Nat → Bool → Option Addr → Int → Int → Int → Mem → Option (Bool × Mem)) (x1a : Option Addr) (x1n : Nat) (x1c : Nat) (x5 : Bool) (x6 : Option Addr) (x7 : Int) (x9 : Int) (x10 : Int) (m : Mem), I d x1a x1n x1c x5 x6 x7 x9 x10 m → (∀ d' (x1a : Option Addr) (x1n : Nat) (x1c : Nat) (x5 : Bool) (x6 : Option Addr) (x7 : Int) (x9 : Int) (x10 : Int) (m : Mem), d' < d → I d' x1a x1n x1c x5 x6 x7 x9 x10 m → Ok (nx x1a x1n x1c x5 x6 x7 x9 x10 m) P) → Ok (patinalaw05_NandCuts_l0_b k nx kx0 kx2 x1a x1n x1c x5 x6 x7 x9 x10 m) P) :
    ∀ n d (x1a : Option Addr) (x1n : Nat) (x1c : Nat) (x5 : Bool) (x6 : Option Addr) (x7 : Int) (x9 : Int) (x10 : Int) (m : Mem), d < n → I d x1a x1n x1c x5 x6 x7 x9 x10 m → Ok (patinalaw05_NandCuts_l0 k kx0 kx2 n x1a x1n x1c x5 x6 x7 x9 x10 m) P
  | 0, d, x1a, x1n, x1c, x5, x6, x7, x9, x10, m, h, _ => absurd h (Nat.not_lt_zero _)
  | n + 1, d, x1a, x1n, x1c, x5, x6, x7, x9, x10, m, h, hI => step d _ x1a x1n x1c x5 x6 x7 x9 x10 m hI fun d' x1a x1n x1c x5 x6 x7 x9 x10 m h' hI' => patinalaw05_NandCuts_l0_rule k kx0 kx2 I step n d' x1a x1n x1c x5 x6 x7 x9 x10 m (by omega) hI'

def patinalaw05_NandCuts_j2 (k : Nat) (y5 : Bool) (y6 : Option Addr) (mj : Mem) : Option (Bool × Mem) :=
  (nand_Chip_Power k y6 mj).bind fun r25 =>
  (nand_Chip_Erase k y6 0 r25).bind fun r26 =>
  (nand_Chip_Read k y6 0 r26.2).bind fun r27 =>
  bif y5 then (
  (isNil r26.1).bind fun b28 =>
  bif b28 then (
  (isNil r27.2.1).bind fun b29 =>
  bif b29 then (
  bif ((r27.1.len : Nat) : Int) == 256 then (
  bif inRange 0 r27.1.len then (
  (r27.1.a).bind fun a30 =>
  (ldInt .u8 r27.2.2 (plus a30 (Int.toNat 0 * 1))).bind fun t31 =>
  bif t31 == 255 then (
  (nand_Chip_On k y6 r27.2.2).bind fun r32 =>
  some (r32.1, r32.2)) else (
  some (false, r27.2.2))) else none) else (
  some (false, r27.2.2))) else (
  some (false, r27.2.2))) else (
  some (false, r27.2.2))) else (
  some (false, r27.2.2))

def patinalaw05_NandCuts (k : Nat) (p0 : Int) (p1a : Option Addr) (p1n : Nat) (p1c : Nat) (m : Mem) : Option (Bool × Mem) :=
  (patinalaw05_shown k  m).bind fun r1 =>
  (nand_New k  r1.2).bind fun r2 =>
  bif Option.isNone r2.1 then (
  some (false, r2.2)) else (
  (patinalaw05_pick k p0 40 r2.2).bind fun r3 =>
  (nand_Chip_Cut k r2.1 r3.1 r3.2).bind fun r4 =>
  (isNil r4.1).bind fun b5 =>
  bif !b5 then (
  some (false, r4.2)) else (
  patinalaw05_NandCuts_l0 k (fun y4 m20 => 
  some (y4, m20)) (fun y5 y6 y7 y9 m21 => 
  (nand_Chip_On k y6 m21).bind fun r22 =>
  (nand_Chip_Read k y6 0 r22.2).bind fun r23 =>
  (nand_Chip_Erase k y6 0 r23.2.2).bind fun r24 =>
  bif !r22.1 then (
  (ifEq tt r23.2.1 (Value.iface ty_api_Code (Value.int .i64 7))).bind fun b33 =>
  bif !b33 then (
  some (false, r24.2)) else (
  (ifEq tt r24.1 (Value.iface ty_api_Code (Value.int .i64 7))).bind fun b34 =>
  bif !b34 then (
  some (false, r24.2)) else (
  bif decide (y9 > y7) then (
  some (false, r24.2)) else (
  (nand_Chip_Steps k y6 r24.2).bind fun r35 =>
  bif decide (r35.1 > (IntKind.wrap .i64 (y7 + 1))) then (
  some (false, r35.2)) else (
  patinalaw05_NandCuts_j2 k y5 y6 r35.2))))) else (
  bif decide (y9 > y7) then (
  some (false, r24.2)) else (
  (nand_Chip_Steps k y6 r24.2).bind fun r36 =>
  bif decide (r36.1 > (IntKind.wrap .i64 (y7 + 1))) then (
  some (false, r36.2)) else (
  patinalaw05_NandCuts_j2 k y5 y6 r36.2)))) k p1a p1n p1c r1.1 r2.1 r3.1 0 0 r4.2))

def patinalaw05_NandCuts_call {R : Type} (k : Nat) : Fun R := callCons 9 (patinalaw05_shown_arm k) (callCons 10 (nand_New_arm k) (callCons 11 (patinalaw05_pick_arm k) (callCons 12 (nand_Chip_Cut_arm k) (callCons 13 (nand_Chip_Truth_arm k) (callCons 14 (nand_Chip_On_arm k) (callCons 15 (nand_Chip_Write_arm k) (callCons 16 (patinalaw05_some_arm k) (callCons 17 (nand_Chip_Read_arm k) (callCons 18 (nand_Chip_Erase_arm k) (callCons 19 (nand_Chip_Steps_arm k) (callCons 20 (nand_Chip_Power_arm k) (callNil))))))))))))

theorem patinalaw05_NandCuts_callOk {R : Type} (k : Nat) : CallOk Try.prog (patinalaw05_NandCuts_call (R := R) k) := callOk_cons (patinalaw05_shown_armOk k) (callOk_cons (nand_New_armOk k) (callOk_cons (patinalaw05_pick_armOk k) (callOk_cons (nand_Chip_Cut_armOk k) (callOk_cons (nand_Chip_Truth_armOk k) (callOk_cons (nand_Chip_On_armOk k) (callOk_cons (nand_Chip_Write_armOk k) (callOk_cons (patinalaw05_some_armOk k) (callOk_cons (nand_Chip_Read_armOk k) (callOk_cons (nand_Chip_Erase_armOk k) (callOk_cons (nand_Chip_Steps_armOk k) (callOk_cons (nand_Chip_Power_armOk k) (callOk_nil))))))))))))

def patinalaw05_NandCuts_l0_L (k : Nat) (K : Nat → List Value → Mem → Option (Bool × Mem)) (n : Nat) (vs : List Value) (m : Mem) : Option (Bool × Mem) := match vs with
  | [.slice x1a x1n x1c, .bool x5, .pointer x6, .int .i64 x7, .int .i64 x9, .int .i64 x10] => patinalaw05_NandCuts_l0 k (fun y4 m => K 0 [(Value.bool y4)] m) (fun y5 y6 y7 y9 m => K 2 [(Value.bool y5), (Value.pointer y6), (Value.int .i64 y7), (Value.int .i64 y9)] m) n x1a x1n x1c x5 x6 x7 x9 x10 m
  | _ => none

def patinalaw05_NandCuts_loop (k : Nat) : Nat → List Value → Mem → (Nat → List Value → Mem → Option (Bool × Mem)) → Option (Bool × Mem) := fun cur vs m K => match cur with
  | 0 => patinalaw05_NandCuts_l0_L k K k vs m
  | _ => none

def patinalaw05_NandCuts_C (k : Nat) : Ctx (Bool × Mem) := ⟨tt, patinalaw05_NandCuts_call k, patinalaw05_NandCuts_loop k, [(0, [1, 5, 6, 7, 9, 10])], [(0, [4]), (2, [5, 6, 7, 9])]⟩

noncomputable def patinalaw05_NandCuts_l0_c : Code := ((loopsOf 0 (body Try.f3)).map (·.2)).getD 0 .skip

theorem patinalaw05_NandCuts_loops : loopsOf 0 (body Try.f3) = [(0, patinalaw05_NandCuts_l0_c)] := by kernel_rfl

theorem patinalaw05_NandCuts_l0_ok (k : Nat) : LoopOk (patinalaw05_NandCuts_C k) 0 patinalaw05_NandCuts_l0_c := by
  refine ⟨[1, 5, 6, 7, 9, 10], by kernel_rfl, fun K r => ⟨patinalaw05_NandCuts_l0_L k K, fun vs m h => ⟨k, h⟩, ?_⟩⟩
  intro n vs m h
  unfold patinalaw05_NandCuts_l0_L at h
  split at h
  · cases n with
    | zero => cases h
    | succ n => exact ⟨n, rfl, Eq.trans (by kernel_rfl) h⟩
  · cases h

def patinalaw05_NandCuts_dec : Value → Mem → Option (Bool × Mem) := fun v m => match v with
  | .bool q0 => some (q0, m)
  | _ => none

theorem patinalaw05_NandCuts_eq (k : Nat) (p0 : Int) (p1a : Option Addr) (p1n : Nat) (p1c : Nat) (m : Mem) : fnX (patinalaw05_NandCuts_C k) Try.f3 [(Value.int .i64 p0), (Value.slice p1a p1n p1c)] m patinalaw05_NandCuts_dec = patinalaw05_NandCuts k p0 p1a p1n p1c m := by kernel_rfl

theorem patinalaw05_NandCuts_ok {k : Nat} {p0 : Int} {p1a : Option Addr} {p1n : Nat} {p1c : Nat} {m : Mem} {r : (Bool × Mem)} (h : patinalaw05_NandCuts k p0 p1a p1n p1c m = some r) : CallP Try.prog 3 [(Value.int .i64 p0), (Value.slice p1a p1n p1c)] m fun v m' => v = (Value.bool r.1) ∧ m' = r.2 := by
  refine (fn_sound (C := patinalaw05_NandCuts_C k) (c := body Try.f3) tOk mixed (patinalaw05_NandCuts_callOk k) Try.func3 (by kernel_rfl) (by kernel_rfl) (by kernel_rfl) (by kernel_rfl) ?_ (Eq.trans (patinalaw05_NandCuts_eq k p0 p1a p1n p1c m) h)).mono ?_
  · intro p hp
    rw [patinalaw05_NandCuts_loops] at hp
    simp only [List.mem_cons, List.not_mem_nil, or_false] at hp
    rcases hp with rfl
    · exact patinalaw05_NandCuts_l0_ok k
  · intro v m' hp
    unfold patinalaw05_NandCuts_dec at hp
    split at hp
    · simp only [Option.some.injEq] at hp; subst hp; exact ⟨rfl, rfl⟩
    · cases hp

def patinalaw05_NandCuts_arm {R : Type} (k : Nat) : Arm R := fun vs m K => match vs with
  | [.int .i64 p0, .slice p1a p1n p1c] => (patinalaw05_NandCuts k p0 p1a p1n p1c m).bind fun r => K (Value.bool r.1) r.2
  | _ => none

theorem patinalaw05_NandCuts_armOk {R : Type} (k : Nat) : ArmOk Try.prog 3 (patinalaw05_NandCuts_arm (R := R) k) := by
  intro vs m K r h
  unfold patinalaw05_NandCuts_arm at h
  split at h
  · obtain ⟨r, h1, h2⟩ := Option.bind_eq_some_iff.1 h; exact ⟨_, _, h2, fun K' => by simp only [patinalaw05_NandCuts_arm, h1, Option.bind_some], patinalaw05_NandCuts_ok h1⟩
  · cases h

end Go.Proofs.Ytoljgolgecbcdaa
