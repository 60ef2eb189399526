/- The program's functions as plain Lean functions over a clean memory, each held against the program by the kernel. Written by mx.py. -/
import Derived.Test.YtlbbcgjfkpnilaaF0
import Derived.Test.YtlbbcgjfkpnilaaFnand
import Derived.Test.YtlbbcgjfkpnilaaFpatinalaw05
import Derived.Test.YtlbbcgjfkpnilaaFpatinaref01
import Derived.Test.YtlbbcgjfkpnilaaFpatinaref05
set_option linter.unusedVariables false
set_option maxRecDepth 100000
namespace Go.Proofs.Ytlbbcgjfkpnilaa
open Go.Mx

/-! ### patinalaw05_NandPlays -/
def patinalaw05_NandPlays_l0_b (k : Nat) (nx : Option Addr → Nat → Nat → Bool → Addr → Int → Mem → Option (Bool × Mem)) (kx0 : Bool → Mem → Option (Bool × Mem)) (kx2 : Bool → Addr → Mem → Option (Bool × Mem)) (x0a : Option Addr) (x0n : Nat) (x0c : Nat) (x3 : Bool) (x4 : Addr) (x5 : Int) (m : Mem) : Option (Bool × Mem) :=
  bif decide (x5 < ((x0n : Nat) : Int)) then (
  bif inRange x5 x0n then (
  (x0a).bind fun a9 =>
  (ldCells m (plus a9 (Int.toNat x5 * 4)) 4).bind fun t10 =>
  (patinalaw05_Two_step k (some x4) t10 m).bind fun r11 =>
  bif !r11.1 then (
  kx0 false r11.2) else (
  nx x0a x0n x0c x3 x4 (IntKind.wrap .i64 (x5 + 1)) r11.2)) else none) else (
  kx2 x3 x4 m)

def patinalaw05_NandPlays_l0 (k : Nat) (kx0 : Bool → Mem → Option (Bool × Mem)) (kx2 : Bool → Addr → Mem → Option (Bool × Mem)) : Nat → Option Addr → Nat → Nat → Bool → Addr → Int → Mem → Option (Bool × Mem)
  | 0, _, _, _, _, _, _, _ => none
  | n + 1, x0a, x0n, x0c, x3, x4, x5, m => patinalaw05_NandPlays_l0_b k (fun x0a x0n x0c x3 x4 x5 m => patinalaw05_NandPlays_l0 k kx0 kx2 n x0a x0n x0c x3 x4 x5 m) kx0 kx2 x0a x0n x0c x3 x4 x5 m
termination_by structural x => x

theorem patinalaw05_NandPlays_l0_rule (k : Nat) (kx0 : Bool → Mem → Option (Bool × Mem)) (kx2 : Bool → Addr → Mem → Option (Bool × Mem)) {P : (Bool × Mem) → Prop} (I : Nat → Option Addr → Nat → Nat → Bool → Addr → Int → Mem → Prop)
    (step : ∀ d (nx : Option Addr → Nat → Nat → Bool → Addr → Int → Mem → Option (Bool × Mem)) (x0a : Option Addr) (x0n : Nat) (x0c : Nat) (x3 : Bool) (x4 : Addr) (x5 : Int) (m : Mem), I d x0a x0n x0c x3 x4 x5 m → (∀ d' (x0a : Option Addr) (x0n : Nat) (x0c : Nat) (x3 : Bool) (x4 : Addr) (x5 : Int) (m : Mem), d' < d → I d' x0a x0n x0c x3 x4 x5 m → Ok (nx x0a x0n x0c x3 x4 x5 m) P) → Ok (patinalaw05_NandPlays_l0_b k nx kx0 kx2 x0a x0n x0c x3 x4 x5 m) P) :
    ∀ n d (x0a : Option Addr) (x0n : Nat) (x0c : Nat) (x3 : Bool) (x4 : Addr) (x5 : Int) (m : Mem), d < n → I d x0a x0n x0c x3 x4 x5 m → Ok (patinalaw05_NandPlays_l0 k kx0 kx2 n x0a x0n x0c x3 x4 x5 m) P
  | 0, d, x0a, x0n, x0c, x3, x4, x5, m, h, _ => absurd h (Nat.not_lt_zero _)
  | n + 1, d, x0a, x0n, x0c, x3, x4, x5, m, h, hI => step d _ x0a x0n x0c x3 x4 x5 m hI fun d' x0a x0n x0c x3 x4 x5 m h' hI' => patinalaw05_NandPlays_l0_rule k kx0 kx2 I step n d' x0a x0n x0c x3 x4 x5 m (by omega) hI'

def patinalaw05_NandPlays_l2_b (k : Nat) (nx : Bool → Addr → Int → Mem → Option (Bool × Mem)) (kx0 : Bool → Mem → Option (Bool × Mem)) (kx4 : Bool → Addr → Mem → Option (Bool × Mem)) (x3 : Bool) (x4 : Addr) (x7 : Int) (m : Mem) : Option (Bool × Mem) :=
  (ldSl m (plus x4 4)).bind fun t14 =>
  bif decide (x7 < ((t14.len : Nat) : Int)) then (
  (ldSl m (plus x4 4)).bind fun t15 =>
  bif inRange x7 t15.len then (
  (t15.a).bind fun a16 =>
  (ldSl m (plus a16 (Int.toNat x7 * 1))).bind fun t17 =>
  (ldSl m (plus x4 5)).bind fun t18 =>
  bif inRange x7 t18.len then (
  (t18.a).bind fun a19 =>
  (ldSl m (plus a19 (Int.toNat x7 * 1))).bind fun t20 =>
  (patinaref01_Same k t17.a t17.len t17.cap t20.a t20.len t20.cap m).bind fun r21 =>
  bif !r21.1 then (
  kx0 false r21.2) else (
  nx x3 x4 (IntKind.wrap .i64 (x7 + 1)) r21.2)) else none) else none) else (
  kx4 x3 x4 m)

def patinalaw05_NandPlays_l2 (k : Nat) (kx0 : Bool → Mem → Option (Bool × Mem)) (kx4 : Bool → Addr → Mem → Option (Bool × Mem)) : Nat → Bool → Addr → Int → Mem → Option (Bool × Mem)
  | 0, _, _, _, _ => none
  | n + 1, x3, x4, x7, m => patinalaw05_NandPlays_l2_b k (fun x3 x4 x7 m => patinalaw05_NandPlays_l2 k kx0 kx4 n x3 x4 x7 m) kx0 kx4 x3 x4 x7 m
termination_by structural x => x

theorem patinalaw05_NandPlays_l2_rule (k : Nat) (kx0 : Bool → Mem → Option (Bool × Mem)) (kx4 : Bool → Addr → Mem → Option (Bool × Mem)) {P : (Bool × Mem) → Prop} (I : Nat → Bool → Addr → Int → Mem → Prop)
    (step : ∀ d (nx : Bool → Addr → Int → Mem → Option (Bool × Mem)) (x3 : Bool) (x4 : Addr) (x7 : Int) (m : Mem), I d x3 x4 x7 m → (∀ d' (x3 : Bool) (x4 : Addr) (x7 : Int) (m : Mem), d' < d → I d' x3 x4 x7 m → Ok (nx x3 x4 x7 m) P) → Ok (patinalaw05_NandPlays_l2_b k nx kx0 kx4 x3 x4 x7 m) P) :
    ∀ n d (x3 : Bool) (x4 : Addr) (x7 : Int) (m : Mem), d < n → I d x3 x4 x7 m → Ok (patinalaw05_NandPlays_l2 k kx0 kx4 n x3 x4 x7 m) P
  | 0, d, x3, x4, x7, m, h, _ => absurd h (Nat.not_lt_zero _)
  | n + 1, d, x3, x4, x7, m, h, hI => step d _ x3 x4 x7 m hI fun d' x3 x4 x7 m h' hI' => patinalaw05_NandPlays_l2_rule k kx0 kx4 I step n d' x3 x4 x7 m (by omega) hI'

def patinalaw05_NandPlays (k : Nat) (p0a : Option Addr) (p0n : Nat) (p0c : Nat) (m : Mem) : Option (Bool × Mem) :=
  (patinalaw05_shown k  m).bind fun r1 =>
  (nand_New k  r1.2).bind fun r2 =>
  (nand_New k  r2.2).bind fun r3 =>
  (patinaref05_New k  r3.2).bind fun r4 =>
  (patinaref05_New k  r4.2).bind fun r5 =>
  let m6 : Mem := r5.2 ++ [.live [(Value.pointer r2.1), (Value.pointer r3.1), (Value.pointer r4.1), (Value.pointer r5.1), .slice none 0 0, .slice none 0 0]]
  (ldPtr m6 (plus ⟨List.length r5.2, 0, Option.none⟩ 0)).bind fun t7 =>
  bif Option.isNone t7 then (
  some (false, m6)) else (
  (ldPtr m6 (plus ⟨List.length r5.2, 0, Option.none⟩ 1)).bind fun t8 =>
  bif Option.isNone t8 then (
  some (false, m6)) else (
  patinalaw05_NandPlays_l0 k (fun y2 m12 => 
  some (y2, m12)) (fun y3 y4 m13 => 
  patinalaw05_NandPlays_l2 k (fun y2 m22 => 
  some (y2, m22)) (fun y3 y4 m23 => 
  (ldSl m23 (plus y4 4)).bind fun t24 =>
  (patinaref01_Apart k t24.a t24.len t24.cap m23).bind fun r25 =>
  (patinalaw05_Two_stands k (some y4) r25.2).bind fun r26 =>
  (patinalaw05_Two_step k (some y4) [(Value.int .i64 10), .int .i64 0, .int .i64 0, .slice none 0 0] r26.2).bind fun r27 =>
  (patinalaw05_Two_stands k (some y4) r27.2).bind fun r28 =>
  bif y3 then (
  bif r25.1 then (
  bif r26.1 then (
  some (r28.1, r28.2)) else (
  some (false, r28.2))) else (
  some (false, r28.2))) else (
  some (false, r28.2))) k y3 y4 0 m13) k p0a p0n p0c r1.1 ⟨List.length r5.2, 0, Option.none⟩ 0 m6))

def patinalaw05_NandPlays_call {R : Type} (k : Nat) : Fun R := callCons 5 (patinalaw05_shown_arm k) (callCons 6 (nand_New_arm k) (callCons 7 (patinaref05_New_arm k) (callCons 8 (patinalaw05_Two_step_arm k) (callCons 9 (patinaref01_Same_arm k) (callCons 10 (patinaref01_Apart_arm k) (callCons 11 (patinalaw05_Two_stands_arm k) (callNil)))))))

theorem patinalaw05_NandPlays_callOk {R : Type} (k : Nat) : CallOk Try.prog (patinalaw05_NandPlays_call (R := R) k) := callOk_cons (patinalaw05_shown_armOk k) (callOk_cons (nand_New_armOk k) (callOk_cons (patinaref05_New_armOk k) (callOk_cons (patinalaw05_Two_step_armOk k) (callOk_cons (patinaref01_Same_armOk k) (callOk_cons (patinaref01_Apart_armOk k) (callOk_cons (patinalaw05_Two_stands_armOk k) (callOk_nil)))))))

def patinalaw05_NandPlays_l0_L (k : Nat) (K : Nat → List Value → Mem → Option (Bool × Mem)) (n : Nat) (vs : List Value) (m : Mem) : Option (Bool × Mem) := match vs with
  | [.slice x0a x0n x0c, .bool x3, .pointer (some x4), .int .i64 x5] => patinalaw05_NandPlays_l0 k (fun y2 m => K 0 [(Value.bool y2)] m) (fun y3 y4 m => K 2 [(Value.bool y3), (Value.pointer (some y4))] m) n x0a x0n x0c x3 x4 x5 m
  | _ => none

def patinalaw05_NandPlays_l2_L (k : Nat) (K : Nat → List Value → Mem → Option (Bool × Mem)) (n : Nat) (vs : List Value) (m : Mem) : Option (Bool × Mem) := match vs with
  | [.bool x3, .pointer (some x4), .int .i64 x7] => patinalaw05_NandPlays_l2 k (fun y2 m => K 0 [(Value.bool y2)] m) (fun y3 y4 m => K 4 [(Value.bool y3), (Value.pointer (some y4))] m) n x3 x4 x7 m
  | _ => none

def patinalaw05_NandPlays_loop (k : Nat) : Nat → List Value → Mem → (Nat → List Value → Mem → Option (Bool × Mem)) → Option (Bool × Mem) := fun cur vs m K => match cur with
  | 0 => patinalaw05_NandPlays_l0_L k K k vs m
  | 2 => patinalaw05_NandPlays_l2_L k K k vs m
  | _ => none

def patinalaw05_NandPlays_C (k : Nat) : Ctx (Bool × Mem) := ⟨tt, patinalaw05_NandPlays_call k, patinalaw05_NandPlays_loop k, [(0, [0, 3, 4, 5]), (2, [3, 4, 7])], [(0, [2]), (2, [3, 4]), (4, [3, 4])]⟩

noncomputable def patinalaw05_NandPlays_l0_c : Code := ((loopsOf 0 (body Try.f3)).map (·.2)).getD 0 .skip

noncomputable def patinalaw05_NandPlays_l2_c : Code := ((loopsOf 0 (body Try.f3)).map (·.2)).getD 1 .skip

theorem patinalaw05_NandPlays_loops : loopsOf 0 (body Try.f3) = [(0, patinalaw05_NandPlays_l0_c), (2, patinalaw05_NandPlays_l2_c)] := by kernel_rfl

theorem patinalaw05_NandPlays_l0_ok (k : Nat) : LoopOk (patinalaw05_NandPlays_C k) 0 patinalaw05_NandPlays_l0_c := by
  refine ⟨[0, 3, 4, 5], by kernel_rfl, fun K r => ⟨patinalaw05_NandPlays_l0_L k K, fun vs m h => ⟨k, h⟩, ?_⟩⟩
  intro n vs m h
  unfold patinalaw05_NandPlays_l0_L at h
  split at h
  · cases n with
    | zero => cases h
    | succ n => exact ⟨n, rfl, Eq.trans (by kernel_rfl) h⟩
  · cases h

theorem patinalaw05_NandPlays_l2_ok (k : Nat) : LoopOk (patinalaw05_NandPlays_C k) 2 patinalaw05_NandPlays_l2_c := by
  refine ⟨[3, 4, 7], by kernel_rfl, fun K r => ⟨patinalaw05_NandPlays_l2_L k K, fun vs m h => ⟨k, h⟩, ?_⟩⟩
  intro n vs m h
  unfold patinalaw05_NandPlays_l2_L at h
  split at h
  · cases n with
    | zero => cases h
    | succ n => exact ⟨n, rfl, Eq.trans (by kernel_rfl) h⟩
  · cases h

def patinalaw05_NandPlays_dec : Value → Mem → Option (Bool × Mem) := fun v m => match v with
  | .bool q0 => some (q0, m)
  | _ => none

theorem patinalaw05_NandPlays_eq (k : Nat) (p0a : Option Addr) (p0n : Nat) (p0c : Nat) (m : Mem) : fnX (patinalaw05_NandPlays_C k) Try.f3 [(Value.slice p0a p0n p0c)] m patinalaw05_NandPlays_dec = patinalaw05_NandPlays k p0a p0n p0c m := by kernel_rfl

theorem patinalaw05_NandPlays_ok {k : Nat} {p0a : Option Addr} {p0n : Nat} {p0c : Nat} {m : Mem} {r : (Bool × Mem)} (h : patinalaw05_NandPlays k p0a p0n p0c m = some r) : CallP Try.prog 3 [(Value.slice p0a p0n p0c)] m fun v m' => v = (Value.bool r.1) ∧ m' = r.2 := by
  refine (fn_sound (C := patinalaw05_NandPlays_C k) (c := body Try.f3) tOk mixed (patinalaw05_NandPlays_callOk k) Try.func3 (by kernel_rfl) (by kernel_rfl) (by kernel_rfl) (by kernel_rfl) ?_ ?_ (Eq.trans (patinalaw05_NandPlays_eq k p0a p0n p0c m) h)).mono ?_
  · intro p hp
    rw [patinalaw05_NandPlays_loops] at hp
    simp only [List.mem_cons, List.not_mem_nil, or_false] at hp
    rcases hp with rfl | rfl
    · exact patinalaw05_NandPlays_l0_ok k
    · exact patinalaw05_NandPlays_l2_ok k
  · intro p hp; rw [show rangesOf 0 (body Try.f3) = [] by kernel_rfl] at hp; cases hp
  · intro v m' hp
    unfold patinalaw05_NandPlays_dec at hp
    split at hp
    · simp only [Option.some.injEq] at hp; subst hp; exact ⟨rfl, rfl⟩
    · cases hp

def patinalaw05_NandPlays_arm {R : Type} (k : Nat) : Arm R := fun vs m K => match vs with
  | [.slice p0a p0n p0c] => (patinalaw05_NandPlays k p0a p0n p0c m).bind fun r => K (Value.bool r.1) r.2
  | _ => none

theorem patinalaw05_NandPlays_armOk {R : Type} (k : Nat) : ArmOk Try.prog 3 (patinalaw05_NandPlays_arm (R := R) k) := by
  intro vs m K r h
  unfold patinalaw05_NandPlays_arm at h
  split at h
  · obtain ⟨r, h1, h2⟩ := Option.bind_eq_some_iff.1 h; exact ⟨_, _, h2, fun K' => by simp only [patinalaw05_NandPlays_arm, h1, Option.bind_some], patinalaw05_NandPlays_ok h1⟩
  · cases h

end Go.Proofs.Ytlbbcgjfkpnilaa
