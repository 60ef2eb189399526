/- The program's functions as plain Lean functions over a clean memory, each held against the program by the kernel. Written by mx.py. -/
import Derived.Test.YtlbbcgjfkpnilaaF0
import Derived.Test.YtlbbcgjfkpnilaaFnand
import Derived.Test.YtlbbcgjfkpnilaaFpatinalaw00
import Derived.Test.YtlbbcgjfkpnilaaFpatinaref01
import Derived.Test.YtlbbcgjfkpnilaaFpatinaref05
set_option linter.unusedVariables false
set_option maxRecDepth 100000
namespace Go.Proofs.Ytlbbcgjfkpnilaa
open Go.Mx

/-! ### patinalaw05_some -/
def patinalaw05_some_l0_b (k : Nat) (nx : Int → Option Addr → Nat → Nat → Int → Mem → Option (Sl × Mem)) (kx2 : Option Addr → Nat → Nat → Mem → Option (Sl × Mem)) (x0 : Int) (x3a : Option Addr) (x3n : Nat) (x3c : Nat) (x4 : Int) (m : Mem) : Option (Sl × Mem) :=
  bif decide (x4 < ((x3n : Nat) : Int)) then (
  bif inRange x4 x3n then (
  (x3a).bind fun a2 =>
  (st m (plus a2 (Int.toNat x4 * 1)) (Value.int .u8 x0)).bind fun m3 =>
  nx x0 x3a x3n x3c (IntKind.wrap .i64 (x4 + 1)) m3) else none) else (
  kx2 x3a x3n x3c m)

def patinalaw05_some_l0 (k : Nat) (kx2 : Option Addr → Nat → Nat → Mem → Option (Sl × Mem)) : Nat → Int → Option Addr → Nat → Nat → Int → Mem → Option (Sl × Mem)
  | 0, _, _, _, _, _, _ => none
  | n + 1, x0, x3a, x3n, x3c, x4, m => patinalaw05_some_l0_b k (fun x0 x3a x3n x3c x4 m => patinalaw05_some_l0 k kx2 n x0 x3a x3n x3c x4 m) kx2 x0 x3a x3n x3c x4 m
termination_by structural x => x

theorem patinalaw05_some_l0_rule (k : Nat) (kx2 : Option Addr → Nat → Nat → Mem → Option (Sl × Mem)) {P : (Sl × Mem) → Prop} (I : Nat → Int → Option Addr → Nat → Nat → Int → Mem → Prop)
    (step : ∀ d (nx : Int → Option Addr → Nat → Nat → Int → Mem → Option (Sl × Mem)) (x0 : Int) (x3a : Option Addr) (x3n : Nat) (x3c : Nat) (x4 : Int) (m : Mem), I d x0 x3a x3n x3c x4 m → (∀ d' (x0 : Int) (x3a : Option Addr) (x3n : Nat) (x3c : Nat) (x4 : Int) (m : Mem), d' < d → I d' x0 x3a x3n x3c x4 m → Ok (nx x0 x3a x3n x3c x4 m) P) → Ok (patinalaw05_some_l0_b k nx kx2 x0 x3a x3n x3c x4 m) P) :
    ∀ n d (x0 : Int) (x3a : Option Addr) (x3n : Nat) (x3c : Nat) (x4 : Int) (m : Mem), d < n → I d x0 x3a x3n x3c x4 m → Ok (patinalaw05_some_l0 k kx2 n x0 x3a x3n x3c x4 m) P
  | 0, d, x0, x3a, x3n, x3c, x4, m, h, _ => absurd h (Nat.not_lt_zero _)
  | n + 1, d, x0, x3a, x3n, x3c, x4, m, h, hI => step d _ x0 x3a x3n x3c x4 m hI fun d' x0 x3a x3n x3c x4 m h' hI' => patinalaw05_some_l0_rule k kx2 I step n d' x0 x3a x3n x3c x4 m (by omega) hI'

def patinalaw05_some (k : Nat) (p0 : Int) (m : Mem) : Option (Sl × Mem) :=
  let m1 : Mem := m ++ [.live (repl (Int.toNat 64) [.int .u8 0])]
  patinalaw05_some_l0 k (fun y3a y3n y3c m4 => 
  some ((⟨y3a, y3n, y3c⟩ : Sl), m4)) k p0 (some ⟨List.length m, 0, Option.none⟩) (Int.toNat 64) (Int.toNat 64) 0 m1

def patinalaw05_some_call {R : Type} (k : Nat) : Fun R := callNil

theorem patinalaw05_some_callOk {R : Type} (k : Nat) : CallOk Try.prog (patinalaw05_some_call (R := R) k) := callOk_nil

def patinalaw05_some_l0_L (k : Nat) (K : Nat → List Value → Mem → Option (Sl × Mem)) (n : Nat) (vs : List Value) (m : Mem) : Option (Sl × Mem) := match vs with
  | [.int .u8 x0, .slice x3a x3n x3c, .int .i64 x4] => patinalaw05_some_l0 k (fun y3a y3n y3c m => K 2 [(Value.slice y3a y3n y3c)] m) n x0 x3a x3n x3c x4 m
  | _ => none

def patinalaw05_some_loop (k : Nat) : Nat → List Value → Mem → (Nat → List Value → Mem → Option (Sl × Mem)) → Option (Sl × Mem) := fun cur vs m K => match cur with
  | 0 => patinalaw05_some_l0_L k K k vs m
  | _ => none

def patinalaw05_some_C (k : Nat) : Ctx (Sl × Mem) := ⟨tt, patinalaw05_some_call k, patinalaw05_some_loop k, [(0, [0, 3, 4])], [(2, [3])]⟩

noncomputable def patinalaw05_some_l0_c : Code := ((loopsOf 0 (body Try.f20)).map (·.2)).getD 0 .skip

theorem patinalaw05_some_loops : loopsOf 0 (body Try.f20) = [(0, patinalaw05_some_l0_c)] := by kernel_rfl

theorem patinalaw05_some_l0_ok (k : Nat) : LoopOk (patinalaw05_some_C k) 0 patinalaw05_some_l0_c := by
  refine ⟨[0, 3, 4], by kernel_rfl, fun K r => ⟨patinalaw05_some_l0_L k K, fun vs m h => ⟨k, h⟩, ?_⟩⟩
  intro n vs m h
  unfold patinalaw05_some_l0_L at h
  split at h
  · cases n with
    | zero => cases h
    | succ n => exact ⟨n, rfl, Eq.trans (by kernel_rfl) h⟩
  · cases h

def patinalaw05_some_dec : Value → Mem → Option (Sl × Mem) := fun v m => match v with
  | .slice q0a q0n q0c => some ((⟨q0a, q0n, q0c⟩ : Sl), m)
  | _ => none

theorem patinalaw05_some_eq (k : Nat) (p0 : Int) (m : Mem) : fnX (patinalaw05_some_C k) Try.f20 [(Value.int .u8 p0)] m patinalaw05_some_dec = patinalaw05_some k p0 m := by kernel_rfl

theorem patinalaw05_some_ok {k : Nat} {p0 : Int} {m : Mem} {r : (Sl × Mem)} (h : patinalaw05_some k p0 m = some r) : CallP Try.prog 20 [(Value.int .u8 p0)] m fun v m' => v = (Value.slice r.1.a r.1.len r.1.cap) ∧ m' = r.2 := by
  refine (fn_sound (C := patinalaw05_some_C k) (c := body Try.f20) tOk mixed (patinalaw05_some_callOk k) Try.func20 (by kernel_rfl) (by kernel_rfl) (by kernel_rfl) (by kernel_rfl) ?_ ?_ (Eq.trans (patinalaw05_some_eq k p0 m) h)).mono ?_
  · intro p hp
    rw [patinalaw05_some_loops] at hp
    simp only [List.mem_cons, List.not_mem_nil, or_false] at hp
    rcases hp with rfl
    · exact patinalaw05_some_l0_ok k
  · intro p hp; rw [show rangesOf 0 (body Try.f20) = [] by kernel_rfl] at hp; cases hp
  · intro v m' hp
    unfold patinalaw05_some_dec at hp
    split at hp
    · simp only [Option.some.injEq] at hp; subst hp; exact ⟨rfl, rfl⟩
    · cases hp

def patinalaw05_some_arm {R : Type} (k : Nat) : Arm R := fun vs m K => match vs with
  | [.int .u8 p0] => (patinalaw05_some k p0 m).bind fun r => K (Value.slice r.1.a r.1.len r.1.cap) r.2
  | _ => none

theorem patinalaw05_some_armOk {R : Type} (k : Nat) : ArmOk Try.prog 20 (patinalaw05_some_arm (R := R) k) := by
  intro vs m K r h
  unfold patinalaw05_some_arm at h
  split at h
  · obtain ⟨r, h1, h2⟩ := Option.bind_eq_some_iff.1 h; exact ⟨_, _, h2, fun K' => by simp only [patinalaw05_some_arm, h1, Option.bind_some], patinalaw05_some_ok h1⟩
  · cases h

/-! ### patinalaw05_shown -/
def patinalaw05_shown (k : Nat) (m : Mem) : Option (Bool × Mem) :=
  (nand_New k  m).bind fun r1 =>
  bif Option.isNone r1.1 then (
  some (false, r1.2)) else (
  (nand_Chip_Read k r1.1 0 r1.2).bind fun r2 =>
  (patinalaw05_some k 7 r2.2.2).bind fun r3 =>
  (nand_Chip_Write k r1.1 0 3 r3.1.a r3.1.len r3.1.cap r3.2).bind fun r4 =>
  (nand_Chip_Flip k r1.1 0 1536 r4.2).bind fun r5 =>
  (nand_Chip_Read k r1.1 0 r5.2).bind fun r6 =>
  (nand_Chip_Damage k r1.1 0 3 r6.2.2).bind fun r7 =>
  bif ((r2.1.len : Nat) : Int) != 256 then (
  some (false, r7.2.2.2)) else (
  bif ((r6.1.len : Nat) : Int) != 256 then (
  some (false, r7.2.2.2)) else (
  bif inRange 0 r2.1.len then (
  (r2.1.a).bind fun a8 =>
  (ldInt .u8 r7.2.2.2 (plus a8 (Int.toNat 0 * 1))).bind fun t9 =>
  bif t9 != 255 then (
  some (false, r7.2.2.2)) else (
  bif inRange 192 r6.1.len then (
  (r6.1.a).bind fun a10 =>
  (ldInt .u8 r7.2.2.2 (plus a10 (Int.toNat 192 * 1))).bind fun t11 =>
  bif t11 != 6 then (
  some (false, r7.2.2.2)) else (
  (patinalaw05_some k 7 r7.2.2.2).bind fun r12 =>
  (nand_Chip_Write k r1.1 0 3 r12.1.a r12.1.len r12.1.cap r12.2).bind fun r13 =>
  (isNil r2.2.1).bind fun b14 =>
  bif b14 then (
  (isNil r4.1).bind fun b15 =>
  bif b15 then (
  (isNil r5.1).bind fun b16 =>
  bif b16 then (
  (isNil r6.2.1).bind fun b17 =>
  bif b17 then (
  (isNil r7.2.2.1).bind fun b18 =>
  bif b18 then (
  bif r7.1 == 1 then (
  bif r7.2.1 == 1 then (
  (ifEq tt r13.1 (Value.iface ty_api_Code (Value.int .i64 9))).bind fun b19 =>
  some (b19, r13.2)) else (
  some (false, r13.2))) else (
  some (false, r13.2))) else (
  some (false, r13.2))) else (
  some (false, r13.2))) else (
  some (false, r13.2))) else (
  some (false, r13.2))) else (
  some (false, r13.2)))) else none)) else none)))

def patinalaw05_shown_call {R : Type} (k : Nat) : Fun R := callCons 6 (nand_New_arm k) (callCons 14 (nand_Chip_Read_arm k) (callCons 15 (nand_Chip_Damage_arm k) (callCons 17 (nand_Chip_Flip_arm k) (callCons 19 (nand_Chip_Write_arm k) (callCons 20 (patinalaw05_some_arm k) (callNil))))))

theorem patinalaw05_shown_callOk {R : Type} (k : Nat) : CallOk Try.prog (patinalaw05_shown_call (R := R) k) := callOk_cons (nand_New_armOk k) (callOk_cons (nand_Chip_Read_armOk k) (callOk_cons (nand_Chip_Damage_armOk k) (callOk_cons (nand_Chip_Flip_armOk k) (callOk_cons (nand_Chip_Write_armOk k) (callOk_cons (patinalaw05_some_armOk k) (callOk_nil))))))

def patinalaw05_shown_loop (k : Nat) : Nat → List Value → Mem → (Nat → List Value → Mem → Option (Bool × Mem)) → Option (Bool × Mem) := fun _ _ _ _ => none

def patinalaw05_shown_C (k : Nat) : Ctx (Bool × Mem) := ⟨tt, patinalaw05_shown_call k, patinalaw05_shown_loop k, [], []⟩

def patinalaw05_shown_dec : Value → Mem → Option (Bool × Mem) := fun v m => match v with
  | .bool q0 => some (q0, m)
  | _ => none

theorem patinalaw05_shown_eq (k : Nat) (m : Mem) : fnX (patinalaw05_shown_C k) Try.f5 [] m patinalaw05_shown_dec = patinalaw05_shown k  m := by kernel_rfl

theorem patinalaw05_shown_ok {k : Nat} {m : Mem} {r : (Bool × Mem)} (h : patinalaw05_shown k  m = some r) : CallP Try.prog 5 [] m fun v m' => v = (Value.bool r.1) ∧ m' = r.2 := by
  refine (fn_sound (C := patinalaw05_shown_C k) (c := body Try.f5) tOk mixed (patinalaw05_shown_callOk k) Try.func5 (by kernel_rfl) (by kernel_rfl) (by kernel_rfl) (by kernel_rfl) ?_ ?_ (Eq.trans (patinalaw05_shown_eq k  m) h)).mono ?_
  · intro p hp; rw [show loopsOf 0 (body Try.f5) = [] by kernel_rfl] at hp; cases hp
  · intro p hp; rw [show rangesOf 0 (body Try.f5) = [] by kernel_rfl] at hp; cases hp
  · intro v m' hp
    unfold patinalaw05_shown_dec at hp
    split at hp
    · simp only [Option.some.injEq] at hp; subst hp; exact ⟨rfl, rfl⟩
    · cases hp

def patinalaw05_shown_arm {R : Type} (k : Nat) : Arm R := fun vs m K => match vs with
  | [] => (patinalaw05_shown k  m).bind fun r => K (Value.bool r.1) r.2
  | _ => none

theorem patinalaw05_shown_armOk {R : Type} (k : Nat) : ArmOk Try.prog 5 (patinalaw05_shown_arm (R := R) k) := by
  intro vs m K r h
  unfold patinalaw05_shown_arm at h
  split at h
  · obtain ⟨r, h1, h2⟩ := Option.bind_eq_some_iff.1 h; exact ⟨_, _, h2, fun K' => by simp only [patinalaw05_shown_arm, h1, Option.bind_some], patinalaw05_shown_ok h1⟩
  · cases h

/-! ### patinalaw05_pick -/
def patinalaw05_pick_j1 (k : Nat) (p1 : Int) (x0_ : Int) (mj : Mem) : Option (Int × Mem) :=
  bif isZero p1 then none else (
  some (Int.tmod x0_ p1, mj))

def patinalaw05_pick (k : Nat) (p0 : Int) (p1 : Int) (m : Mem) : Option (Int × Mem) :=
  bif decide (p0 < 0) then (
  patinalaw05_pick_j1 k p1 (IntKind.wrap .i64 (0 - (IntKind.wrap .i64 (p0 + 1)))) m) else (
  patinalaw05_pick_j1 k p1 p0 m)

def patinalaw05_pick_call {R : Type} (k : Nat) : Fun R := callNil

theorem patinalaw05_pick_callOk {R : Type} (k : Nat) : CallOk Try.prog (patinalaw05_pick_call (R := R) k) := callOk_nil

def patinalaw05_pick_loop (k : Nat) : Nat → List Value → Mem → (Nat → List Value → Mem → Option (Int × Mem)) → Option (Int × Mem) := fun _ _ _ _ => none

def patinalaw05_pick_C (k : Nat) : Ctx (Int × Mem) := ⟨tt, patinalaw05_pick_call k, patinalaw05_pick_loop k, [], []⟩

def patinalaw05_pick_dec : Value → Mem → Option (Int × Mem) := fun v m => match v with
  | .int .i64 q0 => some (q0, m)
  | _ => none

theorem patinalaw05_pick_eq (k : Nat) (p0 : Int) (p1 : Int) (m : Mem) : fnX (patinalaw05_pick_C k) Try.f12 [(Value.int .i64 p0), (Value.int .i64 p1)] m patinalaw05_pick_dec = patinalaw05_pick k p0 p1 m := by kernel_rfl

theorem patinalaw05_pick_ok {k : Nat} {p0 : Int} {p1 : Int} {m : Mem} {r : (Int × Mem)} (h : patinalaw05_pick k p0 p1 m = some r) : CallP Try.prog 12 [(Value.int .i64 p0), (Value.int .i64 p1)] m fun v m' => v = (Value.int .i64 r.1) ∧ m' = r.2 := by
  refine (fn_sound (C := patinalaw05_pick_C k) (c := body Try.f12) tOk mixed (patinalaw05_pick_callOk k) Try.func12 (by kernel_rfl) (by kernel_rfl) (by kernel_rfl) (by kernel_rfl) ?_ ?_ (Eq.trans (patinalaw05_pick_eq k p0 p1 m) h)).mono ?_
  · intro p hp; rw [show loopsOf 0 (body Try.f12) = [] by kernel_rfl] at hp; cases hp
  · intro p hp; rw [show rangesOf 0 (body Try.f12) = [] by kernel_rfl] at hp; cases hp
  · intro v m' hp
    unfold patinalaw05_pick_dec at hp
    split at hp
    · simp only [Option.some.injEq] at hp; subst hp; exact ⟨rfl, rfl⟩
    · cases hp

def patinalaw05_pick_arm {R : Type} (k : Nat) : Arm R := fun vs m K => match vs with
  | [.int .i64 p0, .int .i64 p1] => (patinalaw05_pick k p0 p1 m).bind fun r => K (Value.int .i64 r.1) r.2
  | _ => none

theorem patinalaw05_pick_armOk {R : Type} (k : Nat) : ArmOk Try.prog 12 (patinalaw05_pick_arm (R := R) k) := by
  intro vs m K r h
  unfold patinalaw05_pick_arm at h
  split at h
  · obtain ⟨r, h1, h2⟩ := Option.bind_eq_some_iff.1 h; exact ⟨_, _, h2, fun K' => by simp only [patinalaw05_pick_arm, h1, Option.bind_some], patinalaw05_pick_ok h1⟩
  · cases h

/-! ### patinalaw05_Two_knows -/
def patinalaw05_Two_knows (k : Nat) (p0 : Option Addr) (p1 : Int) (p2 : Int) (m : Mem) : Option (Bool × Mem) :=
  (p0).bind fun a1 =>
  (ldPtr m (plus a1 0)).bind fun t2 =>
  (nand_Chip_Damage k t2 p1 p2 m).bind fun r3 =>
  (p0).bind fun a4 =>
  (ldPtr r3.2.2.2 (plus a4 2)).bind fun t5 =>
  (patinaref05_Chip_Damage k t5 p1 p2 r3.2.2.2).bind fun r6 =>
  (p0).bind fun a7 =>
  (ldPtr r6.2.2.2 (plus a7 0)).bind fun t8 =>
  (nand_Chip_Truth k t8 p1 p2 r6.2.2.2).bind fun r9 =>
  (p0).bind fun a10 =>
  (ldPtr r9.2.2.2 (plus a10 2)).bind fun t11 =>
  (patinaref05_Chip_Truth k t11 p1 p2 r9.2.2.2).bind fun r12 =>
  (p0).bind fun a13 =>
  (ldPtr r12.2.2.2 (plus a13 0)).bind fun t14 =>
  (nand_Chip_Reads k t14 p1 r12.2.2.2).bind fun r15 =>
  (p0).bind fun a16 =>
  (ldPtr r15.2.2 (plus a16 2)).bind fun t17 =>
  (patinaref05_Chip_Reads k t17 p1 r15.2.2).bind fun r18 =>
  (p0).bind fun a19 =>
  (ldPtr r18.2.2 (plus a19 0)).bind fun t20 =>
  (nand_Chip_Failed k t20 p1 r18.2.2).bind fun r21 =>
  (p0).bind fun a22 =>
  (ldPtr r21.2.2 (plus a22 2)).bind fun t23 =>
  (patinaref05_Chip_Failed k t23 p1 r21.2.2).bind fun r24 =>
  (patinaref01_Same k r9.1.a r9.1.len r9.1.cap r12.1.a r12.1.len r12.1.cap r24.2.2).bind fun r25 =>
  bif r3.1 != r6.1 then (
  some (false, r25.2)) else (
  bif r3.2.1 != r6.2.1 then (
  some (false, r25.2)) else (
  bif !r25.1 then (
  some (false, r25.2)) else (
  bif !(r9.2.1 == r12.2.1) then (
  some (false, r25.2)) else (
  bif r15.1 != r18.1 then (
  some (false, r25.2)) else (
  bif !(r21.1 == r24.1) then (
  some (false, r25.2)) else (
  (rdSl r25.2 r12.1.a r12.1.len 1).bind fun l26 =>
  (appM 1 1 r25.2 none 0 0 r12.1.len l26).bind fun r27 =>
  (p0).bind fun a28 =>
  (ldSl r27.2 (plus a28 4)).bind fun t29 =>
  let m30 : Mem := r27.2 ++ [.live [(Value.slice r9.1.a r9.1.len r9.1.cap)]]
  (rdSl m30 (some ⟨List.length r27.2, 0, Option.none⟩) 1 1).bind fun l31 =>
  (appM 1 24 m30 t29.a t29.len t29.cap 1 l31).bind fun r32 =>
  (p0).bind fun a33 =>
  (st r32.2 (plus a33 4) (Value.slice r32.1.a r32.1.len r32.1.cap)).bind fun m34 =>
  (p0).bind fun a35 =>
  (ldSl m34 (plus a35 5)).bind fun t36 =>
  let m37 : Mem := m34 ++ [.live [(Value.slice r27.1.a r27.1.len r27.1.cap)]]
  (rdSl m37 (some ⟨List.length m34, 0, Option.none⟩) 1 1).bind fun l38 =>
  (appM 1 24 m37 t36.a t36.len t36.cap 1 l38).bind fun r39 =>
  (p0).bind fun a40 =>
  (st r39.2 (plus a40 5) (Value.slice r39.1.a r39.1.len r39.1.cap)).bind fun m41 =>
  (patinalaw00_Code k r3.2.2.1 m41).bind fun r42 =>
  bif r42.1 == r6.2.2.1 then (
  (patinalaw00_Code k r9.2.2.1 r42.2).bind fun r43 =>
  (patinalaw00_Code k r15.2.1 r43.2).bind fun r44 =>
  bif r44.1 == r18.2.1 then (
  (patinalaw00_Code k r21.2.1 r44.2).bind fun r45 =>
  bif r43.1 == r12.2.2.1 then (
  bif r45.1 == r24.2.1 then (
  (p0).bind fun a46 =>
  (ldPtr r45.2 (plus a46 0)).bind fun t47 =>
  (nand_Chip_On k t47 r45.2).bind fun r48 =>
  (p0).bind fun a49 =>
  (ldPtr r48.2 (plus a49 2)).bind fun t50 =>
  (t50).bind fun a51 =>
  (ldBool r48.2 (plus a51 1)).bind fun t52 =>
  bif r48.1 == t52 then (
  (p0).bind fun a53 =>
  (ldPtr r48.2 (plus a53 0)).bind fun t54 =>
  (nand_Chip_Steps k t54 r48.2).bind fun r55 =>
  (p0).bind fun a56 =>
  (ldPtr r55.2 (plus a56 2)).bind fun t57 =>
  (t57).bind fun a58 =>
  (ldInt .i64 r55.2 (plus a58 3)).bind fun t59 =>
  (ldPtr r45.2 (plus a49 2)).bind fun t60 =>
  bif decide (t60 = t50) then (
  (ldBool r45.2 (plus a51 1)).bind fun t61 =>
  bif t61 == t52 then (
  (ldPtr r48.2 (plus a56 2)).bind fun t62 =>
  bif decide (t62 = t57) then (
  (ldInt .i64 r48.2 (plus a58 3)).bind fun t63 =>
  bif t63 == t59 then (
  some (r55.1 == t59, r55.2)) else none) else none) else none) else none) else (
  (ldPtr r45.2 (plus a49 2)).bind fun t64 =>
  bif decide (t64 = t50) then (
  (ldBool r45.2 (plus a51 1)).bind fun t65 =>
  bif t65 == t52 then (
  some (false, r48.2)) else none) else none)) else (
  some (false, r45.2))) else (
  some (false, r45.2))) else (
  bif r43.1 == r12.2.2.1 then (
  some (false, r44.2)) else (
  some (false, r44.2)))) else (
  (patinalaw00_Code k r15.2.1 r42.2).bind fun r66 =>
  bif r66.1 == r18.2.1 then (
  (patinalaw00_Code k r21.2.1 r66.2).bind fun r67 =>
  some (false, r67.2)) else (
  some (false, r66.2)))))))))

def patinalaw05_Two_knows_call {R : Type} (k : Nat) : Fun R := callCons 9 (patinaref01_Same_arm k) (callCons 15 (nand_Chip_Damage_arm k) (callCons 16 (nand_Chip_Truth_arm k) (callCons 24 (patinalaw00_Code_arm k) (callCons 43 (patinaref05_Chip_Damage_arm k) (callCons 44 (patinaref05_Chip_Truth_arm k) (callCons 59 (nand_Chip_Reads_arm k) (callCons 60 (patinaref05_Chip_Reads_arm k) (callCons 61 (nand_Chip_Failed_arm k) (callCons 62 (patinaref05_Chip_Failed_arm k) (callCons 63 (nand_Chip_On_arm k) (callCons 64 (nand_Chip_Steps_arm k) (callNil))))))))))))

theorem patinalaw05_Two_knows_callOk {R : Type} (k : Nat) : CallOk Try.prog (patinalaw05_Two_knows_call (R := R) k) := callOk_cons (patinaref01_Same_armOk k) (callOk_cons (nand_Chip_Damage_armOk k) (callOk_cons (nand_Chip_Truth_armOk k) (callOk_cons (patinalaw00_Code_armOk k) (callOk_cons (patinaref05_Chip_Damage_armOk k) (callOk_cons (patinaref05_Chip_Truth_armOk k) (callOk_cons (nand_Chip_Reads_armOk k) (callOk_cons (patinaref05_Chip_Reads_armOk k) (callOk_cons (nand_Chip_Failed_armOk k) (callOk_cons (patinaref05_Chip_Failed_armOk k) (callOk_cons (nand_Chip_On_armOk k) (callOk_cons (nand_Chip_Steps_armOk k) (callOk_nil))))))))))))

def patinalaw05_Two_knows_loop (k : Nat) : Nat → List Value → Mem → (Nat → List Value → Mem → Option (Bool × Mem)) → Option (Bool × Mem) := fun _ _ _ _ => none

def patinalaw05_Two_knows_C (k : Nat) : Ctx (Bool × Mem) := ⟨tt, patinalaw05_Two_knows_call k, patinalaw05_Two_knows_loop k, [], []⟩

def patinalaw05_Two_knows_dec : Value → Mem → Option (Bool × Mem) := fun v m => match v with
  | .bool q0 => some (q0, m)
  | _ => none

theorem patinalaw05_Two_knows_eq (k : Nat) (p0 : Option Addr) (p1 : Int) (p2 : Int) (m : Mem) : fnX (patinalaw05_Two_knows_C k) Try.f40 [(Value.pointer p0), (Value.int .i64 p1), (Value.int .i64 p2)] m patinalaw05_Two_knows_dec = patinalaw05_Two_knows k p0 p1 p2 m := by kernel_rfl

theorem patinalaw05_Two_knows_ok {k : Nat} {p0 : Option Addr} {p1 : Int} {p2 : Int} {m : Mem} {r : (Bool × Mem)} (h : patinalaw05_Two_knows k p0 p1 p2 m = some r) : CallP Try.prog 40 [(Value.pointer p0), (Value.int .i64 p1), (Value.int .i64 p2)] m fun v m' => v = (Value.bool r.1) ∧ m' = r.2 := by
  refine (fn_sound (C := patinalaw05_Two_knows_C k) (c := body Try.f40) tOk mixed (patinalaw05_Two_knows_callOk k) Try.func40 (by kernel_rfl) (by kernel_rfl) (by kernel_rfl) (by kernel_rfl) ?_ ?_ (Eq.trans (patinalaw05_Two_knows_eq k p0 p1 p2 m) h)).mono ?_
  · intro p hp; rw [show loopsOf 0 (body Try.f40) = [] by kernel_rfl] at hp; cases hp
  · intro p hp; rw [show rangesOf 0 (body Try.f40) = [] by kernel_rfl] at hp; cases hp
  · intro v m' hp
    unfold patinalaw05_Two_knows_dec at hp
    split at hp
    · simp only [Option.some.injEq] at hp; subst hp; exact ⟨rfl, rfl⟩
    · cases hp

def patinalaw05_Two_knows_arm {R : Type} (k : Nat) : Arm R := fun vs m K => match vs with
  | [.pointer p0, .int .i64 p1, .int .i64 p2] => (patinalaw05_Two_knows k p0 p1 p2 m).bind fun r => K (Value.bool r.1) r.2
  | _ => none

theorem patinalaw05_Two_knows_armOk {R : Type} (k : Nat) : ArmOk Try.prog 40 (patinalaw05_Two_knows_arm (R := R) k) := by
  intro vs m K r h
  unfold patinalaw05_Two_knows_arm at h
  split at h
  · obtain ⟨r, h1, h2⟩ := Option.bind_eq_some_iff.1 h; exact ⟨_, _, h2, fun K' => by simp only [patinalaw05_Two_knows_arm, h1, Option.bind_some], patinalaw05_Two_knows_ok h1⟩
  · cases h

/-! ### patinalaw05_Two_step -/
def patinalaw05_Two_step_j1 (k : Nat) (mj : Mem) : Option (Bool × Mem) :=
  some (true, mj)

def patinalaw05_Two_step (k : Nat) (p0 : Option Addr) (p1 : List Value) (m : Mem) : Option (Bool × Mem) :=
  bif Nat.beq (List.length p1) 4 then (
  let m1 : Mem := m ++ [.live p1]
  (ldInt .i64 m1 (plus ⟨List.length m, 0, Option.none⟩ 0)).bind fun t2 =>
  (patinalaw05_pick k t2 11 m1).bind fun r3 =>
  bif r3.1 == 0 then (
  (p0).bind fun a4 =>
  (ldPtr r3.2 (plus a4 0)).bind fun t5 =>
  (ldInt .i64 r3.2 (plus ⟨List.length m, 0, Option.none⟩ 1)).bind fun t6 =>
  (nand_Chip_Read k t5 t6 r3.2).bind fun r7 =>
  (p0).bind fun a8 =>
  (ldPtr r7.2.2 (plus a8 2)).bind fun t9 =>
  (ldInt .i64 r7.2.2 (plus ⟨List.length m, 0, Option.none⟩ 1)).bind fun t10 =>
  (patinaref05_Chip_Read k t9 t10 r7.2.2).bind fun r11 =>
  (patinaref01_Same k r7.1.a r7.1.len r7.1.cap r11.1.a r11.1.len r11.1.cap r11.2.2).bind fun r12 =>
  (p0).bind fun a13 =>
  (ldSl r12.2 (plus a13 4)).bind fun t14 =>
  let m15 : Mem := r12.2 ++ [.live [(Value.slice r7.1.a r7.1.len r7.1.cap)]]
  (rdSl m15 (some ⟨List.length r12.2, 0, Option.none⟩) 1 1).bind fun l16 =>
  (appM 1 24 m15 t14.a t14.len t14.cap 1 l16).bind fun r17 =>
  (p0).bind fun a18 =>
  (st r17.2 (plus a18 4) (Value.slice r17.1.a r17.1.len r17.1.cap)).bind fun m19 =>
  (p0).bind fun a20 =>
  (ldSl m19 (plus a20 5)).bind fun t21 =>
  let m22 : Mem := m19 ++ [.live [(Value.slice r11.1.a r11.1.len r11.1.cap)]]
  (rdSl m22 (some ⟨List.length m19, 0, Option.none⟩) 1 1).bind fun l23 =>
  (appM 1 24 m22 t21.a t21.len t21.cap 1 l23).bind fun r24 =>
  (p0).bind fun a25 =>
  (st r24.2 (plus a25 5) (Value.slice r24.1.a r24.1.len r24.1.cap)).bind fun m26 =>
  bif r12.1 then (
  (patinalaw00_Code k r7.2.1 m26).bind fun r27 =>
  some (r27.1 == r11.2.1, r27.2)) else (
  some (false, m26))) else (
  bif r3.1 == 1 then (
  (ldSl r3.2 (plus ⟨List.length m, 0, Option.none⟩ 3)).bind fun t28 =>
  (patinaref01_Lend k t28.a t28.len t28.cap r3.2).bind fun r29 =>
  (p0).bind fun a30 =>
  (ldPtr r29.2 (plus a30 0)).bind fun t31 =>
  (ldInt .i64 r29.2 (plus ⟨List.length m, 0, Option.none⟩ 1)).bind fun t32 =>
  (ldInt .i64 r29.2 (plus ⟨List.length m, 0, Option.none⟩ 2)).bind fun t33 =>
  (patinaref01_Lent_Bytes k r29.1 r29.2).bind fun r34 =>
  (nand_Chip_Write k t31 t32 t33 r34.1.a r34.1.len r34.1.cap r34.2).bind fun r35 =>
  (ldPtr r34.2 (plus a30 0)).bind fun t36 =>
  bif decide (t36 = t31) then (
  (ldInt .i64 r34.2 (plus ⟨List.length m, 0, Option.none⟩ 1)).bind fun t37 =>
  bif t37 == t32 then (
  (ldInt .i64 r34.2 (plus ⟨List.length m, 0, Option.none⟩ 2)).bind fun t38 =>
  bif t38 == t33 then (
  (patinaref01_Lent_Kept k r29.1 r35.2).bind fun r39 =>
  (patinaref01_Lent_Turn k r29.1 r39.2).bind fun r40 =>
  (p0).bind fun a41 =>
  (ldPtr r40 (plus a41 2)).bind fun t42 =>
  (ldInt .i64 r40 (plus ⟨List.length m, 0, Option.none⟩ 1)).bind fun t43 =>
  (ldInt .i64 r40 (plus ⟨List.length m, 0, Option.none⟩ 2)).bind fun t44 =>
  (ldSl r40 (plus ⟨List.length m, 0, Option.none⟩ 3)).bind fun t45 =>
  (patinaref05_Chip_Write k t42 t43 t44 t45.a t45.len t45.cap r40).bind fun r46 =>
  bif r39.1 then (
  (patinalaw00_Code k r35.1 r46.2).bind fun r47 =>
  some (r47.1 == r46.1, r47.2)) else (
  some (false, r46.2))) else none) else none) else none) else (
  bif r3.1 == 2 then (
  (p0).bind fun a48 =>
  (ldPtr r3.2 (plus a48 0)).bind fun t49 =>
  (ldInt .i64 r3.2 (plus ⟨List.length m, 0, Option.none⟩ 1)).bind fun t50 =>
  (nand_Chip_Erase k t49 t50 r3.2).bind fun r51 =>
  (patinalaw00_Code k r51.1 r51.2).bind fun r52 =>
  (p0).bind fun a53 =>
  (ldPtr r52.2 (plus a53 2)).bind fun t54 =>
  (ldInt .i64 r52.2 (plus ⟨List.length m, 0, Option.none⟩ 1)).bind fun t55 =>
  (patinaref05_Chip_Erase k t54 t55 r52.2).bind fun r56 =>
  (ldPtr r51.2 (plus a53 2)).bind fun t57 =>
  bif decide (t57 = t54) then (
  (ldInt .i64 r51.2 (plus ⟨List.length m, 0, Option.none⟩ 1)).bind fun t58 =>
  bif t58 == t55 then (
  some (r52.1 == r56.1, r56.2)) else none) else none) else (
  bif r3.1 == 3 then (
  (p0).bind fun a59 =>
  (ldPtr r3.2 (plus a59 0)).bind fun t60 =>
  (ldInt .i64 r3.2 (plus ⟨List.length m, 0, Option.none⟩ 1)).bind fun t61 =>
  (ldInt .i64 r3.2 (plus ⟨List.length m, 0, Option.none⟩ 2)).bind fun t62 =>
  (nand_Chip_Flip k t60 t61 t62 r3.2).bind fun r63 =>
  (patinalaw00_Code k r63.1 r63.2).bind fun r64 =>
  (p0).bind fun a65 =>
  (ldPtr r64.2 (plus a65 2)).bind fun t66 =>
  (ldInt .i64 r64.2 (plus ⟨List.length m, 0, Option.none⟩ 1)).bind fun t67 =>
  (ldInt .i64 r64.2 (plus ⟨List.length m, 0, Option.none⟩ 2)).bind fun t68 =>
  (patinaref05_Chip_Flip k t66 t67 t68 r64.2).bind fun r69 =>
  (ldPtr r63.2 (plus a65 2)).bind fun t70 =>
  bif decide (t70 = t66) then (
  (ldInt .i64 r63.2 (plus ⟨List.length m, 0, Option.none⟩ 1)).bind fun t71 =>
  bif t71 == t67 then (
  (ldInt .i64 r63.2 (plus ⟨List.length m, 0, Option.none⟩ 2)).bind fun t72 =>
  bif t72 == t68 then (
  some (r64.1 == r69.1, r69.2)) else none) else none) else none) else (
  bif r3.1 == 4 then (
  (p0).bind fun a73 =>
  (ldPtr r3.2 (plus a73 0)).bind fun t74 =>
  (ldInt .i64 r3.2 (plus ⟨List.length m, 0, Option.none⟩ 1)).bind fun t75 =>
  (ldInt .i64 r3.2 (plus ⟨List.length m, 0, Option.none⟩ 2)).bind fun t76 =>
  (nand_Chip_FailProgram k t74 t75 t76 r3.2).bind fun r77 =>
  (patinalaw00_Code k r77.1 r77.2).bind fun r78 =>
  (p0).bind fun a79 =>
  (ldPtr r78.2 (plus a79 2)).bind fun t80 =>
  (ldInt .i64 r78.2 (plus ⟨List.length m, 0, Option.none⟩ 1)).bind fun t81 =>
  (ldInt .i64 r78.2 (plus ⟨List.length m, 0, Option.none⟩ 2)).bind fun t82 =>
  (patinaref05_Chip_FailProgram k t80 t81 t82 r78.2).bind fun r83 =>
  (ldPtr r77.2 (plus a79 2)).bind fun t84 =>
  bif decide (t84 = t80) then (
  (ldInt .i64 r77.2 (plus ⟨List.length m, 0, Option.none⟩ 1)).bind fun t85 =>
  bif t85 == t81 then (
  (ldInt .i64 r77.2 (plus ⟨List.length m, 0, Option.none⟩ 2)).bind fun t86 =>
  bif t86 == t82 then (
  some (r78.1 == r83.1, r83.2)) else none) else none) else none) else (
  bif r3.1 == 5 then (
  (p0).bind fun a87 =>
  (ldPtr r3.2 (plus a87 0)).bind fun t88 =>
  (ldInt .i64 r3.2 (plus ⟨List.length m, 0, Option.none⟩ 1)).bind fun t89 =>
  (nand_Chip_FailErase k t88 t89 r3.2).bind fun r90 =>
  (patinalaw00_Code k r90.1 r90.2).bind fun r91 =>
  (p0).bind fun a92 =>
  (ldPtr r91.2 (plus a92 2)).bind fun t93 =>
  (ldInt .i64 r91.2 (plus ⟨List.length m, 0, Option.none⟩ 1)).bind fun t94 =>
  (patinaref05_Chip_FailErase k t93 t94 r91.2).bind fun r95 =>
  (ldPtr r90.2 (plus a92 2)).bind fun t96 =>
  bif decide (t96 = t93) then (
  (ldInt .i64 r90.2 (plus ⟨List.length m, 0, Option.none⟩ 1)).bind fun t97 =>
  bif t97 == t94 then (
  some (r91.1 == r95.1, r95.2)) else none) else none) else (
  bif r3.1 == 6 then (
  (p0).bind fun a98 =>
  (ldPtr r3.2 (plus a98 0)).bind fun t99 =>
  (ldInt .i64 r3.2 (plus ⟨List.length m, 0, Option.none⟩ 1)).bind fun t100 =>
  (nand_Chip_Cut k t99 t100 r3.2).bind fun r101 =>
  (patinalaw00_Code k r101.1 r101.2).bind fun r102 =>
  (p0).bind fun a103 =>
  (ldPtr r102.2 (plus a103 2)).bind fun t104 =>
  (ldInt .i64 r102.2 (plus ⟨List.length m, 0, Option.none⟩ 1)).bind fun t105 =>
  (patinaref05_Chip_Cut k t104 t105 r102.2).bind fun r106 =>
  (ldPtr r101.2 (plus a103 2)).bind fun t107 =>
  bif decide (t107 = t104) then (
  (ldInt .i64 r101.2 (plus ⟨List.length m, 0, Option.none⟩ 1)).bind fun t108 =>
  bif t108 == t105 then (
  some (r102.1 == r106.1, r106.2)) else none) else none) else (
  bif r3.1 == 7 then (
  (p0).bind fun a109 =>
  (ldPtr r3.2 (plus a109 0)).bind fun t110 =>
  (nand_Chip_Power k t110 r3.2).bind fun r111 =>
  (p0).bind fun a112 =>
  (ldPtr r111 (plus a112 2)).bind fun t113 =>
  (patinaref05_Chip_Again k t113 r111).bind fun r114 =>
  patinalaw05_Two_step_j1 k  r114) else (
  bif r3.1 == 8 then (
  (ldInt .i64 r3.2 (plus ⟨List.length m, 0, Option.none⟩ 1)).bind fun t115 =>
  (ldInt .i64 r3.2 (plus ⟨List.length m, 0, Option.none⟩ 2)).bind fun t116 =>
  (patinalaw05_Two_knows k p0 t115 t116 r3.2).bind fun r117 =>
  some (r117.1, r117.2)) else (
  bif r3.1 == 9 then (
  (p0).bind fun a118 =>
  (ldPtr r3.2 (plus a118 0)).bind fun t119 =>
  (nand_Chip_Clone k t119 r3.2).bind fun r120 =>
  (p0).bind fun a121 =>
  (st r120.2 (plus a121 1) (Value.pointer r120.1)).bind fun m122 =>
  (p0).bind fun a123 =>
  (ldPtr m122 (plus a123 2)).bind fun t124 =>
  (patinaref05_Chip_Clone k t124 m122).bind fun r125 =>
  (p0).bind fun a126 =>
  (st r125.2 (plus a126 3) (Value.pointer r125.1)).bind fun m127 =>
  (p0).bind fun a128 =>
  (ldPtr m127 (plus a128 1)).bind fun t129 =>
  some (!(Option.isNone t129), m127)) else (
  bif r3.1 == 10 then (
  (p0).bind fun a130 =>
  (ldPtr r3.2 (plus a130 0)).bind fun t131 =>
  (p0).bind fun a132 =>
  (ldPtr r3.2 (plus a132 2)).bind fun t133 =>
  (p0).bind fun a134 =>
  (ldPtr r3.2 (plus a134 1)).bind fun t135 =>
  (p0).bind fun a136 =>
  (st r3.2 (plus a136 0) (Value.pointer t135)).bind fun m137 =>
  (p0).bind fun a138 =>
  (ldPtr m137 (plus a138 3)).bind fun t139 =>
  (p0).bind fun a140 =>
  (st m137 (plus a140 2) (Value.pointer t139)).bind fun m141 =>
  (p0).bind fun a142 =>
  (st m141 (plus a142 1) (Value.pointer t131)).bind fun m143 =>
  (p0).bind fun a144 =>
  (st m143 (plus a144 3) (Value.pointer t133)).bind fun m145 =>
  patinalaw05_Two_step_j1 k  m145) else (
  patinalaw05_Two_step_j1 k  r3.2)))))))))))) else none

def patinalaw05_Two_step_call {R : Type} (k : Nat) : Fun R := callCons 9 (patinaref01_Same_arm k) (callCons 12 (patinalaw05_pick_arm k) (callCons 13 (nand_Chip_Power_arm k) (callCons 14 (nand_Chip_Read_arm k) (callCons 17 (nand_Chip_Flip_arm k) (callCons 19 (nand_Chip_Write_arm k) (callCons 23 (patinaref05_Chip_Read_arm k) (callCons 24 (patinalaw00_Code_arm k) (callCons 25 (patinaref01_Lend_arm k) (callCons 26 (patinaref01_Lent_Bytes_arm k) (callCons 27 (patinaref01_Lent_Kept_arm k) (callCons 28 (patinaref01_Lent_Turn_arm k) (callCons 29 (patinaref05_Chip_Write_arm k) (callCons 30 (nand_Chip_Erase_arm k) (callCons 31 (patinaref05_Chip_Erase_arm k) (callCons 32 (patinaref05_Chip_Flip_arm k) (callCons 33 (nand_Chip_FailProgram_arm k) (callCons 34 (patinaref05_Chip_FailProgram_arm k) (callCons 35 (nand_Chip_FailErase_arm k) (callCons 36 (patinaref05_Chip_FailErase_arm k) (callCons 37 (nand_Chip_Cut_arm k) (callCons 38 (patinaref05_Chip_Cut_arm k) (callCons 39 (patinaref05_Chip_Again_arm k) (callCons 40 (patinalaw05_Two_knows_arm k) (callCons 41 (nand_Chip_Clone_arm k) (callCons 42 (patinaref05_Chip_Clone_arm k) (callNil))))))))))))))))))))))))))

theorem patinalaw05_Two_step_callOk {R : Type} (k : Nat) : CallOk Try.prog (patinalaw05_Two_step_call (R := R) k) := callOk_cons (patinaref01_Same_armOk k) (callOk_cons (patinalaw05_pick_armOk k) (callOk_cons (nand_Chip_Power_armOk k) (callOk_cons (nand_Chip_Read_armOk k) (callOk_cons (nand_Chip_Flip_armOk k) (callOk_cons (nand_Chip_Write_armOk k) (callOk_cons (patinaref05_Chip_Read_armOk k) (callOk_cons (patinalaw00_Code_armOk k) (callOk_cons (patinaref01_Lend_armOk k) (callOk_cons (patinaref01_Lent_Bytes_armOk k) (callOk_cons (patinaref01_Lent_Kept_armOk k) (callOk_cons (patinaref01_Lent_Turn_armOk k) (callOk_cons (patinaref05_Chip_Write_armOk k) (callOk_cons (nand_Chip_Erase_armOk k) (callOk_cons (patinaref05_Chip_Erase_armOk k) (callOk_cons (patinaref05_Chip_Flip_armOk k) (callOk_cons (nand_Chip_FailProgram_armOk k) (callOk_cons (patinaref05_Chip_FailProgram_armOk k) (callOk_cons (nand_Chip_FailErase_armOk k) (callOk_cons (patinaref05_Chip_FailErase_armOk k) (callOk_cons (nand_Chip_Cut_armOk k) (callOk_cons (patinaref05_Chip_Cut_armOk k) (callOk_cons (patinaref05_Chip_Again_armOk k) (callOk_cons (patinalaw05_Two_knows_armOk k) (callOk_cons (nand_Chip_Clone_armOk k) (callOk_cons (patinaref05_Chip_Clone_armOk k) (callOk_nil))))))))))))))))))))))))))

def patinalaw05_Two_step_loop (k : Nat) : Nat → List Value → Mem → (Nat → List Value → Mem → Option (Bool × Mem)) → Option (Bool × Mem) := fun _ _ _ _ => none

def patinalaw05_Two_step_C (k : Nat) : Ctx (Bool × Mem) := ⟨tt, patinalaw05_Two_step_call k, patinalaw05_Two_step_loop k, [], []⟩

def patinalaw05_Two_step_dec : Value → Mem → Option (Bool × Mem) := fun v m => match v with
  | .bool q0 => some (q0, m)
  | _ => none

theorem patinalaw05_Two_step_eq (k : Nat) (p0 : Option Addr) (p1 : List Value) (m : Mem) : fnX (patinalaw05_Two_step_C k) Try.f8 [(Value.pointer p0), (Value.agg ⟨p1⟩)] m patinalaw05_Two_step_dec = patinalaw05_Two_step k p0 p1 m := by kernel_rfl

theorem patinalaw05_Two_step_ok {k : Nat} {p0 : Option Addr} {p1 : List Value} {m : Mem} {r : (Bool × Mem)} (h : patinalaw05_Two_step k p0 p1 m = some r) : CallP Try.prog 8 [(Value.pointer p0), (Value.agg ⟨p1⟩)] m fun v m' => v = (Value.bool r.1) ∧ m' = r.2 := by
  refine (fn_sound (C := patinalaw05_Two_step_C k) (c := body Try.f8) tOk mixed (patinalaw05_Two_step_callOk k) Try.func8 (by kernel_rfl) (by kernel_rfl) (by kernel_rfl) (by kernel_rfl) ?_ ?_ (Eq.trans (patinalaw05_Two_step_eq k p0 p1 m) h)).mono ?_
  · intro p hp; rw [show loopsOf 0 (body Try.f8) = [] by kernel_rfl] at hp; cases hp
  · intro p hp; rw [show rangesOf 0 (body Try.f8) = [] by kernel_rfl] at hp; cases hp
  · intro v m' hp
    unfold patinalaw05_Two_step_dec at hp
    split at hp
    · simp only [Option.some.injEq] at hp; subst hp; exact ⟨rfl, rfl⟩
    · cases hp

def patinalaw05_Two_step_arm {R : Type} (k : Nat) : Arm R := fun vs m K => match vs with
  | [.pointer p0, .agg ⟨p1⟩] => (patinalaw05_Two_step k p0 p1 m).bind fun r => K (Value.bool r.1) r.2
  | _ => none

theorem patinalaw05_Two_step_armOk {R : Type} (k : Nat) : ArmOk Try.prog 8 (patinalaw05_Two_step_arm (R := R) k) := by
  intro vs m K r h
  unfold patinalaw05_Two_step_arm at h
  split at h
  · obtain ⟨r, h1, h2⟩ := Option.bind_eq_some_iff.1 h; exact ⟨_, _, h2, fun K' => by simp only [patinalaw05_Two_step_arm, h1, Option.bind_some], patinalaw05_Two_step_ok h1⟩
  · cases h

/-! ### patinalaw05_Two_stands -/
def patinalaw05_Two_stands_l4_b (k : Nat) (nx : Option Addr → Int → Int → Int → Mem → Option (Bool × Mem)) (kx0 : Bool → Mem → Option (Bool × Mem)) (kx6 : Option Addr → Int → Int → Mem → Option (Bool × Mem)) (x0 : Option Addr) (x3 : Int) (x4 : Int) (x5 : Int) (m : Mem) : Option (Bool × Mem) :=
  bif decide (x5 < 4) then (
  (x0).bind fun a1 =>
  (ldPtr m (plus a1 0)).bind fun t2 =>
  (nand_Chip_Damage k t2 x4 x5 m).bind fun r3 =>
  (x0).bind fun a4 =>
  (ldPtr r3.2.2.2 (plus a4 2)).bind fun t5 =>
  (patinaref05_Chip_Damage k t5 x4 x5 r3.2.2.2).bind fun r6 =>
  (x0).bind fun a7 =>
  (ldPtr r6.2.2.2 (plus a7 0)).bind fun t8 =>
  (nand_Chip_Truth k t8 x4 x5 r6.2.2.2).bind fun r9 =>
  (x0).bind fun a10 =>
  (ldPtr r9.2.2.2 (plus a10 2)).bind fun t11 =>
  (patinaref05_Chip_Truth k t11 x4 x5 r9.2.2.2).bind fun r12 =>
  (isNil r3.2.2.1).bind fun b13 =>
  bif !b13 then (
  kx0 false r12.2.2.2) else (
  (isNil r9.2.2.1).bind fun b14 =>
  bif !b14 then (
  kx0 false r12.2.2.2) else (
  bif r3.1 != r6.1 then (
  kx0 false r12.2.2.2) else (
  bif r3.2.1 != r6.2.1 then (
  kx0 false r12.2.2.2) else (
  bif !(r9.2.1 == r12.2.1) then (
  kx0 false r12.2.2.2) else (
  nx x0 x3 x4 (IntKind.wrap .i64 (x5 + 1)) r12.2.2.2)))))) else (
  kx6 x0 x3 x4 m)

def patinalaw05_Two_stands_l4 (k : Nat) (kx0 : Bool → Mem → Option (Bool × Mem)) (kx6 : Option Addr → Int → Int → Mem → Option (Bool × Mem)) : Nat → Option Addr → Int → Int → Int → Mem → Option (Bool × Mem)
  | 0, _, _, _, _, _ => none
  | n + 1, x0, x3, x4, x5, m => patinalaw05_Two_stands_l4_b k (fun x0 x3 x4 x5 m => patinalaw05_Two_stands_l4 k kx0 kx6 n x0 x3 x4 x5 m) kx0 kx6 x0 x3 x4 x5 m
termination_by structural x => x

theorem patinalaw05_Two_stands_l4_rule (k : Nat) (kx0 : Bool → Mem → Option (Bool × Mem)) (kx6 : Option Addr → Int → Int → Mem → Option (Bool × Mem)) {P : (Bool × Mem) → Prop} (I : Nat → Option Addr → Int → Int → Int → Mem → Prop)
    (step : ∀ d (nx : Option Addr → Int → Int → Int → Mem → Option (Bool × Mem)) (x0 : Option Addr) (x3 : Int) (x4 : Int) (x5 : Int) (m : Mem), I d x0 x3 x4 x5 m → (∀ d' (x0 : Option Addr) (x3 : Int) (x4 : Int) (x5 : Int) (m : Mem), d' < d → I d' x0 x3 x4 x5 m → Ok (nx x0 x3 x4 x5 m) P) → Ok (patinalaw05_Two_stands_l4_b k nx kx0 kx6 x0 x3 x4 x5 m) P) :
    ∀ n d (x0 : Option Addr) (x3 : Int) (x4 : Int) (x5 : Int) (m : Mem), d < n → I d x0 x3 x4 x5 m → Ok (patinalaw05_Two_stands_l4 k kx0 kx6 n x0 x3 x4 x5 m) P
  | 0, d, x0, x3, x4, x5, m, h, _ => absurd h (Nat.not_lt_zero _)
  | n + 1, d, x0, x3, x4, x5, m, h, hI => step d _ x0 x3 x4 x5 m hI fun d' x0 x3 x4 x5 m h' hI' => patinalaw05_Two_stands_l4_rule k kx0 kx6 I step n d' x0 x3 x4 x5 m (by omega) hI'

def patinalaw05_Two_stands_l2_b (k : Nat) (nx : Option Addr → Int → Int → Mem → Option (Bool × Mem)) (kx0 : Bool → Mem → Option (Bool × Mem)) (kx4 : Option Addr → Int → Mem → Option (Bool × Mem)) (x0 : Option Addr) (x3 : Int) (x4 : Int) (m : Mem) : Option (Bool × Mem) :=
  bif decide (x4 < (IntKind.wrap .i64 ((IntKind.wrap .i64 (8 * x3)) + 8))) then (
  patinalaw05_Two_stands_l4 k (fun y2 m15 => 
  kx0 y2 m15) (fun y0 y3 y4 m16 => 
  nx y0 y3 (IntKind.wrap .i64 (y4 + 1)) m16) k x0 x3 x4 0 m) else (
  kx4 x0 x3 m)

def patinalaw05_Two_stands_l2 (k : Nat) (kx0 : Bool → Mem → Option (Bool × Mem)) (kx4 : Option Addr → Int → Mem → Option (Bool × Mem)) : Nat → Option Addr → Int → Int → Mem → Option (Bool × Mem)
  | 0, _, _, _, _ => none
  | n + 1, x0, x3, x4, m => patinalaw05_Two_stands_l2_b k (fun x0 x3 x4 m => patinalaw05_Two_stands_l2 k kx0 kx4 n x0 x3 x4 m) kx0 kx4 x0 x3 x4 m
termination_by structural x => x

theorem patinalaw05_Two_stands_l2_rule (k : Nat) (kx0 : Bool → Mem → Option (Bool × Mem)) (kx4 : Option Addr → Int → Mem → Option (Bool × Mem)) {P : (Bool × Mem) → Prop} (I : Nat → Option Addr → Int → Int → Mem → Prop)
    (step : ∀ d (nx : Option Addr → Int → Int → Mem → Option (Bool × Mem)) (x0 : Option Addr) (x3 : Int) (x4 : Int) (m : Mem), I d x0 x3 x4 m → (∀ d' (x0 : Option Addr) (x3 : Int) (x4 : Int) (m : Mem), d' < d → I d' x0 x3 x4 m → Ok (nx x0 x3 x4 m) P) → Ok (patinalaw05_Two_stands_l2_b k nx kx0 kx4 x0 x3 x4 m) P) :
    ∀ n d (x0 : Option Addr) (x3 : Int) (x4 : Int) (m : Mem), d < n → I d x0 x3 x4 m → Ok (patinalaw05_Two_stands_l2 k kx0 kx4 n x0 x3 x4 m) P
  | 0, d, x0, x3, x4, m, h, _ => absurd h (Nat.not_lt_zero _)
  | n + 1, d, x0, x3, x4, m, h, hI => step d _ x0 x3 x4 m hI fun d' x0 x3 x4 m h' hI' => patinalaw05_Two_stands_l2_rule k kx0 kx4 I step n d' x0 x3 x4 m (by omega) hI'

def patinalaw05_Two_stands_l0_b (k : Nat) (nx : Option Addr → Int → Mem → Option (Bool × Mem)) (kx0 : Bool → Mem → Option (Bool × Mem)) (kx2 : Option Addr → Mem → Option (Bool × Mem)) (x0 : Option Addr) (x3 : Int) (m : Mem) : Option (Bool × Mem) :=
  bif decide (x3 < 12) then (
  patinalaw05_Two_stands_l2 k (fun y2 m17 => 
  kx0 y2 m17) (fun y0 y3 m18 => 
  (patinalaw05_Two_knows k y0 y3 0 m18).bind fun r19 =>
  bif !r19.1 then (
  kx0 false r19.2) else (
  nx y0 (IntKind.wrap .i64 (y3 + 1)) r19.2)) k x0 x3 (IntKind.wrap .i64 (8 * x3)) m) else (
  kx2 x0 m)

def patinalaw05_Two_stands_l0 (k : Nat) (kx0 : Bool → Mem → Option (Bool × Mem)) (kx2 : Option Addr → Mem → Option (Bool × Mem)) : Nat → Option Addr → Int → Mem → Option (Bool × Mem)
  | 0, _, _, _ => none
  | n + 1, x0, x3, m => patinalaw05_Two_stands_l0_b k (fun x0 x3 m => patinalaw05_Two_stands_l0 k kx0 kx2 n x0 x3 m) kx0 kx2 x0 x3 m
termination_by structural x => x

theorem patinalaw05_Two_stands_l0_rule (k : Nat) (kx0 : Bool → Mem → Option (Bool × Mem)) (kx2 : Option Addr → Mem → Option (Bool × Mem)) {P : (Bool × Mem) → Prop} (I : Nat → Option Addr → Int → Mem → Prop)
    (step : ∀ d (nx : Option Addr → Int → Mem → Option (Bool × Mem)) (x0 : Option Addr) (x3 : Int) (m : Mem), I d x0 x3 m → (∀ d' (x0 : Option Addr) (x3 : Int) (m : Mem), d' < d → I d' x0 x3 m → Ok (nx x0 x3 m) P) → Ok (patinalaw05_Two_stands_l0_b k nx kx0 kx2 x0 x3 m) P) :
    ∀ n d (x0 : Option Addr) (x3 : Int) (m : Mem), d < n → I d x0 x3 m → Ok (patinalaw05_Two_stands_l0 k kx0 kx2 n x0 x3 m) P
  | 0, d, x0, x3, m, h, _ => absurd h (Nat.not_lt_zero _)
  | n + 1, d, x0, x3, m, h, hI => step d _ x0 x3 m hI fun d' x0 x3 m h' hI' => patinalaw05_Two_stands_l0_rule k kx0 kx2 I step n d' x0 x3 m (by omega) hI'

def patinalaw05_Two_stands_l6_b (k : Nat) (nx : Option Addr → Int → Mem → Option (Bool × Mem)) (kx0 : Bool → Mem → Option (Bool × Mem)) (kx8 : Mem → Option (Bool × Mem)) (x0 : Option Addr) (x19 : Int) (m : Mem) : Option (Bool × Mem) :=
  bif decide (x19 < 96) then (
  (x0).bind fun a28 =>
  (ldPtr m (plus a28 0)).bind fun t29 =>
  (nand_Chip_Read k t29 x19 m).bind fun r30 =>
  (x0).bind fun a31 =>
  (ldPtr r30.2.2 (plus a31 2)).bind fun t32 =>
  (patinaref05_Chip_Read k t32 x19 r30.2.2).bind fun r33 =>
  (patinaref01_Same k r30.1.a r30.1.len r30.1.cap r33.1.a r33.1.len r33.1.cap r33.2.2).bind fun r34 =>
  (isNil r30.2.1).bind fun b35 =>
  bif !b35 then (
  kx0 false r34.2) else (
  bif !r34.1 then (
  kx0 false r34.2) else (
  nx x0 (IntKind.wrap .i64 (x19 + 1)) r34.2))) else (
  kx8  m)

def patinalaw05_Two_stands_l6 (k : Nat) (kx0 : Bool → Mem → Option (Bool × Mem)) (kx8 : Mem → Option (Bool × Mem)) : Nat → Option Addr → Int → Mem → Option (Bool × Mem)
  | 0, _, _, _ => none
  | n + 1, x0, x19, m => patinalaw05_Two_stands_l6_b k (fun x0 x19 m => patinalaw05_Two_stands_l6 k kx0 kx8 n x0 x19 m) kx0 kx8 x0 x19 m
termination_by structural x => x

theorem patinalaw05_Two_stands_l6_rule (k : Nat) (kx0 : Bool → Mem → Option (Bool × Mem)) (kx8 : Mem → Option (Bool × Mem)) {P : (Bool × Mem) → Prop} (I : Nat → Option Addr → Int → Mem → Prop)
    (step : ∀ d (nx : Option Addr → Int → Mem → Option (Bool × Mem)) (x0 : Option Addr) (x19 : Int) (m : Mem), I d x0 x19 m → (∀ d' (x0 : Option Addr) (x19 : Int) (m : Mem), d' < d → I d' x0 x19 m → Ok (nx x0 x19 m) P) → Ok (patinalaw05_Two_stands_l6_b k nx kx0 kx8 x0 x19 m) P) :
    ∀ n d (x0 : Option Addr) (x19 : Int) (m : Mem), d < n → I d x0 x19 m → Ok (patinalaw05_Two_stands_l6 k kx0 kx8 n x0 x19 m) P
  | 0, d, x0, x19, m, h, _ => absurd h (Nat.not_lt_zero _)
  | n + 1, d, x0, x19, m, h, hI => step d _ x0 x19 m hI fun d' x0 x19 m h' hI' => patinalaw05_Two_stands_l6_rule k kx0 kx8 I step n d' x0 x19 m (by omega) hI'

def patinalaw05_Two_stands (k : Nat) (p0 : Option Addr) (m : Mem) : Option (Bool × Mem) :=
  patinalaw05_Two_stands_l0 k (fun y2 m20 => 
  some (y2, m20)) (fun y0 m21 => 
  (y0).bind fun a22 =>
  (ldPtr m21 (plus a22 0)).bind fun t23 =>
  (nand_Chip_Power k t23 m21).bind fun r24 =>
  (y0).bind fun a25 =>
  (ldPtr r24 (plus a25 2)).bind fun t26 =>
  (patinaref05_Chip_Again k t26 r24).bind fun r27 =>
  patinalaw05_Two_stands_l6 k (fun y2 m36 => 
  some (y2, m36)) (fun m37 => 
  some (true, m37)) k y0 0 r27) k p0 0 m

def patinalaw05_Two_stands_call {R : Type} (k : Nat) : Fun R := callCons 9 (patinaref01_Same_arm k) (callCons 13 (nand_Chip_Power_arm k) (callCons 14 (nand_Chip_Read_arm k) (callCons 15 (nand_Chip_Damage_arm k) (callCons 16 (nand_Chip_Truth_arm k) (callCons 23 (patinaref05_Chip_Read_arm k) (callCons 39 (patinaref05_Chip_Again_arm k) (callCons 40 (patinalaw05_Two_knows_arm k) (callCons 43 (patinaref05_Chip_Damage_arm k) (callCons 44 (patinaref05_Chip_Truth_arm k) (callNil))))))))))

theorem patinalaw05_Two_stands_callOk {R : Type} (k : Nat) : CallOk Try.prog (patinalaw05_Two_stands_call (R := R) k) := callOk_cons (patinaref01_Same_armOk k) (callOk_cons (nand_Chip_Power_armOk k) (callOk_cons (nand_Chip_Read_armOk k) (callOk_cons (nand_Chip_Damage_armOk k) (callOk_cons (nand_Chip_Truth_armOk k) (callOk_cons (patinaref05_Chip_Read_armOk k) (callOk_cons (patinaref05_Chip_Again_armOk k) (callOk_cons (patinalaw05_Two_knows_armOk k) (callOk_cons (patinaref05_Chip_Damage_armOk k) (callOk_cons (patinaref05_Chip_Truth_armOk k) (callOk_nil))))))))))

def patinalaw05_Two_stands_l0_L (k : Nat) (K : Nat → List Value → Mem → Option (Bool × Mem)) (n : Nat) (vs : List Value) (m : Mem) : Option (Bool × Mem) := match vs with
  | [.pointer x0, .int .i64 x3] => patinalaw05_Two_stands_l0 k (fun y2 m => K 0 [(Value.bool y2)] m) (fun y0 m => K 2 [(Value.pointer y0)] m) n x0 x3 m
  | _ => none

def patinalaw05_Two_stands_l2_L (k : Nat) (K : Nat → List Value → Mem → Option (Bool × Mem)) (n : Nat) (vs : List Value) (m : Mem) : Option (Bool × Mem) := match vs with
  | [.pointer x0, .int .i64 x3, .int .i64 x4] => patinalaw05_Two_stands_l2 k (fun y2 m => K 0 [(Value.bool y2)] m) (fun y0 y3 m => K 4 [(Value.pointer y0), (Value.int .i64 y3)] m) n x0 x3 x4 m
  | _ => none

def patinalaw05_Two_stands_l4_L (k : Nat) (K : Nat → List Value → Mem → Option (Bool × Mem)) (n : Nat) (vs : List Value) (m : Mem) : Option (Bool × Mem) := match vs with
  | [.pointer x0, .int .i64 x3, .int .i64 x4, .int .i64 x5] => patinalaw05_Two_stands_l4 k (fun y2 m => K 0 [(Value.bool y2)] m) (fun y0 y3 y4 m => K 6 [(Value.pointer y0), (Value.int .i64 y3), (Value.int .i64 y4)] m) n x0 x3 x4 x5 m
  | _ => none

def patinalaw05_Two_stands_l6_L (k : Nat) (K : Nat → List Value → Mem → Option (Bool × Mem)) (n : Nat) (vs : List Value) (m : Mem) : Option (Bool × Mem) := match vs with
  | [.pointer x0, .int .i64 x19] => patinalaw05_Two_stands_l6 k (fun y2 m => K 0 [(Value.bool y2)] m) (fun m => K 8 [] m) n x0 x19 m
  | _ => none

def patinalaw05_Two_stands_loop (k : Nat) : Nat → List Value → Mem → (Nat → List Value → Mem → Option (Bool × Mem)) → Option (Bool × Mem) := fun cur vs m K => match cur with
  | 0 => patinalaw05_Two_stands_l0_L k K k vs m
  | 2 => patinalaw05_Two_stands_l2_L k K k vs m
  | 4 => patinalaw05_Two_stands_l4_L k K k vs m
  | 6 => patinalaw05_Two_stands_l6_L k K k vs m
  | _ => none

def patinalaw05_Two_stands_C (k : Nat) : Ctx (Bool × Mem) := ⟨tt, patinalaw05_Two_stands_call k, patinalaw05_Two_stands_loop k, [(0, [0, 3]), (2, [0, 3, 4]), (4, [0, 3, 4, 5]), (6, [0, 19])], [(0, [2]), (2, [0]), (4, [0, 3]), (6, [0, 3, 4]), (8, [])]⟩

noncomputable def patinalaw05_Two_stands_l0_c : Code := ((loopsOf 0 (body Try.f11)).map (·.2)).getD 0 .skip

noncomputable def patinalaw05_Two_stands_l2_c : Code := ((loopsOf 0 (body Try.f11)).map (·.2)).getD 1 .skip

noncomputable def patinalaw05_Two_stands_l4_c : Code := ((loopsOf 0 (body Try.f11)).map (·.2)).getD 2 .skip

noncomputable def patinalaw05_Two_stands_l6_c : Code := ((loopsOf 0 (body Try.f11)).map (·.2)).getD 3 .skip

theorem patinalaw05_Two_stands_loops : loopsOf 0 (body Try.f11) = [(0, patinalaw05_Two_stands_l0_c), (2, patinalaw05_Two_stands_l2_c), (4, patinalaw05_Two_stands_l4_c), (6, patinalaw05_Two_stands_l6_c)] := by kernel_rfl

theorem patinalaw05_Two_stands_l0_ok (k : Nat) : LoopOk (patinalaw05_Two_stands_C k) 0 patinalaw05_Two_stands_l0_c := by
  refine ⟨[0, 3], by kernel_rfl, fun K r => ⟨patinalaw05_Two_stands_l0_L k K, fun vs m h => ⟨k, h⟩, ?_⟩⟩
  intro n vs m h
  unfold patinalaw05_Two_stands_l0_L at h
  split at h
  · cases n with
    | zero => cases h
    | succ n => exact ⟨n, rfl, Eq.trans (by kernel_rfl) h⟩
  · cases h

theorem patinalaw05_Two_stands_l2_ok (k : Nat) : LoopOk (patinalaw05_Two_stands_C k) 2 patinalaw05_Two_stands_l2_c := by
  refine ⟨[0, 3, 4], by kernel_rfl, fun K r => ⟨patinalaw05_Two_stands_l2_L k K, fun vs m h => ⟨k, h⟩, ?_⟩⟩
  intro n vs m h
  unfold patinalaw05_Two_stands_l2_L at h
  split at h
  · cases n with
    | zero => cases h
    | succ n => exact ⟨n, rfl, Eq.trans (by kernel_rfl) h⟩
  · cases h

theorem patinalaw05_Two_stands_l4_ok (k : Nat) : LoopOk (patinalaw05_Two_stands_C k) 4 patinalaw05_Two_stands_l4_c := by
  refine ⟨[0, 3, 4, 5], by kernel_rfl, fun K r => ⟨patinalaw05_Two_stands_l4_L k K, fun vs m h => ⟨k, h⟩, ?_⟩⟩
  intro n vs m h
  unfold patinalaw05_Two_stands_l4_L at h
  split at h
  · cases n with
    | zero => cases h
    | succ n => exact ⟨n, rfl, Eq.trans (by kernel_rfl) h⟩
  · cases h

theorem patinalaw05_Two_stands_l6_ok (k : Nat) : LoopOk (patinalaw05_Two_stands_C k) 6 patinalaw05_Two_stands_l6_c := by
  refine ⟨[0, 19], by kernel_rfl, fun K r => ⟨patinalaw05_Two_stands_l6_L k K, fun vs m h => ⟨k, h⟩, ?_⟩⟩
  intro n vs m h
  unfold patinalaw05_Two_stands_l6_L at h
  split at h
  · cases n with
    | zero => cases h
    | succ n => exact ⟨n, rfl, Eq.trans (by kernel_rfl) h⟩
  · cases h

def patinalaw05_Two_stands_dec : Value → Mem → Option (Bool × Mem) := fun v m => match v with
  | .bool q0 => some (q0, m)
  | _ => none

theorem patinalaw05_Two_stands_eq (k : Nat) (p0 : Option Addr) (m : Mem) : fnX (patinalaw05_Two_stands_C k) Try.f11 [(Value.pointer p0)] m patinalaw05_Two_stands_dec = patinalaw05_Two_stands k p0 m := by kernel_rfl

theorem patinalaw05_Two_stands_ok {k : Nat} {p0 : Option Addr} {m : Mem} {r : (Bool × Mem)} (h : patinalaw05_Two_stands k p0 m = some r) : CallP Try.prog 11 [(Value.pointer p0)] m fun v m' => v = (Value.bool r.1) ∧ m' = r.2 := by
  refine (fn_sound (C := patinalaw05_Two_stands_C k) (c := body Try.f11) tOk mixed (patinalaw05_Two_stands_callOk k) Try.func11 (by kernel_rfl) (by kernel_rfl) (by kernel_rfl) (by kernel_rfl) ?_ ?_ (Eq.trans (patinalaw05_Two_stands_eq k p0 m) h)).mono ?_
  · intro p hp
    rw [patinalaw05_Two_stands_loops] at hp
    simp only [List.mem_cons, List.not_mem_nil, or_false] at hp
    rcases hp with rfl | rfl | rfl | rfl
    · exact patinalaw05_Two_stands_l0_ok k
    · exact patinalaw05_Two_stands_l2_ok k
    · exact patinalaw05_Two_stands_l4_ok k
    · exact patinalaw05_Two_stands_l6_ok k
  · intro p hp; rw [show rangesOf 0 (body Try.f11) = [] by kernel_rfl] at hp; cases hp
  · intro v m' hp
    unfold patinalaw05_Two_stands_dec at hp
    split at hp
    · simp only [Option.some.injEq] at hp; subst hp; exact ⟨rfl, rfl⟩
    · cases hp

def patinalaw05_Two_stands_arm {R : Type} (k : Nat) : Arm R := fun vs m K => match vs with
  | [.pointer p0] => (patinalaw05_Two_stands k p0 m).bind fun r => K (Value.bool r.1) r.2
  | _ => none

theorem patinalaw05_Two_stands_armOk {R : Type} (k : Nat) : ArmOk Try.prog 11 (patinalaw05_Two_stands_arm (R := R) k) := by
  intro vs m K r h
  unfold patinalaw05_Two_stands_arm at h
  split at h
  · obtain ⟨r, h1, h2⟩ := Option.bind_eq_some_iff.1 h; exact ⟨_, _, h2, fun K' => by simp only [patinalaw05_Two_stands_arm, h1, Option.bind_some], patinalaw05_Two_stands_ok h1⟩
  · cases h

/-! ### patinalaw05_sameError -/
def patinalaw05_sameError (k : Nat) (p0 : Value) (p1 : Value) (m : Mem) : Option (Bool × Mem) :=
  (isNil p0).bind fun b1 =>
  bif b1 then (
  (isNil p0).bind fun b2 =>
  bif b2 then (
  (isNil p1).bind fun b3 =>
  some (b3, m)) else (
  some (false, m))) else (
  (isNil p1).bind fun b4 =>
  bif b4 then (
  (isNil p0).bind fun b5 =>
  bif b5 then (
  (isNil p1).bind fun b6 =>
  some (b6, m)) else (
  some (false, m))) else (
  (ifEq tt p0 p1).bind fun b7 =>
  some (b7, m)))

def patinalaw05_sameError_call {R : Type} (k : Nat) : Fun R := callNil

theorem patinalaw05_sameError_callOk {R : Type} (k : Nat) : CallOk Try.prog (patinalaw05_sameError_call (R := R) k) := callOk_nil

def patinalaw05_sameError_loop (k : Nat) : Nat → List Value → Mem → (Nat → List Value → Mem → Option (Bool × Mem)) → Option (Bool × Mem) := fun _ _ _ _ => none

def patinalaw05_sameError_C (k : Nat) : Ctx (Bool × Mem) := ⟨tt, patinalaw05_sameError_call k, patinalaw05_sameError_loop k, [], []⟩

def patinalaw05_sameError_dec : Value → Mem → Option (Bool × Mem) := fun v m => match v with
  | .bool q0 => some (q0, m)
  | _ => none

theorem patinalaw05_sameError_eq (k : Nat) (p0 : Value) (p1 : Value) (m : Mem) : fnX (patinalaw05_sameError_C k) Try.f18 [p0, p1] m patinalaw05_sameError_dec = patinalaw05_sameError k p0 p1 m := by kernel_rfl

theorem patinalaw05_sameError_ok {k : Nat} {p0 : Value} {p1 : Value} {m : Mem} {r : (Bool × Mem)} (h : patinalaw05_sameError k p0 p1 m = some r) : CallP Try.prog 18 [p0, p1] m fun v m' => v = (Value.bool r.1) ∧ m' = r.2 := by
  refine (fn_sound (C := patinalaw05_sameError_C k) (c := body Try.f18) tOk mixed (patinalaw05_sameError_callOk k) Try.func18 (by kernel_rfl) (by kernel_rfl) (by kernel_rfl) (by kernel_rfl) ?_ ?_ (Eq.trans (patinalaw05_sameError_eq k p0 p1 m) h)).mono ?_
  · intro p hp; rw [show loopsOf 0 (body Try.f18) = [] by kernel_rfl] at hp; cases hp
  · intro p hp; rw [show rangesOf 0 (body Try.f18) = [] by kernel_rfl] at hp; cases hp
  · intro v m' hp
    unfold patinalaw05_sameError_dec at hp
    split at hp
    · simp only [Option.some.injEq] at hp; subst hp; exact ⟨rfl, rfl⟩
    · cases hp

def patinalaw05_sameError_arm {R : Type} (k : Nat) : Arm R := fun vs m K => match vs with
  | [p0, p1] => (patinalaw05_sameError k p0 p1 m).bind fun r => K (Value.bool r.1) r.2
  | _ => none

theorem patinalaw05_sameError_armOk {R : Type} (k : Nat) : ArmOk Try.prog 18 (patinalaw05_sameError_arm (R := R) k) := by
  intro vs m K r h
  unfold patinalaw05_sameError_arm at h
  split at h
  · obtain ⟨r, h1, h2⟩ := Option.bind_eq_some_iff.1 h; exact ⟨_, _, h2, fun K' => by simp only [patinalaw05_sameError_arm, h1, Option.bind_some], patinalaw05_sameError_ok h1⟩
  · cases h

end Go.Proofs.Ytlbbcgjfkpnilaa
