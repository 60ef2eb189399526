/- The program's functions as plain Lean functions over a clean memory, each held against the program by the kernel. Written by mx.py. -/
import Derived.Test.YtchonnaoojpdoaaF0
import Derived.Test.YtchonnaoojpdoaaFmedia
import Derived.Test.YtchonnaoojpdoaaFnand
import Derived.Test.YtchonnaoojpdoaaFpatinaref05
set_option linter.unusedVariables false
set_option maxRecDepth 100000
namespace Go.Proofs.Ytchonnaoojpdoaa
open Go.Mx

/-! ### patinalaw08_shown -/
def patinalaw08_shown (k : Nat) (m : Mem) : Option (Bool × Mem) :=
  (nand_New k  m).bind fun r1 =>
  bif Option.isNone r1.1 then (
  some (false, r1.2)) else (
  (media_New k r1.1 r1.2).bind fun r2 =>
  bif Option.isNone r2.1 then (
  some (false, r2.2)) else (
  (media_Media_Read k r2.1 0 r2.2).bind fun r3 =>
  let m4 : Mem := r3.2.2 ++ [.live [.bool false, .int .i64 0, .int .i64 0, .int .i64 0, .int .i64 0, .bool false, .bool false, .slice none 0 0, .int .i64 0]]
  bif Nat.beq (List.length r3.1) 9 then (
  (stCells m4 ⟨List.length r3.2.2, 0, Option.none⟩ r3.1).bind fun m5 =>
  let m6 : Mem := m5 ++ [.live (repl (Int.toNat 174) [.int .u8 0])]
  (media_Media_Program k r2.1 0 [.int .i64 0, .int .i64 0, (Value.int .i64 1), .int .i64 0, .bool false] (some ⟨List.length m5, 0, Option.none⟩) (Int.toNat 174) (Int.toNat 174) m6).bind fun r7 =>
  (nand_Chip_Flip k r1.1 0 0 r7.2).bind fun r8 =>
  (nand_Chip_Flip k r1.1 0 1600 r8.2).bind fun r9 =>
  (media_Media_Read k r2.1 0 r9.2).bind fun r10 =>
  let m11 : Mem := r10.2.2 ++ [.live [.bool false, .int .i64 0, .int .i64 0, .int .i64 0, .int .i64 0, .bool false, .bool false, .slice none 0 0, .int .i64 0]]
  bif Nat.beq (List.length r10.1) 9 then (
  (stCells m11 ⟨List.length r10.2.2, 0, Option.none⟩ r10.1).bind fun m12 =>
  let m13 : Mem := m12 ++ [.live (repl (Int.toNat 174) [.int .u8 0])]
  (media_Media_Program k r2.1 1 [.int .i64 0, .int .i64 0, (Value.int .i64 1), .int .i64 0, .bool false] (some ⟨List.length m12, 0, Option.none⟩) (Int.toNat 174) (Int.toNat 174) m13).bind fun r14 =>
  (ldBool r14.2 (plus ⟨List.length r3.2.2, 0, Option.none⟩ 0)).bind fun t15 =>
  bif !t15 then (
  (ldBool r14.2 (plus ⟨List.length r3.2.2, 0, Option.none⟩ 6)).bind fun t16 =>
  bif !t16 then (
  (isNil r3.2.1).bind fun b17 =>
  bif b17 then (
  (isNil r7.1).bind fun b18 =>
  bif b18 then (
  (isNil r8.1).bind fun b19 =>
  bif b19 then (
  (isNil r9.1).bind fun b20 =>
  bif b20 then (
  (isNil r10.2.1).bind fun b21 =>
  bif b21 then (
  (ldBool r14.2 (plus ⟨List.length r10.2.2, 0, Option.none⟩ 0)).bind fun t22 =>
  bif t22 then (
  (ldBool r14.2 (plus ⟨List.length r10.2.2, 0, Option.none⟩ 6)).bind fun t23 =>
  bif t23 then (
  (ldInt .i64 r14.2 (plus (plus ⟨List.length r10.2.2, 0, Option.none⟩ 1) 2)).bind fun t24 =>
  bif t24 == 1 then (
  (ldInt .i64 r14.2 (plus ⟨List.length r10.2.2, 0, Option.none⟩ 8)).bind fun t25 =>
  bif t25 == 1 then (
  (ifEq tt r14.1 (Value.iface ty_api_Code (Value.int .i64 1))).bind fun b26 =>
  bif b26 then (
  (media_Media_Reads k r2.1 r14.2).bind fun r27 =>
  some (r27.1 == 3, r27.2)) else (
  some (false, r14.2))) else (
  some (false, r14.2))) else (
  some (false, r14.2))) else (
  some (false, r14.2))) else (
  some (false, r14.2))) else (
  some (false, r14.2))) else (
  some (false, r14.2))) else (
  some (false, r14.2))) else (
  some (false, r14.2))) else (
  some (false, r14.2))) else (
  some (false, r14.2))) else (
  some (false, r14.2))) else none) else none))

def patinalaw08_shown_call {R : Type} (k : Nat) : Fun R := callCons 8 (media_Media_Program_arm k) (callCons 9 (nand_Chip_Flip_arm k) (callCons 12 (media_Media_Read_arm k) (callCons 17 (nand_New_arm k) (callCons 18 (media_New_arm k) (callCons 19 (media_Media_Reads_arm k) (callNil))))))

theorem patinalaw08_shown_callOk {R : Type} (k : Nat) : CallOk Try.prog (patinalaw08_shown_call (R := R) k) := callOk_cons (media_Media_Program_armOk k) (callOk_cons (nand_Chip_Flip_armOk k) (callOk_cons (media_Media_Read_armOk k) (callOk_cons (nand_New_armOk k) (callOk_cons (media_New_armOk k) (callOk_cons (media_Media_Reads_armOk k) (callOk_nil))))))

def patinalaw08_shown_loop (k : Nat) : Nat → List Value → Mem → (Nat → List Value → Mem → Option (Bool × Mem)) → Option (Bool × Mem) := fun _ _ _ _ => none

def patinalaw08_shown_C (k : Nat) : Ctx (Bool × Mem) := ⟨tt, patinalaw08_shown_call k, patinalaw08_shown_loop k, [], []⟩

def patinalaw08_shown_dec : Value → Mem → Option (Bool × Mem) := fun v m => match v with
  | .bool q0 => some (q0, m)
  | _ => none

theorem patinalaw08_shown_eq (k : Nat) (m : Mem) : fnX (patinalaw08_shown_C k) Try.f5 [] m patinalaw08_shown_dec = patinalaw08_shown k  m := by kernel_rfl

theorem patinalaw08_shown_ok {k : Nat} {m : Mem} {r : (Bool × Mem)} (h : patinalaw08_shown k  m = some r) : CallP Try.prog 5 [] m fun v m' => v = (Value.bool r.1) ∧ m' = r.2 := by
  refine (fn_sound (C := patinalaw08_shown_C k) (c := body Try.f5) tOk mixed (patinalaw08_shown_callOk k) Try.func5 (by kernel_rfl) (by kernel_rfl) (by kernel_rfl) (by kernel_rfl) ?_ ?_ (Eq.trans (patinalaw08_shown_eq k  m) h)).mono ?_
  · intro p hp; rw [show loopsOf 0 (body Try.f5) = [] by kernel_rfl] at hp; cases hp
  · intro p hp; rw [show rangesOf 0 (body Try.f5) = [] by kernel_rfl] at hp; cases hp
  · intro v m' hp
    unfold patinalaw08_shown_dec at hp
    split at hp
    · simp only [Option.some.injEq] at hp; subst hp; exact ⟨rfl, rfl⟩
    · cases hp

def patinalaw08_shown_arm {R : Type} (k : Nat) : Arm R := fun vs m K => match vs with
  | [] => (patinalaw08_shown k  m).bind fun r => K (Value.bool r.1) r.2
  | _ => none

theorem patinalaw08_shown_armOk {R : Type} (k : Nat) : ArmOk Try.prog 5 (patinalaw08_shown_arm (R := R) k) := by
  intro vs m K r h
  unfold patinalaw08_shown_arm at h
  split at h
  · obtain ⟨r, h1, h2⟩ := Option.bind_eq_some_iff.1 h; exact ⟨_, _, h2, fun K' => by simp only [patinalaw08_shown_arm, h1, Option.bind_some], patinalaw08_shown_ok h1⟩
  · cases h

/-! ### patinalaw08_begun -/
def patinalaw08_begun (k : Nat) (m : Mem) : Option ((Option Addr) × Mem) :=
  (nand_New k  m).bind fun r1 =>
  bif Option.isNone r1.1 then (
  some (none, r1.2)) else (
  (media_New k r1.1 r1.2).bind fun r2 =>
  bif Option.isNone r2.1 then (
  some (none, r2.2)) else (
  (patinaref05_New k  r2.2).bind fun r3 =>
  let m4 : Mem := r3.2 ++ [.live [(Value.pointer r3.1), .int .i64 0]]
  let m5 : Mem := m4 ++ [.live [(Value.pointer r1.1), (Value.pointer r2.1), (Value.pointer (some ⟨List.length r3.2, 0, Option.none⟩))]]
  some ((some ⟨List.length m4, 0, Option.none⟩), m5)))

def patinalaw08_begun_call {R : Type} (k : Nat) : Fun R := callCons 17 (nand_New_arm k) (callCons 18 (media_New_arm k) (callCons 20 (patinaref05_New_arm k) (callNil)))

theorem patinalaw08_begun_callOk {R : Type} (k : Nat) : CallOk Try.prog (patinalaw08_begun_call (R := R) k) := callOk_cons (nand_New_armOk k) (callOk_cons (media_New_armOk k) (callOk_cons (patinaref05_New_armOk k) (callOk_nil)))

def patinalaw08_begun_loop (k : Nat) : Nat → List Value → Mem → (Nat → List Value → Mem → Option ((Option Addr) × Mem)) → Option ((Option Addr) × Mem) := fun _ _ _ _ => none

def patinalaw08_begun_C (k : Nat) : Ctx ((Option Addr) × Mem) := ⟨tt, patinalaw08_begun_call k, patinalaw08_begun_loop k, [], []⟩

def patinalaw08_begun_dec : Value → Mem → Option ((Option Addr) × Mem) := fun v m => match v with
  | .pointer q0 => some (q0, m)
  | _ => none

theorem patinalaw08_begun_eq (k : Nat) (m : Mem) : fnX (patinalaw08_begun_C k) Try.f6 [] m patinalaw08_begun_dec = patinalaw08_begun k  m := by kernel_rfl

theorem patinalaw08_begun_ok {k : Nat} {m : Mem} {r : ((Option Addr) × Mem)} (h : patinalaw08_begun k  m = some r) : CallP Try.prog 6 [] m fun v m' => v = (Value.pointer r.1) ∧ m' = r.2 := by
  refine (fn_sound (C := patinalaw08_begun_C k) (c := body Try.f6) tOk mixed (patinalaw08_begun_callOk k) Try.func6 (by kernel_rfl) (by kernel_rfl) (by kernel_rfl) (by kernel_rfl) ?_ ?_ (Eq.trans (patinalaw08_begun_eq k  m) h)).mono ?_
  · intro p hp; rw [show loopsOf 0 (body Try.f6) = [] by kernel_rfl] at hp; cases hp
  · intro p hp; rw [show rangesOf 0 (body Try.f6) = [] by kernel_rfl] at hp; cases hp
  · intro v m' hp
    unfold patinalaw08_begun_dec at hp
    split at hp
    · simp only [Option.some.injEq] at hp; subst hp; exact ⟨rfl, rfl⟩
    · cases hp

def patinalaw08_begun_arm {R : Type} (k : Nat) : Arm R := fun vs m K => match vs with
  | [] => (patinalaw08_begun k  m).bind fun r => K (Value.pointer r.1) r.2
  | _ => none

theorem patinalaw08_begun_armOk {R : Type} (k : Nat) : ArmOk Try.prog 6 (patinalaw08_begun_arm (R := R) k) := by
  intro vs m K r h
  unfold patinalaw08_begun_arm at h
  split at h
  · obtain ⟨r, h1, h2⟩ := Option.bind_eq_some_iff.1 h; exact ⟨_, _, h2, fun K' => by simp only [patinalaw08_begun_arm, h1, Option.bind_some], patinalaw08_begun_ok h1⟩
  · cases h

/-! ### patinalaw08_data -/
def patinalaw08_data_l0_b (k : Nat) (nx : Int → Int → Option Addr → Nat → Nat → Int → Mem → Option (Sl × Mem)) (kx2 : Option Addr → Nat → Nat → Mem → Option (Sl × Mem)) (x0 : Int) (x1 : Int) (x5a : Option Addr) (x5n : Nat) (x5c : Nat) (x6 : Int) (m : Mem) : Option (Sl × Mem) :=
  bif decide (x6 < x0) then (
  bif inRange x6 x5n then (
  (x5a).bind fun a2 =>
  (st m (plus a2 (Int.toNat x6 * 1)) (Value.int .u8 (IntKind.wrap .u8 (x1 + (IntKind.wrap .u8 (IntKind.wrap .i64 (7 * x6))))))).bind fun m3 =>
  nx x0 x1 x5a x5n x5c (IntKind.wrap .i64 (x6 + 1)) m3) else none) else (
  kx2 x5a x5n x5c m)

def patinalaw08_data_l0 (k : Nat) (kx2 : Option Addr → Nat → Nat → Mem → Option (Sl × Mem)) : Nat → Int → Int → Option Addr → Nat → Nat → Int → Mem → Option (Sl × Mem)
  | 0, _, _, _, _, _, _, _ => none
  | n + 1, x0, x1, x5a, x5n, x5c, x6, m => patinalaw08_data_l0_b k (fun x0 x1 x5a x5n x5c x6 m => patinalaw08_data_l0 k kx2 n x0 x1 x5a x5n x5c x6 m) kx2 x0 x1 x5a x5n x5c x6 m
termination_by structural x => x

theorem patinalaw08_data_l0_rule (k : Nat) (kx2 : Option Addr → Nat → Nat → Mem → Option (Sl × Mem)) {P : (Sl × Mem) → Prop} (I : Nat → Int → Int → Option Addr → Nat → Nat → Int → Mem → Prop)
    (step : ∀ d (nx : Int → Int → Option Addr → Nat → Nat → Int → Mem → Option (Sl × Mem)) (x0 : Int) (x1 : Int) (x5a : Option Addr) (x5n : Nat) (x5c : Nat) (x6 : Int) (m : Mem), I d x0 x1 x5a x5n x5c x6 m → (∀ d' (x0 : Int) (x1 : Int) (x5a : Option Addr) (x5n : Nat) (x5c : Nat) (x6 : Int) (m : Mem), d' < d → I d' x0 x1 x5a x5n x5c x6 m → Ok (nx x0 x1 x5a x5n x5c x6 m) P) → Ok (patinalaw08_data_l0_b k nx kx2 x0 x1 x5a x5n x5c x6 m) P) :
    ∀ n d (x0 : Int) (x1 : Int) (x5a : Option Addr) (x5n : Nat) (x5c : Nat) (x6 : Int) (m : Mem), d < n → I d x0 x1 x5a x5n x5c x6 m → Ok (patinalaw08_data_l0 k kx2 n x0 x1 x5a x5n x5c x6 m) P
  | 0, d, x0, x1, x5a, x5n, x5c, x6, m, h, _ => absurd h (Nat.not_lt_zero _)
  | n + 1, d, x0, x1, x5a, x5n, x5c, x6, m, h, hI => step d _ x0 x1 x5a x5n x5c x6 m hI fun d' x0 x1 x5a x5n x5c x6 m h' hI' => patinalaw08_data_l0_rule k kx2 I step n d' x0 x1 x5a x5n x5c x6 m (by omega) hI'

def patinalaw08_data (k : Nat) (p0 : Int) (p1 : Int) (m : Mem) : Option (Sl × Mem) :=
  bif decide (0 ≤ p0) && decide (p0 ≤ p0) && decide (p0 * (((tt 5).bytes : Nat) : Int) ≤ ((most : Nat) : Int)) && decide (p0 ≤ ((most : Nat) : Int)) then (
  let m1 : Mem := m ++ [.live (repl (Int.toNat p0) [.int .u8 0])]
  patinalaw08_data_l0 k (fun y5a y5n y5c m4 => 
  some ((⟨y5a, y5n, y5c⟩ : Sl), m4)) k p0 p1 (some ⟨List.length m, 0, Option.none⟩) (Int.toNat p0) (Int.toNat p0) 0 m1) else none

def patinalaw08_data_call {R : Type} (k : Nat) : Fun R := callNil

theorem patinalaw08_data_callOk {R : Type} (k : Nat) : CallOk Try.prog (patinalaw08_data_call (R := R) k) := callOk_nil

def patinalaw08_data_l0_L (k : Nat) (K : Nat → List Value → Mem → Option (Sl × Mem)) (n : Nat) (vs : List Value) (m : Mem) : Option (Sl × Mem) := match vs with
  | [.int .i64 x0, .int .u8 x1, .slice x5a x5n x5c, .int .i64 x6] => patinalaw08_data_l0 k (fun y5a y5n y5c m => K 2 [(Value.slice y5a y5n y5c)] m) n x0 x1 x5a x5n x5c x6 m
  | _ => none

def patinalaw08_data_loop (k : Nat) : Nat → List Value → Mem → (Nat → List Value → Mem → Option (Sl × Mem)) → Option (Sl × Mem) := fun cur vs m K => match cur with
  | 0 => patinalaw08_data_l0_L k K k vs m
  | _ => none

def patinalaw08_data_C (k : Nat) : Ctx (Sl × Mem) := ⟨tt, patinalaw08_data_call k, patinalaw08_data_loop k, [(0, [0, 1, 5, 6])], [(2, [5])]⟩

noncomputable def patinalaw08_data_l0_c : Code := ((loopsOf 0 (body Try.f7)).map (·.2)).getD 0 .skip

theorem patinalaw08_data_loops : loopsOf 0 (body Try.f7) = [(0, patinalaw08_data_l0_c)] := by kernel_rfl

theorem patinalaw08_data_l0_ok (k : Nat) : LoopOk (patinalaw08_data_C k) 0 patinalaw08_data_l0_c := by
  refine ⟨[0, 1, 5, 6], by kernel_rfl, fun K r => ⟨patinalaw08_data_l0_L k K, fun vs m h => ⟨k, h⟩, ?_⟩⟩
  intro n vs m h
  unfold patinalaw08_data_l0_L at h
  split at h
  · cases n with
    | zero => cases h
    | succ n => exact ⟨n, rfl, Eq.trans (by kernel_rfl) h⟩
  · cases h

def patinalaw08_data_dec : Value → Mem → Option (Sl × Mem) := fun v m => match v with
  | .slice q0a q0n q0c => some ((⟨q0a, q0n, q0c⟩ : Sl), m)
  | _ => none

theorem patinalaw08_data_eq (k : Nat) (p0 : Int) (p1 : Int) (m : Mem) : fnX (patinalaw08_data_C k) Try.f7 [(Value.int .i64 p0), (Value.int .u8 p1)] m patinalaw08_data_dec = patinalaw08_data k p0 p1 m := by kernel_rfl

theorem patinalaw08_data_ok {k : Nat} {p0 : Int} {p1 : Int} {m : Mem} {r : (Sl × Mem)} (h : patinalaw08_data k p0 p1 m = some r) : CallP Try.prog 7 [(Value.int .i64 p0), (Value.int .u8 p1)] m fun v m' => v = (Value.slice r.1.a r.1.len r.1.cap) ∧ m' = r.2 := by
  refine (fn_sound (C := patinalaw08_data_C k) (c := body Try.f7) tOk mixed (patinalaw08_data_callOk k) Try.func7 (by kernel_rfl) (by kernel_rfl) (by kernel_rfl) (by kernel_rfl) ?_ ?_ (Eq.trans (patinalaw08_data_eq k p0 p1 m) h)).mono ?_
  · intro p hp
    rw [patinalaw08_data_loops] at hp
    simp only [List.mem_cons, List.not_mem_nil, or_false] at hp
    rcases hp with rfl
    · exact patinalaw08_data_l0_ok k
  · intro p hp; rw [show rangesOf 0 (body Try.f7) = [] by kernel_rfl] at hp; cases hp
  · intro v m' hp
    unfold patinalaw08_data_dec at hp
    split at hp
    · simp only [Option.some.injEq] at hp; subst hp; exact ⟨rfl, rfl⟩
    · cases hp

def patinalaw08_data_arm {R : Type} (k : Nat) : Arm R := fun vs m K => match vs with
  | [.int .i64 p0, .int .u8 p1] => (patinalaw08_data k p0 p1 m).bind fun r => K (Value.slice r.1.a r.1.len r.1.cap) r.2
  | _ => none

theorem patinalaw08_data_armOk {R : Type} (k : Nat) : ArmOk Try.prog 7 (patinalaw08_data_arm (R := R) k) := by
  intro vs m K r h
  unfold patinalaw08_data_arm at h
  split at h
  · obtain ⟨r, h1, h2⟩ := Option.bind_eq_some_iff.1 h; exact ⟨_, _, h2, fun K' => by simp only [patinalaw08_data_arm, h1, Option.bind_some], patinalaw08_data_ok h1⟩
  · cases h

/-! ### patinalaw08_pick -/
def patinalaw08_pick_j1 (k : Nat) (p1 : Int) (x0_ : Int) (mj : Mem) : Option (Int × Mem) :=
  bif isZero p1 then none else (
  some (Int.tmod x0_ p1, mj))

def patinalaw08_pick (k : Nat) (p0 : Int) (p1 : Int) (m : Mem) : Option (Int × Mem) :=
  bif decide (p0 < 0) then (
  patinalaw08_pick_j1 k p1 (IntKind.wrap .i64 (0 - (IntKind.wrap .i64 (p0 + 1)))) m) else (
  patinalaw08_pick_j1 k p1 p0 m)

def patinalaw08_pick_call {R : Type} (k : Nat) : Fun R := callNil

theorem patinalaw08_pick_callOk {R : Type} (k : Nat) : CallOk Try.prog (patinalaw08_pick_call (R := R) k) := callOk_nil

def patinalaw08_pick_loop (k : Nat) : Nat → List Value → Mem → (Nat → List Value → Mem → Option (Int × Mem)) → Option (Int × Mem) := fun _ _ _ _ => none

def patinalaw08_pick_C (k : Nat) : Ctx (Int × Mem) := ⟨tt, patinalaw08_pick_call k, patinalaw08_pick_loop k, [], []⟩

def patinalaw08_pick_dec : Value → Mem → Option (Int × Mem) := fun v m => match v with
  | .int .i64 q0 => some (q0, m)
  | _ => none

theorem patinalaw08_pick_eq (k : Nat) (p0 : Int) (p1 : Int) (m : Mem) : fnX (patinalaw08_pick_C k) Try.f10 [(Value.int .i64 p0), (Value.int .i64 p1)] m patinalaw08_pick_dec = patinalaw08_pick k p0 p1 m := by kernel_rfl

theorem patinalaw08_pick_ok {k : Nat} {p0 : Int} {p1 : Int} {m : Mem} {r : (Int × Mem)} (h : patinalaw08_pick k p0 p1 m = some r) : CallP Try.prog 10 [(Value.int .i64 p0), (Value.int .i64 p1)] m fun v m' => v = (Value.int .i64 r.1) ∧ m' = r.2 := by
  refine (fn_sound (C := patinalaw08_pick_C k) (c := body Try.f10) tOk mixed (patinalaw08_pick_callOk k) Try.func10 (by kernel_rfl) (by kernel_rfl) (by kernel_rfl) (by kernel_rfl) ?_ ?_ (Eq.trans (patinalaw08_pick_eq k p0 p1 m) h)).mono ?_
  · intro p hp; rw [show loopsOf 0 (body Try.f10) = [] by kernel_rfl] at hp; cases hp
  · intro p hp; rw [show rangesOf 0 (body Try.f10) = [] by kernel_rfl] at hp; cases hp
  · intro v m' hp
    unfold patinalaw08_pick_dec at hp
    split at hp
    · simp only [Option.some.injEq] at hp; subst hp; exact ⟨rfl, rfl⟩
    · cases hp

def patinalaw08_pick_arm {R : Type} (k : Nat) : Arm R := fun vs m K => match vs with
  | [.int .i64 p0, .int .i64 p1] => (patinalaw08_pick k p0 p1 m).bind fun r => K (Value.int .i64 r.1) r.2
  | _ => none

theorem patinalaw08_pick_armOk {R : Type} (k : Nat) : ArmOk Try.prog 10 (patinalaw08_pick_arm (R := R) k) := by
  intro vs m K r h
  unfold patinalaw08_pick_arm at h
  split at h
  · obtain ⟨r, h1, h2⟩ := Option.bind_eq_some_iff.1 h; exact ⟨_, _, h2, fun K' => by simp only [patinalaw08_pick_arm, h1, Option.bind_some], patinalaw08_pick_ok h1⟩
  · cases h

end Go.Proofs.Ytchonnaoojpdoaa
