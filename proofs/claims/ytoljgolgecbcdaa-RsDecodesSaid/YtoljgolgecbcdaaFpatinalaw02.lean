/- The program's functions as plain Lean functions over a clean memory, each held against the program by the kernel. Written by mx.py. -/
import Derived.Test.YtoljgolgecbcdaaF0
import Derived.Test.YtoljgolgecbcdaaFpatinaref01
import Derived.Test.YtoljgolgecbcdaaFpatinaref02
import Derived.Test.YtoljgolgecbcdaaFrs
set_option linter.unusedVariables false
set_option maxRecDepth 100000
namespace Go.Proofs.Ytoljgolgecbcdaa
open Go.Mx

/-! ### patinalaw02_shown -/
def patinalaw02_shown (k : Nat) (m : Mem) : Option (Bool × Mem) :=
  (rs_New k  m).bind fun r1 =>
  bif Option.isNone r1.1 then (
  some (false, r1.2)) else (
  let m2 : Mem := r1.2 ++ [.live (repl (Int.toNat 58) [.int .u8 0])]
  bif inRange 57 (Int.toNat 58) then (
  ((some ⟨List.length r1.2, 0, Option.none⟩)).bind fun a3 =>
  (st m2 (plus a3 (Int.toNat 57 * 1)) (Value.int .u8 1)).bind fun m4 =>
  (rs_Codec_Encode k r1.1 (some ⟨List.length r1.2, 0, Option.none⟩) (Int.toNat 58) (Int.toNat 58) m4).bind fun r5 =>
  (isNil r5.2.1).bind fun b6 =>
  bif !b6 then (
  some (false, r5.2.2)) else (
  bif ((r5.1.len : Nat) : Int) != 64 then (
  some (false, r5.2.2)) else (
  bif sliceK.okZ r5.1.a 1 false && inUpto 57 r5.1.len then (
  let m7 : Mem := r5.2.2 ++ [.live [(Value.int .u8 1), (Value.int .u8 63), (Value.int .u8 1), (Value.int .u8 218), (Value.int .u8 32), (Value.int .u8 227), (Value.int .u8 38)]]
  (patinaref01_Same k ((sliceK.clear r5.1.a false).map fun a => plus a ((Int.toNat 57) * 1)) (r5.1.len - (Int.toNat 57)) (r5.1.cap - (Int.toNat 57)) (some ⟨List.length r5.2.2, 0, Option.none⟩) 7 7 m7).bind fun r8 =>
  bif inRange 57 r5.1.len then (
  (r5.1.a).bind fun a9 =>
  (st r8.2 (plus a9 (Int.toNat 57 * 1)) (Value.int .u8 0)).bind fun m10 =>
  bif inRange 3 r5.1.len then (
  (r5.1.a).bind fun a11 =>
  (st m10 (plus a11 (Int.toNat 3 * 1)) (Value.int .u8 9)).bind fun m12 =>
  (rs_Codec_Decode k r1.1 r5.1.a r5.1.len r5.1.cap m12).bind fun r13 =>
  bif sliceK.okZ r5.1.a 1 false && inUpto 1 r5.1.len then (
  (rs_Codec_Decode k r1.1 ((sliceK.clear r5.1.a false).map fun a => plus a ((Int.toNat 1) * 1)) (r5.1.len - (Int.toNat 1)) (r5.1.cap - (Int.toNat 1)) r13.2.2.2).bind fun r14 =>
  (patinaref01_Same k r13.1.a r13.1.len r13.1.cap (some ⟨List.length r1.2, 0, Option.none⟩) (Int.toNat 58) (Int.toNat 58) r14.2.2.2).bind fun r15 =>
  bif r8.1 then (
  bif r15.1 then (
  bif r13.2.1 == 2 then (
  (isNil r13.2.2.1).bind fun b16 =>
  bif b16 then (
  (ifEq tt r14.2.2.1 (Value.iface ty_api_Code (Value.int .i64 1))).bind fun b17 =>
  some (b17, r15.2)) else (
  some (false, r15.2))) else (
  some (false, r15.2))) else (
  some (false, r15.2))) else (
  some (false, r15.2))) else none) else none) else none) else none))) else none)

def patinalaw02_shown_call {R : Type} (k : Nat) : Fun R := callCons 23 (patinaref01_Same_arm k) (callCons 30 (rs_New_arm k) (callCons 32 (rs_Codec_Encode_arm k) (callCons 37 (rs_Codec_Decode_arm k) (callNil))))

theorem patinalaw02_shown_callOk {R : Type} (k : Nat) : CallOk Try.prog (patinalaw02_shown_call (R := R) k) := callOk_cons (patinaref01_Same_armOk k) (callOk_cons (rs_New_armOk k) (callOk_cons (rs_Codec_Encode_armOk k) (callOk_cons (rs_Codec_Decode_armOk k) (callOk_nil))))

def patinalaw02_shown_loop (k : Nat) : Nat → List Value → Mem → (Nat → List Value → Mem → Option (Bool × Mem)) → Option (Bool × Mem) := fun _ _ _ _ => none

def patinalaw02_shown_C (k : Nat) : Ctx (Bool × Mem) := ⟨tt, patinalaw02_shown_call k, patinalaw02_shown_loop k, [], []⟩

def patinalaw02_shown_dec : Value → Mem → Option (Bool × Mem) := fun v m => match v with
  | .bool q0 => some (q0, m)
  | _ => none

theorem patinalaw02_shown_eq (k : Nat) (m : Mem) : fnX (patinalaw02_shown_C k) Try.f29 [] m patinalaw02_shown_dec = patinalaw02_shown k  m := by kernel_rfl

theorem patinalaw02_shown_ok {k : Nat} {m : Mem} {r : (Bool × Mem)} (h : patinalaw02_shown k  m = some r) : CallP Try.prog 29 [] m fun v m' => v = (Value.bool r.1) ∧ m' = r.2 := by
  refine (fn_sound (C := patinalaw02_shown_C k) (c := body Try.f29) tOk mixed (patinalaw02_shown_callOk k) Try.func29 (by kernel_rfl) (by kernel_rfl) (by kernel_rfl) (by kernel_rfl) ?_ (Eq.trans (patinalaw02_shown_eq k  m) h)).mono ?_
  · intro p hp; rw [show loopsOf 0 (body Try.f29) = [] by kernel_rfl] at hp; cases hp
  · intro v m' hp
    unfold patinalaw02_shown_dec at hp
    split at hp
    · simp only [Option.some.injEq] at hp; subst hp; exact ⟨rfl, rfl⟩
    · cases hp

def patinalaw02_shown_arm {R : Type} (k : Nat) : Arm R := fun vs m K => match vs with
  | [] => (patinalaw02_shown k  m).bind fun r => K (Value.bool r.1) r.2
  | _ => none

theorem patinalaw02_shown_armOk {R : Type} (k : Nat) : ArmOk Try.prog 29 (patinalaw02_shown_arm (R := R) k) := by
  intro vs m K r h
  unfold patinalaw02_shown_arm at h
  split at h
  · obtain ⟨r, h1, h2⟩ := Option.bind_eq_some_iff.1 h; exact ⟨_, _, h2, fun K' => by simp only [patinalaw02_shown_arm, h1, Option.bind_some], patinalaw02_shown_ok h1⟩
  · cases h

/-! ### patinalaw02_message -/
def patinalaw02_message_l0_b (k : Nat) (nx : Option Addr → Nat → Nat → Option Addr → Nat → Nat → Int → Mem → Option (Sl × Mem)) (kx2 : Option Addr → Nat → Nat → Mem → Option (Sl × Mem)) (x0a : Option Addr) (x0n : Nat) (x0c : Nat) (x3a : Option Addr) (x3n : Nat) (x3c : Nat) (x4 : Int) (m : Mem) : Option (Sl × Mem) :=
  bif decide (x4 < ((x3n : Nat) : Int)) then (
  bif decide (x4 < ((x0n : Nat) : Int)) then (
  bif inRange x4 x0n then (
  (x0a).bind fun a2 =>
  (ldInt .u8 m (plus a2 (Int.toNat x4 * 1))).bind fun t3 =>
  bif inRange x4 x3n then (
  (x3a).bind fun a4 =>
  (st m (plus a4 (Int.toNat x4 * 1)) (Value.int .u8 t3)).bind fun m5 =>
  nx x0a x0n x0c x3a x3n x3c (IntKind.wrap .i64 (x4 + 1)) m5) else none) else none) else (
  kx2 x3a x3n x3c m)) else (
  kx2 x3a x3n x3c m)

def patinalaw02_message_l0 (k : Nat) (kx2 : Option Addr → Nat → Nat → Mem → Option (Sl × Mem)) : Nat → Option Addr → Nat → Nat → Option Addr → Nat → Nat → Int → Mem → Option (Sl × Mem)
  | 0, _, _, _, _, _, _, _, _ => none
  | n + 1, x0a, x0n, x0c, x3a, x3n, x3c, x4, m => patinalaw02_message_l0_b k (fun x0a x0n x0c x3a x3n x3c x4 m => patinalaw02_message_l0 k kx2 n x0a x0n x0c x3a x3n x3c x4 m) kx2 x0a x0n x0c x3a x3n x3c x4 m

theorem patinalaw02_message_l0_rule (k : Nat) (kx2 : Option Addr → Nat → Nat → Mem → Option (Sl × Mem)) {P : (Sl × Mem) → Prop} (I : Nat → Option Addr → Nat → Nat → Option Addr → Nat → Nat → Int → Mem → Prop)
    (step : ∀ d (nx : Option Addr → Nat → Nat → Option Addr → Nat → Nat → Int → Mem → Option (Sl × Mem)) (x0a : Option Addr) (x0n : Nat) (x0c : Nat) (x3a : Option Addr) (x3n : Nat) (x3c : Nat) (x4 : Int) (m : Mem), I d x0a x0n x0c x3a x3n x3c x4 m → (∀ d' (x0a : Option Addr) (x0n : Nat) (x0c : Nat) (x3a : Option Addr) (x3n : Nat) (x3c : Nat) (x4 : Int) (m : Mem), d' < d → I d' x0a x0n x0c x3a x3n x3c x4 m → Ok (nx x0a x0n x0c x3a x3n x3c x4 m) P) → Ok (patinalaw02_message_l0_b k nx kx2 x0a x0n x0c x3a x3n x3c x4 m) P) :
    ∀ n d (x0a : Option Addr) (x0n : Nat) (x0c : Nat) (x3a : Option Addr) (x3n : Nat) (x3c : Nat) (x4 : Int) (m : Mem), d < n → I d x0a x0n x0c x3a x3n x3c x4 m → Ok (patinalaw02_message_l0 k kx2 n x0a x0n x0c x3a x3n x3c x4 m) P
  | 0, d, x0a, x0n, x0c, x3a, x3n, x3c, x4, m, h, _ => absurd h (Nat.not_lt_zero _)
  | n + 1, d, x0a, x0n, x0c, x3a, x3n, x3c, x4, m, h, hI => step d _ x0a x0n x0c x3a x3n x3c x4 m hI fun d' x0a x0n x0c x3a x3n x3c x4 m h' hI' => patinalaw02_message_l0_rule k kx2 I step n d' x0a x0n x0c x3a x3n x3c x4 m (by omega) hI'

def patinalaw02_message (k : Nat) (p0a : Option Addr) (p0n : Nat) (p0c : Nat) (m : Mem) : Option (Sl × Mem) :=
  let m1 : Mem := m ++ [.live (repl (Int.toNat 58) [.int .u8 0])]
  patinalaw02_message_l0 k (fun y3a y3n y3c m6 => 
  some ((⟨y3a, y3n, y3c⟩ : Sl), m6)) k p0a p0n p0c (some ⟨List.length m, 0, Option.none⟩) (Int.toNat 58) (Int.toNat 58) 0 m1

def patinalaw02_message_call {R : Type} (k : Nat) : Fun R := callNil

theorem patinalaw02_message_callOk {R : Type} (k : Nat) : CallOk Try.prog (patinalaw02_message_call (R := R) k) := callOk_nil

def patinalaw02_message_l0_L (k : Nat) (K : Nat → List Value → Mem → Option (Sl × Mem)) (n : Nat) (vs : List Value) (m : Mem) : Option (Sl × Mem) := match vs with
  | [.slice x0a x0n x0c, .slice x3a x3n x3c, .int .i64 x4] => patinalaw02_message_l0 k (fun y3a y3n y3c m => K 2 [(Value.slice y3a y3n y3c)] m) n x0a x0n x0c x3a x3n x3c x4 m
  | _ => none

def patinalaw02_message_loop (k : Nat) : Nat → List Value → Mem → (Nat → List Value → Mem → Option (Sl × Mem)) → Option (Sl × Mem) := fun cur vs m K => match cur with
  | 0 => patinalaw02_message_l0_L k K k vs m
  | _ => none

def patinalaw02_message_C (k : Nat) : Ctx (Sl × Mem) := ⟨tt, patinalaw02_message_call k, patinalaw02_message_loop k, [(0, [0, 3, 4])], [(2, [3])]⟩

noncomputable def patinalaw02_message_l0_c : Code := ((loopsOf 0 (body Try.f39)).map (·.2)).getD 0 .skip

theorem patinalaw02_message_loops : loopsOf 0 (body Try.f39) = [(0, patinalaw02_message_l0_c)] := by kernel_rfl

theorem patinalaw02_message_l0_ok (k : Nat) : LoopOk (patinalaw02_message_C k) 0 patinalaw02_message_l0_c := by
  refine ⟨[0, 3, 4], by kernel_rfl, fun K r => ⟨patinalaw02_message_l0_L k K, fun vs m h => ⟨k, h⟩, ?_⟩⟩
  intro n vs m h
  unfold patinalaw02_message_l0_L at h
  split at h
  · cases n with
    | zero => cases h
    | succ n => exact ⟨n, rfl, Eq.trans (by kernel_rfl) h⟩
  · cases h

def patinalaw02_message_dec : Value → Mem → Option (Sl × Mem) := fun v m => match v with
  | .slice q0a q0n q0c => some ((⟨q0a, q0n, q0c⟩ : Sl), m)
  | _ => none

theorem patinalaw02_message_eq (k : Nat) (p0a : Option Addr) (p0n : Nat) (p0c : Nat) (m : Mem) : fnX (patinalaw02_message_C k) Try.f39 [(Value.slice p0a p0n p0c)] m patinalaw02_message_dec = patinalaw02_message k p0a p0n p0c m := by kernel_rfl

theorem patinalaw02_message_ok {k : Nat} {p0a : Option Addr} {p0n : Nat} {p0c : Nat} {m : Mem} {r : (Sl × Mem)} (h : patinalaw02_message k p0a p0n p0c m = some r) : CallP Try.prog 39 [(Value.slice p0a p0n p0c)] m fun v m' => v = (Value.slice r.1.a r.1.len r.1.cap) ∧ m' = r.2 := by
  refine (fn_sound (C := patinalaw02_message_C k) (c := body Try.f39) tOk mixed (patinalaw02_message_callOk k) Try.func39 (by kernel_rfl) (by kernel_rfl) (by kernel_rfl) (by kernel_rfl) ?_ (Eq.trans (patinalaw02_message_eq k p0a p0n p0c m) h)).mono ?_
  · intro p hp
    rw [patinalaw02_message_loops] at hp
    simp only [List.mem_cons, List.not_mem_nil, or_false] at hp
    rcases hp with rfl
    · exact patinalaw02_message_l0_ok k
  · intro v m' hp
    unfold patinalaw02_message_dec at hp
    split at hp
    · simp only [Option.some.injEq] at hp; subst hp; exact ⟨rfl, rfl⟩
    · cases hp

def patinalaw02_message_arm {R : Type} (k : Nat) : Arm R := fun vs m K => match vs with
  | [.slice p0a p0n p0c] => (patinalaw02_message k p0a p0n p0c m).bind fun r => K (Value.slice r.1.a r.1.len r.1.cap) r.2
  | _ => none

theorem patinalaw02_message_armOk {R : Type} (k : Nat) : ArmOk Try.prog 39 (patinalaw02_message_arm (R := R) k) := by
  intro vs m K r h
  unfold patinalaw02_message_arm at h
  split at h
  · obtain ⟨r, h1, h2⟩ := Option.bind_eq_some_iff.1 h; exact ⟨_, _, h2, fun K' => by simp only [patinalaw02_message_arm, h1, Option.bind_some], patinalaw02_message_ok h1⟩
  · cases h

/-! ### patinalaw02_pick -/
def patinalaw02_pick_j1 (k : Nat) (p1 : Int) (x0_ : Int) (mj : Mem) : Option (Int × Mem) :=
  bif isZero p1 then none else (
  some (Int.tmod x0_ p1, mj))

def patinalaw02_pick (k : Nat) (p0 : Int) (p1 : Int) (m : Mem) : Option (Int × Mem) :=
  bif decide (p0 < 0) then (
  patinalaw02_pick_j1 k p1 (IntKind.wrap .i64 (0 - (IntKind.wrap .i64 (p0 + 1)))) m) else (
  patinalaw02_pick_j1 k p1 p0 m)

def patinalaw02_pick_call {R : Type} (k : Nat) : Fun R := callNil

theorem patinalaw02_pick_callOk {R : Type} (k : Nat) : CallOk Try.prog (patinalaw02_pick_call (R := R) k) := callOk_nil

def patinalaw02_pick_loop (k : Nat) : Nat → List Value → Mem → (Nat → List Value → Mem → Option (Int × Mem)) → Option (Int × Mem) := fun _ _ _ _ => none

def patinalaw02_pick_C (k : Nat) : Ctx (Int × Mem) := ⟨tt, patinalaw02_pick_call k, patinalaw02_pick_loop k, [], []⟩

def patinalaw02_pick_dec : Value → Mem → Option (Int × Mem) := fun v m => match v with
  | .int .i64 q0 => some (q0, m)
  | _ => none

theorem patinalaw02_pick_eq (k : Nat) (p0 : Int) (p1 : Int) (m : Mem) : fnX (patinalaw02_pick_C k) Try.f79 [(Value.int .i64 p0), (Value.int .i64 p1)] m patinalaw02_pick_dec = patinalaw02_pick k p0 p1 m := by kernel_rfl

theorem patinalaw02_pick_ok {k : Nat} {p0 : Int} {p1 : Int} {m : Mem} {r : (Int × Mem)} (h : patinalaw02_pick k p0 p1 m = some r) : CallP Try.prog 79 [(Value.int .i64 p0), (Value.int .i64 p1)] m fun v m' => v = (Value.int .i64 r.1) ∧ m' = r.2 := by
  refine (fn_sound (C := patinalaw02_pick_C k) (c := body Try.f79) tOk mixed (patinalaw02_pick_callOk k) Try.func79 (by kernel_rfl) (by kernel_rfl) (by kernel_rfl) (by kernel_rfl) ?_ (Eq.trans (patinalaw02_pick_eq k p0 p1 m) h)).mono ?_
  · intro p hp; rw [show loopsOf 0 (body Try.f79) = [] by kernel_rfl] at hp; cases hp
  · intro v m' hp
    unfold patinalaw02_pick_dec at hp
    split at hp
    · simp only [Option.some.injEq] at hp; subst hp; exact ⟨rfl, rfl⟩
    · cases hp

def patinalaw02_pick_arm {R : Type} (k : Nat) : Arm R := fun vs m K => match vs with
  | [.int .i64 p0, .int .i64 p1] => (patinalaw02_pick k p0 p1 m).bind fun r => K (Value.int .i64 r.1) r.2
  | _ => none

theorem patinalaw02_pick_armOk {R : Type} (k : Nat) : ArmOk Try.prog 79 (patinalaw02_pick_arm (R := R) k) := by
  intro vs m K r h
  unfold patinalaw02_pick_arm at h
  split at h
  · obtain ⟨r, h1, h2⟩ := Option.bind_eq_some_iff.1 h; exact ⟨_, _, h2, fun K' => by simp only [patinalaw02_pick_arm, h1, Option.bind_some], patinalaw02_pick_ok h1⟩
  · cases h

/-! ### patinalaw02_damage -/
def patinalaw02_damage_l0_b (k : Nat) (nx : Option Addr → Nat → Nat → Option Addr → Nat → Nat → Option Addr → Nat → Nat → Int → Mem → Option (Sl × Int × Mem)) (kx2 : Option Addr → Nat → Nat → Option Addr → Nat → Nat → Mem → Option (Sl × Int × Mem)) (x0a : Option Addr) (x0n : Nat) (x0c : Nat) (x1a : Option Addr) (x1n : Nat) (x1c : Nat) (x6a : Option Addr) (x6n : Nat) (x6c : Nat) (x7 : Int) (m : Mem) : Option (Sl × Int × Mem) :=
  bif decide (x7 < ((x1n : Nat) : Int)) then (
  bif inRange x7 x1n then (
  (x1a).bind fun a3 =>
  (ldInt .i64 m (plus (plus a3 (Int.toNat x7 * 2)) 0)).bind fun t4 =>
  (patinalaw02_pick k t4 ((x6n : Nat) : Int) m).bind fun r5 =>
  bif inRange r5.1 x6n then (
  (x6a).bind fun a6 =>
  (ldInt .u8 r5.2 (plus a6 (Int.toNat r5.1 * 1))).bind fun t7 =>
  bif inRange x7 x1n then (
  (x1a).bind fun a8 =>
  (ldInt .u8 r5.2 (plus (plus a8 (Int.toNat x7 * 2)) 1)).bind fun t9 =>
  bif inRange r5.1 x6n then (
  (x6a).bind fun a10 =>
  (st r5.2 (plus a10 (Int.toNat r5.1 * 1)) (Value.int .u8 (bitI .xor .u8 t7 t9))).bind fun m11 =>
  nx x0a x0n x0c x1a x1n x1c x6a x6n x6c (IntKind.wrap .i64 (x7 + 1)) m11) else none) else none) else none) else none) else (
  kx2 x0a x0n x0c x6a x6n x6c m)

def patinalaw02_damage_l0 (k : Nat) (kx2 : Option Addr → Nat → Nat → Option Addr → Nat → Nat → Mem → Option (Sl × Int × Mem)) : Nat → Option Addr → Nat → Nat → Option Addr → Nat → Nat → Option Addr → Nat → Nat → Int → Mem → Option (Sl × Int × Mem)
  | 0, _, _, _, _, _, _, _, _, _, _, _ => none
  | n + 1, x0a, x0n, x0c, x1a, x1n, x1c, x6a, x6n, x6c, x7, m => patinalaw02_damage_l0_b k (fun x0a x0n x0c x1a x1n x1c x6a x6n x6c x7 m => patinalaw02_damage_l0 k kx2 n x0a x0n x0c x1a x1n x1c x6a x6n x6c x7 m) kx2 x0a x0n x0c x1a x1n x1c x6a x6n x6c x7 m

theorem patinalaw02_damage_l0_rule (k : Nat) (kx2 : Option Addr → Nat → Nat → Option Addr → Nat → Nat → Mem → Option (Sl × Int × Mem)) {P : (Sl × Int × Mem) → Prop} (I : Nat → Option Addr → Nat → Nat → Option Addr → Nat → Nat → Option Addr → Nat → Nat → Int → Mem → Prop)
    (step : ∀ d (nx : Option Addr → Nat → Nat → Option Addr → Nat → Nat → Option Addr → Nat → Nat → Int → Mem → Option (Sl × Int × Mem)) (x0a : Option Addr) (x0n : Nat) (x0c : Nat) (x1a : Option Addr) (x1n : Nat) (x1c : Nat) (x6a : Option Addr) (x6n : Nat) (x6c : Nat) (x7 : Int) (m : Mem), I d x0a x0n x0c x1a x1n x1c x6a x6n x6c x7 m → (∀ d' (x0a : Option Addr) (x0n : Nat) (x0c : Nat) (x1a : Option Addr) (x1n : Nat) (x1c : Nat) (x6a : Option Addr) (x6n : Nat) (x6c : Nat) (x7 : Int) (m : Mem), d' < d → I d' x0a x0n x0c x1a x1n x1c x6a x6n x6c x7 m → Ok (nx x0a x0n x0c x1a x1n x1c x6a x6n x6c x7 m) P) → Ok (patinalaw02_damage_l0_b k nx kx2 x0a x0n x0c x1a x1n x1c x6a x6n x6c x7 m) P) :
    ∀ n d (x0a : Option Addr) (x0n : Nat) (x0c : Nat) (x1a : Option Addr) (x1n : Nat) (x1c : Nat) (x6a : Option Addr) (x6n : Nat) (x6c : Nat) (x7 : Int) (m : Mem), d < n → I d x0a x0n x0c x1a x1n x1c x6a x6n x6c x7 m → Ok (patinalaw02_damage_l0 k kx2 n x0a x0n x0c x1a x1n x1c x6a x6n x6c x7 m) P
  | 0, d, x0a, x0n, x0c, x1a, x1n, x1c, x6a, x6n, x6c, x7, m, h, _ => absurd h (Nat.not_lt_zero _)
  | n + 1, d, x0a, x0n, x0c, x1a, x1n, x1c, x6a, x6n, x6c, x7, m, h, hI => step d _ x0a x0n x0c x1a x1n x1c x6a x6n x6c x7 m hI fun d' x0a x0n x0c x1a x1n x1c x6a x6n x6c x7 m h' hI' => patinalaw02_damage_l0_rule k kx2 I step n d' x0a x0n x0c x1a x1n x1c x6a x6n x6c x7 m (by omega) hI'

def patinalaw02_damage (k : Nat) (p0a : Option Addr) (p0n : Nat) (p0c : Nat) (p1a : Option Addr) (p1n : Nat) (p1c : Nat) (m : Mem) : Option (Sl × Int × Mem) :=
  (rdSl m p0a p0n 1).bind fun l1 =>
  (appM 1 1 m none 0 0 p0n l1).bind fun r2 =>
  patinalaw02_damage_l0 k (fun y0a y0n y0c y6a y6n y6c m12 => 
  (patinaref02_Apart k y6a y6n y6c y0a y0n y0c m12).bind fun r13 =>
  some ((⟨y6a, y6n, y6c⟩ : Sl), r13.1, r13.2)) k p0a p0n p0c p1a p1n p1c r2.1.a r2.1.len r2.1.cap 0 r2.2

def patinalaw02_damage_call {R : Type} (k : Nat) : Fun R := callCons 41 (patinaref02_Apart_arm k) (callCons 79 (patinalaw02_pick_arm k) (callNil))

theorem patinalaw02_damage_callOk {R : Type} (k : Nat) : CallOk Try.prog (patinalaw02_damage_call (R := R) k) := callOk_cons (patinaref02_Apart_armOk k) (callOk_cons (patinalaw02_pick_armOk k) (callOk_nil))

def patinalaw02_damage_l0_L (k : Nat) (K : Nat → List Value → Mem → Option (Sl × Int × Mem)) (n : Nat) (vs : List Value) (m : Mem) : Option (Sl × Int × Mem) := match vs with
  | [.slice x0a x0n x0c, .slice x1a x1n x1c, .slice x6a x6n x6c, .int .i64 x7] => patinalaw02_damage_l0 k (fun y0a y0n y0c y6a y6n y6c m => K 2 [(Value.slice y0a y0n y0c), (Value.slice y6a y6n y6c)] m) n x0a x0n x0c x1a x1n x1c x6a x6n x6c x7 m
  | _ => none

def patinalaw02_damage_loop (k : Nat) : Nat → List Value → Mem → (Nat → List Value → Mem → Option (Sl × Int × Mem)) → Option (Sl × Int × Mem) := fun cur vs m K => match cur with
  | 0 => patinalaw02_damage_l0_L k K k vs m
  | _ => none

def patinalaw02_damage_C (k : Nat) : Ctx (Sl × Int × Mem) := ⟨tt, patinalaw02_damage_call k, patinalaw02_damage_loop k, [(0, [0, 1, 6, 7])], [(2, [0, 6])]⟩

noncomputable def patinalaw02_damage_l0_c : Code := ((loopsOf 0 (body Try.f40)).map (·.2)).getD 0 .skip

theorem patinalaw02_damage_loops : loopsOf 0 (body Try.f40) = [(0, patinalaw02_damage_l0_c)] := by kernel_rfl

theorem patinalaw02_damage_l0_ok (k : Nat) : LoopOk (patinalaw02_damage_C k) 0 patinalaw02_damage_l0_c := by
  refine ⟨[0, 1, 6, 7], by kernel_rfl, fun K r => ⟨patinalaw02_damage_l0_L k K, fun vs m h => ⟨k, h⟩, ?_⟩⟩
  intro n vs m h
  unfold patinalaw02_damage_l0_L at h
  split at h
  · cases n with
    | zero => cases h
    | succ n => exact ⟨n, rfl, Eq.trans (by kernel_rfl) h⟩
  · cases h

def patinalaw02_damage_dec : Value → Mem → Option (Sl × Int × Mem) := fun v m => match v with
  | .tuple ⟨[.slice q0a q0n q0c, .int .i64 q1]⟩ => some ((⟨q0a, q0n, q0c⟩ : Sl), q1, m)
  | _ => none

theorem patinalaw02_damage_eq (k : Nat) (p0a : Option Addr) (p0n : Nat) (p0c : Nat) (p1a : Option Addr) (p1n : Nat) (p1c : Nat) (m : Mem) : fnX (patinalaw02_damage_C k) Try.f40 [(Value.slice p0a p0n p0c), (Value.slice p1a p1n p1c)] m patinalaw02_damage_dec = patinalaw02_damage k p0a p0n p0c p1a p1n p1c m := by kernel_rfl

theorem patinalaw02_damage_ok {k : Nat} {p0a : Option Addr} {p0n : Nat} {p0c : Nat} {p1a : Option Addr} {p1n : Nat} {p1c : Nat} {m : Mem} {r : (Sl × Int × Mem)} (h : patinalaw02_damage k p0a p0n p0c p1a p1n p1c m = some r) : CallP Try.prog 40 [(Value.slice p0a p0n p0c), (Value.slice p1a p1n p1c)] m fun v m' => v = (Value.tuple ⟨[(Value.slice r.1.a r.1.len r.1.cap), (Value.int .i64 r.2.1)]⟩) ∧ m' = r.2.2 := by
  refine (fn_sound (C := patinalaw02_damage_C k) (c := body Try.f40) tOk mixed (patinalaw02_damage_callOk k) Try.func40 (by kernel_rfl) (by kernel_rfl) (by kernel_rfl) (by kernel_rfl) ?_ (Eq.trans (patinalaw02_damage_eq k p0a p0n p0c p1a p1n p1c m) h)).mono ?_
  · intro p hp
    rw [patinalaw02_damage_loops] at hp
    simp only [List.mem_cons, List.not_mem_nil, or_false] at hp
    rcases hp with rfl
    · exact patinalaw02_damage_l0_ok k
  · intro v m' hp
    unfold patinalaw02_damage_dec at hp
    split at hp
    · simp only [Option.some.injEq] at hp; subst hp; exact ⟨rfl, rfl⟩
    · cases hp

def patinalaw02_damage_arm {R : Type} (k : Nat) : Arm R := fun vs m K => match vs with
  | [.slice p0a p0n p0c, .slice p1a p1n p1c] => (patinalaw02_damage k p0a p0n p0c p1a p1n p1c m).bind fun r => K (Value.tuple ⟨[(Value.slice r.1.a r.1.len r.1.cap), (Value.int .i64 r.2.1)]⟩) r.2.2
  | _ => none

theorem patinalaw02_damage_armOk {R : Type} (k : Nat) : ArmOk Try.prog 40 (patinalaw02_damage_arm (R := R) k) := by
  intro vs m K r h
  unfold patinalaw02_damage_arm at h
  split at h
  · obtain ⟨r, h1, h2⟩ := Option.bind_eq_some_iff.1 h; exact ⟨_, _, h2, fun K' => by simp only [patinalaw02_damage_arm, h1, Option.bind_some], patinalaw02_damage_ok h1⟩
  · cases h

end Go.Proofs.Ytoljgolgecbcdaa
