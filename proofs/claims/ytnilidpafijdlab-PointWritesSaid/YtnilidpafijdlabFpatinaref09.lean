/- The program's functions as plain Lean functions over a clean memory, each held against the program by the kernel. Written by mx.py. -/
import Derived.Test.YtnilidpafijdlabF0
set_option linter.unusedVariables false
set_option maxRecDepth 100000
namespace Go.Proofs.Ytnilidpafijdlab
open Go.Mx

/-! ### patinaref09_seq -/
def patinaref09_seq (k : Nat) (p0 : Int) (m : Mem) : Option (Bool × Mem) :=
  bif decide (p0 ≥ 0) then (
  some (decide (p0 ≤ 1099511627775), m)) else (
  some (false, m))

def patinaref09_seq_call {R : Type} (k : Nat) : Fun R := callNil

theorem patinaref09_seq_callOk {R : Type} (k : Nat) : CallOk Try.prog (patinaref09_seq_call (R := R) k) := callOk_nil

def patinaref09_seq_loop (k : Nat) : Nat → List Value → Mem → (Nat → List Value → Mem → Option (Bool × Mem)) → Option (Bool × Mem) := fun _ _ _ _ => none

def patinaref09_seq_C (k : Nat) : Ctx (Bool × Mem) := ⟨tt, patinaref09_seq_call k, patinaref09_seq_loop k, [], []⟩

def patinaref09_seq_dec : Value → Mem → Option (Bool × Mem) := fun v m => match v with
  | .bool q0 => some (q0, m)
  | _ => none

theorem patinaref09_seq_eq (k : Nat) (p0 : Int) (m : Mem) : fnX (patinaref09_seq_C k) Try.f66 [(Value.int .i64 p0)] m patinaref09_seq_dec = patinaref09_seq k p0 m := by kernel_rfl

theorem patinaref09_seq_ok {k : Nat} {p0 : Int} {m : Mem} {r : (Bool × Mem)} (h : patinaref09_seq k p0 m = some r) : CallP Try.prog 66 [(Value.int .i64 p0)] m fun v m' => v = (Value.bool r.1) ∧ m' = r.2 := by
  refine (fn_sound (C := patinaref09_seq_C k) (c := body Try.f66) tOk mixed (patinaref09_seq_callOk k) Try.func66 (by kernel_rfl) (by kernel_rfl) (by kernel_rfl) (by kernel_rfl) ?_ (Eq.trans (patinaref09_seq_eq k p0 m) h)).mono ?_
  · intro p hp; rw [show loopsOf 0 (body Try.f66) = [] by kernel_rfl] at hp; cases hp
  · intro v m' hp
    unfold patinaref09_seq_dec at hp
    split at hp
    · simp only [Option.some.injEq] at hp; subst hp; exact ⟨rfl, rfl⟩
    · cases hp

def patinaref09_seq_arm {R : Type} (k : Nat) : Arm R := fun vs m K => match vs with
  | [.int .i64 p0] => (patinaref09_seq k p0 m).bind fun r => K (Value.bool r.1) r.2
  | _ => none

theorem patinaref09_seq_armOk {R : Type} (k : Nat) : ArmOk Try.prog 66 (patinaref09_seq_arm (R := R) k) := by
  intro vs m K r h
  unfold patinaref09_seq_arm at h
  split at h
  · obtain ⟨r, h1, h2⟩ := Option.bind_eq_some_iff.1 h; exact ⟨_, _, h2, fun K' => by simp only [patinaref09_seq_arm, h1, Option.bind_some], patinaref09_seq_ok h1⟩
  · cases h

/-! ### patinaref09_Told -/
def patinaref09_Told_l0_b (k : Nat) (nx : Addr → Int → Mem → Option (Bool × Mem)) (kx0 : Bool → Mem → Option (Bool × Mem)) (kx2 : Addr → Mem → Option (Bool × Mem)) (x1 : Addr) (x3 : Int) (m : Mem) : Option (Bool × Mem) :=
  bif decide (x3 < 24) then (
  bif inRange x3 24 then (
  (ldInt .i64 m (plus (plus x1 0) (Int.toNat x3 * 1))).bind fun t2 =>
  (patinaref09_seq k t2 m).bind fun r3 =>
  bif !r3.1 then (
  kx0 false r3.2) else (
  nx x1 (IntKind.wrap .i64 (x3 + 1)) r3.2)) else none) else (
  kx2 x1 m)

def patinaref09_Told_l0 (k : Nat) (kx0 : Bool → Mem → Option (Bool × Mem)) (kx2 : Addr → Mem → Option (Bool × Mem)) : Nat → Addr → Int → Mem → Option (Bool × Mem)
  | 0, _, _, _ => none
  | n + 1, x1, x3, m => patinaref09_Told_l0_b k (fun x1 x3 m => patinaref09_Told_l0 k kx0 kx2 n x1 x3 m) kx0 kx2 x1 x3 m

theorem patinaref09_Told_l0_rule (k : Nat) (kx0 : Bool → Mem → Option (Bool × Mem)) (kx2 : Addr → Mem → Option (Bool × Mem)) {P : (Bool × Mem) → Prop} (I : Nat → Addr → Int → Mem → Prop)
    (step : ∀ d (nx : Addr → Int → Mem → Option (Bool × Mem)) (x1 : Addr) (x3 : Int) (m : Mem), I d x1 x3 m → (∀ d' (x1 : Addr) (x3 : Int) (m : Mem), d' < d → I d' x1 x3 m → Ok (nx x1 x3 m) P) → Ok (patinaref09_Told_l0_b k nx kx0 kx2 x1 x3 m) P) :
    ∀ n d (x1 : Addr) (x3 : Int) (m : Mem), d < n → I d x1 x3 m → Ok (patinaref09_Told_l0 k kx0 kx2 n x1 x3 m) P
  | 0, d, x1, x3, m, h, _ => absurd h (Nat.not_lt_zero _)
  | n + 1, d, x1, x3, m, h, hI => step d _ x1 x3 m hI fun d' x1 x3 m h' hI' => patinaref09_Told_l0_rule k kx0 kx2 I step n d' x1 x3 m (by omega) hI'

def patinaref09_Told_l2_b (k : Nat) (nx : Addr → Int → Mem → Option (Bool × Mem)) (kx0 : Bool → Mem → Option (Bool × Mem)) (kx4 : Addr → Mem → Option (Bool × Mem)) (x1 : Addr) (x5 : Int) (m : Mem) : Option (Bool × Mem) :=
  bif decide (x5 < 12) then (
  bif inRange x5 12 then (
  (ldInt .i64 m (plus (plus x1 38) (Int.toNat x5 * 1))).bind fun t6 =>
  bif decide (t6 < 0) then (
  kx0 false m) else (
  bif inRange x5 12 then (
  (ldInt .i64 m (plus (plus x1 38) (Int.toNat x5 * 1))).bind fun t7 =>
  bif decide (t7 > 65535) then (
  kx0 false m) else (
  bif inRange x5 12 then (
  (ldInt .i64 m (plus (plus x1 50) (Int.toNat x5 * 1))).bind fun t8 =>
  bif decide (t8 < 0) then (
  kx0 false m) else (
  bif inRange x5 12 then (
  (ldInt .i64 m (plus (plus x1 50) (Int.toNat x5 * 1))).bind fun t9 =>
  bif decide (t9 > 255) then (
  kx0 false m) else (
  nx x1 (IntKind.wrap .i64 (x5 + 1)) m)) else none)) else none)) else none)) else none) else (
  kx4 x1 m)

def patinaref09_Told_l2 (k : Nat) (kx0 : Bool → Mem → Option (Bool × Mem)) (kx4 : Addr → Mem → Option (Bool × Mem)) : Nat → Addr → Int → Mem → Option (Bool × Mem)
  | 0, _, _, _ => none
  | n + 1, x1, x5, m => patinaref09_Told_l2_b k (fun x1 x5 m => patinaref09_Told_l2 k kx0 kx4 n x1 x5 m) kx0 kx4 x1 x5 m

theorem patinaref09_Told_l2_rule (k : Nat) (kx0 : Bool → Mem → Option (Bool × Mem)) (kx4 : Addr → Mem → Option (Bool × Mem)) {P : (Bool × Mem) → Prop} (I : Nat → Addr → Int → Mem → Prop)
    (step : ∀ d (nx : Addr → Int → Mem → Option (Bool × Mem)) (x1 : Addr) (x5 : Int) (m : Mem), I d x1 x5 m → (∀ d' (x1 : Addr) (x5 : Int) (m : Mem), d' < d → I d' x1 x5 m → Ok (nx x1 x5 m) P) → Ok (patinaref09_Told_l2_b k nx kx0 kx4 x1 x5 m) P) :
    ∀ n d (x1 : Addr) (x5 : Int) (m : Mem), d < n → I d x1 x5 m → Ok (patinaref09_Told_l2 k kx0 kx4 n x1 x5 m) P
  | 0, d, x1, x5, m, h, _ => absurd h (Nat.not_lt_zero _)
  | n + 1, d, x1, x5, m, h, hI => step d _ x1 x5 m hI fun d' x1 x5 m h' hI' => patinaref09_Told_l2_rule k kx0 kx4 I step n d' x1 x5 m (by omega) hI'

def patinaref09_Told (k : Nat) (p0 : List Value) (m : Mem) : Option (Bool × Mem) :=
  bif Nat.beq (List.length p0) 62 then (
  let m1 : Mem := m ++ [.live p0]
  patinaref09_Told_l0 k (fun y2 m4 => 
  some (y2, m4)) (fun y1 m5 => 
  patinaref09_Told_l2 k (fun y2 m10 => 
  some (y2, m10)) (fun y1 m11 => 
  (ldInt .i64 m11 (plus y1 24)).bind fun t12 =>
  (patinaref09_seq k t12 m11).bind fun r13 =>
  bif r13.1 then (
  (ldInt .i64 r13.2 (plus y1 37)).bind fun t14 =>
  bif decide (t14 ≥ 0) then (
  (ldInt .i64 r13.2 (plus y1 37)).bind fun t15 =>
  some (decide (t15 ≤ 95), r13.2)) else (
  some (false, r13.2))) else (
  some (false, r13.2))) k y1 0 m5) k ⟨List.length m, 0, Option.none⟩ 0 m1) else none

def patinaref09_Told_call {R : Type} (k : Nat) : Fun R := callCons 66 (patinaref09_seq_arm k) (callNil)

theorem patinaref09_Told_callOk {R : Type} (k : Nat) : CallOk Try.prog (patinaref09_Told_call (R := R) k) := callOk_cons (patinaref09_seq_armOk k) (callOk_nil)

def patinaref09_Told_l0_L (k : Nat) (K : Nat → List Value → Mem → Option (Bool × Mem)) (n : Nat) (vs : List Value) (m : Mem) : Option (Bool × Mem) := match vs with
  | [.pointer (some x1), .int .i64 x3] => patinaref09_Told_l0 k (fun y2 m => K 0 [(Value.bool y2)] m) (fun y1 m => K 2 [(Value.pointer (some y1))] m) n x1 x3 m
  | _ => none

def patinaref09_Told_l2_L (k : Nat) (K : Nat → List Value → Mem → Option (Bool × Mem)) (n : Nat) (vs : List Value) (m : Mem) : Option (Bool × Mem) := match vs with
  | [.pointer (some x1), .int .i64 x5] => patinaref09_Told_l2 k (fun y2 m => K 0 [(Value.bool y2)] m) (fun y1 m => K 4 [(Value.pointer (some y1))] m) n x1 x5 m
  | _ => none

def patinaref09_Told_loop (k : Nat) : Nat → List Value → Mem → (Nat → List Value → Mem → Option (Bool × Mem)) → Option (Bool × Mem) := fun cur vs m K => match cur with
  | 0 => patinaref09_Told_l0_L k K k vs m
  | 2 => patinaref09_Told_l2_L k K k vs m
  | _ => none

def patinaref09_Told_C (k : Nat) : Ctx (Bool × Mem) := ⟨tt, patinaref09_Told_call k, patinaref09_Told_loop k, [(0, [1, 3]), (2, [1, 5])], [(0, [2]), (2, [1]), (4, [1])]⟩

noncomputable def patinaref09_Told_l0_c : Code := ((loopsOf 0 (body Try.f44)).map (·.2)).getD 0 .skip

noncomputable def patinaref09_Told_l2_c : Code := ((loopsOf 0 (body Try.f44)).map (·.2)).getD 1 .skip

theorem patinaref09_Told_loops : loopsOf 0 (body Try.f44) = [(0, patinaref09_Told_l0_c), (2, patinaref09_Told_l2_c)] := by kernel_rfl

theorem patinaref09_Told_l0_ok (k : Nat) : LoopOk (patinaref09_Told_C k) 0 patinaref09_Told_l0_c := by
  refine ⟨[1, 3], by kernel_rfl, fun K r => ⟨patinaref09_Told_l0_L k K, fun vs m h => ⟨k, h⟩, ?_⟩⟩
  intro n vs m h
  unfold patinaref09_Told_l0_L at h
  split at h
  · cases n with
    | zero => cases h
    | succ n => exact ⟨n, rfl, Eq.trans (by kernel_rfl) h⟩
  · cases h

theorem patinaref09_Told_l2_ok (k : Nat) : LoopOk (patinaref09_Told_C k) 2 patinaref09_Told_l2_c := by
  refine ⟨[1, 5], by kernel_rfl, fun K r => ⟨patinaref09_Told_l2_L k K, fun vs m h => ⟨k, h⟩, ?_⟩⟩
  intro n vs m h
  unfold patinaref09_Told_l2_L at h
  split at h
  · cases n with
    | zero => cases h
    | succ n => exact ⟨n, rfl, Eq.trans (by kernel_rfl) h⟩
  · cases h

def patinaref09_Told_dec : Value → Mem → Option (Bool × Mem) := fun v m => match v with
  | .bool q0 => some (q0, m)
  | _ => none

theorem patinaref09_Told_eq (k : Nat) (p0 : List Value) (m : Mem) : fnX (patinaref09_Told_C k) Try.f44 [(Value.agg ⟨p0⟩)] m patinaref09_Told_dec = patinaref09_Told k p0 m := by kernel_rfl

theorem patinaref09_Told_ok {k : Nat} {p0 : List Value} {m : Mem} {r : (Bool × Mem)} (h : patinaref09_Told k p0 m = some r) : CallP Try.prog 44 [(Value.agg ⟨p0⟩)] m fun v m' => v = (Value.bool r.1) ∧ m' = r.2 := by
  refine (fn_sound (C := patinaref09_Told_C k) (c := body Try.f44) tOk mixed (patinaref09_Told_callOk k) Try.func44 (by kernel_rfl) (by kernel_rfl) (by kernel_rfl) (by kernel_rfl) ?_ (Eq.trans (patinaref09_Told_eq k p0 m) h)).mono ?_
  · intro p hp
    rw [patinaref09_Told_loops] at hp
    simp only [List.mem_cons, List.not_mem_nil, or_false] at hp
    rcases hp with rfl | rfl
    · exact patinaref09_Told_l0_ok k
    · exact patinaref09_Told_l2_ok k
  · intro v m' hp
    unfold patinaref09_Told_dec at hp
    split at hp
    · simp only [Option.some.injEq] at hp; subst hp; exact ⟨rfl, rfl⟩
    · cases hp

def patinaref09_Told_arm {R : Type} (k : Nat) : Arm R := fun vs m K => match vs with
  | [.agg ⟨p0⟩] => (patinaref09_Told k p0 m).bind fun r => K (Value.bool r.1) r.2
  | _ => none

theorem patinaref09_Told_armOk {R : Type} (k : Nat) : ArmOk Try.prog 44 (patinaref09_Told_arm (R := R) k) := by
  intro vs m K r h
  unfold patinaref09_Told_arm at h
  split at h
  · obtain ⟨r, h1, h2⟩ := Option.bind_eq_some_iff.1 h; exact ⟨_, _, h2, fun K' => by simp only [patinaref09_Told_arm, h1, Option.bind_some], patinaref09_Told_ok h1⟩
  · cases h

/-! ### patinaref09_bytes -/
def patinaref09_bytes_l0_b (k : Nat) (nx : Int → Int → Option Addr → Nat → Nat → Int → Mem → Option (Sl × Mem)) (kx2 : Option Addr → Nat → Nat → Mem → Option (Sl × Mem)) (x0 : Int) (x1 : Int) (x5a : Option Addr) (x5n : Nat) (x5c : Nat) (x6 : Int) (m : Mem) : Option (Sl × Mem) :=
  bif decide (x6 < x1) then (
  bif inRange x6 x5n then (
  (x5a).bind fun a2 =>
  (st m (plus a2 (Int.toNat x6 * 1)) (Value.int .u8 (IntKind.wrap .u8 (Int.tmod x0 256)))).bind fun m3 =>
  nx (IntKind.wrap .i64 (Int.tdiv x0 256)) x1 x5a x5n x5c (IntKind.wrap .i64 (x6 + 1)) m3) else none) else (
  kx2 x5a x5n x5c m)

def patinaref09_bytes_l0 (k : Nat) (kx2 : Option Addr → Nat → Nat → Mem → Option (Sl × Mem)) : Nat → Int → Int → Option Addr → Nat → Nat → Int → Mem → Option (Sl × Mem)
  | 0, _, _, _, _, _, _, _ => none
  | n + 1, x0, x1, x5a, x5n, x5c, x6, m => patinaref09_bytes_l0_b k (fun x0 x1 x5a x5n x5c x6 m => patinaref09_bytes_l0 k kx2 n x0 x1 x5a x5n x5c x6 m) kx2 x0 x1 x5a x5n x5c x6 m

theorem patinaref09_bytes_l0_rule (k : Nat) (kx2 : Option Addr → Nat → Nat → Mem → Option (Sl × Mem)) {P : (Sl × Mem) → Prop} (I : Nat → Int → Int → Option Addr → Nat → Nat → Int → Mem → Prop)
    (step : ∀ d (nx : Int → Int → Option Addr → Nat → Nat → Int → Mem → Option (Sl × Mem)) (x0 : Int) (x1 : Int) (x5a : Option Addr) (x5n : Nat) (x5c : Nat) (x6 : Int) (m : Mem), I d x0 x1 x5a x5n x5c x6 m → (∀ d' (x0 : Int) (x1 : Int) (x5a : Option Addr) (x5n : Nat) (x5c : Nat) (x6 : Int) (m : Mem), d' < d → I d' x0 x1 x5a x5n x5c x6 m → Ok (nx x0 x1 x5a x5n x5c x6 m) P) → Ok (patinaref09_bytes_l0_b k nx kx2 x0 x1 x5a x5n x5c x6 m) P) :
    ∀ n d (x0 : Int) (x1 : Int) (x5a : Option Addr) (x5n : Nat) (x5c : Nat) (x6 : Int) (m : Mem), d < n → I d x0 x1 x5a x5n x5c x6 m → Ok (patinaref09_bytes_l0 k kx2 n x0 x1 x5a x5n x5c x6 m) P
  | 0, d, x0, x1, x5a, x5n, x5c, x6, m, h, _ => absurd h (Nat.not_lt_zero _)
  | n + 1, d, x0, x1, x5a, x5n, x5c, x6, m, h, hI => step d _ x0 x1 x5a x5n x5c x6 m hI fun d' x0 x1 x5a x5n x5c x6 m h' hI' => patinaref09_bytes_l0_rule k kx2 I step n d' x0 x1 x5a x5n x5c x6 m (by omega) hI'

def patinaref09_bytes (k : Nat) (p0 : Int) (p1 : Int) (m : Mem) : Option (Sl × Mem) :=
  bif decide (0 ≤ p1) && decide (p1 ≤ p1) && decide (p1 * (((tt 5).bytes : Nat) : Int) ≤ ((most : Nat) : Int)) && decide (p1 ≤ ((most : Nat) : Int)) then (
  let m1 : Mem := m ++ [.live (repl (Int.toNat p1) [.int .u8 0])]
  patinaref09_bytes_l0 k (fun y5a y5n y5c m4 => 
  some ((⟨y5a, y5n, y5c⟩ : Sl), m4)) k p0 p1 (some ⟨List.length m, 0, Option.none⟩) (Int.toNat p1) (Int.toNat p1) 0 m1) else none

def patinaref09_bytes_call {R : Type} (k : Nat) : Fun R := callNil

theorem patinaref09_bytes_callOk {R : Type} (k : Nat) : CallOk Try.prog (patinaref09_bytes_call (R := R) k) := callOk_nil

def patinaref09_bytes_l0_L (k : Nat) (K : Nat → List Value → Mem → Option (Sl × Mem)) (n : Nat) (vs : List Value) (m : Mem) : Option (Sl × Mem) := match vs with
  | [.int .i64 x0, .int .i64 x1, .slice x5a x5n x5c, .int .i64 x6] => patinaref09_bytes_l0 k (fun y5a y5n y5c m => K 2 [(Value.slice y5a y5n y5c)] m) n x0 x1 x5a x5n x5c x6 m
  | _ => none

def patinaref09_bytes_loop (k : Nat) : Nat → List Value → Mem → (Nat → List Value → Mem → Option (Sl × Mem)) → Option (Sl × Mem) := fun cur vs m K => match cur with
  | 0 => patinaref09_bytes_l0_L k K k vs m
  | _ => none

def patinaref09_bytes_C (k : Nat) : Ctx (Sl × Mem) := ⟨tt, patinaref09_bytes_call k, patinaref09_bytes_loop k, [(0, [0, 1, 5, 6])], [(2, [5])]⟩

noncomputable def patinaref09_bytes_l0_c : Code := ((loopsOf 0 (body Try.f45)).map (·.2)).getD 0 .skip

theorem patinaref09_bytes_loops : loopsOf 0 (body Try.f45) = [(0, patinaref09_bytes_l0_c)] := by kernel_rfl

theorem patinaref09_bytes_l0_ok (k : Nat) : LoopOk (patinaref09_bytes_C k) 0 patinaref09_bytes_l0_c := by
  refine ⟨[0, 1, 5, 6], by kernel_rfl, fun K r => ⟨patinaref09_bytes_l0_L k K, fun vs m h => ⟨k, h⟩, ?_⟩⟩
  intro n vs m h
  unfold patinaref09_bytes_l0_L at h
  split at h
  · cases n with
    | zero => cases h
    | succ n => exact ⟨n, rfl, Eq.trans (by kernel_rfl) h⟩
  · cases h

def patinaref09_bytes_dec : Value → Mem → Option (Sl × Mem) := fun v m => match v with
  | .slice q0a q0n q0c => some ((⟨q0a, q0n, q0c⟩ : Sl), m)
  | _ => none

theorem patinaref09_bytes_eq (k : Nat) (p0 : Int) (p1 : Int) (m : Mem) : fnX (patinaref09_bytes_C k) Try.f45 [(Value.int .i64 p0), (Value.int .i64 p1)] m patinaref09_bytes_dec = patinaref09_bytes k p0 p1 m := by kernel_rfl

theorem patinaref09_bytes_ok {k : Nat} {p0 : Int} {p1 : Int} {m : Mem} {r : (Sl × Mem)} (h : patinaref09_bytes k p0 p1 m = some r) : CallP Try.prog 45 [(Value.int .i64 p0), (Value.int .i64 p1)] m fun v m' => v = (Value.slice r.1.a r.1.len r.1.cap) ∧ m' = r.2 := by
  refine (fn_sound (C := patinaref09_bytes_C k) (c := body Try.f45) tOk mixed (patinaref09_bytes_callOk k) Try.func45 (by kernel_rfl) (by kernel_rfl) (by kernel_rfl) (by kernel_rfl) ?_ (Eq.trans (patinaref09_bytes_eq k p0 p1 m) h)).mono ?_
  · intro p hp
    rw [patinaref09_bytes_loops] at hp
    simp only [List.mem_cons, List.not_mem_nil, or_false] at hp
    rcases hp with rfl
    · exact patinaref09_bytes_l0_ok k
  · intro v m' hp
    unfold patinaref09_bytes_dec at hp
    split at hp
    · simp only [Option.some.injEq] at hp; subst hp; exact ⟨rfl, rfl⟩
    · cases hp

def patinaref09_bytes_arm {R : Type} (k : Nat) : Arm R := fun vs m K => match vs with
  | [.int .i64 p0, .int .i64 p1] => (patinaref09_bytes k p0 p1 m).bind fun r => K (Value.slice r.1.a r.1.len r.1.cap) r.2
  | _ => none

theorem patinaref09_bytes_armOk {R : Type} (k : Nat) : ArmOk Try.prog 45 (patinaref09_bytes_arm (R := R) k) := by
  intro vs m K r h
  unfold patinaref09_bytes_arm at h
  split at h
  · obtain ⟨r, h1, h2⟩ := Option.bind_eq_some_iff.1 h; exact ⟨_, _, h2, fun K' => by simp only [patinaref09_bytes_arm, h1, Option.bind_some], patinaref09_bytes_ok h1⟩
  · cases h

/-! ### patinaref09_Write -/
def patinaref09_Write_l0_b (k : Nat) (nx : Addr → Option Addr → Nat → Nat → Int → Mem → Option (Sl × Int × Mem)) (kx2 : Addr → Option Addr → Nat → Nat → Mem → Option (Sl × Int × Mem)) (x1 : Addr) (x5a : Option Addr) (x5n : Nat) (x5c : Nat) (x6 : Int) (m : Mem) : Option (Sl × Int × Mem) :=
  bif decide (x6 < 24) then (
  bif inRange x6 24 then (
  (ldInt .i64 m (plus (plus x1 0) (Int.toNat x6 * 1))).bind fun t4 =>
  (patinaref09_bytes k t4 5 m).bind fun r5 =>
  (rdSl r5.2 r5.1.a r5.1.len 1).bind fun l6 =>
  (appM 1 1 r5.2 x5a x5n x5c r5.1.len l6).bind fun r7 =>
  nx x1 r7.1.a r7.1.len r7.1.cap (IntKind.wrap .i64 (x6 + 1)) r7.2) else none) else (
  kx2 x1 x5a x5n x5c m)

def patinaref09_Write_l0 (k : Nat) (kx2 : Addr → Option Addr → Nat → Nat → Mem → Option (Sl × Int × Mem)) : Nat → Addr → Option Addr → Nat → Nat → Int → Mem → Option (Sl × Int × Mem)
  | 0, _, _, _, _, _, _ => none
  | n + 1, x1, x5a, x5n, x5c, x6, m => patinaref09_Write_l0_b k (fun x1 x5a x5n x5c x6 m => patinaref09_Write_l0 k kx2 n x1 x5a x5n x5c x6 m) kx2 x1 x5a x5n x5c x6 m

theorem patinaref09_Write_l0_rule (k : Nat) (kx2 : Addr → Option Addr → Nat → Nat → Mem → Option (Sl × Int × Mem)) {P : (Sl × Int × Mem) → Prop} (I : Nat → Addr → Option Addr → Nat → Nat → Int → Mem → Prop)
    (step : ∀ d (nx : Addr → Option Addr → Nat → Nat → Int → Mem → Option (Sl × Int × Mem)) (x1 : Addr) (x5a : Option Addr) (x5n : Nat) (x5c : Nat) (x6 : Int) (m : Mem), I d x1 x5a x5n x5c x6 m → (∀ d' (x1 : Addr) (x5a : Option Addr) (x5n : Nat) (x5c : Nat) (x6 : Int) (m : Mem), d' < d → I d' x1 x5a x5n x5c x6 m → Ok (nx x1 x5a x5n x5c x6 m) P) → Ok (patinaref09_Write_l0_b k nx kx2 x1 x5a x5n x5c x6 m) P) :
    ∀ n d (x1 : Addr) (x5a : Option Addr) (x5n : Nat) (x5c : Nat) (x6 : Int) (m : Mem), d < n → I d x1 x5a x5n x5c x6 m → Ok (patinaref09_Write_l0 k kx2 n x1 x5a x5n x5c x6 m) P
  | 0, d, x1, x5a, x5n, x5c, x6, m, h, _ => absurd h (Nat.not_lt_zero _)
  | n + 1, d, x1, x5a, x5n, x5c, x6, m, h, hI => step d _ x1 x5a x5n x5c x6 m hI fun d' x1 x5a x5n x5c x6 m h' hI' => patinaref09_Write_l0_rule k kx2 I step n d' x1 x5a x5n x5c x6 m (by omega) hI'

def patinaref09_Write_j1 (k : Nat) (x1 : Addr) (x5a : Option Addr) (x5n : Nat) (x5c : Nat) (x8 : Int) (x9 : Int) (nx : Addr → Option Addr → Nat → Nat → Int → Int → Int → Mem → Option (Sl × Int × Mem)) (x7_ : Int) (mj : Mem) : Option (Sl × Int × Mem) :=
  nx x1 x5a x5n x5c x7_ (IntKind.wrap .i64 (2 * x8)) (IntKind.wrap .i64 (x9 + 1)) mj

def patinaref09_Write_l2_b (k : Nat) (nx : Addr → Option Addr → Nat → Nat → Int → Int → Int → Mem → Option (Sl × Int × Mem)) (kx4 : Addr → Option Addr → Nat → Nat → Int → Mem → Option (Sl × Int × Mem)) (x1 : Addr) (x5a : Option Addr) (x5n : Nat) (x5c : Nat) (x7 : Int) (x8 : Int) (x9 : Int) (m : Mem) : Option (Sl × Int × Mem) :=
  bif decide (x9 < 12) then (
  bif inRange x9 12 then (
  (ldBool m (plus (plus x1 25) (Int.toNat x9 * 1))).bind fun t13 =>
  bif t13 then (
  patinaref09_Write_j1 k x1 x5a x5n x5c x8 x9 nx (IntKind.wrap .i64 (x7 + x8)) m) else (
  patinaref09_Write_j1 k x1 x5a x5n x5c x8 x9 nx x7 m)) else none) else (
  kx4 x1 x5a x5n x5c x7 m)

def patinaref09_Write_l2 (k : Nat) (kx4 : Addr → Option Addr → Nat → Nat → Int → Mem → Option (Sl × Int × Mem)) : Nat → Addr → Option Addr → Nat → Nat → Int → Int → Int → Mem → Option (Sl × Int × Mem)
  | 0, _, _, _, _, _, _, _, _ => none
  | n + 1, x1, x5a, x5n, x5c, x7, x8, x9, m => patinaref09_Write_l2_b k (fun x1 x5a x5n x5c x7 x8 x9 m => patinaref09_Write_l2 k kx4 n x1 x5a x5n x5c x7 x8 x9 m) kx4 x1 x5a x5n x5c x7 x8 x9 m

theorem patinaref09_Write_l2_rule (k : Nat) (kx4 : Addr → Option Addr → Nat → Nat → Int → Mem → Option (Sl × Int × Mem)) {P : (Sl × Int × Mem) → Prop} (I : Nat → Addr → Option Addr → Nat → Nat → Int → Int → Int → Mem → Prop)
    (step : ∀ d (nx : Addr → Option Addr → Nat → Nat → Int → Int → Int → Mem → Option (Sl × Int × Mem)) (x1 : Addr) (x5a : Option Addr) (x5n : Nat) (x5c : Nat) (x7 : Int) (x8 : Int) (x9 : Int) (m : Mem), I d x1 x5a x5n x5c x7 x8 x9 m → (∀ d' (x1 : Addr) (x5a : Option Addr) (x5n : Nat) (x5c : Nat) (x7 : Int) (x8 : Int) (x9 : Int) (m : Mem), d' < d → I d' x1 x5a x5n x5c x7 x8 x9 m → Ok (nx x1 x5a x5n x5c x7 x8 x9 m) P) → Ok (patinaref09_Write_l2_b k nx kx4 x1 x5a x5n x5c x7 x8 x9 m) P) :
    ∀ n d (x1 : Addr) (x5a : Option Addr) (x5n : Nat) (x5c : Nat) (x7 : Int) (x8 : Int) (x9 : Int) (m : Mem), d < n → I d x1 x5a x5n x5c x7 x8 x9 m → Ok (patinaref09_Write_l2 k kx4 n x1 x5a x5n x5c x7 x8 x9 m) P
  | 0, d, x1, x5a, x5n, x5c, x7, x8, x9, m, h, _ => absurd h (Nat.not_lt_zero _)
  | n + 1, d, x1, x5a, x5n, x5c, x7, x8, x9, m, h, hI => step d _ x1 x5a x5n x5c x7 x8 x9 m hI fun d' x1 x5a x5n x5c x7 x8 x9 m h' hI' => patinaref09_Write_l2_rule k kx4 I step n d' x1 x5a x5n x5c x7 x8 x9 m (by omega) hI'

def patinaref09_Write_l4_b (k : Nat) (nx : Addr → Option Addr → Nat → Nat → Int → Mem → Option (Sl × Int × Mem)) (kx6 : Addr → Option Addr → Nat → Nat → Mem → Option (Sl × Int × Mem)) (x1 : Addr) (x5a : Option Addr) (x5n : Nat) (x5c : Nat) (x10 : Int) (m : Mem) : Option (Sl × Int × Mem) :=
  bif decide (x10 < 12) then (
  bif inRange x10 12 then (
  (ldInt .i64 m (plus (plus x1 38) (Int.toNat x10 * 1))).bind fun t22 =>
  (patinaref09_bytes k t22 2 m).bind fun r23 =>
  (rdSl r23.2 r23.1.a r23.1.len 1).bind fun l24 =>
  (appM 1 1 r23.2 x5a x5n x5c r23.1.len l24).bind fun r25 =>
  nx x1 r25.1.a r25.1.len r25.1.cap (IntKind.wrap .i64 (x10 + 1)) r25.2) else none) else (
  kx6 x1 x5a x5n x5c m)

def patinaref09_Write_l4 (k : Nat) (kx6 : Addr → Option Addr → Nat → Nat → Mem → Option (Sl × Int × Mem)) : Nat → Addr → Option Addr → Nat → Nat → Int → Mem → Option (Sl × Int × Mem)
  | 0, _, _, _, _, _, _ => none
  | n + 1, x1, x5a, x5n, x5c, x10, m => patinaref09_Write_l4_b k (fun x1 x5a x5n x5c x10 m => patinaref09_Write_l4 k kx6 n x1 x5a x5n x5c x10 m) kx6 x1 x5a x5n x5c x10 m

theorem patinaref09_Write_l4_rule (k : Nat) (kx6 : Addr → Option Addr → Nat → Nat → Mem → Option (Sl × Int × Mem)) {P : (Sl × Int × Mem) → Prop} (I : Nat → Addr → Option Addr → Nat → Nat → Int → Mem → Prop)
    (step : ∀ d (nx : Addr → Option Addr → Nat → Nat → Int → Mem → Option (Sl × Int × Mem)) (x1 : Addr) (x5a : Option Addr) (x5n : Nat) (x5c : Nat) (x10 : Int) (m : Mem), I d x1 x5a x5n x5c x10 m → (∀ d' (x1 : Addr) (x5a : Option Addr) (x5n : Nat) (x5c : Nat) (x10 : Int) (m : Mem), d' < d → I d' x1 x5a x5n x5c x10 m → Ok (nx x1 x5a x5n x5c x10 m) P) → Ok (patinaref09_Write_l4_b k nx kx6 x1 x5a x5n x5c x10 m) P) :
    ∀ n d (x1 : Addr) (x5a : Option Addr) (x5n : Nat) (x5c : Nat) (x10 : Int) (m : Mem), d < n → I d x1 x5a x5n x5c x10 m → Ok (patinaref09_Write_l4 k kx6 n x1 x5a x5n x5c x10 m) P
  | 0, d, x1, x5a, x5n, x5c, x10, m, h, _ => absurd h (Nat.not_lt_zero _)
  | n + 1, d, x1, x5a, x5n, x5c, x10, m, h, hI => step d _ x1 x5a x5n x5c x10 m hI fun d' x1 x5a x5n x5c x10 m h' hI' => patinaref09_Write_l4_rule k kx6 I step n d' x1 x5a x5n x5c x10 m (by omega) hI'

def patinaref09_Write_l6_b (k : Nat) (nx : Addr → Option Addr → Nat → Nat → Int → Mem → Option (Sl × Int × Mem)) (kx8 : Option Addr → Nat → Nat → Mem → Option (Sl × Int × Mem)) (x1 : Addr) (x5a : Option Addr) (x5n : Nat) (x5c : Nat) (x11 : Int) (m : Mem) : Option (Sl × Int × Mem) :=
  bif decide (x11 < 12) then (
  bif inRange x11 12 then (
  (ldInt .i64 m (plus (plus x1 50) (Int.toNat x11 * 1))).bind fun t27 =>
  let m28 : Mem := m ++ [.live [(Value.int .u8 (IntKind.wrap .u8 t27))]]
  (rdSl m28 (some ⟨List.length m, 0, Option.none⟩) 1 1).bind fun l29 =>
  (appM 1 1 m28 x5a x5n x5c 1 l29).bind fun r30 =>
  nx x1 r30.1.a r30.1.len r30.1.cap (IntKind.wrap .i64 (x11 + 1)) r30.2) else none) else (
  kx8 x5a x5n x5c m)

def patinaref09_Write_l6 (k : Nat) (kx8 : Option Addr → Nat → Nat → Mem → Option (Sl × Int × Mem)) : Nat → Addr → Option Addr → Nat → Nat → Int → Mem → Option (Sl × Int × Mem)
  | 0, _, _, _, _, _, _ => none
  | n + 1, x1, x5a, x5n, x5c, x11, m => patinaref09_Write_l6_b k (fun x1 x5a x5n x5c x11 m => patinaref09_Write_l6 k kx8 n x1 x5a x5n x5c x11 m) kx8 x1 x5a x5n x5c x11 m

theorem patinaref09_Write_l6_rule (k : Nat) (kx8 : Option Addr → Nat → Nat → Mem → Option (Sl × Int × Mem)) {P : (Sl × Int × Mem) → Prop} (I : Nat → Addr → Option Addr → Nat → Nat → Int → Mem → Prop)
    (step : ∀ d (nx : Addr → Option Addr → Nat → Nat → Int → Mem → Option (Sl × Int × Mem)) (x1 : Addr) (x5a : Option Addr) (x5n : Nat) (x5c : Nat) (x11 : Int) (m : Mem), I d x1 x5a x5n x5c x11 m → (∀ d' (x1 : Addr) (x5a : Option Addr) (x5n : Nat) (x5c : Nat) (x11 : Int) (m : Mem), d' < d → I d' x1 x5a x5n x5c x11 m → Ok (nx x1 x5a x5n x5c x11 m) P) → Ok (patinaref09_Write_l6_b k nx kx8 x1 x5a x5n x5c x11 m) P) :
    ∀ n d (x1 : Addr) (x5a : Option Addr) (x5n : Nat) (x5c : Nat) (x11 : Int) (m : Mem), d < n → I d x1 x5a x5n x5c x11 m → Ok (patinaref09_Write_l6 k kx8 n x1 x5a x5n x5c x11 m) P
  | 0, d, x1, x5a, x5n, x5c, x11, m, h, _ => absurd h (Nat.not_lt_zero _)
  | n + 1, d, x1, x5a, x5n, x5c, x11, m, h, hI => step d _ x1 x5a x5n x5c x11 m hI fun d' x1 x5a x5n x5c x11 m h' hI' => patinaref09_Write_l6_rule k kx8 I step n d' x1 x5a x5n x5c x11 m (by omega) hI'

def patinaref09_Write (k : Nat) (p0 : List Value) (m : Mem) : Option (Sl × Int × Mem) :=
  bif Nat.beq (List.length p0) 62 then (
  let m1 : Mem := m ++ [.live p0]
  (ldCells m1 ⟨List.length m, 0, Option.none⟩ 62).bind fun t2 =>
  (patinaref09_Told k t2 m1).bind fun r3 =>
  bif !r3.1 then (
  some ((⟨none, 0, 0⟩ : Sl), 1, r3.2)) else (
  patinaref09_Write_l0 k (fun y1 y5a y5n y5c m8 => 
  (ldInt .i64 m8 (plus y1 24)).bind fun t9 =>
  (patinaref09_bytes k t9 5 m8).bind fun r10 =>
  (rdSl r10.2 r10.1.a r10.1.len 1).bind fun l11 =>
  (appM 1 1 r10.2 y5a y5n y5c r10.1.len l11).bind fun r12 =>
  patinaref09_Write_l2 k (fun y1 y5a y5n y5c y7 m14 => 
  (patinaref09_bytes k y7 2 m14).bind fun r15 =>
  (rdSl r15.2 r15.1.a r15.1.len 1).bind fun l16 =>
  (appM 1 1 r15.2 y5a y5n y5c r15.1.len l16).bind fun r17 =>
  (ldInt .i64 r17.2 (plus y1 37)).bind fun t18 =>
  let m19 : Mem := r17.2 ++ [.live [(Value.int .u8 (IntKind.wrap .u8 t18))]]
  (rdSl m19 (some ⟨List.length r17.2, 0, Option.none⟩) 1 1).bind fun l20 =>
  (appM 1 1 m19 r17.1.a r17.1.len r17.1.cap 1 l20).bind fun r21 =>
  patinaref09_Write_l4 k (fun y1 y5a y5n y5c m26 => 
  patinaref09_Write_l6 k (fun y5a y5n y5c m31 => 
  (appM 1 1 m31 y5a y5n y5c (Int.toNat 10) (repl (Int.toNat 10) [.int .u8 0])).bind fun r33 =>
  some ((⟨r33.1.a, r33.1.len, r33.1.cap⟩ : Sl), 0, r33.2)) k y1 y5a y5n y5c 0 m26) k y1 r21.1.a r21.1.len r21.1.cap 0 r21.2) k y1 r12.1.a r12.1.len r12.1.cap 0 1 0 r12.2) k ⟨List.length m, 0, Option.none⟩ none 0 0 0 r3.2)) else none

def patinaref09_Write_call {R : Type} (k : Nat) : Fun R := callCons 44 (patinaref09_Told_arm k) (callCons 45 (patinaref09_bytes_arm k) (callNil))

theorem patinaref09_Write_callOk {R : Type} (k : Nat) : CallOk Try.prog (patinaref09_Write_call (R := R) k) := callOk_cons (patinaref09_Told_armOk k) (callOk_cons (patinaref09_bytes_armOk k) (callOk_nil))

def patinaref09_Write_l0_L (k : Nat) (K : Nat → List Value → Mem → Option (Sl × Int × Mem)) (n : Nat) (vs : List Value) (m : Mem) : Option (Sl × Int × Mem) := match vs with
  | [.pointer (some x1), .slice x5a x5n x5c, .int .i64 x6] => patinaref09_Write_l0 k (fun y1 y5a y5n y5c m => K 2 [(Value.pointer (some y1)), (Value.slice y5a y5n y5c)] m) n x1 x5a x5n x5c x6 m
  | _ => none

def patinaref09_Write_l2_L (k : Nat) (K : Nat → List Value → Mem → Option (Sl × Int × Mem)) (n : Nat) (vs : List Value) (m : Mem) : Option (Sl × Int × Mem) := match vs with
  | [.pointer (some x1), .slice x5a x5n x5c, .int .i64 x7, .int .i64 x8, .int .i64 x9] => patinaref09_Write_l2 k (fun y1 y5a y5n y5c y7 m => K 4 [(Value.pointer (some y1)), (Value.slice y5a y5n y5c), (Value.int .i64 y7)] m) n x1 x5a x5n x5c x7 x8 x9 m
  | _ => none

def patinaref09_Write_l4_L (k : Nat) (K : Nat → List Value → Mem → Option (Sl × Int × Mem)) (n : Nat) (vs : List Value) (m : Mem) : Option (Sl × Int × Mem) := match vs with
  | [.pointer (some x1), .slice x5a x5n x5c, .int .i64 x10] => patinaref09_Write_l4 k (fun y1 y5a y5n y5c m => K 6 [(Value.pointer (some y1)), (Value.slice y5a y5n y5c)] m) n x1 x5a x5n x5c x10 m
  | _ => none

def patinaref09_Write_l6_L (k : Nat) (K : Nat → List Value → Mem → Option (Sl × Int × Mem)) (n : Nat) (vs : List Value) (m : Mem) : Option (Sl × Int × Mem) := match vs with
  | [.pointer (some x1), .slice x5a x5n x5c, .int .i64 x11] => patinaref09_Write_l6 k (fun y5a y5n y5c m => K 8 [(Value.slice y5a y5n y5c)] m) n x1 x5a x5n x5c x11 m
  | _ => none

def patinaref09_Write_loop (k : Nat) : Nat → List Value → Mem → (Nat → List Value → Mem → Option (Sl × Int × Mem)) → Option (Sl × Int × Mem) := fun cur vs m K => match cur with
  | 0 => patinaref09_Write_l0_L k K k vs m
  | 2 => patinaref09_Write_l2_L k K k vs m
  | 4 => patinaref09_Write_l4_L k K k vs m
  | 6 => patinaref09_Write_l6_L k K k vs m
  | _ => none

def patinaref09_Write_C (k : Nat) : Ctx (Sl × Int × Mem) := ⟨tt, patinaref09_Write_call k, patinaref09_Write_loop k, [(0, [1, 5, 6]), (2, [1, 5, 7, 8, 9]), (4, [1, 5, 10]), (6, [1, 5, 11])], [(2, [1, 5]), (4, [1, 5, 7]), (6, [1, 5]), (8, [5])]⟩

noncomputable def patinaref09_Write_l0_c : Code := ((loopsOf 0 (body Try.f11)).map (·.2)).getD 0 .skip

noncomputable def patinaref09_Write_l2_c : Code := ((loopsOf 0 (body Try.f11)).map (·.2)).getD 1 .skip

noncomputable def patinaref09_Write_l4_c : Code := ((loopsOf 0 (body Try.f11)).map (·.2)).getD 2 .skip

noncomputable def patinaref09_Write_l6_c : Code := ((loopsOf 0 (body Try.f11)).map (·.2)).getD 3 .skip

theorem patinaref09_Write_loops : loopsOf 0 (body Try.f11) = [(0, patinaref09_Write_l0_c), (2, patinaref09_Write_l2_c), (4, patinaref09_Write_l4_c), (6, patinaref09_Write_l6_c)] := by kernel_rfl

theorem patinaref09_Write_l0_ok (k : Nat) : LoopOk (patinaref09_Write_C k) 0 patinaref09_Write_l0_c := by
  refine ⟨[1, 5, 6], by kernel_rfl, fun K r => ⟨patinaref09_Write_l0_L k K, fun vs m h => ⟨k, h⟩, ?_⟩⟩
  intro n vs m h
  unfold patinaref09_Write_l0_L at h
  split at h
  · cases n with
    | zero => cases h
    | succ n => exact ⟨n, rfl, Eq.trans (by kernel_rfl) h⟩
  · cases h

theorem patinaref09_Write_l2_ok (k : Nat) : LoopOk (patinaref09_Write_C k) 2 patinaref09_Write_l2_c := by
  refine ⟨[1, 5, 7, 8, 9], by kernel_rfl, fun K r => ⟨patinaref09_Write_l2_L k K, fun vs m h => ⟨k, h⟩, ?_⟩⟩
  intro n vs m h
  unfold patinaref09_Write_l2_L at h
  split at h
  · cases n with
    | zero => cases h
    | succ n => exact ⟨n, rfl, Eq.trans (by kernel_rfl) h⟩
  · cases h

theorem patinaref09_Write_l4_ok (k : Nat) : LoopOk (patinaref09_Write_C k) 4 patinaref09_Write_l4_c := by
  refine ⟨[1, 5, 10], by kernel_rfl, fun K r => ⟨patinaref09_Write_l4_L k K, fun vs m h => ⟨k, h⟩, ?_⟩⟩
  intro n vs m h
  unfold patinaref09_Write_l4_L at h
  split at h
  · cases n with
    | zero => cases h
    | succ n => exact ⟨n, rfl, Eq.trans (by kernel_rfl) h⟩
  · cases h

theorem patinaref09_Write_l6_ok (k : Nat) : LoopOk (patinaref09_Write_C k) 6 patinaref09_Write_l6_c := by
  refine ⟨[1, 5, 11], by kernel_rfl, fun K r => ⟨patinaref09_Write_l6_L k K, fun vs m h => ⟨k, h⟩, ?_⟩⟩
  intro n vs m h
  unfold patinaref09_Write_l6_L at h
  split at h
  · cases n with
    | zero => cases h
    | succ n => exact ⟨n, rfl, Eq.trans (by kernel_rfl) h⟩
  · cases h

def patinaref09_Write_dec : Value → Mem → Option (Sl × Int × Mem) := fun v m => match v with
  | .tuple ⟨[.slice q0a q0n q0c, .int .i64 q1]⟩ => some ((⟨q0a, q0n, q0c⟩ : Sl), q1, m)
  | _ => none

theorem patinaref09_Write_eq (k : Nat) (p0 : List Value) (m : Mem) : fnX (patinaref09_Write_C k) Try.f11 [(Value.agg ⟨p0⟩)] m patinaref09_Write_dec = patinaref09_Write k p0 m := by kernel_rfl

theorem patinaref09_Write_ok {k : Nat} {p0 : List Value} {m : Mem} {r : (Sl × Int × Mem)} (h : patinaref09_Write k p0 m = some r) : CallP Try.prog 11 [(Value.agg ⟨p0⟩)] m fun v m' => v = (Value.tuple ⟨[(Value.slice r.1.a r.1.len r.1.cap), (Value.int .i64 r.2.1)]⟩) ∧ m' = r.2.2 := by
  refine (fn_sound (C := patinaref09_Write_C k) (c := body Try.f11) tOk mixed (patinaref09_Write_callOk k) Try.func11 (by kernel_rfl) (by kernel_rfl) (by kernel_rfl) (by kernel_rfl) ?_ (Eq.trans (patinaref09_Write_eq k p0 m) h)).mono ?_
  · intro p hp
    rw [patinaref09_Write_loops] at hp
    simp only [List.mem_cons, List.not_mem_nil, or_false] at hp
    rcases hp with rfl | rfl | rfl | rfl
    · exact patinaref09_Write_l0_ok k
    · exact patinaref09_Write_l2_ok k
    · exact patinaref09_Write_l4_ok k
    · exact patinaref09_Write_l6_ok k
  · intro v m' hp
    unfold patinaref09_Write_dec at hp
    split at hp
    · simp only [Option.some.injEq] at hp; subst hp; exact ⟨rfl, rfl⟩
    · cases hp

def patinaref09_Write_arm {R : Type} (k : Nat) : Arm R := fun vs m K => match vs with
  | [.agg ⟨p0⟩] => (patinaref09_Write k p0 m).bind fun r => K (Value.tuple ⟨[(Value.slice r.1.a r.1.len r.1.cap), (Value.int .i64 r.2.1)]⟩) r.2.2
  | _ => none

theorem patinaref09_Write_armOk {R : Type} (k : Nat) : ArmOk Try.prog 11 (patinaref09_Write_arm (R := R) k) := by
  intro vs m K r h
  unfold patinaref09_Write_arm at h
  split at h
  · obtain ⟨r, h1, h2⟩ := Option.bind_eq_some_iff.1 h; exact ⟨_, _, h2, fun K' => by simp only [patinaref09_Write_arm, h1, Option.bind_some], patinaref09_Write_ok h1⟩
  · cases h

/-! ### patinaref09_Same -/
def patinaref09_Same (k : Nat) (p0a : Option Addr) (p0n : Nat) (p0c : Nat) (p1a : Option Addr) (p1n : Nat) (p1c : Nat) (m : Mem) : Option (Bool × Mem) :=
  (rdSl m p0a p0n 1).bind fun l1 =>
  (strOf l1).bind fun s2 =>
  (rdSl m p1a p1n 1).bind fun l3 =>
  (strOf l3).bind fun s4 =>
  some (strEq s2 s4, m)

def patinaref09_Same_call {R : Type} (k : Nat) : Fun R := callNil

theorem patinaref09_Same_callOk {R : Type} (k : Nat) : CallOk Try.prog (patinaref09_Same_call (R := R) k) := callOk_nil

def patinaref09_Same_loop (k : Nat) : Nat → List Value → Mem → (Nat → List Value → Mem → Option (Bool × Mem)) → Option (Bool × Mem) := fun _ _ _ _ => none

def patinaref09_Same_C (k : Nat) : Ctx (Bool × Mem) := ⟨tt, patinaref09_Same_call k, patinaref09_Same_loop k, [], []⟩

def patinaref09_Same_dec : Value → Mem → Option (Bool × Mem) := fun v m => match v with
  | .bool q0 => some (q0, m)
  | _ => none

theorem patinaref09_Same_eq (k : Nat) (p0a : Option Addr) (p0n : Nat) (p0c : Nat) (p1a : Option Addr) (p1n : Nat) (p1c : Nat) (m : Mem) : fnX (patinaref09_Same_C k) Try.f12 [(Value.slice p0a p0n p0c), (Value.slice p1a p1n p1c)] m patinaref09_Same_dec = patinaref09_Same k p0a p0n p0c p1a p1n p1c m := by kernel_rfl

theorem patinaref09_Same_ok {k : Nat} {p0a : Option Addr} {p0n : Nat} {p0c : Nat} {p1a : Option Addr} {p1n : Nat} {p1c : Nat} {m : Mem} {r : (Bool × Mem)} (h : patinaref09_Same k p0a p0n p0c p1a p1n p1c m = some r) : CallP Try.prog 12 [(Value.slice p0a p0n p0c), (Value.slice p1a p1n p1c)] m fun v m' => v = (Value.bool r.1) ∧ m' = r.2 := by
  refine (fn_sound (C := patinaref09_Same_C k) (c := body Try.f12) tOk mixed (patinaref09_Same_callOk k) Try.func12 (by kernel_rfl) (by kernel_rfl) (by kernel_rfl) (by kernel_rfl) ?_ (Eq.trans (patinaref09_Same_eq k p0a p0n p0c p1a p1n p1c m) h)).mono ?_
  · intro p hp; rw [show loopsOf 0 (body Try.f12) = [] by kernel_rfl] at hp; cases hp
  · intro v m' hp
    unfold patinaref09_Same_dec at hp
    split at hp
    · simp only [Option.some.injEq] at hp; subst hp; exact ⟨rfl, rfl⟩
    · cases hp

def patinaref09_Same_arm {R : Type} (k : Nat) : Arm R := fun vs m K => match vs with
  | [.slice p0a p0n p0c, .slice p1a p1n p1c] => (patinaref09_Same k p0a p0n p0c p1a p1n p1c m).bind fun r => K (Value.bool r.1) r.2
  | _ => none

theorem patinaref09_Same_armOk {R : Type} (k : Nat) : ArmOk Try.prog 12 (patinaref09_Same_arm (R := R) k) := by
  intro vs m K r h
  unfold patinaref09_Same_arm at h
  split at h
  · obtain ⟨r, h1, h2⟩ := Option.bind_eq_some_iff.1 h; exact ⟨_, _, h2, fun K' => by simp only [patinaref09_Same_arm, h1, Option.bind_some], patinaref09_Same_ok h1⟩
  · cases h

end Go.Proofs.Ytnilidpafijdlab
