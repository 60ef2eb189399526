/- The program's functions as plain Lean functions over a clean memory, each held against the program by the kernel. Written by mx.py. -/
import Derived.Test.YtnilidpafijdlabF0
set_option linter.unusedVariables false
set_option maxRecDepth 100000
namespace Go.Proofs.Ytnilidpafijdlab
open Go.Mx

/-! ### point_within -/
def point_within (k : Nat) (p0 : Int) (p1 : Int) (m : Mem) : Option (Bool × Mem) :=
  bif decide (p0 ≥ 0) then (
  some (decide (p0 ≤ p1), m)) else (
  some (false, m))

def point_within_call {R : Type} (k : Nat) : Fun R := callNil

theorem point_within_callOk {R : Type} (k : Nat) : CallOk Try.prog (point_within_call (R := R) k) := callOk_nil

def point_within_loop (k : Nat) : Nat → List Value → Mem → (Nat → List Value → Mem → Option (Bool × Mem)) → Option (Bool × Mem) := fun _ _ _ _ => none

def point_within_C (k : Nat) : Ctx (Bool × Mem) := ⟨tt, point_within_call k, point_within_loop k, [], []⟩

def point_within_dec : Value → Mem → Option (Bool × Mem) := fun v m => match v with
  | .bool q0 => some (q0, m)
  | _ => none

theorem point_within_eq (k : Nat) (p0 : Int) (p1 : Int) (m : Mem) : fnX (point_within_C k) Try.f65 [(Value.int .i64 p0), (Value.int .i64 p1)] m point_within_dec = point_within k p0 p1 m := by kernel_rfl

theorem point_within_ok {k : Nat} {p0 : Int} {p1 : Int} {m : Mem} {r : (Bool × Mem)} (h : point_within k p0 p1 m = some r) : CallP Try.prog 65 [(Value.int .i64 p0), (Value.int .i64 p1)] m fun v m' => v = (Value.bool r.1) ∧ m' = r.2 := by
  refine (fn_sound (C := point_within_C k) (c := body Try.f65) tOk mixed (point_within_callOk k) Try.func65 (by kernel_rfl) (by kernel_rfl) (by kernel_rfl) (by kernel_rfl) ?_ (Eq.trans (point_within_eq k p0 p1 m) h)).mono ?_
  · intro p hp; rw [show loopsOf 0 (body Try.f65) = [] by kernel_rfl] at hp; cases hp
  · intro v m' hp
    unfold point_within_dec at hp
    split at hp
    · simp only [Option.some.injEq] at hp; subst hp; exact ⟨rfl, rfl⟩
    · cases hp

def point_within_arm {R : Type} (k : Nat) : Arm R := fun vs m K => match vs with
  | [.int .i64 p0, .int .i64 p1] => (point_within k p0 p1 m).bind fun r => K (Value.bool r.1) r.2
  | _ => none

theorem point_within_armOk {R : Type} (k : Nat) : ArmOk Try.prog 65 (point_within_arm (R := R) k) := by
  intro vs m K r h
  unfold point_within_arm at h
  split at h
  · obtain ⟨r, h1, h2⟩ := Option.bind_eq_some_iff.1 h; exact ⟨_, _, h2, fun K' => by simp only [point_within_arm, h1, Option.bind_some], point_within_ok h1⟩
  · cases h

/-! ### point_told -/
def point_told_j1 (k : Nat) (x1 : Addr) (x16 : List Value) (x17 : Int) (nx : Addr → Bool → List Value → Int → Mem → Option (Bool × Mem)) (x3_ : Bool) (mj : Mem) : Option (Bool × Mem) :=
  nx x1 x3_ x16 (IntKind.wrap .i64 (x17 + 1)) mj

def point_told_l0_b (k : Nat) (nx : Addr → Bool → List Value → Int → Mem → Option (Bool × Mem)) (kx2 : Addr → Bool → Mem → Option (Bool × Mem)) (x1 : Addr) (x3 : Bool) (x16 : List Value) (x17 : Int) (m : Mem) : Option (Bool × Mem) :=
  bif decide (x17 < 24) then (
  bif inRange x17 24 then (
  (cInt .i64 x16 (Int.toNat x17 * 1)).bind fun t7 =>
  bif x3 then (
  (point_within k t7 1099511627775 m).bind fun r8 =>
  point_told_j1 k x1 x16 x17 nx r8.1 r8.2) else (
  point_told_j1 k x1 x16 x17 nx false m)) else none) else (
  kx2 x1 x3 m)

def point_told_l0 (k : Nat) (kx2 : Addr → Bool → Mem → Option (Bool × Mem)) : Nat → Addr → Bool → List Value → Int → Mem → Option (Bool × Mem)
  | 0, _, _, _, _, _ => none
  | n + 1, x1, x3, x16, x17, m => point_told_l0_b k (fun x1 x3 x16 x17 m => point_told_l0 k kx2 n x1 x3 x16 x17 m) kx2 x1 x3 x16 x17 m

theorem point_told_l0_rule (k : Nat) (kx2 : Addr → Bool → Mem → Option (Bool × Mem)) {P : (Bool × Mem) → Prop} (I : Nat → Addr → Bool → List Value → Int → Mem → Prop)
    (step : ∀ d (nx : Addr → Bool → List Value → Int → Mem → Option (Bool × Mem)) (x1 : Addr) (x3 : Bool) (x16 : List Value) (x17 : Int) (m : Mem), I d x1 x3 x16 x17 m → (∀ d' (x1 : Addr) (x3 : Bool) (x16 : List Value) (x17 : Int) (m : Mem), d' < d → I d' x1 x3 x16 x17 m → Ok (nx x1 x3 x16 x17 m) P) → Ok (point_told_l0_b k nx kx2 x1 x3 x16 x17 m) P) :
    ∀ n d (x1 : Addr) (x3 : Bool) (x16 : List Value) (x17 : Int) (m : Mem), d < n → I d x1 x3 x16 x17 m → Ok (point_told_l0 k kx2 n x1 x3 x16 x17 m) P
  | 0, d, x1, x3, x16, x17, m, h, _ => absurd h (Nat.not_lt_zero _)
  | n + 1, d, x1, x3, x16, x17, m, h, hI => step d _ x1 x3 x16 x17 m hI fun d' x1 x3 x16 x17 m h' hI' => point_told_l0_rule k kx2 I step n d' x1 x3 x16 x17 m (by omega) hI'

def point_told_j2 (k : Nat) (x1 : Addr) (x26 : Int) (nx : Addr → Bool → Int → Mem → Option (Bool × Mem)) (x3_ : Bool) (mj : Mem) : Option (Bool × Mem) :=
  nx x1 x3_ (IntKind.wrap .i64 (x26 + 1)) mj

def point_told_l2_b (k : Nat) (nx : Addr → Bool → Int → Mem → Option (Bool × Mem)) (kx4 : Bool → Mem → Option (Bool × Mem)) (x1 : Addr) (x3 : Bool) (x26 : Int) (m : Mem) : Option (Bool × Mem) :=
  bif decide (x26 < 12) then (
  bif x3 then (
  bif inRange x26 12 then (
  (ldInt .i64 m (plus (plus x1 38) (Int.toNat x26 * 1))).bind fun t10 =>
  (point_within k t10 65535 m).bind fun r11 =>
  bif r11.1 then (
  bif inRange x26 12 then (
  (ldInt .i64 r11.2 (plus (plus x1 50) (Int.toNat x26 * 1))).bind fun t12 =>
  (point_within k t12 255 r11.2).bind fun r13 =>
  point_told_j2 k x1 x26 nx r13.1 r13.2) else none) else (
  point_told_j2 k x1 x26 nx false r11.2)) else none) else (
  point_told_j2 k x1 x26 nx false m)) else (
  kx4 x3 m)

def point_told_l2 (k : Nat) (kx4 : Bool → Mem → Option (Bool × Mem)) : Nat → Addr → Bool → Int → Mem → Option (Bool × Mem)
  | 0, _, _, _, _ => none
  | n + 1, x1, x3, x26, m => point_told_l2_b k (fun x1 x3 x26 m => point_told_l2 k kx4 n x1 x3 x26 m) kx4 x1 x3 x26 m

theorem point_told_l2_rule (k : Nat) (kx4 : Bool → Mem → Option (Bool × Mem)) {P : (Bool × Mem) → Prop} (I : Nat → Addr → Bool → Int → Mem → Prop)
    (step : ∀ d (nx : Addr → Bool → Int → Mem → Option (Bool × Mem)) (x1 : Addr) (x3 : Bool) (x26 : Int) (m : Mem), I d x1 x3 x26 m → (∀ d' (x1 : Addr) (x3 : Bool) (x26 : Int) (m : Mem), d' < d → I d' x1 x3 x26 m → Ok (nx x1 x3 x26 m) P) → Ok (point_told_l2_b k nx kx4 x1 x3 x26 m) P) :
    ∀ n d (x1 : Addr) (x3 : Bool) (x26 : Int) (m : Mem), d < n → I d x1 x3 x26 m → Ok (point_told_l2 k kx4 n x1 x3 x26 m) P
  | 0, d, x1, x3, x26, m, h, _ => absurd h (Nat.not_lt_zero _)
  | n + 1, d, x1, x3, x26, m, h, hI => step d _ x1 x3 x26 m hI fun d' x1 x3 x26 m h' hI' => point_told_l2_rule k kx4 I step n d' x1 x3 x26 m (by omega) hI'

def point_told (k : Nat) (p0 : List Value) (m : Mem) : Option (Bool × Mem) :=
  bif Nat.beq (List.length p0) 62 then (
  let m1 : Mem := m ++ [.live p0]
  (ldInt .i64 m1 (plus ⟨List.length m, 0, Option.none⟩ 24)).bind fun t2 =>
  (point_within k t2 1099511627775 m1).bind fun r3 =>
  bif r3.1 then (
  (ldInt .i64 r3.2 (plus ⟨List.length m, 0, Option.none⟩ 37)).bind fun t4 =>
  (point_within k t4 95 r3.2).bind fun r5 =>
  (ldCells r5.2 (plus ⟨List.length m, 0, Option.none⟩ 0) 24).bind fun t6 =>
  point_told_l0 k (fun y1 y3 m9 => 
  point_told_l2 k (fun y3 m14 => 
  some (y3, m14)) k y1 y3 0 m9) k ⟨List.length m, 0, Option.none⟩ r5.1 t6 0 r5.2) else (
  (ldCells r3.2 (plus ⟨List.length m, 0, Option.none⟩ 0) 24).bind fun t15 =>
  point_told_l0 k (fun y1 y3 m16 => 
  point_told_l2 k (fun y3 m17 => 
  some (y3, m17)) k y1 y3 0 m16) k ⟨List.length m, 0, Option.none⟩ false t15 0 r3.2)) else none

def point_told_call {R : Type} (k : Nat) : Fun R := callCons 65 (point_within_arm k) (callNil)

theorem point_told_callOk {R : Type} (k : Nat) : CallOk Try.prog (point_told_call (R := R) k) := callOk_cons (point_within_armOk k) (callOk_nil)

def point_told_l0_L (k : Nat) (K : Nat → List Value → Mem → Option (Bool × Mem)) (n : Nat) (vs : List Value) (m : Mem) : Option (Bool × Mem) := match vs with
  | [.pointer (some x1), .bool x3, .agg ⟨x16⟩, .int .i64 x17] => point_told_l0 k (fun y1 y3 m => K 2 [(Value.pointer (some y1)), (Value.bool y3)] m) n x1 x3 x16 x17 m
  | _ => none

def point_told_l2_L (k : Nat) (K : Nat → List Value → Mem → Option (Bool × Mem)) (n : Nat) (vs : List Value) (m : Mem) : Option (Bool × Mem) := match vs with
  | [.pointer (some x1), .bool x3, .int .i64 x26] => point_told_l2 k (fun y3 m => K 4 [(Value.bool y3)] m) n x1 x3 x26 m
  | _ => none

def point_told_loop (k : Nat) : Nat → List Value → Mem → (Nat → List Value → Mem → Option (Bool × Mem)) → Option (Bool × Mem) := fun cur vs m K => match cur with
  | 0 => point_told_l0_L k K k vs m
  | 2 => point_told_l2_L k K k vs m
  | _ => none

def point_told_C (k : Nat) : Ctx (Bool × Mem) := ⟨tt, point_told_call k, point_told_loop k, [(0, [1, 3, 16, 17]), (2, [1, 3, 26])], [(2, [1, 3]), (4, [3])]⟩

noncomputable def point_told_l0_c : Code := ((loopsOf 0 (body Try.f42)).map (·.2)).getD 0 .skip

noncomputable def point_told_l2_c : Code := ((loopsOf 0 (body Try.f42)).map (·.2)).getD 1 .skip

theorem point_told_loops : loopsOf 0 (body Try.f42) = [(0, point_told_l0_c), (2, point_told_l2_c)] := by kernel_rfl

theorem point_told_l0_ok (k : Nat) : LoopOk (point_told_C k) 0 point_told_l0_c := by
  refine ⟨[1, 3, 16, 17], by kernel_rfl, fun K r => ⟨point_told_l0_L k K, fun vs m h => ⟨k, h⟩, ?_⟩⟩
  intro n vs m h
  unfold point_told_l0_L at h
  split at h
  · cases n with
    | zero => cases h
    | succ n => exact ⟨n, rfl, Eq.trans (by kernel_rfl) h⟩
  · cases h

theorem point_told_l2_ok (k : Nat) : LoopOk (point_told_C k) 2 point_told_l2_c := by
  refine ⟨[1, 3, 26], by kernel_rfl, fun K r => ⟨point_told_l2_L k K, fun vs m h => ⟨k, h⟩, ?_⟩⟩
  intro n vs m h
  unfold point_told_l2_L at h
  split at h
  · cases n with
    | zero => cases h
    | succ n => exact ⟨n, rfl, Eq.trans (by kernel_rfl) h⟩
  · cases h

def point_told_dec : Value → Mem → Option (Bool × Mem) := fun v m => match v with
  | .bool q0 => some (q0, m)
  | _ => none

theorem point_told_eq (k : Nat) (p0 : List Value) (m : Mem) : fnX (point_told_C k) Try.f42 [(Value.agg ⟨p0⟩)] m point_told_dec = point_told k p0 m := by kernel_rfl

theorem point_told_ok {k : Nat} {p0 : List Value} {m : Mem} {r : (Bool × Mem)} (h : point_told k p0 m = some r) : CallP Try.prog 42 [(Value.agg ⟨p0⟩)] m fun v m' => v = (Value.bool r.1) ∧ m' = r.2 := by
  refine (fn_sound (C := point_told_C k) (c := body Try.f42) tOk mixed (point_told_callOk k) Try.func42 (by kernel_rfl) (by kernel_rfl) (by kernel_rfl) (by kernel_rfl) ?_ (Eq.trans (point_told_eq k p0 m) h)).mono ?_
  · intro p hp
    rw [point_told_loops] at hp
    simp only [List.mem_cons, List.not_mem_nil, or_false] at hp
    rcases hp with rfl | rfl
    · exact point_told_l0_ok k
    · exact point_told_l2_ok k
  · intro v m' hp
    unfold point_told_dec at hp
    split at hp
    · simp only [Option.some.injEq] at hp; subst hp; exact ⟨rfl, rfl⟩
    · cases hp

def point_told_arm {R : Type} (k : Nat) : Arm R := fun vs m K => match vs with
  | [.agg ⟨p0⟩] => (point_told k p0 m).bind fun r => K (Value.bool r.1) r.2
  | _ => none

theorem point_told_armOk {R : Type} (k : Nat) : ArmOk Try.prog 42 (point_told_arm (R := R) k) := by
  intro vs m K r h
  unfold point_told_arm at h
  split at h
  · obtain ⟨r, h1, h2⟩ := Option.bind_eq_some_iff.1 h; exact ⟨_, _, h2, fun K' => by simp only [point_told_arm, h1, Option.bind_some], point_told_ok h1⟩
  · cases h

/-! ### point_writer_put -/
def point_writer_put_l0_b (k : Nat) (nx : Option Addr → Int → Int → Int → Mem → Option Mem) (kx2 : Mem → Option Mem) (x0 : Option Addr) (x1 : Int) (x7 : Int) (x8 : Int) (m : Mem) : Option Mem :=
  bif decide (x8 < x7) then (
  (x0).bind fun a1 =>
  (ldSl m (plus a1 0)).bind fun t2 =>
  bif decide ((IntKind.wrap .i64 (8 * x8)) < 0) then none else (
  let m3 : Mem := m ++ [.live [(Value.int .u8 (IntKind.wrap .u8 (shrI .i64 x1 (IntKind.wrap .i64 (8 * x8)))))]]
  (rdSl m3 (some ⟨List.length m, 0, Option.none⟩) 1 1).bind fun l4 =>
  (appM 1 1 m3 t2.a t2.len t2.cap 1 l4).bind fun r5 =>
  (x0).bind fun a6 =>
  (st r5.2 (plus a6 0) (Value.slice r5.1.a r5.1.len r5.1.cap)).bind fun m7 =>
  (ldSl m3 (plus a1 0)).bind fun t8 =>
  bif decide (t8.a = t2.a) && Nat.beq t8.len t2.len && Nat.beq t8.cap t2.cap then (
  nx x0 x1 x7 (IntKind.wrap .i64 (x8 + 1)) m7) else none)) else (
  kx2  m)

def point_writer_put_l0 (k : Nat) (kx2 : Mem → Option Mem) : Nat → Option Addr → Int → Int → Int → Mem → Option Mem
  | 0, _, _, _, _, _ => none
  | n + 1, x0, x1, x7, x8, m => point_writer_put_l0_b k (fun x0 x1 x7 x8 m => point_writer_put_l0 k kx2 n x0 x1 x7 x8 m) kx2 x0 x1 x7 x8 m

theorem point_writer_put_l0_rule (k : Nat) (kx2 : Mem → Option Mem) {P : Mem → Prop} (I : Nat → Option Addr → Int → Int → Int → Mem → Prop)
    (step : ∀ d (nx : Option Addr → Int → Int → Int → Mem → Option Mem) (x0 : Option Addr) (x1 : Int) (x7 : Int) (x8 : Int) (m : Mem), I d x0 x1 x7 x8 m → (∀ d' (x0 : Option Addr) (x1 : Int) (x7 : Int) (x8 : Int) (m : Mem), d' < d → I d' x0 x1 x7 x8 m → Ok (nx x0 x1 x7 x8 m) P) → Ok (point_writer_put_l0_b k nx kx2 x0 x1 x7 x8 m) P) :
    ∀ n d (x0 : Option Addr) (x1 : Int) (x7 : Int) (x8 : Int) (m : Mem), d < n → I d x0 x1 x7 x8 m → Ok (point_writer_put_l0 k kx2 n x0 x1 x7 x8 m) P
  | 0, d, x0, x1, x7, x8, m, h, _ => absurd h (Nat.not_lt_zero _)
  | n + 1, d, x0, x1, x7, x8, m, h, hI => step d _ x0 x1 x7 x8 m hI fun d' x0 x1 x7 x8 m h' hI' => point_writer_put_l0_rule k kx2 I step n d' x0 x1 x7 x8 m (by omega) hI'

def point_writer_put (k : Nat) (p0 : Option Addr) (p1 : Int) (p2 : Int) (m : Mem) : Option Mem :=
  point_writer_put_l0 k (fun m9 => 
  some (m9)) k p0 p1 p2 0 m

def point_writer_put_call {R : Type} (k : Nat) : Fun R := callNil

theorem point_writer_put_callOk {R : Type} (k : Nat) : CallOk Try.prog (point_writer_put_call (R := R) k) := callOk_nil

def point_writer_put_l0_L (k : Nat) (K : Nat → List Value → Mem → Option Mem) (n : Nat) (vs : List Value) (m : Mem) : Option Mem := match vs with
  | [.pointer x0, .int .i64 x1, .int .i64 x7, .int .i64 x8] => point_writer_put_l0 k (fun m => K 2 [] m) n x0 x1 x7 x8 m
  | _ => none

def point_writer_put_loop (k : Nat) : Nat → List Value → Mem → (Nat → List Value → Mem → Option Mem) → Option Mem := fun cur vs m K => match cur with
  | 0 => point_writer_put_l0_L k K k vs m
  | _ => none

def point_writer_put_C (k : Nat) : Ctx Mem := ⟨tt, point_writer_put_call k, point_writer_put_loop k, [(0, [0, 1, 7, 8])], [(2, [])]⟩

noncomputable def point_writer_put_l0_c : Code := ((loopsOf 0 (body Try.f43)).map (·.2)).getD 0 .skip

theorem point_writer_put_loops : loopsOf 0 (body Try.f43) = [(0, point_writer_put_l0_c)] := by kernel_rfl

theorem point_writer_put_l0_ok (k : Nat) : LoopOk (point_writer_put_C k) 0 point_writer_put_l0_c := by
  refine ⟨[0, 1, 7, 8], by kernel_rfl, fun K r => ⟨point_writer_put_l0_L k K, fun vs m h => ⟨k, h⟩, ?_⟩⟩
  intro n vs m h
  unfold point_writer_put_l0_L at h
  split at h
  · cases n with
    | zero => cases h
    | succ n => exact ⟨n, rfl, Eq.trans (by kernel_rfl) h⟩
  · cases h

def point_writer_put_dec : Value → Mem → Option Mem := fun v m => match v with
  | .tuple ⟨[]⟩ => some (m)
  | _ => none

theorem point_writer_put_eq (k : Nat) (p0 : Option Addr) (p1 : Int) (p2 : Int) (m : Mem) : fnX (point_writer_put_C k) Try.f43 [(Value.pointer p0), (Value.int .i64 p1), (Value.int .i64 p2)] m point_writer_put_dec = point_writer_put k p0 p1 p2 m := by kernel_rfl

theorem point_writer_put_ok {k : Nat} {p0 : Option Addr} {p1 : Int} {p2 : Int} {m : Mem} {r : Mem} (h : point_writer_put k p0 p1 p2 m = some r) : CallP Try.prog 43 [(Value.pointer p0), (Value.int .i64 p1), (Value.int .i64 p2)] m fun v m' => v = (Value.tuple ⟨[]⟩) ∧ m' = r := by
  refine (fn_sound (C := point_writer_put_C k) (c := body Try.f43) tOk mixed (point_writer_put_callOk k) Try.func43 (by kernel_rfl) (by kernel_rfl) (by kernel_rfl) (by kernel_rfl) ?_ (Eq.trans (point_writer_put_eq k p0 p1 p2 m) h)).mono ?_
  · intro p hp
    rw [point_writer_put_loops] at hp
    simp only [List.mem_cons, List.not_mem_nil, or_false] at hp
    rcases hp with rfl
    · exact point_writer_put_l0_ok k
  · intro v m' hp
    unfold point_writer_put_dec at hp
    split at hp
    · simp only [Option.some.injEq] at hp; subst hp; exact ⟨rfl, rfl⟩
    · cases hp

def point_writer_put_arm {R : Type} (k : Nat) : Arm R := fun vs m K => match vs with
  | [.pointer p0, .int .i64 p1, .int .i64 p2] => (point_writer_put k p0 p1 p2 m).bind fun r => K (Value.tuple ⟨[]⟩) r
  | _ => none

theorem point_writer_put_armOk {R : Type} (k : Nat) : ArmOk Try.prog 43 (point_writer_put_arm (R := R) k) := by
  intro vs m K r h
  unfold point_writer_put_arm at h
  split at h
  · obtain ⟨r, h1, h2⟩ := Option.bind_eq_some_iff.1 h; exact ⟨_, _, h2, fun K' => by simp only [point_writer_put_arm, h1, Option.bind_some], point_writer_put_ok h1⟩
  · cases h

/-! ### point_Write -/
def point_Write_l0_b (k : Nat) (nx : Addr → Addr → List Value → Int → Mem → Option (Sl × Value × Mem)) (kx2 : Addr → Addr → Mem → Option (Sl × Value × Mem)) (x1 : Addr) (x4 : Addr) (x22 : List Value) (x23 : Int) (m : Mem) : Option (Sl × Value × Mem) :=
  bif decide (x23 < 24) then (
  bif inRange x23 24 then (
  (cInt .i64 x22 (Int.toNat x23 * 1)).bind fun t7 =>
  (point_writer_put k (some x4) t7 5 m).bind fun r8 =>
  nx x1 x4 x22 (IntKind.wrap .i64 (x23 + 1)) r8) else none) else (
  kx2 x1 x4 m)

def point_Write_l0 (k : Nat) (kx2 : Addr → Addr → Mem → Option (Sl × Value × Mem)) : Nat → Addr → Addr → List Value → Int → Mem → Option (Sl × Value × Mem)
  | 0, _, _, _, _, _ => none
  | n + 1, x1, x4, x22, x23, m => point_Write_l0_b k (fun x1 x4 x22 x23 m => point_Write_l0 k kx2 n x1 x4 x22 x23 m) kx2 x1 x4 x22 x23 m

theorem point_Write_l0_rule (k : Nat) (kx2 : Addr → Addr → Mem → Option (Sl × Value × Mem)) {P : (Sl × Value × Mem) → Prop} (I : Nat → Addr → Addr → List Value → Int → Mem → Prop)
    (step : ∀ d (nx : Addr → Addr → List Value → Int → Mem → Option (Sl × Value × Mem)) (x1 : Addr) (x4 : Addr) (x22 : List Value) (x23 : Int) (m : Mem), I d x1 x4 x22 x23 m → (∀ d' (x1 : Addr) (x4 : Addr) (x22 : List Value) (x23 : Int) (m : Mem), d' < d → I d' x1 x4 x22 x23 m → Ok (nx x1 x4 x22 x23 m) P) → Ok (point_Write_l0_b k nx kx2 x1 x4 x22 x23 m) P) :
    ∀ n d (x1 : Addr) (x4 : Addr) (x22 : List Value) (x23 : Int) (m : Mem), d < n → I d x1 x4 x22 x23 m → Ok (point_Write_l0 k kx2 n x1 x4 x22 x23 m) P
  | 0, d, x1, x4, x22, x23, m, h, _ => absurd h (Nat.not_lt_zero _)
  | n + 1, d, x1, x4, x22, x23, m, h, hI => step d _ x1 x4 x22 x23 m hI fun d' x1 x4 x22 x23 m h' hI' => point_Write_l0_rule k kx2 I step n d' x1 x4 x22 x23 m (by omega) hI'

def point_Write_j1 (k : Nat) (x1 : Addr) (x4 : Addr) (x35 : List Value) (x36 : Int) (nx : Addr → Addr → Int → List Value → Int → Mem → Option (Sl × Value × Mem)) (x7_ : Int) (mj : Mem) : Option (Sl × Value × Mem) :=
  nx x1 x4 x7_ x35 (IntKind.wrap .i64 (x36 + 1)) mj

def point_Write_l2_b (k : Nat) (nx : Addr → Addr → Int → List Value → Int → Mem → Option (Sl × Value × Mem)) (kx4 : Addr → Addr → Int → Mem → Option (Sl × Value × Mem)) (x1 : Addr) (x4 : Addr) (x7 : Int) (x35 : List Value) (x36 : Int) (m : Mem) : Option (Sl × Value × Mem) :=
  bif decide (x36 < 12) then (
  bif inRange x36 12 then (
  (cBool x35 (Int.toNat x36 * 1)).bind fun t13 =>
  bif t13 then (
  bif decide (x36 < 0) then none else (
  point_Write_j1 k x1 x4 x35 x36 nx (bitI .or .i64 x7 (shlI .i64 1 x36)) m)) else (
  point_Write_j1 k x1 x4 x35 x36 nx x7 m)) else none) else (
  kx4 x1 x4 x7 m)

def point_Write_l2 (k : Nat) (kx4 : Addr → Addr → Int → Mem → Option (Sl × Value × Mem)) : Nat → Addr → Addr → Int → List Value → Int → Mem → Option (Sl × Value × Mem)
  | 0, _, _, _, _, _, _ => none
  | n + 1, x1, x4, x7, x35, x36, m => point_Write_l2_b k (fun x1 x4 x7 x35 x36 m => point_Write_l2 k kx4 n x1 x4 x7 x35 x36 m) kx4 x1 x4 x7 x35 x36 m

theorem point_Write_l2_rule (k : Nat) (kx4 : Addr → Addr → Int → Mem → Option (Sl × Value × Mem)) {P : (Sl × Value × Mem) → Prop} (I : Nat → Addr → Addr → Int → List Value → Int → Mem → Prop)
    (step : ∀ d (nx : Addr → Addr → Int → List Value → Int → Mem → Option (Sl × Value × Mem)) (x1 : Addr) (x4 : Addr) (x7 : Int) (x35 : List Value) (x36 : Int) (m : Mem), I d x1 x4 x7 x35 x36 m → (∀ d' (x1 : Addr) (x4 : Addr) (x7 : Int) (x35 : List Value) (x36 : Int) (m : Mem), d' < d → I d' x1 x4 x7 x35 x36 m → Ok (nx x1 x4 x7 x35 x36 m) P) → Ok (point_Write_l2_b k nx kx4 x1 x4 x7 x35 x36 m) P) :
    ∀ n d (x1 : Addr) (x4 : Addr) (x7 : Int) (x35 : List Value) (x36 : Int) (m : Mem), d < n → I d x1 x4 x7 x35 x36 m → Ok (point_Write_l2 k kx4 n x1 x4 x7 x35 x36 m) P
  | 0, d, x1, x4, x7, x35, x36, m, h, _ => absurd h (Nat.not_lt_zero _)
  | n + 1, d, x1, x4, x7, x35, x36, m, h, hI => step d _ x1 x4 x7 x35 x36 m hI fun d' x1 x4 x7 x35 x36 m h' hI' => point_Write_l2_rule k kx4 I step n d' x1 x4 x7 x35 x36 m (by omega) hI'

def point_Write_l4_b (k : Nat) (nx : Addr → Addr → List Value → Int → Mem → Option (Sl × Value × Mem)) (kx6 : Addr → Addr → Mem → Option (Sl × Value × Mem)) (x1 : Addr) (x4 : Addr) (x54 : List Value) (x55 : Int) (m : Mem) : Option (Sl × Value × Mem) :=
  bif decide (x55 < 12) then (
  bif inRange x55 12 then (
  (cInt .i64 x54 (Int.toNat x55 * 1)).bind fun t19 =>
  (point_writer_put k (some x4) t19 2 m).bind fun r20 =>
  nx x1 x4 x54 (IntKind.wrap .i64 (x55 + 1)) r20) else none) else (
  kx6 x1 x4 m)

def point_Write_l4 (k : Nat) (kx6 : Addr → Addr → Mem → Option (Sl × Value × Mem)) : Nat → Addr → Addr → List Value → Int → Mem → Option (Sl × Value × Mem)
  | 0, _, _, _, _, _ => none
  | n + 1, x1, x4, x54, x55, m => point_Write_l4_b k (fun x1 x4 x54 x55 m => point_Write_l4 k kx6 n x1 x4 x54 x55 m) kx6 x1 x4 x54 x55 m

theorem point_Write_l4_rule (k : Nat) (kx6 : Addr → Addr → Mem → Option (Sl × Value × Mem)) {P : (Sl × Value × Mem) → Prop} (I : Nat → Addr → Addr → List Value → Int → Mem → Prop)
    (step : ∀ d (nx : Addr → Addr → List Value → Int → Mem → Option (Sl × Value × Mem)) (x1 : Addr) (x4 : Addr) (x54 : List Value) (x55 : Int) (m : Mem), I d x1 x4 x54 x55 m → (∀ d' (x1 : Addr) (x4 : Addr) (x54 : List Value) (x55 : Int) (m : Mem), d' < d → I d' x1 x4 x54 x55 m → Ok (nx x1 x4 x54 x55 m) P) → Ok (point_Write_l4_b k nx kx6 x1 x4 x54 x55 m) P) :
    ∀ n d (x1 : Addr) (x4 : Addr) (x54 : List Value) (x55 : Int) (m : Mem), d < n → I d x1 x4 x54 x55 m → Ok (point_Write_l4 k kx6 n x1 x4 x54 x55 m) P
  | 0, d, x1, x4, x54, x55, m, h, _ => absurd h (Nat.not_lt_zero _)
  | n + 1, d, x1, x4, x54, x55, m, h, hI => step d _ x1 x4 x54 x55 m hI fun d' x1 x4 x54 x55 m h' hI' => point_Write_l4_rule k kx6 I step n d' x1 x4 x54 x55 m (by omega) hI'

def point_Write_l6_b (k : Nat) (nx : Addr → List Value → Int → Mem → Option (Sl × Value × Mem)) (kx8 : Addr → Mem → Option (Sl × Value × Mem)) (x4 : Addr) (x63 : List Value) (x64 : Int) (m : Mem) : Option (Sl × Value × Mem) :=
  bif decide (x64 < 12) then (
  bif inRange x64 12 then (
  (cInt .i64 x63 (Int.toNat x64 * 1)).bind fun t23 =>
  (point_writer_put k (some x4) t23 1 m).bind fun r24 =>
  nx x4 x63 (IntKind.wrap .i64 (x64 + 1)) r24) else none) else (
  kx8 x4 m)

def point_Write_l6 (k : Nat) (kx8 : Addr → Mem → Option (Sl × Value × Mem)) : Nat → Addr → List Value → Int → Mem → Option (Sl × Value × Mem)
  | 0, _, _, _, _ => none
  | n + 1, x4, x63, x64, m => point_Write_l6_b k (fun x4 x63 x64 m => point_Write_l6 k kx8 n x4 x63 x64 m) kx8 x4 x63 x64 m

theorem point_Write_l6_rule (k : Nat) (kx8 : Addr → Mem → Option (Sl × Value × Mem)) {P : (Sl × Value × Mem) → Prop} (I : Nat → Addr → List Value → Int → Mem → Prop)
    (step : ∀ d (nx : Addr → List Value → Int → Mem → Option (Sl × Value × Mem)) (x4 : Addr) (x63 : List Value) (x64 : Int) (m : Mem), I d x4 x63 x64 m → (∀ d' (x4 : Addr) (x63 : List Value) (x64 : Int) (m : Mem), d' < d → I d' x4 x63 x64 m → Ok (nx x4 x63 x64 m) P) → Ok (point_Write_l6_b k nx kx8 x4 x63 x64 m) P) :
    ∀ n d (x4 : Addr) (x63 : List Value) (x64 : Int) (m : Mem), d < n → I d x4 x63 x64 m → Ok (point_Write_l6 k kx8 n x4 x63 x64 m) P
  | 0, d, x4, x63, x64, m, h, _ => absurd h (Nat.not_lt_zero _)
  | n + 1, d, x4, x63, x64, m, h, hI => step d _ x4 x63 x64 m hI fun d' x4 x63 x64 m h' hI' => point_Write_l6_rule k kx8 I step n d' x4 x63 x64 m (by omega) hI'

def point_Write (k : Nat) (p0 : List Value) (m : Mem) : Option (Sl × Value × Mem) :=
  bif Nat.beq (List.length p0) 62 then (
  let m1 : Mem := m ++ [.live p0]
  (ldCells m1 ⟨List.length m, 0, Option.none⟩ 62).bind fun t2 =>
  (point_told k t2 m1).bind fun r3 =>
  bif !r3.1 then (
  some ((⟨none, 0, 0⟩ : Sl), (Value.iface ty_api_Code (Value.int .i64 1)), r3.2)) else (
  let m4 : Mem := r3.2 ++ [.live (repl (Int.toNat 174) [.int .u8 0])]
  let m5 : Mem := m4 ++ [.live [(Value.slice (some ⟨List.length r3.2, 0, Option.none⟩) (Int.toNat 0) (Int.toNat 174))]]
  (ldCells m5 (plus ⟨List.length m, 0, Option.none⟩ 0) 24).bind fun t6 =>
  point_Write_l0 k (fun y1 y4 m9 => 
  (ldInt .i64 m9 (plus y1 24)).bind fun t10 =>
  (point_writer_put k (some y4) t10 5 m9).bind fun r11 =>
  (ldCells r11 (plus y1 25) 12).bind fun t12 =>
  point_Write_l2 k (fun y1 y4 y7 m14 => 
  (point_writer_put k (some y4) y7 2 m14).bind fun r15 =>
  (ldInt .i64 r15 (plus y1 37)).bind fun t16 =>
  (point_writer_put k (some y4) t16 1 r15).bind fun r17 =>
  (ldCells r17 (plus y1 38) 12).bind fun t18 =>
  point_Write_l4 k (fun y1 y4 m21 => 
  (ldCells m21 (plus y1 50) 12).bind fun t22 =>
  point_Write_l6 k (fun y4 m25 => 
  (ldSl m25 (plus y4 0)).bind fun t26 =>
  bif inUpto 174 t26.cap then (
  some ((⟨(sliceK.clear t26.a false), (Int.toNat 174), t26.cap⟩ : Sl), Value.nilIface, m25)) else none) k y4 t22 0 m21) k y1 y4 t18 0 r17) k y1 y4 0 t12 0 r11) k ⟨List.length m, 0, Option.none⟩ ⟨List.length m4, 0, Option.none⟩ t6 0 m5)) else none

def point_Write_call {R : Type} (k : Nat) : Fun R := callCons 42 (point_told_arm k) (callCons 43 (point_writer_put_arm k) (callNil))

theorem point_Write_callOk {R : Type} (k : Nat) : CallOk Try.prog (point_Write_call (R := R) k) := callOk_cons (point_told_armOk k) (callOk_cons (point_writer_put_armOk k) (callOk_nil))

def point_Write_l0_L (k : Nat) (K : Nat → List Value → Mem → Option (Sl × Value × Mem)) (n : Nat) (vs : List Value) (m : Mem) : Option (Sl × Value × Mem) := match vs with
  | [.pointer (some x1), .pointer (some x4), .agg ⟨x22⟩, .int .i64 x23] => point_Write_l0 k (fun y1 y4 m => K 2 [(Value.pointer (some y1)), (Value.pointer (some y4))] m) n x1 x4 x22 x23 m
  | _ => none

def point_Write_l2_L (k : Nat) (K : Nat → List Value → Mem → Option (Sl × Value × Mem)) (n : Nat) (vs : List Value) (m : Mem) : Option (Sl × Value × Mem) := match vs with
  | [.pointer (some x1), .pointer (some x4), .int .i64 x7, .agg ⟨x35⟩, .int .i64 x36] => point_Write_l2 k (fun y1 y4 y7 m => K 4 [(Value.pointer (some y1)), (Value.pointer (some y4)), (Value.int .i64 y7)] m) n x1 x4 x7 x35 x36 m
  | _ => none

def point_Write_l4_L (k : Nat) (K : Nat → List Value → Mem → Option (Sl × Value × Mem)) (n : Nat) (vs : List Value) (m : Mem) : Option (Sl × Value × Mem) := match vs with
  | [.pointer (some x1), .pointer (some x4), .agg ⟨x54⟩, .int .i64 x55] => point_Write_l4 k (fun y1 y4 m => K 6 [(Value.pointer (some y1)), (Value.pointer (some y4))] m) n x1 x4 x54 x55 m
  | _ => none

def point_Write_l6_L (k : Nat) (K : Nat → List Value → Mem → Option (Sl × Value × Mem)) (n : Nat) (vs : List Value) (m : Mem) : Option (Sl × Value × Mem) := match vs with
  | [.pointer (some x4), .agg ⟨x63⟩, .int .i64 x64] => point_Write_l6 k (fun y4 m => K 8 [(Value.pointer (some y4))] m) n x4 x63 x64 m
  | _ => none

def point_Write_loop (k : Nat) : Nat → List Value → Mem → (Nat → List Value → Mem → Option (Sl × Value × Mem)) → Option (Sl × Value × Mem) := fun cur vs m K => match cur with
  | 0 => point_Write_l0_L k K k vs m
  | 2 => point_Write_l2_L k K k vs m
  | 4 => point_Write_l4_L k K k vs m
  | 6 => point_Write_l6_L k K k vs m
  | _ => none

def point_Write_C (k : Nat) : Ctx (Sl × Value × Mem) := ⟨tt, point_Write_call k, point_Write_loop k, [(0, [1, 4, 22, 23]), (2, [1, 4, 7, 35, 36]), (4, [1, 4, 54, 55]), (6, [4, 63, 64])], [(2, [1, 4]), (4, [1, 4, 7]), (6, [1, 4]), (8, [4])]⟩

noncomputable def point_Write_l0_c : Code := ((loopsOf 0 (body Try.f10)).map (·.2)).getD 0 .skip

noncomputable def point_Write_l2_c : Code := ((loopsOf 0 (body Try.f10)).map (·.2)).getD 1 .skip

noncomputable def point_Write_l4_c : Code := ((loopsOf 0 (body Try.f10)).map (·.2)).getD 2 .skip

noncomputable def point_Write_l6_c : Code := ((loopsOf 0 (body Try.f10)).map (·.2)).getD 3 .skip

theorem point_Write_loops : loopsOf 0 (body Try.f10) = [(0, point_Write_l0_c), (2, point_Write_l2_c), (4, point_Write_l4_c), (6, point_Write_l6_c)] := by kernel_rfl

theorem point_Write_l0_ok (k : Nat) : LoopOk (point_Write_C k) 0 point_Write_l0_c := by
  refine ⟨[1, 4, 22, 23], by kernel_rfl, fun K r => ⟨point_Write_l0_L k K, fun vs m h => ⟨k, h⟩, ?_⟩⟩
  intro n vs m h
  unfold point_Write_l0_L at h
  split at h
  · cases n with
    | zero => cases h
    | succ n => exact ⟨n, rfl, Eq.trans (by kernel_rfl) h⟩
  · cases h

theorem point_Write_l2_ok (k : Nat) : LoopOk (point_Write_C k) 2 point_Write_l2_c := by
  refine ⟨[1, 4, 7, 35, 36], by kernel_rfl, fun K r => ⟨point_Write_l2_L k K, fun vs m h => ⟨k, h⟩, ?_⟩⟩
  intro n vs m h
  unfold point_Write_l2_L at h
  split at h
  · cases n with
    | zero => cases h
    | succ n => exact ⟨n, rfl, Eq.trans (by kernel_rfl) h⟩
  · cases h

theorem point_Write_l4_ok (k : Nat) : LoopOk (point_Write_C k) 4 point_Write_l4_c := by
  refine ⟨[1, 4, 54, 55], by kernel_rfl, fun K r => ⟨point_Write_l4_L k K, fun vs m h => ⟨k, h⟩, ?_⟩⟩
  intro n vs m h
  unfold point_Write_l4_L at h
  split at h
  · cases n with
    | zero => cases h
    | succ n => exact ⟨n, rfl, Eq.trans (by kernel_rfl) h⟩
  · cases h

theorem point_Write_l6_ok (k : Nat) : LoopOk (point_Write_C k) 6 point_Write_l6_c := by
  refine ⟨[4, 63, 64], by kernel_rfl, fun K r => ⟨point_Write_l6_L k K, fun vs m h => ⟨k, h⟩, ?_⟩⟩
  intro n vs m h
  unfold point_Write_l6_L at h
  split at h
  · cases n with
    | zero => cases h
    | succ n => exact ⟨n, rfl, Eq.trans (by kernel_rfl) h⟩
  · cases h

def point_Write_dec : Value → Mem → Option (Sl × Value × Mem) := fun v m => match v with
  | .tuple ⟨[.slice q0a q0n q0c, q1]⟩ => some ((⟨q0a, q0n, q0c⟩ : Sl), q1, m)
  | _ => none

theorem point_Write_eq (k : Nat) (p0 : List Value) (m : Mem) : fnX (point_Write_C k) Try.f10 [(Value.agg ⟨p0⟩)] m point_Write_dec = point_Write k p0 m := by kernel_rfl

theorem point_Write_ok {k : Nat} {p0 : List Value} {m : Mem} {r : (Sl × Value × Mem)} (h : point_Write k p0 m = some r) : CallP Try.prog 10 [(Value.agg ⟨p0⟩)] m fun v m' => v = (Value.tuple ⟨[(Value.slice r.1.a r.1.len r.1.cap), r.2.1]⟩) ∧ m' = r.2.2 := by
  refine (fn_sound (C := point_Write_C k) (c := body Try.f10) tOk mixed (point_Write_callOk k) Try.func10 (by kernel_rfl) (by kernel_rfl) (by kernel_rfl) (by kernel_rfl) ?_ (Eq.trans (point_Write_eq k p0 m) h)).mono ?_
  · intro p hp
    rw [point_Write_loops] at hp
    simp only [List.mem_cons, List.not_mem_nil, or_false] at hp
    rcases hp with rfl | rfl | rfl | rfl
    · exact point_Write_l0_ok k
    · exact point_Write_l2_ok k
    · exact point_Write_l4_ok k
    · exact point_Write_l6_ok k
  · intro v m' hp
    unfold point_Write_dec at hp
    split at hp
    · simp only [Option.some.injEq] at hp; subst hp; exact ⟨rfl, rfl⟩
    · cases hp

def point_Write_arm {R : Type} (k : Nat) : Arm R := fun vs m K => match vs with
  | [.agg ⟨p0⟩] => (point_Write k p0 m).bind fun r => K (Value.tuple ⟨[(Value.slice r.1.a r.1.len r.1.cap), r.2.1]⟩) r.2.2
  | _ => none

theorem point_Write_armOk {R : Type} (k : Nat) : ArmOk Try.prog 10 (point_Write_arm (R := R) k) := by
  intro vs m K r h
  unfold point_Write_arm at h
  split at h
  · obtain ⟨r, h1, h2⟩ := Option.bind_eq_some_iff.1 h; exact ⟨_, _, h2, fun K' => by simp only [point_Write_arm, h1, Option.bind_some], point_Write_ok h1⟩
  · cases h

end Go.Proofs.Ytnilidpafijdlab
