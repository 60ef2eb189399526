/- The program's functions as plain Lean functions over a clean memory, each held against the program by the kernel. Written by mx.py. -/
import Derived.Test.YtnilidpafijdlacF0
set_option linter.unusedVariables false
set_option maxRecDepth 100000
namespace Go.Proofs.Ytnilidpafijdlac
open Go.Mx

/-! ### point_within -/
def point_within (k : Nat) (p0 : Int) (p1 : Int) (m : Mem) : Option (Bool × Mem) :=
  bif decide (p0 ≥ 0) then (
  some (decide (p0 ≤ p1), m)) else (
  some (false, m))

def point_within_call {R : Type} (k : Nat) : Fun R := callNil

theorem point_within_callOk {R : Type} (k : Nat) : CallOk Try.prog (point_within_call (R := R) k) := callOk_nil

def point_within_loop (k : Nat) : Nat → List Value → Mem → (Nat → List Value → Mem → Option (Bool × Mem)) → Option (Bool × Mem) := fun _ _ _ _ => none

def point_within_C (k : Nat) : Ctx (Bool × Mem) := ⟨tt, point_within_call k, point_within_loop k, [], []⟩

def point_within_dec : Value → Mem → Option (Bool × Mem) := fun v m => match v with
  | .bool q0 => some (q0, m)
  | _ => none

theorem point_within_eq (k : Nat) (p0 : Int) (p1 : Int) (m : Mem) : fnX (point_within_C k) Try.f62 [(Value.int .i64 p0), (Value.int .i64 p1)] m point_within_dec = point_within k p0 p1 m := by kernel_rfl

theorem point_within_ok {k : Nat} {p0 : Int} {p1 : Int} {m : Mem} {r : (Bool × Mem)} (h : point_within k p0 p1 m = some r) : CallP Try.prog 62 [(Value.int .i64 p0), (Value.int .i64 p1)] m fun v m' => v = (Value.bool r.1) ∧ m' = r.2 := by
  refine (fn_sound (C := point_within_C k) (c := body Try.f62) tOk mixed (point_within_callOk k) Try.func62 (by kernel_rfl) (by kernel_rfl) (by kernel_rfl) (by kernel_rfl) ?_ (Eq.trans (point_within_eq k p0 p1 m) h)).mono ?_
  · intro p hp; rw [show loopsOf 0 (body Try.f62) = [] by kernel_rfl] at hp; cases hp
  · intro v m' hp
    unfold point_within_dec at hp
    split at hp
    · simp only [Option.some.injEq] at hp; subst hp; exact ⟨rfl, rfl⟩
    · cases hp

def point_within_arm {R : Type} (k : Nat) : Arm R := fun vs m K => match vs with
  | [.int .i64 p0, .int .i64 p1] => (point_within k p0 p1 m).bind fun r => K (Value.bool r.1) r.2
  | _ => none

theorem point_within_armOk {R : Type} (k : Nat) : ArmOk Try.prog 62 (point_within_arm (R := R) k) := by
  intro vs m K r h
  unfold point_within_arm at h
  split at h
  · obtain ⟨r, h1, h2⟩ := Option.bind_eq_some_iff.1 h; exact ⟨_, _, h2, fun K' => by simp only [point_within_arm, h1, Option.bind_some], point_within_ok h1⟩
  · cases h

/-! ### point_told -/
def point_told_j1 (k : Nat) (x1 : Addr) (x16 : List Value) (x17 : Int) (nx : Addr → Bool → List Value → Int → Mem → Option (Bool × Mem)) (x3_ : Bool) (mj : Mem) : Option (Bool × Mem) :=
  nx x1 x3_ x16 (IntKind.wrap .i64 (x17 + 1)) mj

def point_told_l0_b (k : Nat) (nx : Addr → Bool → List Value → Int → Mem → Option (Bool × Mem)) (kx2 : Addr → Bool → Mem → Option (Bool × Mem)) (x1 : Addr) (x3 : Bool) (x16 : List Value) (x17 : Int) (m : Mem) : Option (Bool × Mem) :=
  bif decide (x17 < 24) then (
  bif inRange x17 24 then (
  (cInt .i64 x16 (Int.toNat x17 * 1)).bind fun t7 =>
  bif x3 then (
  (point_within k t7 1099511627775 m).bind fun r8 =>
  point_told_j1 k x1 x16 x17 nx r8.1 r8.2) else (
  point_told_j1 k x1 x16 x17 nx false m)) else none) else (
  kx2 x1 x3 m)

def point_told_l0 (k : Nat) (kx2 : Addr → Bool → Mem → Option (Bool × Mem)) : Nat → Addr → Bool → List Value → Int → Mem → Option (Bool × Mem)
  | 0, _, _, _, _, _ => none
  | n + 1, x1, x3, x16, x17, m => point_told_l0_b k (fun x1 x3 x16 x17 m => point_told_l0 k kx2 n x1 x3 x16 x17 m) kx2 x1 x3 x16 x17 m

theorem point_told_l0_rule (k : Nat) (kx2 : Addr → Bool → Mem → Option (Bool × Mem)) {P : (Bool × Mem) → Prop} (I : Nat → Addr → Bool → List Value → Int → Mem → Prop)
    (step : ∀ d (nx : Addr → Bool → List Value → Int → Mem → Option (Bool × Mem)) (x1 : Addr) (x3 : Bool) (x16 : List Value) (x17 : Int) (m : Mem), I d x1 x3 x16 x17 m → (∀ d' (x1 : Addr) (x3 : Bool) (x16 : List Value) (x17 : Int) (m : Mem), d' < d → I d' x1 x3 x16 x17 m → Ok (nx x1 x3 x16 x17 m) P) → Ok (point_told_l0_b k nx kx2 x1 x3 x16 x17 m) P) :
    ∀ n d (x1 : Addr) (x3 : Bool) (x16 : List Value) (x17 : Int) (m : Mem), d < n → I d x1 x3 x16 x17 m → Ok (point_told_l0 k kx2 n x1 x3 x16 x17 m) P
  | 0, d, x1, x3, x16, x17, m, h, _ => absurd h (Nat.not_lt_zero _)
  | n + 1, d, x1, x3, x16, x17, m, h, hI => step d _ x1 x3 x16 x17 m hI fun d' x1 x3 x16 x17 m h' hI' => point_told_l0_rule k kx2 I step n d' x1 x3 x16 x17 m (by omega) hI'

def point_told_j2 (k : Nat) (x1 : Addr) (x26 : Int) (nx : Addr → Bool → Int → Mem → Option (Bool × Mem)) (x3_ : Bool) (mj : Mem) : Option (Bool × Mem) :=
  nx x1 x3_ (IntKind.wrap .i64 (x26 + 1)) mj

def point_told_l2_b (k : Nat) (nx : Addr → Bool → Int → Mem → Option (Bool × Mem)) (kx4 : Bool → Mem → Option (Bool × Mem)) (x1 : Addr) (x3 : Bool) (x26 : Int) (m : Mem) : Option (Bool × Mem) :=
  bif decide (x26 < 12) then (
  bif x3 then (
  bif inRange x26 12 then (
  (ldInt .i64 m (plus (plus x1 38) (Int.toNat x26 * 1))).bind fun t10 =>
  (point_within k t10 65535 m).bind fun r11 =>
  bif r11.1 then (
  bif inRange x26 12 then (
  (ldInt .i64 r11.2 (plus (plus x1 50) (Int.toNat x26 * 1))).bind fun t12 =>
  (point_within k t12 255 r11.2).bind fun r13 =>
  point_told_j2 k x1 x26 nx r13.1 r13.2) else none) else (
  point_told_j2 k x1 x26 nx false r11.2)) else none) else (
  point_told_j2 k x1 x26 nx false m)) else (
  kx4 x3 m)

def point_told_l2 (k : Nat) (kx4 : Bool → Mem → Option (Bool × Mem)) : Nat → Addr → Bool → Int → Mem → Option (Bool × Mem)
  | 0, _, _, _, _ => none
  | n + 1, x1, x3, x26, m => point_told_l2_b k (fun x1 x3 x26 m => point_told_l2 k kx4 n x1 x3 x26 m) kx4 x1 x3 x26 m

theorem point_told_l2_rule (k : Nat) (kx4 : Bool → Mem → Option (Bool × Mem)) {P : (Bool × Mem) → Prop} (I : Nat → Addr → Bool → Int → Mem → Prop)
    (step : ∀ d (nx : Addr → Bool → Int → Mem → Option (Bool × Mem)) (x1 : Addr) (x3 : Bool) (x26 : Int) (m : Mem), I d x1 x3 x26 m → (∀ d' (x1 : Addr) (x3 : Bool) (x26 : Int) (m : Mem), d' < d → I d' x1 x3 x26 m → Ok (nx x1 x3 x26 m) P) → Ok (point_told_l2_b k nx kx4 x1 x3 x26 m) P) :
    ∀ n d (x1 : Addr) (x3 : Bool) (x26 : Int) (m : Mem), d < n → I d x1 x3 x26 m → Ok (point_told_l2 k kx4 n x1 x3 x26 m) P
  | 0, d, x1, x3, x26, m, h, _ => absurd h (Nat.not_lt_zero _)
  | n + 1, d, x1, x3, x26, m, h, hI => step d _ x1 x3 x26 m hI fun d' x1 x3 x26 m h' hI' => point_told_l2_rule k kx4 I step n d' x1 x3 x26 m (by omega) hI'

def point_told (k : Nat) (p0 : List Value) (m : Mem) : Option (Bool × Mem) :=
  bif Nat.beq (List.length p0) 62 then (
  let m1 : Mem := m ++ [.live p0]
  (ldInt .i64 m1 (plus ⟨List.length m, 0, Option.none⟩ 24)).bind fun t2 =>
  (point_within k t2 1099511627775 m1).bind fun r3 =>
  bif r3.1 then (
  (ldInt .i64 r3.2 (plus ⟨List.length m, 0, Option.none⟩ 37)).bind fun t4 =>
  (point_within k t4 95 r3.2).bind fun r5 =>
  (ldCells r5.2 (plus ⟨List.length m, 0, Option.none⟩ 0) 24).bind fun t6 =>
  point_told_l0 k (fun y1 y3 m9 => 
  point_told_l2 k (fun y3 m14 => 
  some (y3, m14)) k y1 y3 0 m9) k ⟨List.length m, 0, Option.none⟩ r5.1 t6 0 r5.2) else (
  (ldCells r3.2 (plus ⟨List.length m, 0, Option.none⟩ 0) 24).bind fun t15 =>
  point_told_l0 k (fun y1 y3 m16 => 
  point_told_l2 k (fun y3 m17 => 
  some (y3, m17)) k y1 y3 0 m16) k ⟨List.length m, 0, Option.none⟩ false t15 0 r3.2)) else none

def point_told_call {R : Type} (k : Nat) : Fun R := callCons 62 (point_within_arm k) (callNil)

theorem point_told_callOk {R : Type} (k : Nat) : CallOk Try.prog (point_told_call (R := R) k) := callOk_cons (point_within_armOk k) (callOk_nil)

def point_told_l0_L (k : Nat) (K : Nat → List Value → Mem → Option (Bool × Mem)) (n : Nat) (vs : List Value) (m : Mem) : Option (Bool × Mem) := match vs with
  | [.pointer (some x1), .bool x3, .agg ⟨x16⟩, .int .i64 x17] => point_told_l0 k (fun y1 y3 m => K 2 [(Value.pointer (some y1)), (Value.bool y3)] m) n x1 x3 x16 x17 m
  | _ => none

def point_told_l2_L (k : Nat) (K : Nat → List Value → Mem → Option (Bool × Mem)) (n : Nat) (vs : List Value) (m : Mem) : Option (Bool × Mem) := match vs with
  | [.pointer (some x1), .bool x3, .int .i64 x26] => point_told_l2 k (fun y3 m => K 4 [(Value.bool y3)] m) n x1 x3 x26 m
  | _ => none

def point_told_loop (k : Nat) : Nat → List Value → Mem → (Nat → List Value → Mem → Option (Bool × Mem)) → Option (Bool × Mem) := fun cur vs m K => match cur with
  | 0 => point_told_l0_L k K k vs m
  | 2 => point_told_l2_L k K k vs m
  | _ => none

def point_told_C (k : Nat) : Ctx (Bool × Mem) := ⟨tt, point_told_call k, point_told_loop k, [(0, [1, 3, 16, 17]), (2, [1, 3, 26])], [(2, [1, 3]), (4, [3])]⟩

noncomputable def point_told_l0_c : Code := ((loopsOf 0 (body Try.f50)).map (·.2)).getD 0 .skip

noncomputable def point_told_l2_c : Code := ((loopsOf 0 (body Try.f50)).map (·.2)).getD 1 .skip

theorem point_told_loops : loopsOf 0 (body Try.f50) = [(0, point_told_l0_c), (2, point_told_l2_c)] := by kernel_rfl

theorem point_told_l0_ok (k : Nat) : LoopOk (point_told_C k) 0 point_told_l0_c := by
  refine ⟨[1, 3, 16, 17], by kernel_rfl, fun K r => ⟨point_told_l0_L k K, fun vs m h => ⟨k, h⟩, ?_⟩⟩
  intro n vs m h
  unfold point_told_l0_L at h
  split at h
  · cases n with
    | zero => cases h
    | succ n => exact ⟨n, rfl, Eq.trans (by kernel_rfl) h⟩
  · cases h

theorem point_told_l2_ok (k : Nat) : LoopOk (point_told_C k) 2 point_told_l2_c := by
  refine ⟨[1, 3, 26], by kernel_rfl, fun K r => ⟨point_told_l2_L k K, fun vs m h => ⟨k, h⟩, ?_⟩⟩
  intro n vs m h
  unfold point_told_l2_L at h
  split at h
  · cases n with
    | zero => cases h
    | succ n => exact ⟨n, rfl, Eq.trans (by kernel_rfl) h⟩
  · cases h

def point_told_dec : Value → Mem → Option (Bool × Mem) := fun v m => match v with
  | .bool q0 => some (q0, m)
  | _ => none

theorem point_told_eq (k : Nat) (p0 : List Value) (m : Mem) : fnX (point_told_C k) Try.f50 [(Value.agg ⟨p0⟩)] m point_told_dec = point_told k p0 m := by kernel_rfl

theorem point_told_ok {k : Nat} {p0 : List Value} {m : Mem} {r : (Bool × Mem)} (h : point_told k p0 m = some r) : CallP Try.prog 50 [(Value.agg ⟨p0⟩)] m fun v m' => v = (Value.bool r.1) ∧ m' = r.2 := by
  refine (fn_sound (C := point_told_C k) (c := body Try.f50) tOk mixed (point_told_callOk k) Try.func50 (by kernel_rfl) (by kernel_rfl) (by kernel_rfl) (by kernel_rfl) ?_ (Eq.trans (point_told_eq k p0 m) h)).mono ?_
  · intro p hp
    rw [point_told_loops] at hp
    simp only [List.mem_cons, List.not_mem_nil, or_false] at hp
    rcases hp with rfl | rfl
    · exact point_told_l0_ok k
    · exact point_told_l2_ok k
  · intro v m' hp
    unfold point_told_dec at hp
    split at hp
    · simp only [Option.some.injEq] at hp; subst hp; exact ⟨rfl, rfl⟩
    · cases hp

def point_told_arm {R : Type} (k : Nat) : Arm R := fun vs m K => match vs with
  | [.agg ⟨p0⟩] => (point_told k p0 m).bind fun r => K (Value.bool r.1) r.2
  | _ => none

theorem point_told_armOk {R : Type} (k : Nat) : ArmOk Try.prog 50 (point_told_arm (R := R) k) := by
  intro vs m K r h
  unfold point_told_arm at h
  split at h
  · obtain ⟨r, h1, h2⟩ := Option.bind_eq_some_iff.1 h; exact ⟨_, _, h2, fun K' => by simp only [point_told_arm, h1, Option.bind_some], point_told_ok h1⟩
  · cases h

/-! ### point_writer_put -/
def point_writer_put_l0_b (k : Nat) (nx : Option Addr → Int → Int → Int → Mem → Option Mem) (kx2 : Mem → Option Mem) (x0 : Option Addr) (x1 : Int) (x7 : Int) (x8 : Int) (m : Mem) : Option Mem :=
  bif decide (x8 < x7) then (
  (x0).bind fun a1 =>
  (ldSl m (plus a1 0)).bind fun t2 =>
  bif decide ((IntKind.wrap .i64 (8 * x8)) < 0) then none else (
  let m3 : Mem := m ++ [.live [(Value.int .u8 (IntKind.wrap .u8 (shrI .i64 x1 (IntKind.wrap .i64 (8 * x8)))))]]
  (rdSl m3 (some ⟨List.length m, 0, Option.none⟩) 1 1).bind fun l4 =>
  (appM 1 1 m3 t2.a t2.len t2.cap 1 l4).bind fun r5 =>
  (x0).bind fun a6 =>
  (st r5.2 (plus a6 0) (Value.slice r5.1.a r5.1.len r5.1.cap)).bind fun m7 =>
  (ldSl m3 (plus a1 0)).bind fun t8 =>
  bif decide (t8.a = t2.a) && Nat.beq t8.len t2.len && Nat.beq t8.cap t2.cap then (
  nx x0 x1 x7 (IntKind.wrap .i64 (x8 + 1)) m7) else none)) else (
  kx2  m)

def point_writer_put_l0 (k : Nat) (kx2 : Mem → Option Mem) : Nat → Option Addr → Int → Int → Int → Mem → Option Mem
  | 0, _, _, _, _, _ => none
  | n + 1, x0, x1, x7, x8, m => point_writer_put_l0_b k (fun x0 x1 x7 x8 m => point_writer_put_l0 k kx2 n x0 x1 x7 x8 m) kx2 x0 x1 x7 x8 m

theorem point_writer_put_l0_rule (k : Nat) (kx2 : Mem → Option Mem) {P : Mem → Prop} (I : Nat → Option Addr → Int → Int → Int → Mem → Prop)
    (step : ∀ d (nx : Option Addr → Int → Int → Int → Mem → Option Mem) (x0 : Option Addr) (x1 : Int) (x7 : Int) (x8 : Int) (m : Mem), I d x0 x1 x7 x8 m → (∀ d' (x0 : Option Addr) (x1 : Int) (x7 : Int) (x8 : Int) (m : Mem), d' < d → I d' x0 x1 x7 x8 m → Ok (nx x0 x1 x7 x8 m) P) → Ok (point_writer_put_l0_b k nx kx2 x0 x1 x7 x8 m) P) :
    ∀ n d (x0 : Option Addr) (x1 : Int) (x7 : Int) (x8 : Int) (m : Mem), d < n → I d x0 x1 x7 x8 m → Ok (point_writer_put_l0 k kx2 n x0 x1 x7 x8 m) P
  | 0, d, x0, x1, x7, x8, m, h, _ => absurd h (Nat.not_lt_zero _)
  | n + 1, d, x0, x1, x7, x8, m, h, hI => step d _ x0 x1 x7 x8 m hI fun d' x0 x1 x7 x8 m h' hI' => point_writer_put_l0_rule k kx2 I step n d' x0 x1 x7 x8 m (by omega) hI'

def point_writer_put (k : Nat) (p0 : Option Addr) (p1 : Int) (p2 : Int) (m : Mem) : Option Mem :=
  point_writer_put_l0 k (fun m9 => 
  some (m9)) k p0 p1 p2 0 m

def point_writer_put_call {R : Type} (k : Nat) : Fun R := callNil

theorem point_writer_put_callOk {R : Type} (k : Nat) : CallOk Try.prog (point_writer_put_call (R := R) k) := callOk_nil

def point_writer_put_l0_L (k : Nat) (K : Nat → List Value → Mem → Option Mem) (n : Nat) (vs : List Value) (m : Mem) : Option Mem := match vs with
  | [.pointer x0, .int .i64 x1, .int .i64 x7, .int .i64 x8] => point_writer_put_l0 k (fun m => K 2 [] m) n x0 x1 x7 x8 m
  | _ => none

def point_writer_put_loop (k : Nat) : Nat → List Value → Mem → (Nat → List Value → Mem → Option Mem) → Option Mem := fun cur vs m K => match cur with
  | 0 => point_writer_put_l0_L k K k vs m
  | _ => none

def point_writer_put_C (k : Nat) : Ctx Mem := ⟨tt, point_writer_put_call k, point_writer_put_loop k, [(0, [0, 1, 7, 8])], [(2, [])]⟩

noncomputable def point_writer_put_l0_c : Code := ((loopsOf 0 (body Try.f51)).map (·.2)).getD 0 .skip

theorem point_writer_put_loops : loopsOf 0 (body Try.f51) = [(0, point_writer_put_l0_c)] := by kernel_rfl

theorem point_writer_put_l0_ok (k : Nat) : LoopOk (point_writer_put_C k) 0 point_writer_put_l0_c := by
  refine ⟨[0, 1, 7, 8], by kernel_rfl, fun K r => ⟨point_writer_put_l0_L k K, fun vs m h => ⟨k, h⟩, ?_⟩⟩
  intro n vs m h
  unfold point_writer_put_l0_L at h
  split at h
  · cases n with
    | zero => cases h
    | succ n => exact ⟨n, rfl, Eq.trans (by kernel_rfl) h⟩
  · cases h

def point_writer_put_dec : Value → Mem → Option Mem := fun v m => match v with
  | .tuple ⟨[]⟩ => some (m)
  | _ => none

theorem point_writer_put_eq (k : Nat) (p0 : Option Addr) (p1 : Int) (p2 : Int) (m : Mem) : fnX (point_writer_put_C k) Try.f51 [(Value.pointer p0), (Value.int .i64 p1), (Value.int .i64 p2)] m point_writer_put_dec = point_writer_put k p0 p1 p2 m := by kernel_rfl

theorem point_writer_put_ok {k : Nat} {p0 : Option Addr} {p1 : Int} {p2 : Int} {m : Mem} {r : Mem} (h : point_writer_put k p0 p1 p2 m = some r) : CallP Try.prog 51 [(Value.pointer p0), (Value.int .i64 p1), (Value.int .i64 p2)] m fun v m' => v = (Value.tuple ⟨[]⟩) ∧ m' = r := by
  refine (fn_sound (C := point_writer_put_C k) (c := body Try.f51) tOk mixed (point_writer_put_callOk k) Try.func51 (by kernel_rfl) (by kernel_rfl) (by kernel_rfl) (by kernel_rfl) ?_ (Eq.trans (point_writer_put_eq k p0 p1 p2 m) h)).mono ?_
  · intro p hp
    rw [point_writer_put_loops] at hp
    simp only [List.mem_cons, List.not_mem_nil, or_false] at hp
    rcases hp with rfl
    · exact point_writer_put_l0_ok k
  · intro v m' hp
    unfold point_writer_put_dec at hp
    split at hp
    · simp only [Option.some.injEq] at hp; subst hp; exact ⟨rfl, rfl⟩
    · cases hp

def point_writer_put_arm {R : Type} (k : Nat) : Arm R := fun vs m K => match vs with
  | [.pointer p0, .int .i64 p1, .int .i64 p2] => (point_writer_put k p0 p1 p2 m).bind fun r => K (Value.tuple ⟨[]⟩) r
  | _ => none

theorem point_writer_put_armOk {R : Type} (k : Nat) : ArmOk Try.prog 51 (point_writer_put_arm (R := R) k) := by
  intro vs m K r h
  unfold point_writer_put_arm at h
  split at h
  · obtain ⟨r, h1, h2⟩ := Option.bind_eq_some_iff.1 h; exact ⟨_, _, h2, fun K' => by simp only [point_writer_put_arm, h1, Option.bind_some], point_writer_put_ok h1⟩
  · cases h

/-! ### point_Write -/
def point_Write_l0_b (k : Nat) (nx : Addr → Addr → List Value → Int → Mem → Option (Sl × Value × Mem)) (kx2 : Addr → Addr → Mem → Option (Sl × Value × Mem)) (x1 : Addr) (x4 : Addr) (x22 : List Value) (x23 : Int) (m : Mem) : Option (Sl × Value × Mem) :=
  bif decide (x23 < 24) then (
  bif inRange x23 24 then (
  (cInt .i64 x22 (Int.toNat x23 * 1)).bind fun t7 =>
  (point_writer_put k (some x4) t7 5 m).bind fun r8 =>
  nx x1 x4 x22 (IntKind.wrap .i64 (x23 + 1)) r8) else none) else (
  kx2 x1 x4 m)

def point_Write_l0 (k : Nat) (kx2 : Addr → Addr → Mem → Option (Sl × Value × Mem)) : Nat → Addr → Addr → List Value → Int → Mem → Option (Sl × Value × Mem)
  | 0, _, _, _, _, _ => none
  | n + 1, x1, x4, x22, x23, m => point_Write_l0_b k (fun x1 x4 x22 x23 m => point_Write_l0 k kx2 n x1 x4 x22 x23 m) kx2 x1 x4 x22 x23 m

theorem point_Write_l0_rule (k : Nat) (kx2 : Addr → Addr → Mem → Option (Sl × Value × Mem)) {P : (Sl × Value × Mem) → Prop} (I : Nat → Addr → Addr → List Value → Int → Mem → Prop)
    (step : ∀ d (nx : Addr → Addr → List Value → Int → Mem → Option (Sl × Value × Mem)) (x1 : Addr) (x4 : Addr) (x22 : List Value) (x23 : Int) (m : Mem), I d x1 x4 x22 x23 m → (∀ d' (x1 : Addr) (x4 : Addr) (x22 : List Value) (x23 : Int) (m : Mem), d' < d → I d' x1 x4 x22 x23 m → Ok (nx x1 x4 x22 x23 m) P) → Ok (point_Write_l0_b k nx kx2 x1 x4 x22 x23 m) P) :
    ∀ n d (x1 : Addr) (x4 : Addr) (x22 : List Value) (x23 : Int) (m : Mem), d < n → I d x1 x4 x22 x23 m → Ok (point_Write_l0 k kx2 n x1 x4 x22 x23 m) P
  | 0, d, x1, x4, x22, x23, m, h, _ => absurd h (Nat.not_lt_zero _)
  | n + 1, d, x1, x4, x22, x23, m, h, hI => step d _ x1 x4 x22 x23 m hI fun d' x1 x4 x22 x23 m h' hI' => point_Write_l0_rule k kx2 I step n d' x1 x4 x22 x23 m (by omega) hI'

def point_Write_j1 (k : Nat) (x1 : Addr) (x4 : Addr) (x35 : List Value) (x36 : Int) (nx : Addr → Addr → Int → List Value → Int → Mem → Option (Sl × Value × Mem)) (x7_ : Int) (mj : Mem) : Option (Sl × Value × Mem) :=
  nx x1 x4 x7_ x35 (IntKind.wrap .i64 (x36 + 1)) mj

def point_Write_l2_b (k : Nat) (nx : Addr → Addr → Int → List Value → Int → Mem → Option (Sl × Value × Mem)) (kx4 : Addr → Addr → Int → Mem → Option (Sl × Value × Mem)) (x1 : Addr) (x4 : Addr) (x7 : Int) (x35 : List Value) (x36 : Int) (m : Mem) : Option (Sl × Value × Mem) :=
  bif decide (x36 < 12) then (
  bif inRange x36 12 then (
  (cBool x35 (Int.toNat x36 * 1)).bind fun t13 =>
  bif t13 then (
  bif decide (x36 < 0) then none else (
  point_Write_j1 k x1 x4 x35 x36 nx (bitI .or .i64 x7 (shlI .i64 1 x36)) m)) else (
  point_Write_j1 k x1 x4 x35 x36 nx x7 m)) else none) else (
  kx4 x1 x4 x7 m)

def point_Write_l2 (k : Nat) (kx4 : Addr → Addr → Int → Mem → Option (Sl × Value × Mem)) : Nat → Addr → Addr → Int → List Value → Int → Mem → Option (Sl × Value × Mem)
  | 0, _, _, _, _, _, _ => none
  | n + 1, x1, x4, x7, x35, x36, m => point_Write_l2_b k (fun x1 x4 x7 x35 x36 m => point_Write_l2 k kx4 n x1 x4 x7 x35 x36 m) kx4 x1 x4 x7 x35 x36 m

theorem point_Write_l2_rule (k : Nat) (kx4 : Addr → Addr → Int → Mem → Option (Sl × Value × Mem)) {P : (Sl × Value × Mem) → Prop} (I : Nat → Addr → Addr → Int → List Value → Int → Mem → Prop)
    (step : ∀ d (nx : Addr → Addr → Int → List Value → Int → Mem → Option (Sl × Value × Mem)) (x1 : Addr) (x4 : Addr) (x7 : Int) (x35 : List Value) (x36 : Int) (m : Mem), I d x1 x4 x7 x35 x36 m → (∀ d' (x1 : Addr) (x4 : Addr) (x7 : Int) (x35 : List Value) (x36 : Int) (m : Mem), d' < d → I d' x1 x4 x7 x35 x36 m → Ok (nx x1 x4 x7 x35 x36 m) P) → Ok (point_Write_l2_b k nx kx4 x1 x4 x7 x35 x36 m) P) :
    ∀ n d (x1 : Addr) (x4 : Addr) (x7 : Int) (x35 : List Value) (x36 : Int) (m : Mem), d < n → I d x1 x4 x7 x35 x36 m → Ok (point_Write_l2 k kx4 n x1 x4 x7 x35 x36 m) P
  | 0, d, x1, x4, x7, x35, x36, m, h, _ => absurd h (Nat.not_lt_zero _)
  | n + 1, d, x1, x4, x7, x35, x36, m, h, hI => step d _ x1 x4 x7 x35 x36 m hI fun d' x1 x4 x7 x35 x36 m h' hI' => point_Write_l2_rule k kx4 I step n d' x1 x4 x7 x35 x36 m (by omega) hI'

def point_Write_l4_b (k : Nat) (nx : Addr → Addr → List Value → Int → Mem → Option (Sl × Value × Mem)) (kx6 : Addr → Addr → Mem → Option (Sl × Value × Mem)) (x1 : Addr) (x4 : Addr) (x54 : List Value) (x55 : Int) (m : Mem) : Option (Sl × Value × Mem) :=
  bif decide (x55 < 12) then (
  bif inRange x55 12 then (
  (cInt .i64 x54 (Int.toNat x55 * 1)).bind fun t19 =>
  (point_writer_put k (some x4) t19 2 m).bind fun r20 =>
  nx x1 x4 x54 (IntKind.wrap .i64 (x55 + 1)) r20) else none) else (
  kx6 x1 x4 m)

def point_Write_l4 (k : Nat) (kx6 : Addr → Addr → Mem → Option (Sl × Value × Mem)) : Nat → Addr → Addr → List Value → Int → Mem → Option (Sl × Value × Mem)
  | 0, _, _, _, _, _ => none
  | n + 1, x1, x4, x54, x55, m => point_Write_l4_b k (fun x1 x4 x54 x55 m => point_Write_l4 k kx6 n x1 x4 x54 x55 m) kx6 x1 x4 x54 x55 m

theorem point_Write_l4_rule (k : Nat) (kx6 : Addr → Addr → Mem → Option (Sl × Value × Mem)) {P : (Sl × Value × Mem) → Prop} (I : Nat → Addr → Addr → List Value → Int → Mem → Prop)
    (step : ∀ d (nx : Addr → Addr → List Value → Int → Mem → Option (Sl × Value × Mem)) (x1 : Addr) (x4 : Addr) (x54 : List Value) (x55 : Int) (m : Mem), I d x1 x4 x54 x55 m → (∀ d' (x1 : Addr) (x4 : Addr) (x54 : List Value) (x55 : Int) (m : Mem), d' < d → I d' x1 x4 x54 x55 m → Ok (nx x1 x4 x54 x55 m) P) → Ok (point_Write_l4_b k nx kx6 x1 x4 x54 x55 m) P) :
    ∀ n d (x1 : Addr) (x4 : Addr) (x54 : List Value) (x55 : Int) (m : Mem), d < n → I d x1 x4 x54 x55 m → Ok (point_Write_l4 k kx6 n x1 x4 x54 x55 m) P
  | 0, d, x1, x4, x54, x55, m, h, _ => absurd h (Nat.not_lt_zero _)
  | n + 1, d, x1, x4, x54, x55, m, h, hI => step d _ x1 x4 x54 x55 m hI fun d' x1 x4 x54 x55 m h' hI' => point_Write_l4_rule k kx6 I step n d' x1 x4 x54 x55 m (by omega) hI'

def point_Write_l6_b (k : Nat) (nx : Addr → List Value → Int → Mem → Option (Sl × Value × Mem)) (kx8 : Addr → Mem → Option (Sl × Value × Mem)) (x4 : Addr) (x63 : List Value) (x64 : Int) (m : Mem) : Option (Sl × Value × Mem) :=
  bif decide (x64 < 12) then (
  bif inRange x64 12 then (
  (cInt .i64 x63 (Int.toNat x64 * 1)).bind fun t23 =>
  (point_writer_put k (some x4) t23 1 m).bind fun r24 =>
  nx x4 x63 (IntKind.wrap .i64 (x64 + 1)) r24) else none) else (
  kx8 x4 m)

def point_Write_l6 (k : Nat) (kx8 : Addr → Mem → Option (Sl × Value × Mem)) : Nat → Addr → List Value → Int → Mem → Option (Sl × Value × Mem)
  | 0, _, _, _, _ => none
  | n + 1, x4, x63, x64, m => point_Write_l6_b k (fun x4 x63 x64 m => point_Write_l6 k kx8 n x4 x63 x64 m) kx8 x4 x63 x64 m

theorem point_Write_l6_rule (k : Nat) (kx8 : Addr → Mem → Option (Sl × Value × Mem)) {P : (Sl × Value × Mem) → Prop} (I : Nat → Addr → List Value → Int → Mem → Prop)
    (step : ∀ d (nx : Addr → List Value → Int → Mem → Option (Sl × Value × Mem)) (x4 : Addr) (x63 : List Value) (x64 : Int) (m : Mem), I d x4 x63 x64 m → (∀ d' (x4 : Addr) (x63 : List Value) (x64 : Int) (m : Mem), d' < d → I d' x4 x63 x64 m → Ok (nx x4 x63 x64 m) P) → Ok (point_Write_l6_b k nx kx8 x4 x63 x64 m) P) :
    ∀ n d (x4 : Addr) (x63 : List Value) (x64 : Int) (m : Mem), d < n → I d x4 x63 x64 m → Ok (point_Write_l6 k kx8 n x4 x63 x64 m) P
  | 0, d, x4, x63, x64, m, h, _ => absurd h (Nat.not_lt_zero _)
  | n + 1, d, x4, x63, x64, m, h, hI => step d _ x4 x63 x64 m hI fun d' x4 x63 x64 m h' hI' => point_Write_l6_rule k kx8 I step n d' x4 x63 x64 m (by omega) hI'

def point_Write (k : Nat) (p0 : List Value) (m : Mem) : Option (Sl × Value × Mem) :=
  bif Nat.beq (List.length p0) 62 then (
  let m1 : Mem := m ++ [.live p0]
  (ldCells m1 ⟨List.length m, 0, Option.none⟩ 62).bind fun t2 =>
  (point_told k t2 m1).bind fun r3 =>
  bif !r3.1 then (
  some ((⟨none, 0, 0⟩ : Sl), (Value.iface ty_api_Code (Value.int .i64 1)), r3.2)) else (
  let m4 : Mem := r3.2 ++ [.live (repl (Int.toNat 174) [.int .u8 0])]
  let m5 : Mem := m4 ++ [.live [(Value.slice (some ⟨List.length r3.2, 0, Option.none⟩) (Int.toNat 0) (Int.toNat 174))]]
  (ldCells m5 (plus ⟨List.length m, 0, Option.none⟩ 0) 24).bind fun t6 =>
  point_Write_l0 k (fun y1 y4 m9 => 
  (ldInt .i64 m9 (plus y1 24)).bind fun t10 =>
  (point_writer_put k (some y4) t10 5 m9).bind fun r11 =>
  (ldCells r11 (plus y1 25) 12).bind fun t12 =>
  point_Write_l2 k (fun y1 y4 y7 m14 => 
  (point_writer_put k (some y4) y7 2 m14).bind fun r15 =>
  (ldInt .i64 r15 (plus y1 37)).bind fun t16 =>
  (point_writer_put k (some y4) t16 1 r15).bind fun r17 =>
  (ldCells r17 (plus y1 38) 12).bind fun t18 =>
  point_Write_l4 k (fun y1 y4 m21 => 
  (ldCells m21 (plus y1 50) 12).bind fun t22 =>
  point_Write_l6 k (fun y4 m25 => 
  (ldSl m25 (plus y4 0)).bind fun t26 =>
  bif inUpto 174 t26.cap then (
  some ((⟨(sliceK.clear t26.a false), (Int.toNat 174), t26.cap⟩ : Sl), Value.nilIface, m25)) else none) k y4 t22 0 m21) k y1 y4 t18 0 r17) k y1 y4 0 t12 0 r11) k ⟨List.length m, 0, Option.none⟩ ⟨List.length m4, 0, Option.none⟩ t6 0 m5)) else none

def point_Write_call {R : Type} (k : Nat) : Fun R := callCons 50 (point_told_arm k) (callCons 51 (point_writer_put_arm k) (callNil))

theorem point_Write_callOk {R : Type} (k : Nat) : CallOk Try.prog (point_Write_call (R := R) k) := callOk_cons (point_told_armOk k) (callOk_cons (point_writer_put_armOk k) (callOk_nil))

def point_Write_l0_L (k : Nat) (K : Nat → List Value → Mem → Option (Sl × Value × Mem)) (n : Nat) (vs : List Value) (m : Mem) : Option (Sl × Value × Mem) := match vs with
  | [.pointer (some x1), .pointer (some x4), .agg ⟨x22⟩, .int .i64 x23] => point_Write_l0 k (fun y1 y4 m => K 2 [(Value.pointer (some y1)), (Value.pointer (some y4))] m) n x1 x4 x22 x23 m
  | _ => none

def point_Write_l2_L (k : Nat) (K : Nat → List Value → Mem → Option (Sl × Value × Mem)) (n : Nat) (vs : List Value) (m : Mem) : Option (Sl × Value × Mem) := match vs with
  | [.pointer (some x1), .pointer (some x4), .int .i64 x7, .agg ⟨x35⟩, .int .i64 x36] => point_Write_l2 k (fun y1 y4 y7 m => K 4 [(Value.pointer (some y1)), (Value.pointer (some y4)), (Value.int .i64 y7)] m) n x1 x4 x7 x35 x36 m
  | _ => none

def point_Write_l4_L (k : Nat) (K : Nat → List Value → Mem → Option (Sl × Value × Mem)) (n : Nat) (vs : List Value) (m : Mem) : Option (Sl × Value × Mem) := match vs with
  | [.pointer (some x1), .pointer (some x4), .agg ⟨x54⟩, .int .i64 x55] => point_Write_l4 k (fun y1 y4 m => K 6 [(Value.pointer (some y1)), (Value.pointer (some y4))] m) n x1 x4 x54 x55 m
  | _ => none

def point_Write_l6_L (k : Nat) (K : Nat → List Value → Mem → Option (Sl × Value × Mem)) (n : Nat) (vs : List Value) (m : Mem) : Option (Sl × Value × Mem) := match vs with
  | [.pointer (some x4), .agg ⟨x63⟩, .int .i64 x64] => point_Write_l6 k (fun y4 m => K 8 [(Value.pointer (some y4))] m) n x4 x63 x64 m
  | _ => none

def point_Write_loop (k : Nat) : Nat → List Value → Mem → (Nat → List Value → Mem → Option (Sl × Value × Mem)) → Option (Sl × Value × Mem) := fun cur vs m K => match cur with
  | 0 => point_Write_l0_L k K k vs m
  | 2 => point_Write_l2_L k K k vs m
  | 4 => point_Write_l4_L k K k vs m
  | 6 => point_Write_l6_L k K k vs m
  | _ => none

def point_Write_C (k : Nat) : Ctx (Sl × Value × Mem) := ⟨tt, point_Write_call k, point_Write_loop k, [(0, [1, 4, 22, 23]), (2, [1, 4, 7, 35, 36]), (4, [1, 4, 54, 55]), (6, [4, 63, 64])], [(2, [1, 4]), (4, [1, 4, 7]), (6, [1, 4]), (8, [4])]⟩

noncomputable def point_Write_l0_c : Code := ((loopsOf 0 (body Try.f30)).map (·.2)).getD 0 .skip

noncomputable def point_Write_l2_c : Code := ((loopsOf 0 (body Try.f30)).map (·.2)).getD 1 .skip

noncomputable def point_Write_l4_c : Code := ((loopsOf 0 (body Try.f30)).map (·.2)).getD 2 .skip

noncomputable def point_Write_l6_c : Code := ((loopsOf 0 (body Try.f30)).map (·.2)).getD 3 .skip

theorem point_Write_loops : loopsOf 0 (body Try.f30) = [(0, point_Write_l0_c), (2, point_Write_l2_c), (4, point_Write_l4_c), (6, point_Write_l6_c)] := by kernel_rfl

theorem point_Write_l0_ok (k : Nat) : LoopOk (point_Write_C k) 0 point_Write_l0_c := by
  refine ⟨[1, 4, 22, 23], by kernel_rfl, fun K r => ⟨point_Write_l0_L k K, fun vs m h => ⟨k, h⟩, ?_⟩⟩
  intro n vs m h
  unfold point_Write_l0_L at h
  split at h
  · cases n with
    | zero => cases h
    | succ n => exact ⟨n, rfl, Eq.trans (by kernel_rfl) h⟩
  · cases h

theorem point_Write_l2_ok (k : Nat) : LoopOk (point_Write_C k) 2 point_Write_l2_c := by
  refine ⟨[1, 4, 7, 35, 36], by kernel_rfl, fun K r => ⟨point_Write_l2_L k K, fun vs m h => ⟨k, h⟩, ?_⟩⟩
  intro n vs m h
  unfold point_Write_l2_L at h
  split at h
  · cases n with
    | zero => cases h
    | succ n => exact ⟨n, rfl, Eq.trans (by kernel_rfl) h⟩
  · cases h

theorem point_Write_l4_ok (k : Nat) : LoopOk (point_Write_C k) 4 point_Write_l4_c := by
  refine ⟨[1, 4, 54, 55], by kernel_rfl, fun K r => ⟨point_Write_l4_L k K, fun vs m h => ⟨k, h⟩, ?_⟩⟩
  intro n vs m h
  unfold point_Write_l4_L at h
  split at h
  · cases n with
    | zero => cases h
    | succ n => exact ⟨n, rfl, Eq.trans (by kernel_rfl) h⟩
  · cases h

theorem point_Write_l6_ok (k : Nat) : LoopOk (point_Write_C k) 6 point_Write_l6_c := by
  refine ⟨[4, 63, 64], by kernel_rfl, fun K r => ⟨point_Write_l6_L k K, fun vs m h => ⟨k, h⟩, ?_⟩⟩
  intro n vs m h
  unfold point_Write_l6_L at h
  split at h
  · cases n with
    | zero => cases h
    | succ n => exact ⟨n, rfl, Eq.trans (by kernel_rfl) h⟩
  · cases h

def point_Write_dec : Value → Mem → Option (Sl × Value × Mem) := fun v m => match v with
  | .tuple ⟨[.slice q0a q0n q0c, q1]⟩ => some ((⟨q0a, q0n, q0c⟩ : Sl), q1, m)
  | _ => none

theorem point_Write_eq (k : Nat) (p0 : List Value) (m : Mem) : fnX (point_Write_C k) Try.f30 [(Value.agg ⟨p0⟩)] m point_Write_dec = point_Write k p0 m := by kernel_rfl

theorem point_Write_ok {k : Nat} {p0 : List Value} {m : Mem} {r : (Sl × Value × Mem)} (h : point_Write k p0 m = some r) : CallP Try.prog 30 [(Value.agg ⟨p0⟩)] m fun v m' => v = (Value.tuple ⟨[(Value.slice r.1.a r.1.len r.1.cap), r.2.1]⟩) ∧ m' = r.2.2 := by
  refine (fn_sound (C := point_Write_C k) (c := body Try.f30) tOk mixed (point_Write_callOk k) Try.func30 (by kernel_rfl) (by kernel_rfl) (by kernel_rfl) (by kernel_rfl) ?_ (Eq.trans (point_Write_eq k p0 m) h)).mono ?_
  · intro p hp
    rw [point_Write_loops] at hp
    simp only [List.mem_cons, List.not_mem_nil, or_false] at hp
    rcases hp with rfl | rfl | rfl | rfl
    · exact point_Write_l0_ok k
    · exact point_Write_l2_ok k
    · exact point_Write_l4_ok k
    · exact point_Write_l6_ok k
  · intro v m' hp
    unfold point_Write_dec at hp
    split at hp
    · simp only [Option.some.injEq] at hp; subst hp; exact ⟨rfl, rfl⟩
    · cases hp

def point_Write_arm {R : Type} (k : Nat) : Arm R := fun vs m K => match vs with
  | [.agg ⟨p0⟩] => (point_Write k p0 m).bind fun r => K (Value.tuple ⟨[(Value.slice r.1.a r.1.len r.1.cap), r.2.1]⟩) r.2.2
  | _ => none

theorem point_Write_armOk {R : Type} (k : Nat) : ArmOk Try.prog 30 (point_Write_arm (R := R) k) := by
  intro vs m K r h
  unfold point_Write_arm at h
  split at h
  · obtain ⟨r, h1, h2⟩ := Option.bind_eq_some_iff.1 h; exact ⟨_, _, h2, fun K' => by simp only [point_Write_arm, h1, Option.bind_some], point_Write_ok h1⟩
  · cases h

/-! ### point_reader_take -/
def point_reader_take_l0_b (k : Nat) (nx : Option Addr → Int → Int → Option Addr → Nat → Nat → Int → Int → Mem → Option (Int × Mem)) (kx2 : Option Addr → Int → Int → Mem → Option (Int × Mem)) (x0 : Option Addr) (x1 : Int) (x5 : Int) (x13a : Option Addr) (x13n : Nat) (x13c : Nat) (x14 : Int) (x15 : Int) (m : Mem) : Option (Int × Mem) :=
  bif decide (x15 < x14) then (
  bif inRange x15 x13n then (
  (x13a).bind fun a3 =>
  (ldInt .u8 m (plus a3 (Int.toNat x15 * 1))).bind fun t4 =>
  bif decide ((IntKind.wrap .i64 (8 * x15)) < 0) then none else (
  nx x0 x1 (bitI .or .i64 x5 (shlI .i64 (IntKind.wrap .i64 t4) (IntKind.wrap .i64 (8 * x15)))) x13a x13n x13c x14 (IntKind.wrap .i64 (x15 + 1)) m)) else none) else (
  kx2 x0 x1 x5 m)

def point_reader_take_l0 (k : Nat) (kx2 : Option Addr → Int → Int → Mem → Option (Int × Mem)) : Nat → Option Addr → Int → Int → Option Addr → Nat → Nat → Int → Int → Mem → Option (Int × Mem)
  | 0, _, _, _, _, _, _, _, _, _ => none
  | n + 1, x0, x1, x5, x13a, x13n, x13c, x14, x15, m => point_reader_take_l0_b k (fun x0 x1 x5 x13a x13n x13c x14 x15 m => point_reader_take_l0 k kx2 n x0 x1 x5 x13a x13n x13c x14 x15 m) kx2 x0 x1 x5 x13a x13n x13c x14 x15 m

theorem point_reader_take_l0_rule (k : Nat) (kx2 : Option Addr → Int → Int → Mem → Option (Int × Mem)) {P : (Int × Mem) → Prop} (I : Nat → Option Addr → Int → Int → Option Addr → Nat → Nat → Int → Int → Mem → Prop)
    (step : ∀ d (nx : Option Addr → Int → Int → Option Addr → Nat → Nat → Int → Int → Mem → Option (Int × Mem)) (x0 : Option Addr) (x1 : Int) (x5 : Int) (x13a : Option Addr) (x13n : Nat) (x13c : Nat) (x14 : Int) (x15 : Int) (m : Mem), I d x0 x1 x5 x13a x13n x13c x14 x15 m → (∀ d' (x0 : Option Addr) (x1 : Int) (x5 : Int) (x13a : Option Addr) (x13n : Nat) (x13c : Nat) (x14 : Int) (x15 : Int) (m : Mem), d' < d → I d' x0 x1 x5 x13a x13n x13c x14 x15 m → Ok (nx x0 x1 x5 x13a x13n x13c x14 x15 m) P) → Ok (point_reader_take_l0_b k nx kx2 x0 x1 x5 x13a x13n x13c x14 x15 m) P) :
    ∀ n d (x0 : Option Addr) (x1 : Int) (x5 : Int) (x13a : Option Addr) (x13n : Nat) (x13c : Nat) (x14 : Int) (x15 : Int) (m : Mem), d < n → I d x0 x1 x5 x13a x13n x13c x14 x15 m → Ok (point_reader_take_l0 k kx2 n x0 x1 x5 x13a x13n x13c x14 x15 m) P
  | 0, d, x0, x1, x5, x13a, x13n, x13c, x14, x15, m, h, _ => absurd h (Nat.not_lt_zero _)
  | n + 1, d, x0, x1, x5, x13a, x13n, x13c, x14, x15, m, h, hI => step d _ x0 x1 x5 x13a x13n x13c x14 x15 m hI fun d' x0 x1 x5 x13a x13n x13c x14 x15 m h' hI' => point_reader_take_l0_rule k kx2 I step n d' x0 x1 x5 x13a x13n x13c x14 x15 m (by omega) hI'

def point_reader_take (k : Nat) (p0 : Option Addr) (p1 : Int) (m : Mem) : Option (Int × Mem) :=
  (p0).bind fun a1 =>
  (ldSl m (plus a1 0)).bind fun t2 =>
  bif inUpto p1 t2.cap then (
  point_reader_take_l0 k (fun y0 y1 y5 m5 => 
  (y0).bind fun a6 =>
  (ldSl m5 (plus a6 0)).bind fun t7 =>
  bif sliceK.okZ t7.a 1 false && inUpto y1 t7.len then (
  (y0).bind fun a8 =>
  (st m5 (plus a8 0) (Value.slice ((sliceK.clear t7.a false).map fun a => plus a ((Int.toNat y1) * 1)) (t7.len - (Int.toNat y1)) (t7.cap - (Int.toNat y1)))).bind fun m9 =>
  some (y5, m9)) else none) k p0 p1 0 (sliceK.clear t2.a false) (Int.toNat p1) t2.cap (((Int.toNat p1) : Nat) : Int) 0 m) else none

def point_reader_take_call {R : Type} (k : Nat) : Fun R := callNil

theorem point_reader_take_callOk {R : Type} (k : Nat) : CallOk Try.prog (point_reader_take_call (R := R) k) := callOk_nil

def point_reader_take_l0_L (k : Nat) (K : Nat → List Value → Mem → Option (Int × Mem)) (n : Nat) (vs : List Value) (m : Mem) : Option (Int × Mem) := match vs with
  | [.pointer x0, .int .i64 x1, .int .i64 x5, .slice x13a x13n x13c, .int .i64 x14, .int .i64 x15] => point_reader_take_l0 k (fun y0 y1 y5 m => K 2 [(Value.pointer y0), (Value.int .i64 y1), (Value.int .i64 y5)] m) n x0 x1 x5 x13a x13n x13c x14 x15 m
  | _ => none

def point_reader_take_loop (k : Nat) : Nat → List Value → Mem → (Nat → List Value → Mem → Option (Int × Mem)) → Option (Int × Mem) := fun cur vs m K => match cur with
  | 0 => point_reader_take_l0_L k K k vs m
  | _ => none

def point_reader_take_C (k : Nat) : Ctx (Int × Mem) := ⟨tt, point_reader_take_call k, point_reader_take_loop k, [(0, [0, 1, 5, 13, 14, 15])], [(2, [0, 1, 5])]⟩

noncomputable def point_reader_take_l0_c : Code := ((loopsOf 0 (body Try.f48)).map (·.2)).getD 0 .skip

theorem point_reader_take_loops : loopsOf 0 (body Try.f48) = [(0, point_reader_take_l0_c)] := by kernel_rfl

theorem point_reader_take_l0_ok (k : Nat) : LoopOk (point_reader_take_C k) 0 point_reader_take_l0_c := by
  refine ⟨[0, 1, 5, 13, 14, 15], by kernel_rfl, fun K r => ⟨point_reader_take_l0_L k K, fun vs m h => ⟨k, h⟩, ?_⟩⟩
  intro n vs m h
  unfold point_reader_take_l0_L at h
  split at h
  · cases n with
    | zero => cases h
    | succ n => exact ⟨n, rfl, Eq.trans (by kernel_rfl) h⟩
  · cases h

def point_reader_take_dec : Value → Mem → Option (Int × Mem) := fun v m => match v with
  | .int .i64 q0 => some (q0, m)
  | _ => none

theorem point_reader_take_eq (k : Nat) (p0 : Option Addr) (p1 : Int) (m : Mem) : fnX (point_reader_take_C k) Try.f48 [(Value.pointer p0), (Value.int .i64 p1)] m point_reader_take_dec = point_reader_take k p0 p1 m := by kernel_rfl

theorem point_reader_take_ok {k : Nat} {p0 : Option Addr} {p1 : Int} {m : Mem} {r : (Int × Mem)} (h : point_reader_take k p0 p1 m = some r) : CallP Try.prog 48 [(Value.pointer p0), (Value.int .i64 p1)] m fun v m' => v = (Value.int .i64 r.1) ∧ m' = r.2 := by
  refine (fn_sound (C := point_reader_take_C k) (c := body Try.f48) tOk mixed (point_reader_take_callOk k) Try.func48 (by kernel_rfl) (by kernel_rfl) (by kernel_rfl) (by kernel_rfl) ?_ (Eq.trans (point_reader_take_eq k p0 p1 m) h)).mono ?_
  · intro p hp
    rw [point_reader_take_loops] at hp
    simp only [List.mem_cons, List.not_mem_nil, or_false] at hp
    rcases hp with rfl
    · exact point_reader_take_l0_ok k
  · intro v m' hp
    unfold point_reader_take_dec at hp
    split at hp
    · simp only [Option.some.injEq] at hp; subst hp; exact ⟨rfl, rfl⟩
    · cases hp

def point_reader_take_arm {R : Type} (k : Nat) : Arm R := fun vs m K => match vs with
  | [.pointer p0, .int .i64 p1] => (point_reader_take k p0 p1 m).bind fun r => K (Value.int .i64 r.1) r.2
  | _ => none

theorem point_reader_take_armOk {R : Type} (k : Nat) : ArmOk Try.prog 48 (point_reader_take_arm (R := R) k) := by
  intro vs m K r h
  unfold point_reader_take_arm at h
  split at h
  · obtain ⟨r, h1, h2⟩ := Option.bind_eq_some_iff.1 h; exact ⟨_, _, h2, fun K' => by simp only [point_reader_take_arm, h1, Option.bind_some], point_reader_take_ok h1⟩
  · cases h

/-! ### point_Read -/
def point_Read_l0_b (k : Nat) (nx : Addr → Addr → Addr → Int → Mem → Option ((List Value) × Value × Mem)) (kx2 : Addr → Addr → Addr → Mem → Option ((List Value) × Value × Mem)) (x2 : Addr) (x4 : Addr) (x5 : Addr) (x22 : Int) (m : Mem) : Option ((List Value) × Value × Mem) :=
  bif decide (x22 < 24) then (
  (point_reader_take k (some x5) 5 m).bind fun r7 =>
  bif inRange x22 24 then (
  (st r7.2 (plus (plus x4 0) (Int.toNat x22 * 1)) (Value.int .i64 r7.1)).bind fun m8 =>
  nx x2 x4 x5 (IntKind.wrap .i64 (x22 + 1)) m8) else none) else (
  kx2 x2 x4 x5 m)

def point_Read_l0 (k : Nat) (kx2 : Addr → Addr → Addr → Mem → Option ((List Value) × Value × Mem)) : Nat → Addr → Addr → Addr → Int → Mem → Option ((List Value) × Value × Mem)
  | 0, _, _, _, _, _ => none
  | n + 1, x2, x4, x5, x22, m => point_Read_l0_b k (fun x2 x4 x5 x22 m => point_Read_l0 k kx2 n x2 x4 x5 x22 m) kx2 x2 x4 x5 x22 m

theorem point_Read_l0_rule (k : Nat) (kx2 : Addr → Addr → Addr → Mem → Option ((List Value) × Value × Mem)) {P : ((List Value) × Value × Mem) → Prop} (I : Nat → Addr → Addr → Addr → Int → Mem → Prop)
    (step : ∀ d (nx : Addr → Addr → Addr → Int → Mem → Option ((List Value) × Value × Mem)) (x2 : Addr) (x4 : Addr) (x5 : Addr) (x22 : Int) (m : Mem), I d x2 x4 x5 x22 m → (∀ d' (x2 : Addr) (x4 : Addr) (x5 : Addr) (x22 : Int) (m : Mem), d' < d → I d' x2 x4 x5 x22 m → Ok (nx x2 x4 x5 x22 m) P) → Ok (point_Read_l0_b k nx kx2 x2 x4 x5 x22 m) P) :
    ∀ n d (x2 : Addr) (x4 : Addr) (x5 : Addr) (x22 : Int) (m : Mem), d < n → I d x2 x4 x5 x22 m → Ok (point_Read_l0 k kx2 n x2 x4 x5 x22 m) P
  | 0, d, x2, x4, x5, x22, m, h, _ => absurd h (Nat.not_lt_zero _)
  | n + 1, d, x2, x4, x5, x22, m, h, hI => step d _ x2 x4 x5 x22 m hI fun d' x2 x4 x5 x22 m h' hI' => point_Read_l0_rule k kx2 I step n d' x2 x4 x5 x22 m (by omega) hI'

def point_Read_l2_b (k : Nat) (nx : Addr → Addr → Addr → Int → Int → Mem → Option ((List Value) × Value × Mem)) (kx4 : Addr → Addr → Addr → Int → Mem → Option ((List Value) × Value × Mem)) (x2 : Addr) (x4 : Addr) (x5 : Addr) (x7 : Int) (x36 : Int) (m : Mem) : Option ((List Value) × Value × Mem) :=
  bif decide (x36 < 12) then (
  bif decide (x36 < 0) then none else (
  bif inRange x36 12 then (
  (st m (plus (plus x4 25) (Int.toNat x36 * 1)) (Value.bool ((bitI .and .i64 (shrI .i64 x7 x36) 1) == 1))).bind fun m13 =>
  nx x2 x4 x5 x7 (IntKind.wrap .i64 (x36 + 1)) m13) else none)) else (
  kx4 x2 x4 x5 x7 m)

def point_Read_l2 (k : Nat) (kx4 : Addr → Addr → Addr → Int → Mem → Option ((List Value) × Value × Mem)) : Nat → Addr → Addr → Addr → Int → Int → Mem → Option ((List Value) × Value × Mem)
  | 0, _, _, _, _, _, _ => none
  | n + 1, x2, x4, x5, x7, x36, m => point_Read_l2_b k (fun x2 x4 x5 x7 x36 m => point_Read_l2 k kx4 n x2 x4 x5 x7 x36 m) kx4 x2 x4 x5 x7 x36 m

theorem point_Read_l2_rule (k : Nat) (kx4 : Addr → Addr → Addr → Int → Mem → Option ((List Value) × Value × Mem)) {P : ((List Value) × Value × Mem) → Prop} (I : Nat → Addr → Addr → Addr → Int → Int → Mem → Prop)
    (step : ∀ d (nx : Addr → Addr → Addr → Int → Int → Mem → Option ((List Value) × Value × Mem)) (x2 : Addr) (x4 : Addr) (x5 : Addr) (x7 : Int) (x36 : Int) (m : Mem), I d x2 x4 x5 x7 x36 m → (∀ d' (x2 : Addr) (x4 : Addr) (x5 : Addr) (x7 : Int) (x36 : Int) (m : Mem), d' < d → I d' x2 x4 x5 x7 x36 m → Ok (nx x2 x4 x5 x7 x36 m) P) → Ok (point_Read_l2_b k nx kx4 x2 x4 x5 x7 x36 m) P) :
    ∀ n d (x2 : Addr) (x4 : Addr) (x5 : Addr) (x7 : Int) (x36 : Int) (m : Mem), d < n → I d x2 x4 x5 x7 x36 m → Ok (point_Read_l2 k kx4 n x2 x4 x5 x7 x36 m) P
  | 0, d, x2, x4, x5, x7, x36, m, h, _ => absurd h (Nat.not_lt_zero _)
  | n + 1, d, x2, x4, x5, x7, x36, m, h, hI => step d _ x2 x4 x5 x7 x36 m hI fun d' x2 x4 x5 x7 x36 m h' hI' => point_Read_l2_rule k kx4 I step n d' x2 x4 x5 x7 x36 m (by omega) hI'

def point_Read_l4_b (k : Nat) (nx : Addr → Addr → Addr → Int → Int → Mem → Option ((List Value) × Value × Mem)) (kx6 : Addr → Addr → Addr → Int → Mem → Option ((List Value) × Value × Mem)) (x2 : Addr) (x4 : Addr) (x5 : Addr) (x7 : Int) (x51 : Int) (m : Mem) : Option ((List Value) × Value × Mem) :=
  bif decide (x51 < 12) then (
  (point_reader_take k (some x5) 2 m).bind fun r17 =>
  bif inRange x51 12 then (
  (st r17.2 (plus (plus x4 38) (Int.toNat x51 * 1)) (Value.int .i64 r17.1)).bind fun m18 =>
  nx x2 x4 x5 x7 (IntKind.wrap .i64 (x51 + 1)) m18) else none) else (
  kx6 x2 x4 x5 x7 m)

def point_Read_l4 (k : Nat) (kx6 : Addr → Addr → Addr → Int → Mem → Option ((List Value) × Value × Mem)) : Nat → Addr → Addr → Addr → Int → Int → Mem → Option ((List Value) × Value × Mem)
  | 0, _, _, _, _, _, _ => none
  | n + 1, x2, x4, x5, x7, x51, m => point_Read_l4_b k (fun x2 x4 x5 x7 x51 m => point_Read_l4 k kx6 n x2 x4 x5 x7 x51 m) kx6 x2 x4 x5 x7 x51 m

theorem point_Read_l4_rule (k : Nat) (kx6 : Addr → Addr → Addr → Int → Mem → Option ((List Value) × Value × Mem)) {P : ((List Value) × Value × Mem) → Prop} (I : Nat → Addr → Addr → Addr → Int → Int → Mem → Prop)
    (step : ∀ d (nx : Addr → Addr → Addr → Int → Int → Mem → Option ((List Value) × Value × Mem)) (x2 : Addr) (x4 : Addr) (x5 : Addr) (x7 : Int) (x51 : Int) (m : Mem), I d x2 x4 x5 x7 x51 m → (∀ d' (x2 : Addr) (x4 : Addr) (x5 : Addr) (x7 : Int) (x51 : Int) (m : Mem), d' < d → I d' x2 x4 x5 x7 x51 m → Ok (nx x2 x4 x5 x7 x51 m) P) → Ok (point_Read_l4_b k nx kx6 x2 x4 x5 x7 x51 m) P) :
    ∀ n d (x2 : Addr) (x4 : Addr) (x5 : Addr) (x7 : Int) (x51 : Int) (m : Mem), d < n → I d x2 x4 x5 x7 x51 m → Ok (point_Read_l4 k kx6 n x2 x4 x5 x7 x51 m) P
  | 0, d, x2, x4, x5, x7, x51, m, h, _ => absurd h (Nat.not_lt_zero _)
  | n + 1, d, x2, x4, x5, x7, x51, m, h, hI => step d _ x2 x4 x5 x7 x51 m hI fun d' x2 x4 x5 x7 x51 m h' hI' => point_Read_l4_rule k kx6 I step n d' x2 x4 x5 x7 x51 m (by omega) hI'

def point_Read_l6_b (k : Nat) (nx : Addr → Addr → Addr → Int → Int → Mem → Option ((List Value) × Value × Mem)) (kx8 : Addr → Addr → Addr → Int → Mem → Option ((List Value) × Value × Mem)) (x2 : Addr) (x4 : Addr) (x5 : Addr) (x7 : Int) (x60 : Int) (m : Mem) : Option ((List Value) × Value × Mem) :=
  bif decide (x60 < 12) then (
  (point_reader_take k (some x5) 1 m).bind fun r20 =>
  bif inRange x60 12 then (
  (st r20.2 (plus (plus x4 50) (Int.toNat x60 * 1)) (Value.int .i64 r20.1)).bind fun m21 =>
  nx x2 x4 x5 x7 (IntKind.wrap .i64 (x60 + 1)) m21) else none) else (
  kx8 x2 x4 x5 x7 m)

def point_Read_l6 (k : Nat) (kx8 : Addr → Addr → Addr → Int → Mem → Option ((List Value) × Value × Mem)) : Nat → Addr → Addr → Addr → Int → Int → Mem → Option ((List Value) × Value × Mem)
  | 0, _, _, _, _, _, _ => none
  | n + 1, x2, x4, x5, x7, x60, m => point_Read_l6_b k (fun x2 x4 x5 x7 x60 m => point_Read_l6 k kx8 n x2 x4 x5 x7 x60 m) kx8 x2 x4 x5 x7 x60 m

theorem point_Read_l6_rule (k : Nat) (kx8 : Addr → Addr → Addr → Int → Mem → Option ((List Value) × Value × Mem)) {P : ((List Value) × Value × Mem) → Prop} (I : Nat → Addr → Addr → Addr → Int → Int → Mem → Prop)
    (step : ∀ d (nx : Addr → Addr → Addr → Int → Int → Mem → Option ((List Value) × Value × Mem)) (x2 : Addr) (x4 : Addr) (x5 : Addr) (x7 : Int) (x60 : Int) (m : Mem), I d x2 x4 x5 x7 x60 m → (∀ d' (x2 : Addr) (x4 : Addr) (x5 : Addr) (x7 : Int) (x60 : Int) (m : Mem), d' < d → I d' x2 x4 x5 x7 x60 m → Ok (nx x2 x4 x5 x7 x60 m) P) → Ok (point_Read_l6_b k nx kx8 x2 x4 x5 x7 x60 m) P) :
    ∀ n d (x2 : Addr) (x4 : Addr) (x5 : Addr) (x7 : Int) (x60 : Int) (m : Mem), d < n → I d x2 x4 x5 x7 x60 m → Ok (point_Read_l6 k kx8 n x2 x4 x5 x7 x60 m) P
  | 0, d, x2, x4, x5, x7, x60, m, h, _ => absurd h (Nat.not_lt_zero _)
  | n + 1, d, x2, x4, x5, x7, x60, m, h, hI => step d _ x2 x4 x5 x7 x60 m hI fun d' x2 x4 x5 x7 x60 m h' hI' => point_Read_l6_rule k kx8 I step n d' x2 x4 x5 x7 x60 m (by omega) hI'

def point_Read_j1 (k : Nat) (x2 : Addr) (x4 : Addr) (x80a : Option Addr) (x80n : Nat) (x80c : Nat) (x81 : Int) (x82 : Int) (nx : Addr → Addr → Bool → Option Addr → Nat → Nat → Int → Int → Mem → Option ((List Value) × Value × Mem)) (x11_ : Bool) (mj : Mem) : Option ((List Value) × Value × Mem) :=
  nx x2 x4 x11_ x80a x80n x80c x81 (IntKind.wrap .i64 (x82 + 1)) mj

def point_Read_l8_b (k : Nat) (nx : Addr → Addr → Bool → Option Addr → Nat → Nat → Int → Int → Mem → Option ((List Value) × Value × Mem)) (kx10 : Addr → Addr → Bool → Mem → Option ((List Value) × Value × Mem)) (x2 : Addr) (x4 : Addr) (x11 : Bool) (x80a : Option Addr) (x80n : Nat) (x80c : Nat) (x81 : Int) (x82 : Int) (m : Mem) : Option ((List Value) × Value × Mem) :=
  bif decide (x82 < x81) then (
  bif inRange x82 x80n then (
  (x80a).bind fun a25 =>
  (ldInt .u8 m (plus a25 (Int.toNat x82 * 1))).bind fun t26 =>
  bif x11 then (
  point_Read_j1 k x2 x4 x80a x80n x80c x81 x82 nx (t26 == 0) m) else (
  point_Read_j1 k x2 x4 x80a x80n x80c x81 x82 nx false m)) else none) else (
  kx10 x2 x4 x11 m)

def point_Read_l8 (k : Nat) (kx10 : Addr → Addr → Bool → Mem → Option ((List Value) × Value × Mem)) : Nat → Addr → Addr → Bool → Option Addr → Nat → Nat → Int → Int → Mem → Option ((List Value) × Value × Mem)
  | 0, _, _, _, _, _, _, _, _, _ => none
  | n + 1, x2, x4, x11, x80a, x80n, x80c, x81, x82, m => point_Read_l8_b k (fun x2 x4 x11 x80a x80n x80c x81 x82 m => point_Read_l8 k kx10 n x2 x4 x11 x80a x80n x80c x81 x82 m) kx10 x2 x4 x11 x80a x80n x80c x81 x82 m

theorem point_Read_l8_rule (k : Nat) (kx10 : Addr → Addr → Bool → Mem → Option ((List Value) × Value × Mem)) {P : ((List Value) × Value × Mem) → Prop} (I : Nat → Addr → Addr → Bool → Option Addr → Nat → Nat → Int → Int → Mem → Prop)
    (step : ∀ d (nx : Addr → Addr → Bool → Option Addr → Nat → Nat → Int → Int → Mem → Option ((List Value) × Value × Mem)) (x2 : Addr) (x4 : Addr) (x11 : Bool) (x80a : Option Addr) (x80n : Nat) (x80c : Nat) (x81 : Int) (x82 : Int) (m : Mem), I d x2 x4 x11 x80a x80n x80c x81 x82 m → (∀ d' (x2 : Addr) (x4 : Addr) (x11 : Bool) (x80a : Option Addr) (x80n : Nat) (x80c : Nat) (x81 : Int) (x82 : Int) (m : Mem), d' < d → I d' x2 x4 x11 x80a x80n x80c x81 x82 m → Ok (nx x2 x4 x11 x80a x80n x80c x81 x82 m) P) → Ok (point_Read_l8_b k nx kx10 x2 x4 x11 x80a x80n x80c x81 x82 m) P) :
    ∀ n d (x2 : Addr) (x4 : Addr) (x11 : Bool) (x80a : Option Addr) (x80n : Nat) (x80c : Nat) (x81 : Int) (x82 : Int) (m : Mem), d < n → I d x2 x4 x11 x80a x80n x80c x81 x82 m → Ok (point_Read_l8 k kx10 n x2 x4 x11 x80a x80n x80c x81 x82 m) P
  | 0, d, x2, x4, x11, x80a, x80n, x80c, x81, x82, m, h, _ => absurd h (Nat.not_lt_zero _)
  | n + 1, d, x2, x4, x11, x80a, x80n, x80c, x81, x82, m, h, hI => step d _ x2 x4 x11 x80a x80n x80c x81 x82 m hI fun d' x2 x4 x11 x80a x80n x80c x81 x82 m h' hI' => point_Read_l8_rule k kx10 I step n d' x2 x4 x11 x80a x80n x80c x81 x82 m (by omega) hI'

def point_Read (k : Nat) (p0a : Option Addr) (p0n : Nat) (p0c : Nat) (m : Mem) : Option ((List Value) × Value × Mem) :=
  let m1 : Mem := m ++ [.live ((repl 24 [.int .i64 0]) ++ [.int .i64 0] ++ (repl 12 [.bool false]) ++ [.int .i64 0] ++ (repl 12 [.int .i64 0]) ++ (repl 12 [.int .i64 0]))]
  let m2 : Mem := m1 ++ [.live ((repl 24 [.int .i64 0]) ++ [.int .i64 0] ++ (repl 12 [.bool false]) ++ [.int .i64 0] ++ (repl 12 [.int .i64 0]) ++ (repl 12 [.int .i64 0]))]
  bif ((p0n : Nat) : Int) != 174 then (
  (ldCells m2 ⟨List.length m1, 0, Option.none⟩ 62).bind fun t3 =>
  bif Nat.beq (List.length t3) 62 then (
  (stCells m2 ⟨List.length m, 0, Option.none⟩ t3).bind fun m4 =>
  (ldCells m4 ⟨List.length m, 0, Option.none⟩ 62).bind fun t5 =>
  some (t5, (Value.iface ty_api_Code (Value.int .i64 3)), m4)) else none) else (
  let m6 : Mem := m2 ++ [.live [(Value.slice p0a p0n p0c)]]
  point_Read_l0 k (fun y2 y4 y5 m9 => 
  (point_reader_take k (some y5) 5 m9).bind fun r10 =>
  (st r10.2 (plus y4 24) (Value.int .i64 r10.1)).bind fun m11 =>
  (point_reader_take k (some y5) 2 m11).bind fun r12 =>
  point_Read_l2 k (fun y2 y4 y5 y7 m14 => 
  (point_reader_take k (some y5) 1 m14).bind fun r15 =>
  (st r15.2 (plus y4 37) (Value.int .i64 r15.1)).bind fun m16 =>
  point_Read_l4 k (fun y2 y4 y5 y7 m19 => 
  point_Read_l6 k (fun y2 y4 y5 y7 m22 => 
  bif (shrI .i64 y7 12) == 0 then (
  (ldInt .i64 m22 (plus y4 37)).bind fun t23 =>
  (ldSl m22 (plus y5 0)).bind fun t24 =>
  point_Read_l8 k (fun y2 y4 y11 m27 => 
  bif !y11 then (
  (stCells m27 y2 ((repl 24 [.int .i64 0]) ++ [.int .i64 0] ++ (repl 12 [.bool false]) ++ [.int .i64 0] ++ (repl 12 [.int .i64 0]) ++ (repl 12 [.int .i64 0]))).bind fun m28 =>
  (ldCells m28 y2 62).bind fun t29 =>
  some (t29, (Value.iface ty_api_Code (Value.int .i64 3)), m28)) else (
  (ldCells m27 y4 62).bind fun t30 =>
  bif Nat.beq (List.length t30) 62 then (
  (stCells m27 y2 t30).bind fun m31 =>
  (ldCells m31 y2 62).bind fun t32 =>
  some (t32, Value.nilIface, m31)) else none)) k y2 y4 (decide (t23 < 96)) t24.a t24.len t24.cap ((t24.len : Nat) : Int) 0 m22) else (
  (ldSl m22 (plus y5 0)).bind fun t33 =>
  point_Read_l8 k (fun y2 y4 y11 m34 => 
  bif !y11 then (
  (stCells m34 y2 ((repl 24 [.int .i64 0]) ++ [.int .i64 0] ++ (repl 12 [.bool false]) ++ [.int .i64 0] ++ (repl 12 [.int .i64 0]) ++ (repl 12 [.int .i64 0]))).bind fun m35 =>
  (ldCells m35 y2 62).bind fun t36 =>
  some (t36, (Value.iface ty_api_Code (Value.int .i64 3)), m35)) else (
  (ldCells m34 y4 62).bind fun t37 =>
  bif Nat.beq (List.length t37) 62 then (
  (stCells m34 y2 t37).bind fun m38 =>
  (ldCells m38 y2 62).bind fun t39 =>
  some (t39, Value.nilIface, m38)) else none)) k y2 y4 false t33.a t33.len t33.cap ((t33.len : Nat) : Int) 0 m22)) k y2 y4 y5 y7 0 m19) k y2 y4 y5 y7 0 m16) k y2 y4 y5 r12.1 0 r12.2) k ⟨List.length m, 0, Option.none⟩ ⟨List.length m1, 0, Option.none⟩ ⟨List.length m2, 0, Option.none⟩ 0 m6)

def point_Read_call {R : Type} (k : Nat) : Fun R := callCons 48 (point_reader_take_arm k) (callNil)

theorem point_Read_callOk {R : Type} (k : Nat) : CallOk Try.prog (point_Read_call (R := R) k) := callOk_cons (point_reader_take_armOk k) (callOk_nil)

def point_Read_l0_L (k : Nat) (K : Nat → List Value → Mem → Option ((List Value) × Value × Mem)) (n : Nat) (vs : List Value) (m : Mem) : Option ((List Value) × Value × Mem) := match vs with
  | [.pointer (some x2), .pointer (some x4), .pointer (some x5), .int .i64 x22] => point_Read_l0 k (fun y2 y4 y5 m => K 2 [(Value.pointer (some y2)), (Value.pointer (some y4)), (Value.pointer (some y5))] m) n x2 x4 x5 x22 m
  | _ => none

def point_Read_l2_L (k : Nat) (K : Nat → List Value → Mem → Option ((List Value) × Value × Mem)) (n : Nat) (vs : List Value) (m : Mem) : Option ((List Value) × Value × Mem) := match vs with
  | [.pointer (some x2), .pointer (some x4), .pointer (some x5), .int .i64 x7, .int .i64 x36] => point_Read_l2 k (fun y2 y4 y5 y7 m => K 4 [(Value.pointer (some y2)), (Value.pointer (some y4)), (Value.pointer (some y5)), (Value.int .i64 y7)] m) n x2 x4 x5 x7 x36 m
  | _ => none

def point_Read_l4_L (k : Nat) (K : Nat → List Value → Mem → Option ((List Value) × Value × Mem)) (n : Nat) (vs : List Value) (m : Mem) : Option ((List Value) × Value × Mem) := match vs with
  | [.pointer (some x2), .pointer (some x4), .pointer (some x5), .int .i64 x7, .int .i64 x51] => point_Read_l4 k (fun y2 y4 y5 y7 m => K 6 [(Value.pointer (some y2)), (Value.pointer (some y4)), (Value.pointer (some y5)), (Value.int .i64 y7)] m) n x2 x4 x5 x7 x51 m
  | _ => none

def point_Read_l6_L (k : Nat) (K : Nat → List Value → Mem → Option ((List Value) × Value × Mem)) (n : Nat) (vs : List Value) (m : Mem) : Option ((List Value) × Value × Mem) := match vs with
  | [.pointer (some x2), .pointer (some x4), .pointer (some x5), .int .i64 x7, .int .i64 x60] => point_Read_l6 k (fun y2 y4 y5 y7 m => K 8 [(Value.pointer (some y2)), (Value.pointer (some y4)), (Value.pointer (some y5)), (Value.int .i64 y7)] m) n x2 x4 x5 x7 x60 m
  | _ => none

def point_Read_l8_L (k : Nat) (K : Nat → List Value → Mem → Option ((List Value) × Value × Mem)) (n : Nat) (vs : List Value) (m : Mem) : Option ((List Value) × Value × Mem) := match vs with
  | [.pointer (some x2), .pointer (some x4), .bool x11, .slice x80a x80n x80c, .int .i64 x81, .int .i64 x82] => point_Read_l8 k (fun y2 y4 y11 m => K 10 [(Value.pointer (some y2)), (Value.pointer (some y4)), (Value.bool y11)] m) n x2 x4 x11 x80a x80n x80c x81 x82 m
  | _ => none

def point_Read_loop (k : Nat) : Nat → List Value → Mem → (Nat → List Value → Mem → Option ((List Value) × Value × Mem)) → Option ((List Value) × Value × Mem) := fun cur vs m K => match cur with
  | 0 => point_Read_l0_L k K k vs m
  | 2 => point_Read_l2_L k K k vs m
  | 4 => point_Read_l4_L k K k vs m
  | 6 => point_Read_l6_L k K k vs m
  | 8 => point_Read_l8_L k K k vs m
  | _ => none

def point_Read_C (k : Nat) : Ctx ((List Value) × Value × Mem) := ⟨tt, point_Read_call k, point_Read_loop k, [(0, [2, 4, 5, 22]), (2, [2, 4, 5, 7, 36]), (4, [2, 4, 5, 7, 51]), (6, [2, 4, 5, 7, 60]), (8, [2, 4, 11, 80, 81, 82])], [(2, [2, 4, 5]), (4, [2, 4, 5, 7]), (6, [2, 4, 5, 7]), (8, [2, 4, 5, 7]), (10, [2, 4, 11])]⟩

noncomputable def point_Read_l0_c : Code := ((loopsOf 0 (body Try.f27)).map (·.2)).getD 0 .skip

noncomputable def point_Read_l2_c : Code := ((loopsOf 0 (body Try.f27)).map (·.2)).getD 1 .skip

noncomputable def point_Read_l4_c : Code := ((loopsOf 0 (body Try.f27)).map (·.2)).getD 2 .skip

noncomputable def point_Read_l6_c : Code := ((loopsOf 0 (body Try.f27)).map (·.2)).getD 3 .skip

noncomputable def point_Read_l8_c : Code := ((loopsOf 0 (body Try.f27)).map (·.2)).getD 4 .skip

theorem point_Read_loops : loopsOf 0 (body Try.f27) = [(0, point_Read_l0_c), (2, point_Read_l2_c), (4, point_Read_l4_c), (6, point_Read_l6_c), (8, point_Read_l8_c)] := by kernel_rfl

theorem point_Read_l0_ok (k : Nat) : LoopOk (point_Read_C k) 0 point_Read_l0_c := by
  refine ⟨[2, 4, 5, 22], by kernel_rfl, fun K r => ⟨point_Read_l0_L k K, fun vs m h => ⟨k, h⟩, ?_⟩⟩
  intro n vs m h
  unfold point_Read_l0_L at h
  split at h
  · cases n with
    | zero => cases h
    | succ n => exact ⟨n, rfl, Eq.trans (by kernel_rfl) h⟩
  · cases h

theorem point_Read_l2_ok (k : Nat) : LoopOk (point_Read_C k) 2 point_Read_l2_c := by
  refine ⟨[2, 4, 5, 7, 36], by kernel_rfl, fun K r => ⟨point_Read_l2_L k K, fun vs m h => ⟨k, h⟩, ?_⟩⟩
  intro n vs m h
  unfold point_Read_l2_L at h
  split at h
  · cases n with
    | zero => cases h
    | succ n => exact ⟨n, rfl, Eq.trans (by kernel_rfl) h⟩
  · cases h

theorem point_Read_l4_ok (k : Nat) : LoopOk (point_Read_C k) 4 point_Read_l4_c := by
  refine ⟨[2, 4, 5, 7, 51], by kernel_rfl, fun K r => ⟨point_Read_l4_L k K, fun vs m h => ⟨k, h⟩, ?_⟩⟩
  intro n vs m h
  unfold point_Read_l4_L at h
  split at h
  · cases n with
    | zero => cases h
    | succ n => exact ⟨n, rfl, Eq.trans (by kernel_rfl) h⟩
  · cases h

theorem point_Read_l6_ok (k : Nat) : LoopOk (point_Read_C k) 6 point_Read_l6_c := by
  refine ⟨[2, 4, 5, 7, 60], by kernel_rfl, fun K r => ⟨point_Read_l6_L k K, fun vs m h => ⟨k, h⟩, ?_⟩⟩
  intro n vs m h
  unfold point_Read_l6_L at h
  split at h
  · cases n with
    | zero => cases h
    | succ n => exact ⟨n, rfl, Eq.trans (by kernel_rfl) h⟩
  · cases h

theorem point_Read_l8_ok (k : Nat) : LoopOk (point_Read_C k) 8 point_Read_l8_c := by
  refine ⟨[2, 4, 11, 80, 81, 82], by kernel_rfl, fun K r => ⟨point_Read_l8_L k K, fun vs m h => ⟨k, h⟩, ?_⟩⟩
  intro n vs m h
  unfold point_Read_l8_L at h
  split at h
  · cases n with
    | zero => cases h
    | succ n => exact ⟨n, rfl, Eq.trans (by kernel_rfl) h⟩
  · cases h

def point_Read_dec : Value → Mem → Option ((List Value) × Value × Mem) := fun v m => match v with
  | .tuple ⟨[.agg ⟨q0⟩, q1]⟩ => some (q0, q1, m)
  | _ => none

theorem point_Read_eq (k : Nat) (p0a : Option Addr) (p0n : Nat) (p0c : Nat) (m : Mem) : fnX (point_Read_C k) Try.f27 [(Value.slice p0a p0n p0c)] m point_Read_dec = point_Read k p0a p0n p0c m := by kernel_rfl

theorem point_Read_ok {k : Nat} {p0a : Option Addr} {p0n : Nat} {p0c : Nat} {m : Mem} {r : ((List Value) × Value × Mem)} (h : point_Read k p0a p0n p0c m = some r) : CallP Try.prog 27 [(Value.slice p0a p0n p0c)] m fun v m' => v = (Value.tuple ⟨[(Value.agg ⟨r.1⟩), r.2.1]⟩) ∧ m' = r.2.2 := by
  refine (fn_sound (C := point_Read_C k) (c := body Try.f27) tOk mixed (point_Read_callOk k) Try.func27 (by kernel_rfl) (by kernel_rfl) (by kernel_rfl) (by kernel_rfl) ?_ (Eq.trans (point_Read_eq k p0a p0n p0c m) h)).mono ?_
  · intro p hp
    rw [point_Read_loops] at hp
    simp only [List.mem_cons, List.not_mem_nil, or_false] at hp
    rcases hp with rfl | rfl | rfl | rfl | rfl
    · exact point_Read_l0_ok k
    · exact point_Read_l2_ok k
    · exact point_Read_l4_ok k
    · exact point_Read_l6_ok k
    · exact point_Read_l8_ok k
  · intro v m' hp
    unfold point_Read_dec at hp
    split at hp
    · simp only [Option.some.injEq] at hp; subst hp; exact ⟨rfl, rfl⟩
    · cases hp

def point_Read_arm {R : Type} (k : Nat) : Arm R := fun vs m K => match vs with
  | [.slice p0a p0n p0c] => (point_Read k p0a p0n p0c m).bind fun r => K (Value.tuple ⟨[(Value.agg ⟨r.1⟩), r.2.1]⟩) r.2.2
  | _ => none

theorem point_Read_armOk {R : Type} (k : Nat) : ArmOk Try.prog 27 (point_Read_arm (R := R) k) := by
  intro vs m K r h
  unfold point_Read_arm at h
  split at h
  · obtain ⟨r, h1, h2⟩ := Option.bind_eq_some_iff.1 h; exact ⟨_, _, h2, fun K' => by simp only [point_Read_arm, h1, Option.bind_some], point_Read_ok h1⟩
  · cases h

end Go.Proofs.Ytnilidpafijdlac
