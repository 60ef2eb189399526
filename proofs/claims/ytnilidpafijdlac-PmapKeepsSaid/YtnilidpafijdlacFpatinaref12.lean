/- The program's functions as plain Lean functions over a clean memory, each held against the program by the kernel. Written by mx.py. -/
import Derived.Test.YtnilidpafijdlacF0
import Derived.Test.YtnilidpafijdlacFpatinaref04
set_option linter.unusedVariables false
set_option maxRecDepth 100000
namespace Go.Proofs.Ytnilidpafijdlac
open Go.Mx

/-! ### patinaref12_New -/
def patinaref12_New_l0_b (k : Nat) (nx : Addr → Int → Mem → Option ((Option Addr) × Mem)) (kx2 : Addr → Mem → Option ((Option Addr) × Mem)) (x1 : Addr) (x2 : Int) (m : Mem) : Option ((Option Addr) × Mem) :=
  bif decide (x2 < 25) then (
  bif inRange x2 25 then (
  (st m (plus (plus x1 0) (Int.toNat x2 * 1)) (Value.int .i64 (-1))).bind fun m2 =>
  nx x1 (IntKind.wrap .i64 (x2 + 1)) m2) else none) else (
  kx2 x1 m)

def patinaref12_New_l0 (k : Nat) (kx2 : Addr → Mem → Option ((Option Addr) × Mem)) : Nat → Addr → Int → Mem → Option ((Option Addr) × Mem)
  | 0, _, _, _ => none
  | n + 1, x1, x2, m => patinaref12_New_l0_b k (fun x1 x2 m => patinaref12_New_l0 k kx2 n x1 x2 m) kx2 x1 x2 m

theorem patinaref12_New_l0_rule (k : Nat) (kx2 : Addr → Mem → Option ((Option Addr) × Mem)) {P : ((Option Addr) × Mem) → Prop} (I : Nat → Addr → Int → Mem → Prop)
    (step : ∀ d (nx : Addr → Int → Mem → Option ((Option Addr) × Mem)) (x1 : Addr) (x2 : Int) (m : Mem), I d x1 x2 m → (∀ d' (x1 : Addr) (x2 : Int) (m : Mem), d' < d → I d' x1 x2 m → Ok (nx x1 x2 m) P) → Ok (patinaref12_New_l0_b k nx kx2 x1 x2 m) P) :
    ∀ n d (x1 : Addr) (x2 : Int) (m : Mem), d < n → I d x1 x2 m → Ok (patinaref12_New_l0 k kx2 n x1 x2 m) P
  | 0, d, x1, x2, m, h, _ => absurd h (Nat.not_lt_zero _)
  | n + 1, d, x1, x2, m, h, hI => step d _ x1 x2 m hI fun d' x1 x2 m h' hI' => patinaref12_New_l0_rule k kx2 I step n d' x1 x2 m (by omega) hI'

def patinaref12_New (k : Nat) (m : Mem) : Option ((Option Addr) × Mem) :=
  let m1 : Mem := m ++ [.live ((repl 25 [.int .i64 0]))]
  patinaref12_New_l0 k (fun y1 m3 => 
  some ((some y1), m3)) k ⟨List.length m, 0, Option.none⟩ 0 m1

def patinaref12_New_call {R : Type} (k : Nat) : Fun R := fun _ _ _ _ => none

theorem patinaref12_New_callOk {R : Type} (k : Nat) : CallOk Try.prog (patinaref12_New_call (R := R) k) := by
  intro f vs m K r h
  unfold patinaref12_New_call at h
  cases h

def patinaref12_New_l0_L (k : Nat) (K : Nat → List Value → Mem → Option ((Option Addr) × Mem)) (n : Nat) (vs : List Value) (m : Mem) : Option ((Option Addr) × Mem) := match vs with
  | [.pointer (some x1), .int .i64 x2] => patinaref12_New_l0 k (fun y1 m => K 2 [(Value.pointer (some y1))] m) n x1 x2 m
  | _ => none

def patinaref12_New_loop (k : Nat) : Nat → List Value → Mem → (Nat → List Value → Mem → Option ((Option Addr) × Mem)) → Option ((Option Addr) × Mem) := fun cur vs m K => match cur with
  | 0 => patinaref12_New_l0_L k K k vs m
  | _ => none

def patinaref12_New_C (k : Nat) : Ctx ((Option Addr) × Mem) := ⟨tt, patinaref12_New_call k, patinaref12_New_loop k, [(0, [1, 2])], [(2, [1])]⟩

noncomputable def patinaref12_New_l0_c : Code := ((loopsOf 0 (body Try.f33)).map (·.2)).getD 0 .skip

theorem patinaref12_New_loops : loopsOf 0 (body Try.f33) = [(0, patinaref12_New_l0_c)] := by kernel_rfl

theorem patinaref12_New_l0_ok (k : Nat) : LoopOk (patinaref12_New_C k) 0 patinaref12_New_l0_c := by
  refine ⟨[1, 2], by kernel_rfl, fun K r => ⟨patinaref12_New_l0_L k K, fun vs m h => ⟨k, h⟩, ?_⟩⟩
  intro n vs m h
  unfold patinaref12_New_l0_L at h
  split at h
  · cases n with
    | zero => cases h
    | succ n => exact ⟨n, rfl, Eq.trans (by kernel_rfl) h⟩
  · cases h

def patinaref12_New_dec : Value → Mem → Option ((Option Addr) × Mem) := fun v m => match v with
  | .pointer q0 => some (q0, m)
  | _ => none

theorem patinaref12_New_eq (k : Nat) (m : Mem) : fnX (patinaref12_New_C k) Try.f33 [] m patinaref12_New_dec = patinaref12_New k  m := by kernel_rfl

theorem patinaref12_New_ok {k : Nat} {m : Mem} {r : ((Option Addr) × Mem)} (h : patinaref12_New k  m = some r) : CallP Try.prog 33 [] m fun v m' => v = (Value.pointer r.1) ∧ m' = r.2 := by
  refine (fn_sound (C := patinaref12_New_C k) (c := body Try.f33) tOk mixed (patinaref12_New_callOk k) Try.func33 (by kernel_rfl) (by kernel_rfl) (by kernel_rfl) (by kernel_rfl) ?_ (Eq.trans (patinaref12_New_eq k  m) h)).mono ?_
  · intro p hp
    rw [patinaref12_New_loops] at hp
    simp only [List.mem_cons, List.not_mem_nil, or_false] at hp
    rcases hp with rfl
    · exact patinaref12_New_l0_ok k
  · intro v m' hp
    unfold patinaref12_New_dec at hp
    split at hp
    · simp only [Option.some.injEq] at hp; subst hp; exact ⟨rfl, rfl⟩
    · cases hp

/-! ### patinaref12_Map_owner -/
def patinaref12_Map_owner_l0_b (k : Nat) (nx : Option Addr → Int → Int → Mem → Option (Int × Mem)) (kx0 : Int → Mem → Option (Int × Mem)) (kx2 : Mem → Option (Int × Mem)) (x0 : Option Addr) (x1 : Int) (x5 : Int) (m : Mem) : Option (Int × Mem) :=
  bif decide (x5 < 25) then (
  (x0).bind fun a1 =>
  bif inRange x5 25 then (
  (ldInt .i64 m (plus (plus a1 0) (Int.toNat x5 * 1))).bind fun t2 =>
  bif t2 == x1 then (
  kx0 x5 m) else (
  nx x0 x1 (IntKind.wrap .i64 (x5 + 1)) m)) else none) else (
  kx2  m)

def patinaref12_Map_owner_l0 (k : Nat) (kx0 : Int → Mem → Option (Int × Mem)) (kx2 : Mem → Option (Int × Mem)) : Nat → Option Addr → Int → Int → Mem → Option (Int × Mem)
  | 0, _, _, _, _ => none
  | n + 1, x0, x1, x5, m => patinaref12_Map_owner_l0_b k (fun x0 x1 x5 m => patinaref12_Map_owner_l0 k kx0 kx2 n x0 x1 x5 m) kx0 kx2 x0 x1 x5 m

theorem patinaref12_Map_owner_l0_rule (k : Nat) (kx0 : Int → Mem → Option (Int × Mem)) (kx2 : Mem → Option (Int × Mem)) {P : (Int × Mem) → Prop} (I : Nat → Option Addr → Int → Int → Mem → Prop)
    (step : ∀ d (nx : Option Addr → Int → Int → Mem → Option (Int × Mem)) (x0 : Option Addr) (x1 : Int) (x5 : Int) (m : Mem), I d x0 x1 x5 m → (∀ d' (x0 : Option Addr) (x1 : Int) (x5 : Int) (m : Mem), d' < d → I d' x0 x1 x5 m → Ok (nx x0 x1 x5 m) P) → Ok (patinaref12_Map_owner_l0_b k nx kx0 kx2 x0 x1 x5 m) P) :
    ∀ n d (x0 : Option Addr) (x1 : Int) (x5 : Int) (m : Mem), d < n → I d x0 x1 x5 m → Ok (patinaref12_Map_owner_l0 k kx0 kx2 n x0 x1 x5 m) P
  | 0, d, x0, x1, x5, m, h, _ => absurd h (Nat.not_lt_zero _)
  | n + 1, d, x0, x1, x5, m, h, hI => step d _ x0 x1 x5 m hI fun d' x0 x1 x5 m h' hI' => patinaref12_Map_owner_l0_rule k kx0 kx2 I step n d' x0 x1 x5 m (by omega) hI'

def patinaref12_Map_owner (k : Nat) (p0 : Option Addr) (p1 : Int) (m : Mem) : Option (Int × Mem) :=
  patinaref12_Map_owner_l0 k (fun y4 m3 => 
  some (y4, m3)) (fun m4 => 
  some ((-1), m4)) k p0 p1 0 m

def patinaref12_Map_owner_call {R : Type} (k : Nat) : Fun R := fun _ _ _ _ => none

theorem patinaref12_Map_owner_callOk {R : Type} (k : Nat) : CallOk Try.prog (patinaref12_Map_owner_call (R := R) k) := by
  intro f vs m K r h
  unfold patinaref12_Map_owner_call at h
  cases h

def patinaref12_Map_owner_l0_L (k : Nat) (K : Nat → List Value → Mem → Option (Int × Mem)) (n : Nat) (vs : List Value) (m : Mem) : Option (Int × Mem) := match vs with
  | [.pointer x0, .int .i64 x1, .int .i64 x5] => patinaref12_Map_owner_l0 k (fun y4 m => K 0 [(Value.int .i64 y4)] m) (fun m => K 2 [] m) n x0 x1 x5 m
  | _ => none

def patinaref12_Map_owner_loop (k : Nat) : Nat → List Value → Mem → (Nat → List Value → Mem → Option (Int × Mem)) → Option (Int × Mem) := fun cur vs m K => match cur with
  | 0 => patinaref12_Map_owner_l0_L k K k vs m
  | _ => none

def patinaref12_Map_owner_C (k : Nat) : Ctx (Int × Mem) := ⟨tt, patinaref12_Map_owner_call k, patinaref12_Map_owner_loop k, [(0, [0, 1, 5])], [(0, [4]), (2, [])]⟩

noncomputable def patinaref12_Map_owner_l0_c : Code := ((loopsOf 0 (body Try.f64)).map (·.2)).getD 0 .skip

theorem patinaref12_Map_owner_loops : loopsOf 0 (body Try.f64) = [(0, patinaref12_Map_owner_l0_c)] := by kernel_rfl

theorem patinaref12_Map_owner_l0_ok (k : Nat) : LoopOk (patinaref12_Map_owner_C k) 0 patinaref12_Map_owner_l0_c := by
  refine ⟨[0, 1, 5], by kernel_rfl, fun K r => ⟨patinaref12_Map_owner_l0_L k K, fun vs m h => ⟨k, h⟩, ?_⟩⟩
  intro n vs m h
  unfold patinaref12_Map_owner_l0_L at h
  split at h
  · cases n with
    | zero => cases h
    | succ n => exact ⟨n, rfl, Eq.trans (by kernel_rfl) h⟩
  · cases h

def patinaref12_Map_owner_dec : Value → Mem → Option (Int × Mem) := fun v m => match v with
  | .int .i64 q0 => some (q0, m)
  | _ => none

theorem patinaref12_Map_owner_eq (k : Nat) (p0 : Option Addr) (p1 : Int) (m : Mem) : fnX (patinaref12_Map_owner_C k) Try.f64 [(Value.pointer p0), (Value.int .i64 p1)] m patinaref12_Map_owner_dec = patinaref12_Map_owner k p0 p1 m := by kernel_rfl

theorem patinaref12_Map_owner_ok {k : Nat} {p0 : Option Addr} {p1 : Int} {m : Mem} {r : (Int × Mem)} (h : patinaref12_Map_owner k p0 p1 m = some r) : CallP Try.prog 64 [(Value.pointer p0), (Value.int .i64 p1)] m fun v m' => v = (Value.int .i64 r.1) ∧ m' = r.2 := by
  refine (fn_sound (C := patinaref12_Map_owner_C k) (c := body Try.f64) tOk mixed (patinaref12_Map_owner_callOk k) Try.func64 (by kernel_rfl) (by kernel_rfl) (by kernel_rfl) (by kernel_rfl) ?_ (Eq.trans (patinaref12_Map_owner_eq k p0 p1 m) h)).mono ?_
  · intro p hp
    rw [patinaref12_Map_owner_loops] at hp
    simp only [List.mem_cons, List.not_mem_nil, or_false] at hp
    rcases hp with rfl
    · exact patinaref12_Map_owner_l0_ok k
  · intro v m' hp
    unfold patinaref12_Map_owner_dec at hp
    split at hp
    · simp only [Option.some.injEq] at hp; subst hp; exact ⟨rfl, rfl⟩
    · cases hp

/-! ### patinaref12_Map_Of -/
def patinaref12_Map_Of_j1 (k : Nat) (x0 : Option Addr) (x1 : Int) (x7 : Int) (nx : Option Addr → Int → Option Addr → Nat → Nat → Int → Mem → Option (Sl × Int × Mem)) (x6_a : Option Addr) (x6_n : Nat) (x6_c : Nat) (mj : Mem) : Option (Sl × Int × Mem) :=
  nx x0 x1 x6_a x6_n x6_c (IntKind.wrap .i64 (x7 + 1)) mj

def patinaref12_Map_Of_l0_b (k : Nat) (nx : Option Addr → Int → Option Addr → Nat → Nat → Int → Mem → Option (Sl × Int × Mem)) (kx2 : Option Addr → Nat → Nat → Mem → Option (Sl × Int × Mem)) (x0 : Option Addr) (x1 : Int) (x6a : Option Addr) (x6n : Nat) (x6c : Nat) (x7 : Int) (m : Mem) : Option (Sl × Int × Mem) :=
  bif decide (x7 < (IntKind.wrap .i64 ((IntKind.wrap .i64 (8 * x1)) + 8))) then (
  (patinaref12_Map_owner k x0 x7 m).bind fun r1 =>
  bif decide (r1.1 ≥ 0) then (
  let m2 : Mem := r1.2 ++ [.live [(Value.int .i64 r1.1)]]
  (rdSl m2 (some ⟨List.length r1.2, 0, Option.none⟩) 1 1).bind fun l3 =>
  (appM 1 8 m2 x6a x6n x6c 1 l3).bind fun r4 =>
  patinaref12_Map_Of_j1 k x0 x1 x7 nx r4.1.a r4.1.len r4.1.cap r4.2) else (
  patinaref12_Map_Of_j1 k x0 x1 x7 nx x6a x6n x6c r1.2)) else (
  kx2 x6a x6n x6c m)

def patinaref12_Map_Of_l0 (k : Nat) (kx2 : Option Addr → Nat → Nat → Mem → Option (Sl × Int × Mem)) : Nat → Option Addr → Int → Option Addr → Nat → Nat → Int → Mem → Option (Sl × Int × Mem)
  | 0, _, _, _, _, _, _, _ => none
  | n + 1, x0, x1, x6a, x6n, x6c, x7, m => patinaref12_Map_Of_l0_b k (fun x0 x1 x6a x6n x6c x7 m => patinaref12_Map_Of_l0 k kx2 n x0 x1 x6a x6n x6c x7 m) kx2 x0 x1 x6a x6n x6c x7 m

theorem patinaref12_Map_Of_l0_rule (k : Nat) (kx2 : Option Addr → Nat → Nat → Mem → Option (Sl × Int × Mem)) {P : (Sl × Int × Mem) → Prop} (I : Nat → Option Addr → Int → Option Addr → Nat → Nat → Int → Mem → Prop)
    (step : ∀ d (nx : Option Addr → Int → Option Addr → Nat → Nat → Int → Mem → Option (Sl × Int × Mem)) (x0 : Option Addr) (x1 : Int) (x6a : Option Addr) (x6n : Nat) (x6c : Nat) (x7 : Int) (m : Mem), I d x0 x1 x6a x6n x6c x7 m → (∀ d' (x0 : Option Addr) (x1 : Int) (x6a : Option Addr) (x6n : Nat) (x6c : Nat) (x7 : Int) (m : Mem), d' < d → I d' x0 x1 x6a x6n x6c x7 m → Ok (nx x0 x1 x6a x6n x6c x7 m) P) → Ok (patinaref12_Map_Of_l0_b k nx kx2 x0 x1 x6a x6n x6c x7 m) P) :
    ∀ n d (x0 : Option Addr) (x1 : Int) (x6a : Option Addr) (x6n : Nat) (x6c : Nat) (x7 : Int) (m : Mem), d < n → I d x0 x1 x6a x6n x6c x7 m → Ok (patinaref12_Map_Of_l0 k kx2 n x0 x1 x6a x6n x6c x7 m) P
  | 0, d, x0, x1, x6a, x6n, x6c, x7, m, h, _ => absurd h (Nat.not_lt_zero _)
  | n + 1, d, x0, x1, x6a, x6n, x6c, x7, m, h, hI => step d _ x0 x1 x6a x6n x6c x7 m hI fun d' x0 x1 x6a x6n x6c x7 m h' hI' => patinaref12_Map_Of_l0_rule k kx2 I step n d' x0 x1 x6a x6n x6c x7 m (by omega) hI'

def patinaref12_Map_Of (k : Nat) (p0 : Option Addr) (p1 : Int) (m : Mem) : Option (Sl × Int × Mem) :=
  bif decide (p1 < 0) then (
  some ((⟨none, 0, 0⟩ : Sl), 1, m)) else (
  bif decide (p1 > 11) then (
  some ((⟨none, 0, 0⟩ : Sl), 1, m)) else (
  patinaref12_Map_Of_l0 k (fun y6a y6n y6c m5 => 
  some ((⟨y6a, y6n, y6c⟩ : Sl), 0, m5)) k p0 p1 none 0 0 (IntKind.wrap .i64 (8 * p1)) m))

def patinaref12_Map_Of_call {R : Type} (k : Nat) : Fun R := fun f args m K => match f, args with
  | 64, [.pointer p0, .int .i64 p1] => (patinaref12_Map_owner k p0 p1 m).bind fun r => K (Value.int .i64 r.1) r.2
  | _, _ => none

theorem patinaref12_Map_Of_callOk {R : Type} (k : Nat) : CallOk Try.prog (patinaref12_Map_Of_call (R := R) k) := by
  intro f vs m K r h
  unfold patinaref12_Map_Of_call at h
  split at h
  · obtain ⟨r, h1, h2⟩ := Option.bind_eq_some_iff.1 h; exact ⟨_, _, h2, fun K' => by simp only [patinaref12_Map_Of_call, h1, Option.bind_some], patinaref12_Map_owner_ok h1⟩
  · cases h

def patinaref12_Map_Of_l0_L (k : Nat) (K : Nat → List Value → Mem → Option (Sl × Int × Mem)) (n : Nat) (vs : List Value) (m : Mem) : Option (Sl × Int × Mem) := match vs with
  | [.pointer x0, .int .i64 x1, .slice x6a x6n x6c, .int .i64 x7] => patinaref12_Map_Of_l0 k (fun y6a y6n y6c m => K 2 [(Value.slice y6a y6n y6c)] m) n x0 x1 x6a x6n x6c x7 m
  | _ => none

def patinaref12_Map_Of_loop (k : Nat) : Nat → List Value → Mem → (Nat → List Value → Mem → Option (Sl × Int × Mem)) → Option (Sl × Int × Mem) := fun cur vs m K => match cur with
  | 0 => patinaref12_Map_Of_l0_L k K k vs m
  | _ => none

def patinaref12_Map_Of_C (k : Nat) : Ctx (Sl × Int × Mem) := ⟨tt, patinaref12_Map_Of_call k, patinaref12_Map_Of_loop k, [(0, [0, 1, 6, 7])], [(2, [6])]⟩

noncomputable def patinaref12_Map_Of_l0_c : Code := ((loopsOf 0 (body Try.f56)).map (·.2)).getD 0 .skip

theorem patinaref12_Map_Of_loops : loopsOf 0 (body Try.f56) = [(0, patinaref12_Map_Of_l0_c)] := by kernel_rfl

theorem patinaref12_Map_Of_l0_ok (k : Nat) : LoopOk (patinaref12_Map_Of_C k) 0 patinaref12_Map_Of_l0_c := by
  refine ⟨[0, 1, 6, 7], by kernel_rfl, fun K r => ⟨patinaref12_Map_Of_l0_L k K, fun vs m h => ⟨k, h⟩, ?_⟩⟩
  intro n vs m h
  unfold patinaref12_Map_Of_l0_L at h
  split at h
  · cases n with
    | zero => cases h
    | succ n => exact ⟨n, rfl, Eq.trans (by kernel_rfl) h⟩
  · cases h

def patinaref12_Map_Of_dec : Value → Mem → Option (Sl × Int × Mem) := fun v m => match v with
  | .tuple ⟨[.slice q0a q0n q0c, .int .i64 q1]⟩ => some ((⟨q0a, q0n, q0c⟩ : Sl), q1, m)
  | _ => none

theorem patinaref12_Map_Of_eq (k : Nat) (p0 : Option Addr) (p1 : Int) (m : Mem) : fnX (patinaref12_Map_Of_C k) Try.f56 [(Value.pointer p0), (Value.int .i64 p1)] m patinaref12_Map_Of_dec = patinaref12_Map_Of k p0 p1 m := by kernel_rfl

theorem patinaref12_Map_Of_ok {k : Nat} {p0 : Option Addr} {p1 : Int} {m : Mem} {r : (Sl × Int × Mem)} (h : patinaref12_Map_Of k p0 p1 m = some r) : CallP Try.prog 56 [(Value.pointer p0), (Value.int .i64 p1)] m fun v m' => v = (Value.tuple ⟨[(Value.slice r.1.a r.1.len r.1.cap), (Value.int .i64 r.2.1)]⟩) ∧ m' = r.2.2 := by
  refine (fn_sound (C := patinaref12_Map_Of_C k) (c := body Try.f56) tOk mixed (patinaref12_Map_Of_callOk k) Try.func56 (by kernel_rfl) (by kernel_rfl) (by kernel_rfl) (by kernel_rfl) ?_ (Eq.trans (patinaref12_Map_Of_eq k p0 p1 m) h)).mono ?_
  · intro p hp
    rw [patinaref12_Map_Of_loops] at hp
    simp only [List.mem_cons, List.not_mem_nil, or_false] at hp
    rcases hp with rfl
    · exact patinaref12_Map_Of_l0_ok k
  · intro v m' hp
    unfold patinaref12_Map_Of_dec at hp
    split at hp
    · simp only [Option.some.injEq] at hp; subst hp; exact ⟨rfl, rfl⟩
    · cases hp

/-! ### patinaref12_Map_Set -/
def patinaref12_Map_Set_j1 (k : Nat) (p0 : Option Addr) (p1 : Int) (p2 : Int) (mj : Mem) : Option (Int × Mem) :=
  (p0).bind fun a3 =>
  bif inRange p1 25 then (
  (st mj (plus (plus a3 0) (Int.toNat p1 * 1)) (Value.int .i64 p2)).bind fun m4 =>
  some (0, m4)) else none

def patinaref12_Map_Set (k : Nat) (p0 : Option Addr) (p1 : Int) (p2 : Int) (m : Mem) : Option (Int × Mem) :=
  (patinaref04_Holds k p2 p1 m).bind fun r1 =>
  bif r1.2.1 != 0 then (
  some (1, r1.2.2)) else (
  bif !r1.1 then (
  some (1, r1.2.2)) else (
  (patinaref12_Map_owner k p0 p2 r1.2.2).bind fun r2 =>
  bif decide (r2.1 ≥ 0) then (
  bif r2.1 != p1 then (
  some (12, r2.2)) else (
  patinaref12_Map_Set_j1 k p0 p1 p2 r2.2)) else (
  patinaref12_Map_Set_j1 k p0 p1 p2 r2.2)))

def patinaref12_Map_Set_call {R : Type} (k : Nat) : Fun R := fun f args m K => match f, args with
  | 63, [.int .i64 p0, .int .i64 p1] => (patinaref04_Holds k p0 p1 m).bind fun r => K (Value.tuple ⟨[(Value.bool r.1), (Value.int .i64 r.2.1)]⟩) r.2.2
  | 64, [.pointer p0, .int .i64 p1] => (patinaref12_Map_owner k p0 p1 m).bind fun r => K (Value.int .i64 r.1) r.2
  | _, _ => none

theorem patinaref12_Map_Set_callOk {R : Type} (k : Nat) : CallOk Try.prog (patinaref12_Map_Set_call (R := R) k) := by
  intro f vs m K r h
  unfold patinaref12_Map_Set_call at h
  split at h
  · obtain ⟨r, h1, h2⟩ := Option.bind_eq_some_iff.1 h; exact ⟨_, _, h2, fun K' => by simp only [patinaref12_Map_Set_call, h1, Option.bind_some], patinaref04_Holds_ok h1⟩
  · obtain ⟨r, h1, h2⟩ := Option.bind_eq_some_iff.1 h; exact ⟨_, _, h2, fun K' => by simp only [patinaref12_Map_Set_call, h1, Option.bind_some], patinaref12_Map_owner_ok h1⟩
  · cases h

def patinaref12_Map_Set_loop (k : Nat) : Nat → List Value → Mem → (Nat → List Value → Mem → Option (Int × Mem)) → Option (Int × Mem) := fun _ _ _ _ => none

def patinaref12_Map_Set_C (k : Nat) : Ctx (Int × Mem) := ⟨tt, patinaref12_Map_Set_call k, patinaref12_Map_Set_loop k, [], []⟩

def patinaref12_Map_Set_dec : Value → Mem → Option (Int × Mem) := fun v m => match v with
  | .int .i64 q0 => some (q0, m)
  | _ => none

theorem patinaref12_Map_Set_eq (k : Nat) (p0 : Option Addr) (p1 : Int) (p2 : Int) (m : Mem) : fnX (patinaref12_Map_Set_C k) Try.f52 [(Value.pointer p0), (Value.int .i64 p1), (Value.int .i64 p2)] m patinaref12_Map_Set_dec = patinaref12_Map_Set k p0 p1 p2 m := by kernel_rfl

theorem patinaref12_Map_Set_ok {k : Nat} {p0 : Option Addr} {p1 : Int} {p2 : Int} {m : Mem} {r : (Int × Mem)} (h : patinaref12_Map_Set k p0 p1 p2 m = some r) : CallP Try.prog 52 [(Value.pointer p0), (Value.int .i64 p1), (Value.int .i64 p2)] m fun v m' => v = (Value.int .i64 r.1) ∧ m' = r.2 := by
  refine (fn_sound (C := patinaref12_Map_Set_C k) (c := body Try.f52) tOk mixed (patinaref12_Map_Set_callOk k) Try.func52 (by kernel_rfl) (by kernel_rfl) (by kernel_rfl) (by kernel_rfl) ?_ (Eq.trans (patinaref12_Map_Set_eq k p0 p1 p2 m) h)).mono ?_
  · intro p hp; rw [show loopsOf 0 (body Try.f52) = [] by kernel_rfl] at hp; cases hp
  · intro v m' hp
    unfold patinaref12_Map_Set_dec at hp
    split at hp
    · simp only [Option.some.injEq] at hp; subst hp; exact ⟨rfl, rfl⟩
    · cases hp

/-! ### patinaref12_Map_Drop -/
def patinaref12_Map_Drop (k : Nat) (p0 : Option Addr) (p1 : Int) (m : Mem) : Option (Int × Mem) :=
  bif decide (p1 < 0) then (
  some (1, m)) else (
  bif decide (p1 > 24) then (
  some (1, m)) else (
  (p0).bind fun a1 =>
  bif inRange p1 25 then (
  (ldInt .i64 m (plus (plus a1 0) (Int.toNat p1 * 1))).bind fun t2 =>
  bif decide (t2 < 0) then (
  some (11, m)) else (
  (p0).bind fun a3 =>
  bif inRange p1 25 then (
  (st m (plus (plus a3 0) (Int.toNat p1 * 1)) (Value.int .i64 (-1))).bind fun m4 =>
  some (0, m4)) else none)) else none))

def patinaref12_Map_Drop_call {R : Type} (k : Nat) : Fun R := fun _ _ _ _ => none

theorem patinaref12_Map_Drop_callOk {R : Type} (k : Nat) : CallOk Try.prog (patinaref12_Map_Drop_call (R := R) k) := by
  intro f vs m K r h
  unfold patinaref12_Map_Drop_call at h
  cases h

def patinaref12_Map_Drop_loop (k : Nat) : Nat → List Value → Mem → (Nat → List Value → Mem → Option (Int × Mem)) → Option (Int × Mem) := fun _ _ _ _ => none

def patinaref12_Map_Drop_C (k : Nat) : Ctx (Int × Mem) := ⟨tt, patinaref12_Map_Drop_call k, patinaref12_Map_Drop_loop k, [], []⟩

def patinaref12_Map_Drop_dec : Value → Mem → Option (Int × Mem) := fun v m => match v with
  | .int .i64 q0 => some (q0, m)
  | _ => none

theorem patinaref12_Map_Drop_eq (k : Nat) (p0 : Option Addr) (p1 : Int) (m : Mem) : fnX (patinaref12_Map_Drop_C k) Try.f53 [(Value.pointer p0), (Value.int .i64 p1)] m patinaref12_Map_Drop_dec = patinaref12_Map_Drop k p0 p1 m := by kernel_rfl

theorem patinaref12_Map_Drop_ok {k : Nat} {p0 : Option Addr} {p1 : Int} {m : Mem} {r : (Int × Mem)} (h : patinaref12_Map_Drop k p0 p1 m = some r) : CallP Try.prog 53 [(Value.pointer p0), (Value.int .i64 p1)] m fun v m' => v = (Value.int .i64 r.1) ∧ m' = r.2 := by
  refine (fn_sound (C := patinaref12_Map_Drop_C k) (c := body Try.f53) tOk mixed (patinaref12_Map_Drop_callOk k) Try.func53 (by kernel_rfl) (by kernel_rfl) (by kernel_rfl) (by kernel_rfl) ?_ (Eq.trans (patinaref12_Map_Drop_eq k p0 p1 m) h)).mono ?_
  · intro p hp; rw [show loopsOf 0 (body Try.f53) = [] by kernel_rfl] at hp; cases hp
  · intro v m' hp
    unfold patinaref12_Map_Drop_dec at hp
    split at hp
    · simp only [Option.some.injEq] at hp; subst hp; exact ⟨rfl, rfl⟩
    · cases hp

/-! ### patinaref12_Map_At -/
def patinaref12_Map_At (k : Nat) (p0 : Option Addr) (p1 : Int) (m : Mem) : Option (Int × Int × Mem) :=
  bif decide (p1 < 0) then (
  some (0, 1, m)) else (
  bif decide (p1 > 24) then (
  some (0, 1, m)) else (
  (p0).bind fun a1 =>
  bif inRange p1 25 then (
  (ldInt .i64 m (plus (plus a1 0) (Int.toNat p1 * 1))).bind fun t2 =>
  bif decide (t2 < 0) then (
  some (0, 11, m)) else (
  (p0).bind fun a3 =>
  bif inRange p1 25 then (
  (ldInt .i64 m (plus (plus a3 0) (Int.toNat p1 * 1))).bind fun t4 =>
  some (t4, 0, m)) else none)) else none))

def patinaref12_Map_At_call {R : Type} (k : Nat) : Fun R := fun _ _ _ _ => none

theorem patinaref12_Map_At_callOk {R : Type} (k : Nat) : CallOk Try.prog (patinaref12_Map_At_call (R := R) k) := by
  intro f vs m K r h
  unfold patinaref12_Map_At_call at h
  cases h

def patinaref12_Map_At_loop (k : Nat) : Nat → List Value → Mem → (Nat → List Value → Mem → Option (Int × Int × Mem)) → Option (Int × Int × Mem) := fun _ _ _ _ => none

def patinaref12_Map_At_C (k : Nat) : Ctx (Int × Int × Mem) := ⟨tt, patinaref12_Map_At_call k, patinaref12_Map_At_loop k, [], []⟩

def patinaref12_Map_At_dec : Value → Mem → Option (Int × Int × Mem) := fun v m => match v with
  | .tuple ⟨[.int .i64 q0, .int .i64 q1]⟩ => some (q0, q1, m)
  | _ => none

theorem patinaref12_Map_At_eq (k : Nat) (p0 : Option Addr) (p1 : Int) (m : Mem) : fnX (patinaref12_Map_At_C k) Try.f54 [(Value.pointer p0), (Value.int .i64 p1)] m patinaref12_Map_At_dec = patinaref12_Map_At k p0 p1 m := by kernel_rfl

theorem patinaref12_Map_At_ok {k : Nat} {p0 : Option Addr} {p1 : Int} {m : Mem} {r : (Int × Int × Mem)} (h : patinaref12_Map_At k p0 p1 m = some r) : CallP Try.prog 54 [(Value.pointer p0), (Value.int .i64 p1)] m fun v m' => v = (Value.tuple ⟨[(Value.int .i64 r.1), (Value.int .i64 r.2.1)]⟩) ∧ m' = r.2.2 := by
  refine (fn_sound (C := patinaref12_Map_At_C k) (c := body Try.f54) tOk mixed (patinaref12_Map_At_callOk k) Try.func54 (by kernel_rfl) (by kernel_rfl) (by kernel_rfl) (by kernel_rfl) ?_ (Eq.trans (patinaref12_Map_At_eq k p0 p1 m) h)).mono ?_
  · intro p hp; rw [show loopsOf 0 (body Try.f54) = [] by kernel_rfl] at hp; cases hp
  · intro v m' hp
    unfold patinaref12_Map_At_dec at hp
    split at hp
    · simp only [Option.some.injEq] at hp; subst hp; exact ⟨rfl, rfl⟩
    · cases hp

/-! ### patinaref12_Map_Owner -/
def patinaref12_Map_Owner (k : Nat) (p0 : Option Addr) (p1 : Int) (m : Mem) : Option (Int × Int × Mem) :=
  (patinaref04_Is k p1 m).bind fun r1 =>
  bif !r1.1 then (
  some (0, 1, r1.2)) else (
  (patinaref12_Map_owner k p0 p1 r1.2).bind fun r2 =>
  bif decide (r2.1 < 0) then (
  some (0, 11, r2.2)) else (
  some (r2.1, 0, r2.2)))

def patinaref12_Map_Owner_call {R : Type} (k : Nat) : Fun R := fun f args m K => match f, args with
  | 64, [.pointer p0, .int .i64 p1] => (patinaref12_Map_owner k p0 p1 m).bind fun r => K (Value.int .i64 r.1) r.2
  | 65, [.int .i64 p0] => (patinaref04_Is k p0 m).bind fun r => K (Value.bool r.1) r.2
  | _, _ => none

theorem patinaref12_Map_Owner_callOk {R : Type} (k : Nat) : CallOk Try.prog (patinaref12_Map_Owner_call (R := R) k) := by
  intro f vs m K r h
  unfold patinaref12_Map_Owner_call at h
  split at h
  · obtain ⟨r, h1, h2⟩ := Option.bind_eq_some_iff.1 h; exact ⟨_, _, h2, fun K' => by simp only [patinaref12_Map_Owner_call, h1, Option.bind_some], patinaref12_Map_owner_ok h1⟩
  · obtain ⟨r, h1, h2⟩ := Option.bind_eq_some_iff.1 h; exact ⟨_, _, h2, fun K' => by simp only [patinaref12_Map_Owner_call, h1, Option.bind_some], patinaref04_Is_ok h1⟩
  · cases h

def patinaref12_Map_Owner_loop (k : Nat) : Nat → List Value → Mem → (Nat → List Value → Mem → Option (Int × Int × Mem)) → Option (Int × Int × Mem) := fun _ _ _ _ => none

def patinaref12_Map_Owner_C (k : Nat) : Ctx (Int × Int × Mem) := ⟨tt, patinaref12_Map_Owner_call k, patinaref12_Map_Owner_loop k, [], []⟩

def patinaref12_Map_Owner_dec : Value → Mem → Option (Int × Int × Mem) := fun v m => match v with
  | .tuple ⟨[.int .i64 q0, .int .i64 q1]⟩ => some (q0, q1, m)
  | _ => none

theorem patinaref12_Map_Owner_eq (k : Nat) (p0 : Option Addr) (p1 : Int) (m : Mem) : fnX (patinaref12_Map_Owner_C k) Try.f55 [(Value.pointer p0), (Value.int .i64 p1)] m patinaref12_Map_Owner_dec = patinaref12_Map_Owner k p0 p1 m := by kernel_rfl

theorem patinaref12_Map_Owner_ok {k : Nat} {p0 : Option Addr} {p1 : Int} {m : Mem} {r : (Int × Int × Mem)} (h : patinaref12_Map_Owner k p0 p1 m = some r) : CallP Try.prog 55 [(Value.pointer p0), (Value.int .i64 p1)] m fun v m' => v = (Value.tuple ⟨[(Value.int .i64 r.1), (Value.int .i64 r.2.1)]⟩) ∧ m' = r.2.2 := by
  refine (fn_sound (C := patinaref12_Map_Owner_C k) (c := body Try.f55) tOk mixed (patinaref12_Map_Owner_callOk k) Try.func55 (by kernel_rfl) (by kernel_rfl) (by kernel_rfl) (by kernel_rfl) ?_ (Eq.trans (patinaref12_Map_Owner_eq k p0 p1 m) h)).mono ?_
  · intro p hp; rw [show loopsOf 0 (body Try.f55) = [] by kernel_rfl] at hp; cases hp
  · intro v m' hp
    unfold patinaref12_Map_Owner_dec at hp
    split at hp
    · simp only [Option.some.injEq] at hp; subst hp; exact ⟨rfl, rfl⟩
    · cases hp

end Go.Proofs.Ytnilidpafijdlac
