/- The program's functions as plain Lean functions over a clean memory, each held against the program by the kernel. Written by mx.py. -/
import Derived.Test.YtnilidpafijdlacF0
import Derived.Test.YtnilidpafijdlacFgeom
set_option linter.unusedVariables false
set_option maxRecDepth 100000
namespace Go.Proofs.Ytnilidpafijdlac
open Go.Mx

/-! ### pmap_New -/
def pmap_New (k : Nat) (m : Mem) : Option ((Option Addr) × Mem) :=
  let m1 : Mem := m ++ [.live ((repl 25 [.int .i64 0]) ++ (repl 96 [.int .i64 0]))]
  some ((some ⟨List.length m, 0, Option.none⟩), m1)

def pmap_New_call {R : Type} (k : Nat) : Fun R := fun _ _ _ _ => none

theorem pmap_New_callOk {R : Type} (k : Nat) : CallOk Try.prog (pmap_New_call (R := R) k) := by
  intro f vs m K r h
  unfold pmap_New_call at h
  cases h

def pmap_New_loop (k : Nat) : Nat → List Value → Mem → (Nat → List Value → Mem → Option ((Option Addr) × Mem)) → Option ((Option Addr) × Mem) := fun _ _ _ _ => none

def pmap_New_C (k : Nat) : Ctx ((Option Addr) × Mem) := ⟨tt, pmap_New_call k, pmap_New_loop k, [], []⟩

def pmap_New_dec : Value → Mem → Option ((Option Addr) × Mem) := fun v m => match v with
  | .pointer q0 => some (q0, m)
  | _ => none

theorem pmap_New_eq (k : Nat) (m : Mem) : fnX (pmap_New_C k) Try.f32 [] m pmap_New_dec = pmap_New k  m := by kernel_rfl

theorem pmap_New_ok {k : Nat} {m : Mem} {r : ((Option Addr) × Mem)} (h : pmap_New k  m = some r) : CallP Try.prog 32 [] m fun v m' => v = (Value.pointer r.1) ∧ m' = r.2 := by
  refine (fn_sound (C := pmap_New_C k) (c := body Try.f32) tOk mixed (pmap_New_callOk k) Try.func32 (by kernel_rfl) (by kernel_rfl) (by kernel_rfl) (by kernel_rfl) ?_ (Eq.trans (pmap_New_eq k  m) h)).mono ?_
  · intro p hp; rw [show loopsOf 0 (body Try.f32) = [] by kernel_rfl] at hp; cases hp
  · intro v m' hp
    unfold pmap_New_dec at hp
    split at hp
    · simp only [Option.some.injEq] at hp; subst hp; exact ⟨rfl, rfl⟩
    · cases hp

/-! ### pmap_Map_Set -/
def pmap_Map_Set_j2 (k : Nat) (p0 : Option Addr) (p1 : Int) (p2 : Int) (mj : Mem) : Option (Value × Mem) :=
  (p0).bind fun a2 =>
  bif inRange p1 25 then (
  (st mj (plus (plus a2 0) (Int.toNat p1 * 1)) (Value.int .i64 (IntKind.wrap .i64 (p2 + 1)))).bind fun m3 =>
  (p0).bind fun a4 =>
  bif inRange p2 96 then (
  (st m3 (plus (plus a4 25) (Int.toNat p2 * 1)) (Value.int .i64 (IntKind.wrap .i64 (p1 + 1)))).bind fun m5 =>
  some (Value.nilIface, m5)) else none) else none

def pmap_Map_Set_j1 (k : Nat) (p0 : Option Addr) (p1 : Int) (p2 : Int) (mj : Mem) : Option (Value × Mem) :=
  (p0).bind fun a6 =>
  bif inRange p1 25 then (
  (ldInt .i64 mj (plus (plus a6 0) (Int.toNat p1 * 1))).bind fun t7 =>
  bif t7 != 0 then (
  (p0).bind fun a8 =>
  bif inRange p1 25 then (
  (ldInt .i64 mj (plus (plus a8 0) (Int.toNat p1 * 1))).bind fun t9 =>
  (p0).bind fun a10 =>
  bif inRange (IntKind.wrap .i64 (t9 - 1)) 96 then (
  (st mj (plus (plus a10 25) (Int.toNat (IntKind.wrap .i64 (t9 - 1)) * 1)) (Value.int .i64 0)).bind fun m11 =>
  pmap_Map_Set_j2 k p0 p1 p2 m11) else none) else none) else (
  pmap_Map_Set_j2 k p0 p1 p2 mj)) else none

def pmap_Map_Set (k : Nat) (p0 : Option Addr) (p1 : Int) (p2 : Int) (m : Mem) : Option (Value × Mem) :=
  (geom_Holds k p2 p1 m).bind fun r1 =>
  (isNil r1.2.1).bind fun b12 =>
  bif !b12 then (
  some ((Value.iface ty_api_Code (Value.int .i64 1)), r1.2.2)) else (
  bif !r1.1 then (
  some ((Value.iface ty_api_Code (Value.int .i64 1)), r1.2.2)) else (
  (p0).bind fun a13 =>
  bif inRange p2 96 then (
  (ldInt .i64 r1.2.2 (plus (plus a13 25) (Int.toNat p2 * 1))).bind fun t14 =>
  bif t14 != 0 then (
  (p0).bind fun a15 =>
  bif inRange p2 96 then (
  (ldInt .i64 r1.2.2 (plus (plus a15 25) (Int.toNat p2 * 1))).bind fun t16 =>
  bif t16 != (IntKind.wrap .i64 (p1 + 1)) then (
  some ((Value.iface ty_api_Code (Value.int .i64 12)), r1.2.2)) else (
  pmap_Map_Set_j1 k p0 p1 p2 r1.2.2)) else none) else (
  pmap_Map_Set_j1 k p0 p1 p2 r1.2.2)) else none))

def pmap_Map_Set_call {R : Type} (k : Nat) : Fun R := fun f args m K => match f, args with
  | 58, [.int .i64 p0, .int .i64 p1] => (geom_Holds k p0 p1 m).bind fun r => K (Value.tuple ⟨[(Value.bool r.1), r.2.1]⟩) r.2.2
  | _, _ => none

theorem pmap_Map_Set_callOk {R : Type} (k : Nat) : CallOk Try.prog (pmap_Map_Set_call (R := R) k) := by
  intro f vs m K r h
  unfold pmap_Map_Set_call at h
  split at h
  · obtain ⟨r, h1, h2⟩ := Option.bind_eq_some_iff.1 h; exact ⟨_, _, h2, fun K' => by simp only [pmap_Map_Set_call, h1, Option.bind_some], geom_Holds_ok h1⟩
  · cases h

def pmap_Map_Set_loop (k : Nat) : Nat → List Value → Mem → (Nat → List Value → Mem → Option (Value × Mem)) → Option (Value × Mem) := fun _ _ _ _ => none

def pmap_Map_Set_C (k : Nat) : Ctx (Value × Mem) := ⟨tt, pmap_Map_Set_call k, pmap_Map_Set_loop k, [], []⟩

def pmap_Map_Set_dec : Value → Mem → Option (Value × Mem) := fun v m => match v with
  | q0 => some (q0, m)

theorem pmap_Map_Set_eq (k : Nat) (p0 : Option Addr) (p1 : Int) (p2 : Int) (m : Mem) : fnX (pmap_Map_Set_C k) Try.f38 [(Value.pointer p0), (Value.int .i64 p1), (Value.int .i64 p2)] m pmap_Map_Set_dec = pmap_Map_Set k p0 p1 p2 m := by kernel_rfl

theorem pmap_Map_Set_ok {k : Nat} {p0 : Option Addr} {p1 : Int} {p2 : Int} {m : Mem} {r : (Value × Mem)} (h : pmap_Map_Set k p0 p1 p2 m = some r) : CallP Try.prog 38 [(Value.pointer p0), (Value.int .i64 p1), (Value.int .i64 p2)] m fun v m' => v = r.1 ∧ m' = r.2 := by
  refine (fn_sound (C := pmap_Map_Set_C k) (c := body Try.f38) tOk mixed (pmap_Map_Set_callOk k) Try.func38 (by kernel_rfl) (by kernel_rfl) (by kernel_rfl) (by kernel_rfl) ?_ (Eq.trans (pmap_Map_Set_eq k p0 p1 p2 m) h)).mono ?_
  · intro p hp; rw [show loopsOf 0 (body Try.f38) = [] by kernel_rfl] at hp; cases hp
  · intro v m' hp
    simp only [pmap_Map_Set_dec, Option.some.injEq] at hp; subst hp; exact ⟨rfl, rfl⟩

/-! ### pmap_Map_Of -/
def pmap_Map_Of_j1 (k : Nat) (x25a : Option Addr) (x25n : Nat) (x25c : Nat) (x26 : Int) (x27 : Int) (nx : Option Addr → Nat → Nat → Option Addr → Nat → Nat → Int → Int → Mem → Option (Sl × Value × Mem)) (x8_a : Option Addr) (x8_n : Nat) (x8_c : Nat) (mj : Mem) : Option (Sl × Value × Mem) :=
  nx x8_a x8_n x8_c x25a x25n x25c x26 (IntKind.wrap .i64 (x27 + 1)) mj

def pmap_Map_Of_l0_b (k : Nat) (nx : Option Addr → Nat → Nat → Option Addr → Nat → Nat → Int → Int → Mem → Option (Sl × Value × Mem)) (kx2 : Option Addr → Nat → Nat → Mem → Option (Sl × Value × Mem)) (x8a : Option Addr) (x8n : Nat) (x8c : Nat) (x25a : Option Addr) (x25n : Nat) (x25c : Nat) (x26 : Int) (x27 : Int) (m : Mem) : Option (Sl × Value × Mem) :=
  bif decide (x27 < x26) then (
  bif inRange x27 x25n then (
  (x25a).bind fun a4 =>
  (ldInt .i64 m (plus a4 (Int.toNat x27 * 1))).bind fun t5 =>
  bif t5 != 0 then (
  let m6 : Mem := m ++ [.live [(Value.int .i64 (IntKind.wrap .i64 (t5 - 1)))]]
  (rdSl m6 (some ⟨List.length m, 0, Option.none⟩) 1 1).bind fun l7 =>
  (appM 1 8 m6 x8a x8n x8c 1 l7).bind fun r8 =>
  pmap_Map_Of_j1 k x25a x25n x25c x26 x27 nx r8.1.a r8.1.len r8.1.cap r8.2) else (
  pmap_Map_Of_j1 k x25a x25n x25c x26 x27 nx x8a x8n x8c m)) else none) else (
  kx2 x8a x8n x8c m)

def pmap_Map_Of_l0 (k : Nat) (kx2 : Option Addr → Nat → Nat → Mem → Option (Sl × Value × Mem)) : Nat → Option Addr → Nat → Nat → Option Addr → Nat → Nat → Int → Int → Mem → Option (Sl × Value × Mem)
  | 0, _, _, _, _, _, _, _, _, _ => none
  | n + 1, x8a, x8n, x8c, x25a, x25n, x25c, x26, x27, m => pmap_Map_Of_l0_b k (fun x8a x8n x8c x25a x25n x25c x26 x27 m => pmap_Map_Of_l0 k kx2 n x8a x8n x8c x25a x25n x25c x26 x27 m) kx2 x8a x8n x8c x25a x25n x25c x26 x27 m

theorem pmap_Map_Of_l0_rule (k : Nat) (kx2 : Option Addr → Nat → Nat → Mem → Option (Sl × Value × Mem)) {P : (Sl × Value × Mem) → Prop} (I : Nat → Option Addr → Nat → Nat → Option Addr → Nat → Nat → Int → Int → Mem → Prop)
    (step : ∀ d (nx : Option Addr → Nat → Nat → Option Addr → Nat → Nat → Int → Int → Mem → Option (Sl × Value × Mem)) (x8a : Option Addr) (x8n : Nat) (x8c : Nat) (x25a : Option Addr) (x25n : Nat) (x25c : Nat) (x26 : Int) (x27 : Int) (m : Mem), I d x8a x8n x8c x25a x25n x25c x26 x27 m → (∀ d' (x8a : Option Addr) (x8n : Nat) (x8c : Nat) (x25a : Option Addr) (x25n : Nat) (x25c : Nat) (x26 : Int) (x27 : Int) (m : Mem), d' < d → I d' x8a x8n x8c x25a x25n x25c x26 x27 m → Ok (nx x8a x8n x8c x25a x25n x25c x26 x27 m) P) → Ok (pmap_Map_Of_l0_b k nx kx2 x8a x8n x8c x25a x25n x25c x26 x27 m) P) :
    ∀ n d (x8a : Option Addr) (x8n : Nat) (x8c : Nat) (x25a : Option Addr) (x25n : Nat) (x25c : Nat) (x26 : Int) (x27 : Int) (m : Mem), d < n → I d x8a x8n x8c x25a x25n x25c x26 x27 m → Ok (pmap_Map_Of_l0 k kx2 n x8a x8n x8c x25a x25n x25c x26 x27 m) P
  | 0, d, x8a, x8n, x8c, x25a, x25n, x25c, x26, x27, m, h, _ => absurd h (Nat.not_lt_zero _)
  | n + 1, d, x8a, x8n, x8c, x25a, x25n, x25c, x26, x27, m, h, hI => step d _ x8a x8n x8c x25a x25n x25c x26 x27 m hI fun d' x8a x8n x8c x25a x25n x25c x26 x27 m h' hI' => pmap_Map_Of_l0_rule k kx2 I step n d' x8a x8n x8c x25a x25n x25c x26 x27 m (by omega) hI'

def pmap_Map_Of (k : Nat) (p0 : Option Addr) (p1 : Int) (m : Mem) : Option (Sl × Value × Mem) :=
  (geom_Place k p1 0 m).bind fun r1 =>
  (isNil r1.2.1).bind fun b2 =>
  bif !b2 then (
  some ((⟨none, 0, 0⟩ : Sl), r1.2.1, r1.2.2)) else (
  (p0).bind fun a3 =>
  bif sliceK.okZ (some (plus a3 25)) 1 true && inUpto (IntKind.wrap .i64 (r1.1 + 8)) 96 && inUpto r1.1 (Int.toNat (IntKind.wrap .i64 (r1.1 + 8))) then (
  pmap_Map_Of_l0 k (fun y8a y8n y8c m9 => 
  some ((⟨y8a, y8n, y8c⟩ : Sl), Value.nilIface, m9)) k none 0 0 ((sliceK.clear (some (plus a3 25)) true).map fun a => plus a ((Int.toNat r1.1) * 1)) ((Int.toNat (IntKind.wrap .i64 (r1.1 + 8))) - (Int.toNat r1.1)) (96 - (Int.toNat r1.1)) ((((Int.toNat (IntKind.wrap .i64 (r1.1 + 8))) - (Int.toNat r1.1)) : Nat) : Int) 0 r1.2.2) else none)

def pmap_Map_Of_call {R : Type} (k : Nat) : Fun R := fun f args m K => match f, args with
  | 59, [.int .i64 p0, .int .i64 p1] => (geom_Place k p0 p1 m).bind fun r => K (Value.tuple ⟨[(Value.int .i64 r.1), r.2.1]⟩) r.2.2
  | _, _ => none

theorem pmap_Map_Of_callOk {R : Type} (k : Nat) : CallOk Try.prog (pmap_Map_Of_call (R := R) k) := by
  intro f vs m K r h
  unfold pmap_Map_Of_call at h
  split at h
  · obtain ⟨r, h1, h2⟩ := Option.bind_eq_some_iff.1 h; exact ⟨_, _, h2, fun K' => by simp only [pmap_Map_Of_call, h1, Option.bind_some], geom_Place_ok h1⟩
  · cases h

def pmap_Map_Of_l0_L (k : Nat) (K : Nat → List Value → Mem → Option (Sl × Value × Mem)) (n : Nat) (vs : List Value) (m : Mem) : Option (Sl × Value × Mem) := match vs with
  | [.slice x8a x8n x8c, .slice x25a x25n x25c, .int .i64 x26, .int .i64 x27] => pmap_Map_Of_l0 k (fun y8a y8n y8c m => K 2 [(Value.slice y8a y8n y8c)] m) n x8a x8n x8c x25a x25n x25c x26 x27 m
  | _ => none

def pmap_Map_Of_loop (k : Nat) : Nat → List Value → Mem → (Nat → List Value → Mem → Option (Sl × Value × Mem)) → Option (Sl × Value × Mem) := fun cur vs m K => match cur with
  | 0 => pmap_Map_Of_l0_L k K k vs m
  | _ => none

def pmap_Map_Of_C (k : Nat) : Ctx (Sl × Value × Mem) := ⟨tt, pmap_Map_Of_call k, pmap_Map_Of_loop k, [(0, [8, 25, 26, 27])], [(2, [8])]⟩

noncomputable def pmap_Map_Of_l0_c : Code := ((loopsOf 0 (body Try.f42)).map (·.2)).getD 0 .skip

theorem pmap_Map_Of_loops : loopsOf 0 (body Try.f42) = [(0, pmap_Map_Of_l0_c)] := by kernel_rfl

theorem pmap_Map_Of_l0_ok (k : Nat) : LoopOk (pmap_Map_Of_C k) 0 pmap_Map_Of_l0_c := by
  refine ⟨[8, 25, 26, 27], by kernel_rfl, fun K r => ⟨pmap_Map_Of_l0_L k K, fun vs m h => ⟨k, h⟩, ?_⟩⟩
  intro n vs m h
  unfold pmap_Map_Of_l0_L at h
  split at h
  · cases n with
    | zero => cases h
    | succ n => exact ⟨n, rfl, Eq.trans (by kernel_rfl) h⟩
  · cases h

def pmap_Map_Of_dec : Value → Mem → Option (Sl × Value × Mem) := fun v m => match v with
  | .tuple ⟨[.slice q0a q0n q0c, q1]⟩ => some ((⟨q0a, q0n, q0c⟩ : Sl), q1, m)
  | _ => none

theorem pmap_Map_Of_eq (k : Nat) (p0 : Option Addr) (p1 : Int) (m : Mem) : fnX (pmap_Map_Of_C k) Try.f42 [(Value.pointer p0), (Value.int .i64 p1)] m pmap_Map_Of_dec = pmap_Map_Of k p0 p1 m := by kernel_rfl

theorem pmap_Map_Of_ok {k : Nat} {p0 : Option Addr} {p1 : Int} {m : Mem} {r : (Sl × Value × Mem)} (h : pmap_Map_Of k p0 p1 m = some r) : CallP Try.prog 42 [(Value.pointer p0), (Value.int .i64 p1)] m fun v m' => v = (Value.tuple ⟨[(Value.slice r.1.a r.1.len r.1.cap), r.2.1]⟩) ∧ m' = r.2.2 := by
  refine (fn_sound (C := pmap_Map_Of_C k) (c := body Try.f42) tOk mixed (pmap_Map_Of_callOk k) Try.func42 (by kernel_rfl) (by kernel_rfl) (by kernel_rfl) (by kernel_rfl) ?_ (Eq.trans (pmap_Map_Of_eq k p0 p1 m) h)).mono ?_
  · intro p hp
    rw [pmap_Map_Of_loops] at hp
    simp only [List.mem_cons, List.not_mem_nil, or_false] at hp
    rcases hp with rfl
    · exact pmap_Map_Of_l0_ok k
  · intro v m' hp
    unfold pmap_Map_Of_dec at hp
    split at hp
    · simp only [Option.some.injEq] at hp; subst hp; exact ⟨rfl, rfl⟩
    · cases hp

/-! ### pmap_Map_Live -/
def pmap_Map_Live_j1 (k : Nat) (x3a : Option Addr) (x3n : Nat) (x3c : Nat) (x10 : List Value) (x11 : Int) (nx : Option Addr → Nat → Nat → List Value → Int → Mem → Option (Sl × Mem)) (mj : Mem) : Option (Sl × Mem) :=
  nx x3a x3n x3c x10 (IntKind.wrap .i64 (x11 + 1)) mj

def pmap_Map_Live_l0_b (k : Nat) (nx : Option Addr → Nat → Nat → List Value → Int → Mem → Option (Sl × Mem)) (kx2 : Option Addr → Nat → Nat → Mem → Option (Sl × Mem)) (x3a : Option Addr) (x3n : Nat) (x3c : Nat) (x10 : List Value) (x11 : Int) (m : Mem) : Option (Sl × Mem) :=
  bif decide (x11 < 25) then (
  bif inRange x11 25 then (
  (cInt .i64 x10 (Int.toNat x11 * 1)).bind fun t4 =>
  bif t4 != 0 then (
  bif inRange (IntKind.wrap .i64 (Int.tdiv (IntKind.wrap .i64 (t4 - 1)) 8)) x3n then (
  (x3a).bind fun a5 =>
  (ldInt .i64 m (plus a5 (Int.toNat (IntKind.wrap .i64 (Int.tdiv (IntKind.wrap .i64 (t4 - 1)) 8)) * 1))).bind fun t6 =>
  bif inRange (IntKind.wrap .i64 (Int.tdiv (IntKind.wrap .i64 (t4 - 1)) 8)) x3n then (
  (x3a).bind fun a7 =>
  (st m (plus a7 (Int.toNat (IntKind.wrap .i64 (Int.tdiv (IntKind.wrap .i64 (t4 - 1)) 8)) * 1)) (Value.int .i64 (IntKind.wrap .i64 (t6 + 1)))).bind fun m8 =>
  pmap_Map_Live_j1 k x3a x3n x3c x10 x11 nx m8) else none) else none) else (
  pmap_Map_Live_j1 k x3a x3n x3c x10 x11 nx m)) else none) else (
  kx2 x3a x3n x3c m)

def pmap_Map_Live_l0 (k : Nat) (kx2 : Option Addr → Nat → Nat → Mem → Option (Sl × Mem)) : Nat → Option Addr → Nat → Nat → List Value → Int → Mem → Option (Sl × Mem)
  | 0, _, _, _, _, _, _ => none
  | n + 1, x3a, x3n, x3c, x10, x11, m => pmap_Map_Live_l0_b k (fun x3a x3n x3c x10 x11 m => pmap_Map_Live_l0 k kx2 n x3a x3n x3c x10 x11 m) kx2 x3a x3n x3c x10 x11 m

theorem pmap_Map_Live_l0_rule (k : Nat) (kx2 : Option Addr → Nat → Nat → Mem → Option (Sl × Mem)) {P : (Sl × Mem) → Prop} (I : Nat → Option Addr → Nat → Nat → List Value → Int → Mem → Prop)
    (step : ∀ d (nx : Option Addr → Nat → Nat → List Value → Int → Mem → Option (Sl × Mem)) (x3a : Option Addr) (x3n : Nat) (x3c : Nat) (x10 : List Value) (x11 : Int) (m : Mem), I d x3a x3n x3c x10 x11 m → (∀ d' (x3a : Option Addr) (x3n : Nat) (x3c : Nat) (x10 : List Value) (x11 : Int) (m : Mem), d' < d → I d' x3a x3n x3c x10 x11 m → Ok (nx x3a x3n x3c x10 x11 m) P) → Ok (pmap_Map_Live_l0_b k nx kx2 x3a x3n x3c x10 x11 m) P) :
    ∀ n d (x3a : Option Addr) (x3n : Nat) (x3c : Nat) (x10 : List Value) (x11 : Int) (m : Mem), d < n → I d x3a x3n x3c x10 x11 m → Ok (pmap_Map_Live_l0 k kx2 n x3a x3n x3c x10 x11 m) P
  | 0, d, x3a, x3n, x3c, x10, x11, m, h, _ => absurd h (Nat.not_lt_zero _)
  | n + 1, d, x3a, x3n, x3c, x10, x11, m, h, hI => step d _ x3a x3n x3c x10 x11 m hI fun d' x3a x3n x3c x10 x11 m h' hI' => pmap_Map_Live_l0_rule k kx2 I step n d' x3a x3n x3c x10 x11 m (by omega) hI'

def pmap_Map_Live (k : Nat) (p0 : Option Addr) (m : Mem) : Option (Sl × Mem) :=
  let m1 : Mem := m ++ [.live (repl (Int.toNat 12) [.int .i64 0])]
  (p0).bind fun a2 =>
  (ldCells m1 (plus a2 0) 25).bind fun t3 =>
  pmap_Map_Live_l0 k (fun y3a y3n y3c m9 => 
  some ((⟨y3a, y3n, y3c⟩ : Sl), m9)) k (some ⟨List.length m, 0, Option.none⟩) (Int.toNat 12) (Int.toNat 12) t3 0 m1

def pmap_Map_Live_call {R : Type} (k : Nat) : Fun R := fun _ _ _ _ => none

theorem pmap_Map_Live_callOk {R : Type} (k : Nat) : CallOk Try.prog (pmap_Map_Live_call (R := R) k) := by
  intro f vs m K r h
  unfold pmap_Map_Live_call at h
  cases h

def pmap_Map_Live_l0_L (k : Nat) (K : Nat → List Value → Mem → Option (Sl × Mem)) (n : Nat) (vs : List Value) (m : Mem) : Option (Sl × Mem) := match vs with
  | [.slice x3a x3n x3c, .agg ⟨x10⟩, .int .i64 x11] => pmap_Map_Live_l0 k (fun y3a y3n y3c m => K 2 [(Value.slice y3a y3n y3c)] m) n x3a x3n x3c x10 x11 m
  | _ => none

def pmap_Map_Live_loop (k : Nat) : Nat → List Value → Mem → (Nat → List Value → Mem → Option (Sl × Mem)) → Option (Sl × Mem) := fun cur vs m K => match cur with
  | 0 => pmap_Map_Live_l0_L k K k vs m
  | _ => none

def pmap_Map_Live_C (k : Nat) : Ctx (Sl × Mem) := ⟨tt, pmap_Map_Live_call k, pmap_Map_Live_loop k, [(0, [3, 10, 11])], [(2, [3])]⟩

noncomputable def pmap_Map_Live_l0_c : Code := ((loopsOf 0 (body Try.f41)).map (·.2)).getD 0 .skip

theorem pmap_Map_Live_loops : loopsOf 0 (body Try.f41) = [(0, pmap_Map_Live_l0_c)] := by kernel_rfl

theorem pmap_Map_Live_l0_ok (k : Nat) : LoopOk (pmap_Map_Live_C k) 0 pmap_Map_Live_l0_c := by
  refine ⟨[3, 10, 11], by kernel_rfl, fun K r => ⟨pmap_Map_Live_l0_L k K, fun vs m h => ⟨k, h⟩, ?_⟩⟩
  intro n vs m h
  unfold pmap_Map_Live_l0_L at h
  split at h
  · cases n with
    | zero => cases h
    | succ n => exact ⟨n, rfl, Eq.trans (by kernel_rfl) h⟩
  · cases h

def pmap_Map_Live_dec : Value → Mem → Option (Sl × Mem) := fun v m => match v with
  | .slice q0a q0n q0c => some ((⟨q0a, q0n, q0c⟩ : Sl), m)
  | _ => none

theorem pmap_Map_Live_eq (k : Nat) (p0 : Option Addr) (m : Mem) : fnX (pmap_Map_Live_C k) Try.f41 [(Value.pointer p0)] m pmap_Map_Live_dec = pmap_Map_Live k p0 m := by kernel_rfl

theorem pmap_Map_Live_ok {k : Nat} {p0 : Option Addr} {m : Mem} {r : (Sl × Mem)} (h : pmap_Map_Live k p0 m = some r) : CallP Try.prog 41 [(Value.pointer p0)] m fun v m' => v = (Value.slice r.1.a r.1.len r.1.cap) ∧ m' = r.2 := by
  refine (fn_sound (C := pmap_Map_Live_C k) (c := body Try.f41) tOk mixed (pmap_Map_Live_callOk k) Try.func41 (by kernel_rfl) (by kernel_rfl) (by kernel_rfl) (by kernel_rfl) ?_ (Eq.trans (pmap_Map_Live_eq k p0 m) h)).mono ?_
  · intro p hp
    rw [pmap_Map_Live_loops] at hp
    simp only [List.mem_cons, List.not_mem_nil, or_false] at hp
    rcases hp with rfl
    · exact pmap_Map_Live_l0_ok k
  · intro v m' hp
    unfold pmap_Map_Live_dec at hp
    split at hp
    · simp only [Option.some.injEq] at hp; subst hp; exact ⟨rfl, rfl⟩
    · cases hp

/-! ### pmap_Map_At -/
def pmap_Map_At (k : Nat) (p0 : Option Addr) (p1 : Int) (m : Mem) : Option (Int × Value × Mem) :=
  bif decide (p1 < 0) then (
  some (0, (Value.iface ty_api_Code (Value.int .i64 1)), m)) else (
  bif decide (p1 > 24) then (
  some (0, (Value.iface ty_api_Code (Value.int .i64 1)), m)) else (
  (p0).bind fun a1 =>
  bif inRange p1 25 then (
  (ldInt .i64 m (plus (plus a1 0) (Int.toNat p1 * 1))).bind fun t2 =>
  bif t2 == 0 then (
  some (0, (Value.iface ty_api_Code (Value.int .i64 11)), m)) else (
  (p0).bind fun a3 =>
  bif inRange p1 25 then (
  (ldInt .i64 m (plus (plus a3 0) (Int.toNat p1 * 1))).bind fun t4 =>
  some (IntKind.wrap .i64 (t4 - 1), Value.nilIface, m)) else none)) else none))

def pmap_Map_At_call {R : Type} (k : Nat) : Fun R := fun _ _ _ _ => none

theorem pmap_Map_At_callOk {R : Type} (k : Nat) : CallOk Try.prog (pmap_Map_At_call (R := R) k) := by
  intro f vs m K r h
  unfold pmap_Map_At_call at h
  cases h

def pmap_Map_At_loop (k : Nat) : Nat → List Value → Mem → (Nat → List Value → Mem → Option (Int × Value × Mem)) → Option (Int × Value × Mem) := fun _ _ _ _ => none

def pmap_Map_At_C (k : Nat) : Ctx (Int × Value × Mem) := ⟨tt, pmap_Map_At_call k, pmap_Map_At_loop k, [], []⟩

def pmap_Map_At_dec : Value → Mem → Option (Int × Value × Mem) := fun v m => match v with
  | .tuple ⟨[.int .i64 q0, q1]⟩ => some (q0, q1, m)
  | _ => none

theorem pmap_Map_At_eq (k : Nat) (p0 : Option Addr) (p1 : Int) (m : Mem) : fnX (pmap_Map_At_C k) Try.f39 [(Value.pointer p0), (Value.int .i64 p1)] m pmap_Map_At_dec = pmap_Map_At k p0 p1 m := by kernel_rfl

theorem pmap_Map_At_ok {k : Nat} {p0 : Option Addr} {p1 : Int} {m : Mem} {r : (Int × Value × Mem)} (h : pmap_Map_At k p0 p1 m = some r) : CallP Try.prog 39 [(Value.pointer p0), (Value.int .i64 p1)] m fun v m' => v = (Value.tuple ⟨[(Value.int .i64 r.1), r.2.1]⟩) ∧ m' = r.2.2 := by
  refine (fn_sound (C := pmap_Map_At_C k) (c := body Try.f39) tOk mixed (pmap_Map_At_callOk k) Try.func39 (by kernel_rfl) (by kernel_rfl) (by kernel_rfl) (by kernel_rfl) ?_ (Eq.trans (pmap_Map_At_eq k p0 p1 m) h)).mono ?_
  · intro p hp; rw [show loopsOf 0 (body Try.f39) = [] by kernel_rfl] at hp; cases hp
  · intro v m' hp
    unfold pmap_Map_At_dec at hp
    split at hp
    · simp only [Option.some.injEq] at hp; subst hp; exact ⟨rfl, rfl⟩
    · cases hp

/-! ### pmap_Map_Drop -/
def pmap_Map_Drop (k : Nat) (p0 : Option Addr) (p1 : Int) (m : Mem) : Option (Value × Mem) :=
  (pmap_Map_At k p0 p1 m).bind fun r1 =>
  (isNil r1.2.1).bind fun b2 =>
  bif !b2 then (
  some (r1.2.1, r1.2.2)) else (
  (p0).bind fun a3 =>
  bif inRange p1 25 then (
  (st r1.2.2 (plus (plus a3 0) (Int.toNat p1 * 1)) (Value.int .i64 0)).bind fun m4 =>
  (p0).bind fun a5 =>
  bif inRange r1.1 96 then (
  (st m4 (plus (plus a5 25) (Int.toNat r1.1 * 1)) (Value.int .i64 0)).bind fun m6 =>
  some (Value.nilIface, m6)) else none) else none)

def pmap_Map_Drop_call {R : Type} (k : Nat) : Fun R := fun f args m K => match f, args with
  | 39, [.pointer p0, .int .i64 p1] => (pmap_Map_At k p0 p1 m).bind fun r => K (Value.tuple ⟨[(Value.int .i64 r.1), r.2.1]⟩) r.2.2
  | _, _ => none

theorem pmap_Map_Drop_callOk {R : Type} (k : Nat) : CallOk Try.prog (pmap_Map_Drop_call (R := R) k) := by
  intro f vs m K r h
  unfold pmap_Map_Drop_call at h
  split at h
  · obtain ⟨r, h1, h2⟩ := Option.bind_eq_some_iff.1 h; exact ⟨_, _, h2, fun K' => by simp only [pmap_Map_Drop_call, h1, Option.bind_some], pmap_Map_At_ok h1⟩
  · cases h

def pmap_Map_Drop_loop (k : Nat) : Nat → List Value → Mem → (Nat → List Value → Mem → Option (Value × Mem)) → Option (Value × Mem) := fun _ _ _ _ => none

def pmap_Map_Drop_C (k : Nat) : Ctx (Value × Mem) := ⟨tt, pmap_Map_Drop_call k, pmap_Map_Drop_loop k, [], []⟩

def pmap_Map_Drop_dec : Value → Mem → Option (Value × Mem) := fun v m => match v with
  | q0 => some (q0, m)

theorem pmap_Map_Drop_eq (k : Nat) (p0 : Option Addr) (p1 : Int) (m : Mem) : fnX (pmap_Map_Drop_C k) Try.f37 [(Value.pointer p0), (Value.int .i64 p1)] m pmap_Map_Drop_dec = pmap_Map_Drop k p0 p1 m := by kernel_rfl

theorem pmap_Map_Drop_ok {k : Nat} {p0 : Option Addr} {p1 : Int} {m : Mem} {r : (Value × Mem)} (h : pmap_Map_Drop k p0 p1 m = some r) : CallP Try.prog 37 [(Value.pointer p0), (Value.int .i64 p1)] m fun v m' => v = r.1 ∧ m' = r.2 := by
  refine (fn_sound (C := pmap_Map_Drop_C k) (c := body Try.f37) tOk mixed (pmap_Map_Drop_callOk k) Try.func37 (by kernel_rfl) (by kernel_rfl) (by kernel_rfl) (by kernel_rfl) ?_ (Eq.trans (pmap_Map_Drop_eq k p0 p1 m) h)).mono ?_
  · intro p hp; rw [show loopsOf 0 (body Try.f37) = [] by kernel_rfl] at hp; cases hp
  · intro v m' hp
    simp only [pmap_Map_Drop_dec, Option.some.injEq] at hp; subst hp; exact ⟨rfl, rfl⟩

/-! ### pmap_Map_Owner -/
def pmap_Map_Owner (k : Nat) (p0 : Option Addr) (p1 : Int) (m : Mem) : Option (Int × Value × Mem) :=
  (geom_Parts k p1 m).bind fun r1 =>
  (isNil r1.2.2.1).bind fun b2 =>
  bif !b2 then (
  some (0, r1.2.2.1, r1.2.2.2)) else (
  (p0).bind fun a3 =>
  bif inRange p1 96 then (
  (ldInt .i64 r1.2.2.2 (plus (plus a3 25) (Int.toNat p1 * 1))).bind fun t4 =>
  bif t4 == 0 then (
  some (0, (Value.iface ty_api_Code (Value.int .i64 11)), r1.2.2.2)) else (
  (p0).bind fun a5 =>
  bif inRange p1 96 then (
  (ldInt .i64 r1.2.2.2 (plus (plus a5 25) (Int.toNat p1 * 1))).bind fun t6 =>
  some (IntKind.wrap .i64 (t6 - 1), Value.nilIface, r1.2.2.2)) else none)) else none)

def pmap_Map_Owner_call {R : Type} (k : Nat) : Fun R := fun f args m K => match f, args with
  | 46, [.int .i64 p0] => (geom_Parts k p0 m).bind fun r => K (Value.tuple ⟨[(Value.int .i64 r.1), (Value.int .i64 r.2.1), r.2.2.1]⟩) r.2.2.2
  | _, _ => none

theorem pmap_Map_Owner_callOk {R : Type} (k : Nat) : CallOk Try.prog (pmap_Map_Owner_call (R := R) k) := by
  intro f vs m K r h
  unfold pmap_Map_Owner_call at h
  split at h
  · obtain ⟨r, h1, h2⟩ := Option.bind_eq_some_iff.1 h; exact ⟨_, _, h2, fun K' => by simp only [pmap_Map_Owner_call, h1, Option.bind_some], geom_Parts_ok h1⟩
  · cases h

def pmap_Map_Owner_loop (k : Nat) : Nat → List Value → Mem → (Nat → List Value → Mem → Option (Int × Value × Mem)) → Option (Int × Value × Mem) := fun _ _ _ _ => none

def pmap_Map_Owner_C (k : Nat) : Ctx (Int × Value × Mem) := ⟨tt, pmap_Map_Owner_call k, pmap_Map_Owner_loop k, [], []⟩

def pmap_Map_Owner_dec : Value → Mem → Option (Int × Value × Mem) := fun v m => match v with
  | .tuple ⟨[.int .i64 q0, q1]⟩ => some (q0, q1, m)
  | _ => none

theorem pmap_Map_Owner_eq (k : Nat) (p0 : Option Addr) (p1 : Int) (m : Mem) : fnX (pmap_Map_Owner_C k) Try.f40 [(Value.pointer p0), (Value.int .i64 p1)] m pmap_Map_Owner_dec = pmap_Map_Owner k p0 p1 m := by kernel_rfl

theorem pmap_Map_Owner_ok {k : Nat} {p0 : Option Addr} {p1 : Int} {m : Mem} {r : (Int × Value × Mem)} (h : pmap_Map_Owner k p0 p1 m = some r) : CallP Try.prog 40 [(Value.pointer p0), (Value.int .i64 p1)] m fun v m' => v = (Value.tuple ⟨[(Value.int .i64 r.1), r.2.1]⟩) ∧ m' = r.2.2 := by
  refine (fn_sound (C := pmap_Map_Owner_C k) (c := body Try.f40) tOk mixed (pmap_Map_Owner_callOk k) Try.func40 (by kernel_rfl) (by kernel_rfl) (by kernel_rfl) (by kernel_rfl) ?_ (Eq.trans (pmap_Map_Owner_eq k p0 p1 m) h)).mono ?_
  · intro p hp; rw [show loopsOf 0 (body Try.f40) = [] by kernel_rfl] at hp; cases hp
  · intro v m' hp
    unfold pmap_Map_Owner_dec at hp
    split at hp
    · simp only [Option.some.injEq] at hp; subst hp; exact ⟨rfl, rfl⟩
    · cases hp

end Go.Proofs.Ytnilidpafijdlac
