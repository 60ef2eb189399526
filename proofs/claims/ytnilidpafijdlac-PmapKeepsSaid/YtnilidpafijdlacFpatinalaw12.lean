/- The program's functions as plain Lean functions over a clean memory, each held against the program by the kernel. Written by mx.py. -/
import Derived.Test.YtnilidpafijdlacF0
import Derived.Test.YtnilidpafijdlacFpatinalaw00
import Derived.Test.YtnilidpafijdlacFpatinaref12
import Derived.Test.YtnilidpafijdlacFpmap
set_option linter.unusedVariables false
set_option maxRecDepth 100000
namespace Go.Proofs.Ytnilidpafijdlac
open Go.Mx

/-! ### patinalaw12_up -/
def patinalaw12_up (k : Nat) (m : Mem) : Option (Bool × Mem) :=
  (pmap_New k  m).bind fun r1 =>
  bif Option.isNone r1.1 then (
  some (false, r1.2)) else (
  (pmap_Map_Set k r1.1 3 9 r1.2).bind fun r2 =>
  (pmap_Map_Set k r1.1 4 8 r2.2).bind fun r3 =>
  (pmap_Map_Of k r1.1 1 r3.2).bind fun r4 =>
  (pmap_Map_Set k r1.1 2 6 r4.2.2).bind fun r5 =>
  (isNil r2.1).bind fun b6 =>
  bif b6 then (
  (isNil r3.1).bind fun b7 =>
  bif b7 then (
  (isNil r4.2.1).bind fun b8 =>
  bif b8 then (
  (ifEq tt r5.1 (Value.iface ty_api_Code (Value.int .i64 1))).bind fun b9 =>
  bif b9 then (
  bif ((r4.1.len : Nat) : Int) == 2 then (
  bif inRange 0 r4.1.len then (
  (r4.1.a).bind fun a10 =>
  (ldInt .i64 r5.2 (plus a10 (Int.toNat 0 * 1))).bind fun t11 =>
  bif t11 == 4 then (
  bif inRange 1 r4.1.len then (
  (r4.1.a).bind fun a12 =>
  (ldInt .i64 r5.2 (plus a12 (Int.toNat 1 * 1))).bind fun t13 =>
  some (t13 == 3, r5.2)) else none) else (
  some (false, r5.2))) else none) else (
  some (false, r5.2))) else (
  some (false, r5.2))) else (
  some (false, r5.2))) else (
  some (false, r5.2))) else (
  some (false, r5.2)))

def patinalaw12_up_call {R : Type} (k : Nat) : Fun R := fun f args m K => match f, args with
  | 32, [] => (pmap_New k  m).bind fun r => K (Value.pointer r.1) r.2
  | 38, [.pointer p0, .int .i64 p1, .int .i64 p2] => (pmap_Map_Set k p0 p1 p2 m).bind fun r => K r.1 r.2
  | 42, [.pointer p0, .int .i64 p1] => (pmap_Map_Of k p0 p1 m).bind fun r => K (Value.tuple ⟨[(Value.slice r.1.a r.1.len r.1.cap), r.2.1]⟩) r.2.2
  | _, _ => none

theorem patinalaw12_up_callOk {R : Type} (k : Nat) : CallOk Try.prog (patinalaw12_up_call (R := R) k) := by
  intro f vs m K r h
  unfold patinalaw12_up_call at h
  split at h
  · obtain ⟨r, h1, h2⟩ := Option.bind_eq_some_iff.1 h; exact ⟨_, _, h2, fun K' => by simp only [patinalaw12_up_call, h1, Option.bind_some], pmap_New_ok h1⟩
  · obtain ⟨r, h1, h2⟩ := Option.bind_eq_some_iff.1 h; exact ⟨_, _, h2, fun K' => by simp only [patinalaw12_up_call, h1, Option.bind_some], pmap_Map_Set_ok h1⟩
  · obtain ⟨r, h1, h2⟩ := Option.bind_eq_some_iff.1 h; exact ⟨_, _, h2, fun K' => by simp only [patinalaw12_up_call, h1, Option.bind_some], pmap_Map_Of_ok h1⟩
  · cases h

def patinalaw12_up_loop (k : Nat) : Nat → List Value → Mem → (Nat → List Value → Mem → Option (Bool × Mem)) → Option (Bool × Mem) := fun _ _ _ _ => none

def patinalaw12_up_C (k : Nat) : Ctx (Bool × Mem) := ⟨tt, patinalaw12_up_call k, patinalaw12_up_loop k, [], []⟩

def patinalaw12_up_dec : Value → Mem → Option (Bool × Mem) := fun v m => match v with
  | .bool q0 => some (q0, m)
  | _ => none

theorem patinalaw12_up_eq (k : Nat) (m : Mem) : fnX (patinalaw12_up_C k) Try.f31 [] m patinalaw12_up_dec = patinalaw12_up k  m := by kernel_rfl

theorem patinalaw12_up_ok {k : Nat} {m : Mem} {r : (Bool × Mem)} (h : patinalaw12_up k  m = some r) : CallP Try.prog 31 [] m fun v m' => v = (Value.bool r.1) ∧ m' = r.2 := by
  refine (fn_sound (C := patinalaw12_up_C k) (c := body Try.f31) tOk mixed (patinalaw12_up_callOk k) Try.func31 (by kernel_rfl) (by kernel_rfl) (by kernel_rfl) (by kernel_rfl) ?_ (Eq.trans (patinalaw12_up_eq k  m) h)).mono ?_
  · intro p hp; rw [show loopsOf 0 (body Try.f31) = [] by kernel_rfl] at hp; cases hp
  · intro v m' hp
    unfold patinalaw12_up_dec at hp
    split at hp
    · simp only [Option.some.injEq] at hp; subst hp; exact ⟨rfl, rfl⟩
    · cases hp

/-! ### patinalaw12_same -/
def patinalaw12_same_l0_b (k : Nat) (nx : Option Addr → Nat → Nat → Option Addr → Nat → Nat → Int → Mem → Option (Bool × Mem)) (kx0 : Bool → Mem → Option (Bool × Mem)) (kx2 : Mem → Option (Bool × Mem)) (x0a : Option Addr) (x0n : Nat) (x0c : Nat) (x1a : Option Addr) (x1n : Nat) (x1c : Nat) (x5 : Int) (m : Mem) : Option (Bool × Mem) :=
  bif decide (x5 < ((x0n : Nat) : Int)) then (
  bif inRange x5 x0n then (
  (x0a).bind fun a1 =>
  (ldInt .i64 m (plus a1 (Int.toNat x5 * 1))).bind fun t2 =>
  bif inRange x5 x1n then (
  (x1a).bind fun a3 =>
  (ldInt .i64 m (plus a3 (Int.toNat x5 * 1))).bind fun t4 =>
  bif t2 != t4 then (
  kx0 false m) else (
  bif inRange x5 x0n then (
  (x0a).bind fun a5 =>
  (st m (plus a5 (Int.toNat x5 * 1)) (Value.int .i64 (-9))).bind fun m6 =>
  nx x0a x0n x0c x1a x1n x1c (IntKind.wrap .i64 (x5 + 1)) m6) else none)) else none) else none) else (
  kx2  m)

def patinalaw12_same_l0 (k : Nat) (kx0 : Bool → Mem → Option (Bool × Mem)) (kx2 : Mem → Option (Bool × Mem)) : Nat → Option Addr → Nat → Nat → Option Addr → Nat → Nat → Int → Mem → Option (Bool × Mem)
  | 0, _, _, _, _, _, _, _, _ => none
  | n + 1, x0a, x0n, x0c, x1a, x1n, x1c, x5, m => patinalaw12_same_l0_b k (fun x0a x0n x0c x1a x1n x1c x5 m => patinalaw12_same_l0 k kx0 kx2 n x0a x0n x0c x1a x1n x1c x5 m) kx0 kx2 x0a x0n x0c x1a x1n x1c x5 m

theorem patinalaw12_same_l0_rule (k : Nat) (kx0 : Bool → Mem → Option (Bool × Mem)) (kx2 : Mem → Option (Bool × Mem)) {P : (Bool × Mem) → Prop} (I : Nat → Option Addr → Nat → Nat → Option Addr → Nat → Nat → Int → Mem → Prop)
    (step : ∀ d (nx : Option Addr → Nat → Nat → Option Addr → Nat → Nat → Int → Mem → Option (Bool × Mem)) (x0a : Option Addr) (x0n : Nat) (x0c : Nat) (x1a : Option Addr) (x1n : Nat) (x1c : Nat) (x5 : Int) (m : Mem), I d x0a x0n x0c x1a x1n x1c x5 m → (∀ d' (x0a : Option Addr) (x0n : Nat) (x0c : Nat) (x1a : Option Addr) (x1n : Nat) (x1c : Nat) (x5 : Int) (m : Mem), d' < d → I d' x0a x0n x0c x1a x1n x1c x5 m → Ok (nx x0a x0n x0c x1a x1n x1c x5 m) P) → Ok (patinalaw12_same_l0_b k nx kx0 kx2 x0a x0n x0c x1a x1n x1c x5 m) P) :
    ∀ n d (x0a : Option Addr) (x0n : Nat) (x0c : Nat) (x1a : Option Addr) (x1n : Nat) (x1c : Nat) (x5 : Int) (m : Mem), d < n → I d x0a x0n x0c x1a x1n x1c x5 m → Ok (patinalaw12_same_l0 k kx0 kx2 n x0a x0n x0c x1a x1n x1c x5 m) P
  | 0, d, x0a, x0n, x0c, x1a, x1n, x1c, x5, m, h, _ => absurd h (Nat.not_lt_zero _)
  | n + 1, d, x0a, x0n, x0c, x1a, x1n, x1c, x5, m, h, hI => step d _ x0a x0n x0c x1a x1n x1c x5 m hI fun d' x0a x0n x0c x1a x1n x1c x5 m h' hI' => patinalaw12_same_l0_rule k kx0 kx2 I step n d' x0a x0n x0c x1a x1n x1c x5 m (by omega) hI'

def patinalaw12_same (k : Nat) (p0a : Option Addr) (p0n : Nat) (p0c : Nat) (p1a : Option Addr) (p1n : Nat) (p1c : Nat) (m : Mem) : Option (Bool × Mem) :=
  bif ((p0n : Nat) : Int) != ((p1n : Nat) : Int) then (
  some (false, m)) else (
  patinalaw12_same_l0 k (fun y4 m7 => 
  some (y4, m7)) (fun m8 => 
  some (true, m8)) k p0a p0n p0c p1a p1n p1c 0 m)

def patinalaw12_same_call {R : Type} (k : Nat) : Fun R := fun _ _ _ _ => none

theorem patinalaw12_same_callOk {R : Type} (k : Nat) : CallOk Try.prog (patinalaw12_same_call (R := R) k) := by
  intro f vs m K r h
  unfold patinalaw12_same_call at h
  cases h

def patinalaw12_same_l0_L (k : Nat) (K : Nat → List Value → Mem → Option (Bool × Mem)) (n : Nat) (vs : List Value) (m : Mem) : Option (Bool × Mem) := match vs with
  | [.slice x0a x0n x0c, .slice x1a x1n x1c, .int .i64 x5] => patinalaw12_same_l0 k (fun y4 m => K 0 [(Value.bool y4)] m) (fun m => K 2 [] m) n x0a x0n x0c x1a x1n x1c x5 m
  | _ => none

def patinalaw12_same_loop (k : Nat) : Nat → List Value → Mem → (Nat → List Value → Mem → Option (Bool × Mem)) → Option (Bool × Mem) := fun cur vs m K => match cur with
  | 0 => patinalaw12_same_l0_L k K k vs m
  | _ => none

def patinalaw12_same_C (k : Nat) : Ctx (Bool × Mem) := ⟨tt, patinalaw12_same_call k, patinalaw12_same_loop k, [(0, [0, 1, 5])], [(0, [4]), (2, [])]⟩

noncomputable def patinalaw12_same_l0_c : Code := ((loopsOf 0 (body Try.f57)).map (·.2)).getD 0 .skip

theorem patinalaw12_same_loops : loopsOf 0 (body Try.f57) = [(0, patinalaw12_same_l0_c)] := by kernel_rfl

theorem patinalaw12_same_l0_ok (k : Nat) : LoopOk (patinalaw12_same_C k) 0 patinalaw12_same_l0_c := by
  refine ⟨[0, 1, 5], by kernel_rfl, fun K r => ⟨patinalaw12_same_l0_L k K, fun vs m h => ⟨k, h⟩, ?_⟩⟩
  intro n vs m h
  unfold patinalaw12_same_l0_L at h
  split at h
  · cases n with
    | zero => cases h
    | succ n => exact ⟨n, rfl, Eq.trans (by kernel_rfl) h⟩
  · cases h

def patinalaw12_same_dec : Value → Mem → Option (Bool × Mem) := fun v m => match v with
  | .bool q0 => some (q0, m)
  | _ => none

theorem patinalaw12_same_eq (k : Nat) (p0a : Option Addr) (p0n : Nat) (p0c : Nat) (p1a : Option Addr) (p1n : Nat) (p1c : Nat) (m : Mem) : fnX (patinalaw12_same_C k) Try.f57 [(Value.slice p0a p0n p0c), (Value.slice p1a p1n p1c)] m patinalaw12_same_dec = patinalaw12_same k p0a p0n p0c p1a p1n p1c m := by kernel_rfl

theorem patinalaw12_same_ok {k : Nat} {p0a : Option Addr} {p0n : Nat} {p0c : Nat} {p1a : Option Addr} {p1n : Nat} {p1c : Nat} {m : Mem} {r : (Bool × Mem)} (h : patinalaw12_same k p0a p0n p0c p1a p1n p1c m = some r) : CallP Try.prog 57 [(Value.slice p0a p0n p0c), (Value.slice p1a p1n p1c)] m fun v m' => v = (Value.bool r.1) ∧ m' = r.2 := by
  refine (fn_sound (C := patinalaw12_same_C k) (c := body Try.f57) tOk mixed (patinalaw12_same_callOk k) Try.func57 (by kernel_rfl) (by kernel_rfl) (by kernel_rfl) (by kernel_rfl) ?_ (Eq.trans (patinalaw12_same_eq k p0a p0n p0c p1a p1n p1c m) h)).mono ?_
  · intro p hp
    rw [patinalaw12_same_loops] at hp
    simp only [List.mem_cons, List.not_mem_nil, or_false] at hp
    rcases hp with rfl
    · exact patinalaw12_same_l0_ok k
  · intro v m' hp
    unfold patinalaw12_same_dec at hp
    split at hp
    · simp only [Option.some.injEq] at hp; subst hp; exact ⟨rfl, rfl⟩
    · cases hp

/-! ### patinalaw12_stands -/
def patinalaw12_stands_l0_b (k : Nat) (nx : Option Addr → Option Addr → Option Addr → Nat → Nat → Int → Mem → Option (Bool × Mem)) (kx0 : Bool → Mem → Option (Bool × Mem)) (kx2 : Mem → Option (Bool × Mem)) (x0 : Option Addr) (x1 : Option Addr) (x5a : Option Addr) (x5n : Nat) (x5c : Nat) (x6 : Int) (m : Mem) : Option (Bool × Mem) :=
  bif decide (x6 < 12) then (
  (pmap_Map_Of k x0 x6 m).bind fun r2 =>
  (patinaref12_Map_Of k x1 x6 r2.2.2).bind fun r3 =>
  (patinalaw12_same k r2.1.a r2.1.len r2.1.cap r3.1.a r3.1.len r3.1.cap r3.2.2).bind fun r4 =>
  bif !r4.1 then (
  kx0 false r4.2) else (
  (isNil r2.2.1).bind fun b5 =>
  bif !b5 then (
  kx0 false r4.2) else (
  bif inRange x6 x5n then (
  (x5a).bind fun a6 =>
  (ldInt .i64 r4.2 (plus a6 (Int.toNat x6 * 1))).bind fun t7 =>
  bif t7 != ((r3.1.len : Nat) : Int) then (
  kx0 false r4.2) else (
  nx x0 x1 x5a x5n x5c (IntKind.wrap .i64 (x6 + 1)) r4.2)) else none))) else (
  kx2  m)

def patinalaw12_stands_l0 (k : Nat) (kx0 : Bool → Mem → Option (Bool × Mem)) (kx2 : Mem → Option (Bool × Mem)) : Nat → Option Addr → Option Addr → Option Addr → Nat → Nat → Int → Mem → Option (Bool × Mem)
  | 0, _, _, _, _, _, _, _ => none
  | n + 1, x0, x1, x5a, x5n, x5c, x6, m => patinalaw12_stands_l0_b k (fun x0 x1 x5a x5n x5c x6 m => patinalaw12_stands_l0 k kx0 kx2 n x0 x1 x5a x5n x5c x6 m) kx0 kx2 x0 x1 x5a x5n x5c x6 m

theorem patinalaw12_stands_l0_rule (k : Nat) (kx0 : Bool → Mem → Option (Bool × Mem)) (kx2 : Mem → Option (Bool × Mem)) {P : (Bool × Mem) → Prop} (I : Nat → Option Addr → Option Addr → Option Addr → Nat → Nat → Int → Mem → Prop)
    (step : ∀ d (nx : Option Addr → Option Addr → Option Addr → Nat → Nat → Int → Mem → Option (Bool × Mem)) (x0 : Option Addr) (x1 : Option Addr) (x5a : Option Addr) (x5n : Nat) (x5c : Nat) (x6 : Int) (m : Mem), I d x0 x1 x5a x5n x5c x6 m → (∀ d' (x0 : Option Addr) (x1 : Option Addr) (x5a : Option Addr) (x5n : Nat) (x5c : Nat) (x6 : Int) (m : Mem), d' < d → I d' x0 x1 x5a x5n x5c x6 m → Ok (nx x0 x1 x5a x5n x5c x6 m) P) → Ok (patinalaw12_stands_l0_b k nx kx0 kx2 x0 x1 x5a x5n x5c x6 m) P) :
    ∀ n d (x0 : Option Addr) (x1 : Option Addr) (x5a : Option Addr) (x5n : Nat) (x5c : Nat) (x6 : Int) (m : Mem), d < n → I d x0 x1 x5a x5n x5c x6 m → Ok (patinalaw12_stands_l0 k kx0 kx2 n x0 x1 x5a x5n x5c x6 m) P
  | 0, d, x0, x1, x5a, x5n, x5c, x6, m, h, _ => absurd h (Nat.not_lt_zero _)
  | n + 1, d, x0, x1, x5a, x5n, x5c, x6, m, h, hI => step d _ x0 x1 x5a x5n x5c x6 m hI fun d' x0 x1 x5a x5n x5c x6 m h' hI' => patinalaw12_stands_l0_rule k kx0 kx2 I step n d' x0 x1 x5a x5n x5c x6 m (by omega) hI'

def patinalaw12_stands (k : Nat) (p0 : Option Addr) (p1 : Option Addr) (m : Mem) : Option (Bool × Mem) :=
  (pmap_Map_Live k p0 m).bind fun r1 =>
  bif ((r1.1.len : Nat) : Int) != 12 then (
  some (false, r1.2)) else (
  patinalaw12_stands_l0 k (fun y4 m8 => 
  some (y4, m8)) (fun m9 => 
  some (true, m9)) k p0 p1 r1.1.a r1.1.len r1.1.cap 0 r1.2)

def patinalaw12_stands_call {R : Type} (k : Nat) : Fun R := fun f args m K => match f, args with
  | 41, [.pointer p0] => (pmap_Map_Live k p0 m).bind fun r => K (Value.slice r.1.a r.1.len r.1.cap) r.2
  | 42, [.pointer p0, .int .i64 p1] => (pmap_Map_Of k p0 p1 m).bind fun r => K (Value.tuple ⟨[(Value.slice r.1.a r.1.len r.1.cap), r.2.1]⟩) r.2.2
  | 56, [.pointer p0, .int .i64 p1] => (patinaref12_Map_Of k p0 p1 m).bind fun r => K (Value.tuple ⟨[(Value.slice r.1.a r.1.len r.1.cap), (Value.int .i64 r.2.1)]⟩) r.2.2
  | 57, [.slice p0a p0n p0c, .slice p1a p1n p1c] => (patinalaw12_same k p0a p0n p0c p1a p1n p1c m).bind fun r => K (Value.bool r.1) r.2
  | _, _ => none

theorem patinalaw12_stands_callOk {R : Type} (k : Nat) : CallOk Try.prog (patinalaw12_stands_call (R := R) k) := by
  intro f vs m K r h
  unfold patinalaw12_stands_call at h
  split at h
  · obtain ⟨r, h1, h2⟩ := Option.bind_eq_some_iff.1 h; exact ⟨_, _, h2, fun K' => by simp only [patinalaw12_stands_call, h1, Option.bind_some], pmap_Map_Live_ok h1⟩
  · obtain ⟨r, h1, h2⟩ := Option.bind_eq_some_iff.1 h; exact ⟨_, _, h2, fun K' => by simp only [patinalaw12_stands_call, h1, Option.bind_some], pmap_Map_Of_ok h1⟩
  · obtain ⟨r, h1, h2⟩ := Option.bind_eq_some_iff.1 h; exact ⟨_, _, h2, fun K' => by simp only [patinalaw12_stands_call, h1, Option.bind_some], patinaref12_Map_Of_ok h1⟩
  · obtain ⟨r, h1, h2⟩ := Option.bind_eq_some_iff.1 h; exact ⟨_, _, h2, fun K' => by simp only [patinalaw12_stands_call, h1, Option.bind_some], patinalaw12_same_ok h1⟩
  · cases h

def patinalaw12_stands_l0_L (k : Nat) (K : Nat → List Value → Mem → Option (Bool × Mem)) (n : Nat) (vs : List Value) (m : Mem) : Option (Bool × Mem) := match vs with
  | [.pointer x0, .pointer x1, .slice x5a x5n x5c, .int .i64 x6] => patinalaw12_stands_l0 k (fun y4 m => K 0 [(Value.bool y4)] m) (fun m => K 2 [] m) n x0 x1 x5a x5n x5c x6 m
  | _ => none

def patinalaw12_stands_loop (k : Nat) : Nat → List Value → Mem → (Nat → List Value → Mem → Option (Bool × Mem)) → Option (Bool × Mem) := fun cur vs m K => match cur with
  | 0 => patinalaw12_stands_l0_L k K k vs m
  | _ => none

def patinalaw12_stands_C (k : Nat) : Ctx (Bool × Mem) := ⟨tt, patinalaw12_stands_call k, patinalaw12_stands_loop k, [(0, [0, 1, 5, 6])], [(0, [4]), (2, [])]⟩

noncomputable def patinalaw12_stands_l0_c : Code := ((loopsOf 0 (body Try.f35)).map (·.2)).getD 0 .skip

theorem patinalaw12_stands_loops : loopsOf 0 (body Try.f35) = [(0, patinalaw12_stands_l0_c)] := by kernel_rfl

theorem patinalaw12_stands_l0_ok (k : Nat) : LoopOk (patinalaw12_stands_C k) 0 patinalaw12_stands_l0_c := by
  refine ⟨[0, 1, 5, 6], by kernel_rfl, fun K r => ⟨patinalaw12_stands_l0_L k K, fun vs m h => ⟨k, h⟩, ?_⟩⟩
  intro n vs m h
  unfold patinalaw12_stands_l0_L at h
  split at h
  · cases n with
    | zero => cases h
    | succ n => exact ⟨n, rfl, Eq.trans (by kernel_rfl) h⟩
  · cases h

def patinalaw12_stands_dec : Value → Mem → Option (Bool × Mem) := fun v m => match v with
  | .bool q0 => some (q0, m)
  | _ => none

theorem patinalaw12_stands_eq (k : Nat) (p0 : Option Addr) (p1 : Option Addr) (m : Mem) : fnX (patinalaw12_stands_C k) Try.f35 [(Value.pointer p0), (Value.pointer p1)] m patinalaw12_stands_dec = patinalaw12_stands k p0 p1 m := by kernel_rfl

theorem patinalaw12_stands_ok {k : Nat} {p0 : Option Addr} {p1 : Option Addr} {m : Mem} {r : (Bool × Mem)} (h : patinalaw12_stands k p0 p1 m = some r) : CallP Try.prog 35 [(Value.pointer p0), (Value.pointer p1)] m fun v m' => v = (Value.bool r.1) ∧ m' = r.2 := by
  refine (fn_sound (C := patinalaw12_stands_C k) (c := body Try.f35) tOk mixed (patinalaw12_stands_callOk k) Try.func35 (by kernel_rfl) (by kernel_rfl) (by kernel_rfl) (by kernel_rfl) ?_ (Eq.trans (patinalaw12_stands_eq k p0 p1 m) h)).mono ?_
  · intro p hp
    rw [patinalaw12_stands_loops] at hp
    simp only [List.mem_cons, List.not_mem_nil, or_false] at hp
    rcases hp with rfl
    · exact patinalaw12_stands_l0_ok k
  · intro v m' hp
    unfold patinalaw12_stands_dec at hp
    split at hp
    · simp only [Option.some.injEq] at hp; subst hp; exact ⟨rfl, rfl⟩
    · cases hp

/-! ### patinalaw12_pick -/
def patinalaw12_pick_j1 (k : Nat) (p1 : Int) (x0_ : Int) (mj : Mem) : Option (Int × Mem) :=
  bif isZero p1 then none else (
  some (Int.tmod x0_ p1, mj))

def patinalaw12_pick (k : Nat) (p0 : Int) (p1 : Int) (m : Mem) : Option (Int × Mem) :=
  bif decide (p0 < 0) then (
  patinalaw12_pick_j1 k p1 (IntKind.wrap .i64 (0 - (IntKind.wrap .i64 (p0 + 1)))) m) else (
  patinalaw12_pick_j1 k p1 p0 m)

def patinalaw12_pick_call {R : Type} (k : Nat) : Fun R := fun _ _ _ _ => none

theorem patinalaw12_pick_callOk {R : Type} (k : Nat) : CallOk Try.prog (patinalaw12_pick_call (R := R) k) := by
  intro f vs m K r h
  unfold patinalaw12_pick_call at h
  cases h

def patinalaw12_pick_loop (k : Nat) : Nat → List Value → Mem → (Nat → List Value → Mem → Option (Int × Mem)) → Option (Int × Mem) := fun _ _ _ _ => none

def patinalaw12_pick_C (k : Nat) : Ctx (Int × Mem) := ⟨tt, patinalaw12_pick_call k, patinalaw12_pick_loop k, [], []⟩

def patinalaw12_pick_dec : Value → Mem → Option (Int × Mem) := fun v m => match v with
  | .int .i64 q0 => some (q0, m)
  | _ => none

theorem patinalaw12_pick_eq (k : Nat) (p0 : Int) (p1 : Int) (m : Mem) : fnX (patinalaw12_pick_C k) Try.f36 [(Value.int .i64 p0), (Value.int .i64 p1)] m patinalaw12_pick_dec = patinalaw12_pick k p0 p1 m := by kernel_rfl

theorem patinalaw12_pick_ok {k : Nat} {p0 : Int} {p1 : Int} {m : Mem} {r : (Int × Mem)} (h : patinalaw12_pick k p0 p1 m = some r) : CallP Try.prog 36 [(Value.int .i64 p0), (Value.int .i64 p1)] m fun v m' => v = (Value.int .i64 r.1) ∧ m' = r.2 := by
  refine (fn_sound (C := patinalaw12_pick_C k) (c := body Try.f36) tOk mixed (patinalaw12_pick_callOk k) Try.func36 (by kernel_rfl) (by kernel_rfl) (by kernel_rfl) (by kernel_rfl) ?_ (Eq.trans (patinalaw12_pick_eq k p0 p1 m) h)).mono ?_
  · intro p hp; rw [show loopsOf 0 (body Try.f36) = [] by kernel_rfl] at hp; cases hp
  · intro v m' hp
    unfold patinalaw12_pick_dec at hp
    split at hp
    · simp only [Option.some.injEq] at hp; subst hp; exact ⟨rfl, rfl⟩
    · cases hp

/-! ### patinalaw12_step -/
def patinalaw12_step (k : Nat) (p0 : Option Addr) (p1 : Option Addr) (p2 : List Value) (m : Mem) : Option (Bool × Mem) :=
  bif Nat.beq (List.length p2) 3 then (
  let m1 : Mem := m ++ [.live p2]
  (ldInt .i64 m1 (plus ⟨List.length m, 0, Option.none⟩ 0)).bind fun t2 =>
  (patinalaw12_pick k t2 6 m1).bind fun r3 =>
  bif r3.1 == 0 then (
  (ldInt .i64 r3.2 (plus ⟨List.length m, 0, Option.none⟩ 1)).bind fun t4 =>
  (ldInt .i64 r3.2 (plus ⟨List.length m, 0, Option.none⟩ 2)).bind fun t5 =>
  (pmap_Map_Set k p0 t4 t5 r3.2).bind fun r6 =>
  (patinalaw00_Code k r6.1 r6.2).bind fun r7 =>
  (ldInt .i64 r7.2 (plus ⟨List.length m, 0, Option.none⟩ 1)).bind fun t8 =>
  (ldInt .i64 r7.2 (plus ⟨List.length m, 0, Option.none⟩ 2)).bind fun t9 =>
  (patinaref12_Map_Set k p1 t8 t9 r7.2).bind fun r10 =>
  (ldInt .i64 r6.2 (plus ⟨List.length m, 0, Option.none⟩ 1)).bind fun t11 =>
  bif t11 == t8 then (
  (ldInt .i64 r6.2 (plus ⟨List.length m, 0, Option.none⟩ 2)).bind fun t12 =>
  bif t12 == t9 then (
  some (r7.1 == r10.1, r10.2)) else none) else none) else (
  bif r3.1 == 1 then (
  (ldInt .i64 r3.2 (plus ⟨List.length m, 0, Option.none⟩ 1)).bind fun t13 =>
  (pmap_Map_Drop k p0 t13 r3.2).bind fun r14 =>
  (patinalaw00_Code k r14.1 r14.2).bind fun r15 =>
  (ldInt .i64 r15.2 (plus ⟨List.length m, 0, Option.none⟩ 1)).bind fun t16 =>
  (patinaref12_Map_Drop k p1 t16 r15.2).bind fun r17 =>
  (ldInt .i64 r14.2 (plus ⟨List.length m, 0, Option.none⟩ 1)).bind fun t18 =>
  bif t18 == t16 then (
  some (r15.1 == r17.1, r17.2)) else none) else (
  bif r3.1 == 2 then (
  (ldInt .i64 r3.2 (plus ⟨List.length m, 0, Option.none⟩ 1)).bind fun t19 =>
  (pmap_Map_At k p0 t19 r3.2).bind fun r20 =>
  (ldInt .i64 r20.2.2 (plus ⟨List.length m, 0, Option.none⟩ 1)).bind fun t21 =>
  (patinaref12_Map_At k p1 t21 r20.2.2).bind fun r22 =>
  bif r20.1 == r22.1 then (
  (patinalaw00_Code k r20.2.1 r22.2.2).bind fun r23 =>
  some (r23.1 == r22.2.1, r23.2)) else (
  some (false, r22.2.2))) else (
  bif r3.1 == 3 then (
  (ldInt .i64 r3.2 (plus ⟨List.length m, 0, Option.none⟩ 1)).bind fun t24 =>
  (pmap_Map_Owner k p0 t24 r3.2).bind fun r25 =>
  (ldInt .i64 r25.2.2 (plus ⟨List.length m, 0, Option.none⟩ 1)).bind fun t26 =>
  (patinaref12_Map_Owner k p1 t26 r25.2.2).bind fun r27 =>
  bif r25.1 == r27.1 then (
  (patinalaw00_Code k r25.2.1 r27.2.2).bind fun r28 =>
  some (r28.1 == r27.2.1, r28.2)) else (
  some (false, r27.2.2))) else (
  bif r3.1 == 4 then (
  (ldInt .i64 r3.2 (plus ⟨List.length m, 0, Option.none⟩ 1)).bind fun t29 =>
  (pmap_Map_Of k p0 t29 r3.2).bind fun r30 =>
  (ldInt .i64 r30.2.2 (plus ⟨List.length m, 0, Option.none⟩ 1)).bind fun t31 =>
  (patinaref12_Map_Of k p1 t31 r30.2.2).bind fun r32 =>
  (patinalaw12_same k r30.1.a r30.1.len r30.1.cap r32.1.a r32.1.len r32.1.cap r32.2.2).bind fun r33 =>
  bif r33.1 then (
  (patinalaw00_Code k r30.2.1 r33.2).bind fun r34 =>
  some (r34.1 == r32.2.1, r34.2)) else (
  some (false, r33.2))) else (
  (patinalaw12_stands k p0 p1 r3.2).bind fun r35 =>
  some (r35.1, r35.2))))))) else none

def patinalaw12_step_call {R : Type} (k : Nat) : Fun R := fun f args m K => match f, args with
  | 12, [p0] => (patinalaw00_Code k p0 m).bind fun r => K (Value.int .i64 r.1) r.2
  | 35, [.pointer p0, .pointer p1] => (patinalaw12_stands k p0 p1 m).bind fun r => K (Value.bool r.1) r.2
  | 36, [.int .i64 p0, .int .i64 p1] => (patinalaw12_pick k p0 p1 m).bind fun r => K (Value.int .i64 r.1) r.2
  | 37, [.pointer p0, .int .i64 p1] => (pmap_Map_Drop k p0 p1 m).bind fun r => K r.1 r.2
  | 38, [.pointer p0, .int .i64 p1, .int .i64 p2] => (pmap_Map_Set k p0 p1 p2 m).bind fun r => K r.1 r.2
  | 39, [.pointer p0, .int .i64 p1] => (pmap_Map_At k p0 p1 m).bind fun r => K (Value.tuple ⟨[(Value.int .i64 r.1), r.2.1]⟩) r.2.2
  | 40, [.pointer p0, .int .i64 p1] => (pmap_Map_Owner k p0 p1 m).bind fun r => K (Value.tuple ⟨[(Value.int .i64 r.1), r.2.1]⟩) r.2.2
  | 42, [.pointer p0, .int .i64 p1] => (pmap_Map_Of k p0 p1 m).bind fun r => K (Value.tuple ⟨[(Value.slice r.1.a r.1.len r.1.cap), r.2.1]⟩) r.2.2
  | 52, [.pointer p0, .int .i64 p1, .int .i64 p2] => (patinaref12_Map_Set k p0 p1 p2 m).bind fun r => K (Value.int .i64 r.1) r.2
  | 53, [.pointer p0, .int .i64 p1] => (patinaref12_Map_Drop k p0 p1 m).bind fun r => K (Value.int .i64 r.1) r.2
  | 54, [.pointer p0, .int .i64 p1] => (patinaref12_Map_At k p0 p1 m).bind fun r => K (Value.tuple ⟨[(Value.int .i64 r.1), (Value.int .i64 r.2.1)]⟩) r.2.2
  | 55, [.pointer p0, .int .i64 p1] => (patinaref12_Map_Owner k p0 p1 m).bind fun r => K (Value.tuple ⟨[(Value.int .i64 r.1), (Value.int .i64 r.2.1)]⟩) r.2.2
  | 56, [.pointer p0, .int .i64 p1] => (patinaref12_Map_Of k p0 p1 m).bind fun r => K (Value.tuple ⟨[(Value.slice r.1.a r.1.len r.1.cap), (Value.int .i64 r.2.1)]⟩) r.2.2
  | 57, [.slice p0a p0n p0c, .slice p1a p1n p1c] => (patinalaw12_same k p0a p0n p0c p1a p1n p1c m).bind fun r => K (Value.bool r.1) r.2
  | _, _ => none

theorem patinalaw12_step_callOk {R : Type} (k : Nat) : CallOk Try.prog (patinalaw12_step_call (R := R) k) := by
  intro f vs m K r h
  unfold patinalaw12_step_call at h
  split at h
  · obtain ⟨r, h1, h2⟩ := Option.bind_eq_some_iff.1 h; exact ⟨_, _, h2, fun K' => by simp only [patinalaw12_step_call, h1, Option.bind_some], patinalaw00_Code_ok h1⟩
  · obtain ⟨r, h1, h2⟩ := Option.bind_eq_some_iff.1 h; exact ⟨_, _, h2, fun K' => by simp only [patinalaw12_step_call, h1, Option.bind_some], patinalaw12_stands_ok h1⟩
  · obtain ⟨r, h1, h2⟩ := Option.bind_eq_some_iff.1 h; exact ⟨_, _, h2, fun K' => by simp only [patinalaw12_step_call, h1, Option.bind_some], patinalaw12_pick_ok h1⟩
  · obtain ⟨r, h1, h2⟩ := Option.bind_eq_some_iff.1 h; exact ⟨_, _, h2, fun K' => by simp only [patinalaw12_step_call, h1, Option.bind_some], pmap_Map_Drop_ok h1⟩
  · obtain ⟨r, h1, h2⟩ := Option.bind_eq_some_iff.1 h; exact ⟨_, _, h2, fun K' => by simp only [patinalaw12_step_call, h1, Option.bind_some], pmap_Map_Set_ok h1⟩
  · obtain ⟨r, h1, h2⟩ := Option.bind_eq_some_iff.1 h; exact ⟨_, _, h2, fun K' => by simp only [patinalaw12_step_call, h1, Option.bind_some], pmap_Map_At_ok h1⟩
  · obtain ⟨r, h1, h2⟩ := Option.bind_eq_some_iff.1 h; exact ⟨_, _, h2, fun K' => by simp only [patinalaw12_step_call, h1, Option.bind_some], pmap_Map_Owner_ok h1⟩
  · obtain ⟨r, h1, h2⟩ := Option.bind_eq_some_iff.1 h; exact ⟨_, _, h2, fun K' => by simp only [patinalaw12_step_call, h1, Option.bind_some], pmap_Map_Of_ok h1⟩
  · obtain ⟨r, h1, h2⟩ := Option.bind_eq_some_iff.1 h; exact ⟨_, _, h2, fun K' => by simp only [patinalaw12_step_call, h1, Option.bind_some], patinaref12_Map_Set_ok h1⟩
  · obtain ⟨r, h1, h2⟩ := Option.bind_eq_some_iff.1 h; exact ⟨_, _, h2, fun K' => by simp only [patinalaw12_step_call, h1, Option.bind_some], patinaref12_Map_Drop_ok h1⟩
  · obtain ⟨r, h1, h2⟩ := Option.bind_eq_some_iff.1 h; exact ⟨_, _, h2, fun K' => by simp only [patinalaw12_step_call, h1, Option.bind_some], patinaref12_Map_At_ok h1⟩
  · obtain ⟨r, h1, h2⟩ := Option.bind_eq_some_iff.1 h; exact ⟨_, _, h2, fun K' => by simp only [patinalaw12_step_call, h1, Option.bind_some], patinaref12_Map_Owner_ok h1⟩
  · obtain ⟨r, h1, h2⟩ := Option.bind_eq_some_iff.1 h; exact ⟨_, _, h2, fun K' => by simp only [patinalaw12_step_call, h1, Option.bind_some], patinaref12_Map_Of_ok h1⟩
  · obtain ⟨r, h1, h2⟩ := Option.bind_eq_some_iff.1 h; exact ⟨_, _, h2, fun K' => by simp only [patinalaw12_step_call, h1, Option.bind_some], patinalaw12_same_ok h1⟩
  · cases h

def patinalaw12_step_loop (k : Nat) : Nat → List Value → Mem → (Nat → List Value → Mem → Option (Bool × Mem)) → Option (Bool × Mem) := fun _ _ _ _ => none

def patinalaw12_step_C (k : Nat) : Ctx (Bool × Mem) := ⟨tt, patinalaw12_step_call k, patinalaw12_step_loop k, [], []⟩

def patinalaw12_step_dec : Value → Mem → Option (Bool × Mem) := fun v m => match v with
  | .bool q0 => some (q0, m)
  | _ => none

theorem patinalaw12_step_eq (k : Nat) (p0 : Option Addr) (p1 : Option Addr) (p2 : List Value) (m : Mem) : fnX (patinalaw12_step_C k) Try.f34 [(Value.pointer p0), (Value.pointer p1), (Value.agg ⟨p2⟩)] m patinalaw12_step_dec = patinalaw12_step k p0 p1 p2 m := by kernel_rfl

theorem patinalaw12_step_ok {k : Nat} {p0 : Option Addr} {p1 : Option Addr} {p2 : List Value} {m : Mem} {r : (Bool × Mem)} (h : patinalaw12_step k p0 p1 p2 m = some r) : CallP Try.prog 34 [(Value.pointer p0), (Value.pointer p1), (Value.agg ⟨p2⟩)] m fun v m' => v = (Value.bool r.1) ∧ m' = r.2 := by
  refine (fn_sound (C := patinalaw12_step_C k) (c := body Try.f34) tOk mixed (patinalaw12_step_callOk k) Try.func34 (by kernel_rfl) (by kernel_rfl) (by kernel_rfl) (by kernel_rfl) ?_ (Eq.trans (patinalaw12_step_eq k p0 p1 p2 m) h)).mono ?_
  · intro p hp; rw [show loopsOf 0 (body Try.f34) = [] by kernel_rfl] at hp; cases hp
  · intro v m' hp
    unfold patinalaw12_step_dec at hp
    split at hp
    · simp only [Option.some.injEq] at hp; subst hp; exact ⟨rfl, rfl⟩
    · cases hp

end Go.Proofs.Ytnilidpafijdlac
