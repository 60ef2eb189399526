/- The program's functions as plain Lean functions over a clean memory, each held against the program by the kernel. Written by mx.py. -/
import Derived.Test.YtlbbcgjfkpnilaaF0
set_option linter.unusedVariables false
set_option maxRecDepth 100000
namespace Go.Proofs.Ytlbbcgjfkpnilaa
open Go.Mx

/-! ### patinaref05_blank -/
def patinaref05_blank_l0_b (k : Nat) (nx : Option Addr → Nat → Nat → Int → Mem → Option (Sl × Mem)) (kx2 : Option Addr → Nat → Nat → Mem → Option (Sl × Mem)) (x1a : Option Addr) (x1n : Nat) (x1c : Nat) (x2 : Int) (m : Mem) : Option (Sl × Mem) :=
  bif decide (x2 < 64) then (
  bif inRange x2 x1n then (
  (x1a).bind fun a2 =>
  (st m (plus a2 (Int.toNat x2 * 1)) (Value.int .u8 255)).bind fun m3 =>
  nx x1a x1n x1c (IntKind.wrap .i64 (x2 + 1)) m3) else none) else (
  kx2 x1a x1n x1c m)

def patinaref05_blank_l0 (k : Nat) (kx2 : Option Addr → Nat → Nat → Mem → Option (Sl × Mem)) : Nat → Option Addr → Nat → Nat → Int → Mem → Option (Sl × Mem)
  | 0, _, _, _, _, _ => none
  | n + 1, x1a, x1n, x1c, x2, m => patinaref05_blank_l0_b k (fun x1a x1n x1c x2 m => patinaref05_blank_l0 k kx2 n x1a x1n x1c x2 m) kx2 x1a x1n x1c x2 m
termination_by structural x => x

theorem patinaref05_blank_l0_rule (k : Nat) (kx2 : Option Addr → Nat → Nat → Mem → Option (Sl × Mem)) {P : (Sl × Mem) → Prop} (I : Nat → Option Addr → Nat → Nat → Int → Mem → Prop)
    (step : ∀ d (nx : Option Addr → Nat → Nat → Int → Mem → Option (Sl × Mem)) (x1a : Option Addr) (x1n : Nat) (x1c : Nat) (x2 : Int) (m : Mem), I d x1a x1n x1c x2 m → (∀ d' (x1a : Option Addr) (x1n : Nat) (x1c : Nat) (x2 : Int) (m : Mem), d' < d → I d' x1a x1n x1c x2 m → Ok (nx x1a x1n x1c x2 m) P) → Ok (patinaref05_blank_l0_b k nx kx2 x1a x1n x1c x2 m) P) :
    ∀ n d (x1a : Option Addr) (x1n : Nat) (x1c : Nat) (x2 : Int) (m : Mem), d < n → I d x1a x1n x1c x2 m → Ok (patinaref05_blank_l0 k kx2 n x1a x1n x1c x2 m) P
  | 0, d, x1a, x1n, x1c, x2, m, h, _ => absurd h (Nat.not_lt_zero _)
  | n + 1, d, x1a, x1n, x1c, x2, m, h, hI => step d _ x1a x1n x1c x2 m hI fun d' x1a x1n x1c x2 m h' hI' => patinaref05_blank_l0_rule k kx2 I step n d' x1a x1n x1c x2 m (by omega) hI'

def patinaref05_blank (k : Nat) (m : Mem) : Option (Sl × Mem) :=
  let m1 : Mem := m ++ [.live (repl (Int.toNat 64) [.int .u8 0])]
  patinaref05_blank_l0 k (fun y1a y1n y1c m4 => 
  some ((⟨y1a, y1n, y1c⟩ : Sl), m4)) k (some ⟨List.length m, 0, Option.none⟩) (Int.toNat 64) (Int.toNat 64) 0 m1

def patinaref05_blank_call {R : Type} (k : Nat) : Fun R := callNil

theorem patinaref05_blank_callOk {R : Type} (k : Nat) : CallOk Try.prog (patinaref05_blank_call (R := R) k) := callOk_nil

def patinaref05_blank_l0_L (k : Nat) (K : Nat → List Value → Mem → Option (Sl × Mem)) (n : Nat) (vs : List Value) (m : Mem) : Option (Sl × Mem) := match vs with
  | [.slice x1a x1n x1c, .int .i64 x2] => patinaref05_blank_l0 k (fun y1a y1n y1c m => K 2 [(Value.slice y1a y1n y1c)] m) n x1a x1n x1c x2 m
  | _ => none

def patinaref05_blank_loop (k : Nat) : Nat → List Value → Mem → (Nat → List Value → Mem → Option (Sl × Mem)) → Option (Sl × Mem) := fun cur vs m K => match cur with
  | 0 => patinaref05_blank_l0_L k K k vs m
  | _ => none

def patinaref05_blank_C (k : Nat) : Ctx (Sl × Mem) := ⟨tt, patinaref05_blank_call k, patinaref05_blank_loop k, [(0, [1, 2])], [(2, [1])]⟩

noncomputable def patinaref05_blank_l0_c : Code := ((loopsOf 0 (body Try.f50)).map (·.2)).getD 0 .skip

theorem patinaref05_blank_loops : loopsOf 0 (body Try.f50) = [(0, patinaref05_blank_l0_c)] := by kernel_rfl

theorem patinaref05_blank_l0_ok (k : Nat) : LoopOk (patinaref05_blank_C k) 0 patinaref05_blank_l0_c := by
  refine ⟨[1, 2], by kernel_rfl, fun K r => ⟨patinaref05_blank_l0_L k K, fun vs m h => ⟨k, h⟩, ?_⟩⟩
  intro n vs m h
  unfold patinaref05_blank_l0_L at h
  split at h
  · cases n with
    | zero => cases h
    | succ n => exact ⟨n, rfl, Eq.trans (by kernel_rfl) h⟩
  · cases h

def patinaref05_blank_dec : Value → Mem → Option (Sl × Mem) := fun v m => match v with
  | .slice q0a q0n q0c => some ((⟨q0a, q0n, q0c⟩ : Sl), m)
  | _ => none

theorem patinaref05_blank_eq (k : Nat) (m : Mem) : fnX (patinaref05_blank_C k) Try.f50 [] m patinaref05_blank_dec = patinaref05_blank k  m := by kernel_rfl

theorem patinaref05_blank_ok {k : Nat} {m : Mem} {r : (Sl × Mem)} (h : patinaref05_blank k  m = some r) : CallP Try.prog 50 [] m fun v m' => v = (Value.slice r.1.a r.1.len r.1.cap) ∧ m' = r.2 := by
  refine (fn_sound (C := patinaref05_blank_C k) (c := body Try.f50) tOk mixed (patinaref05_blank_callOk k) Try.func50 (by kernel_rfl) (by kernel_rfl) (by kernel_rfl) (by kernel_rfl) ?_ ?_ (Eq.trans (patinaref05_blank_eq k  m) h)).mono ?_
  · intro p hp
    rw [patinaref05_blank_loops] at hp
    simp only [List.mem_cons, List.not_mem_nil, or_false] at hp
    rcases hp with rfl
    · exact patinaref05_blank_l0_ok k
  · intro p hp; rw [show rangesOf 0 (body Try.f50) = [] by kernel_rfl] at hp; cases hp
  · intro v m' hp
    unfold patinaref05_blank_dec at hp
    split at hp
    · simp only [Option.some.injEq] at hp; subst hp; exact ⟨rfl, rfl⟩
    · cases hp

def patinaref05_blank_arm {R : Type} (k : Nat) : Arm R := fun vs m K => match vs with
  | [] => (patinaref05_blank k  m).bind fun r => K (Value.slice r.1.a r.1.len r.1.cap) r.2
  | _ => none

theorem patinaref05_blank_armOk {R : Type} (k : Nat) : ArmOk Try.prog 50 (patinaref05_blank_arm (R := R) k) := by
  intro vs m K r h
  unfold patinaref05_blank_arm at h
  split at h
  · obtain ⟨r, h1, h2⟩ := Option.bind_eq_some_iff.1 h; exact ⟨_, _, h2, fun K' => by simp only [patinaref05_blank_arm, h1, Option.bind_some], patinaref05_blank_ok h1⟩
  · cases h

/-! ### patinaref05_chunks -/
def patinaref05_chunks_l0_b (k : Nat) (nx : Option Addr → Nat → Nat → Int → Mem → Option (Sl × Mem)) (kx2 : Option Addr → Nat → Nat → Mem → Option (Sl × Mem)) (x1a : Option Addr) (x1n : Nat) (x1c : Nat) (x2 : Int) (m : Mem) : Option (Sl × Mem) :=
  bif decide (x2 < 32) then (
  (patinaref05_blank k  m).bind fun r1 =>
  (patinaref05_blank k  r1.2).bind fun r2 =>
  let m3 : Mem := r2.2 ++ [.live [(Value.slice r1.1.a r1.1.len r1.1.cap), (Value.slice r2.1.a r2.1.len r2.1.cap), .bool false, .int .i64 0]]
  (rdSl m3 (some ⟨List.length r2.2, 0, Option.none⟩) 1 4).bind fun l4 =>
  (appM 4 64 m3 x1a x1n x1c 1 l4).bind fun r5 =>
  nx r5.1.a r5.1.len r5.1.cap (IntKind.wrap .i64 (x2 + 1)) r5.2) else (
  kx2 x1a x1n x1c m)

def patinaref05_chunks_l0 (k : Nat) (kx2 : Option Addr → Nat → Nat → Mem → Option (Sl × Mem)) : Nat → Option Addr → Nat → Nat → Int → Mem → Option (Sl × Mem)
  | 0, _, _, _, _, _ => none
  | n + 1, x1a, x1n, x1c, x2, m => patinaref05_chunks_l0_b k (fun x1a x1n x1c x2 m => patinaref05_chunks_l0 k kx2 n x1a x1n x1c x2 m) kx2 x1a x1n x1c x2 m
termination_by structural x => x

theorem patinaref05_chunks_l0_rule (k : Nat) (kx2 : Option Addr → Nat → Nat → Mem → Option (Sl × Mem)) {P : (Sl × Mem) → Prop} (I : Nat → Option Addr → Nat → Nat → Int → Mem → Prop)
    (step : ∀ d (nx : Option Addr → Nat → Nat → Int → Mem → Option (Sl × Mem)) (x1a : Option Addr) (x1n : Nat) (x1c : Nat) (x2 : Int) (m : Mem), I d x1a x1n x1c x2 m → (∀ d' (x1a : Option Addr) (x1n : Nat) (x1c : Nat) (x2 : Int) (m : Mem), d' < d → I d' x1a x1n x1c x2 m → Ok (nx x1a x1n x1c x2 m) P) → Ok (patinaref05_chunks_l0_b k nx kx2 x1a x1n x1c x2 m) P) :
    ∀ n d (x1a : Option Addr) (x1n : Nat) (x1c : Nat) (x2 : Int) (m : Mem), d < n → I d x1a x1n x1c x2 m → Ok (patinaref05_chunks_l0 k kx2 n x1a x1n x1c x2 m) P
  | 0, d, x1a, x1n, x1c, x2, m, h, _ => absurd h (Nat.not_lt_zero _)
  | n + 1, d, x1a, x1n, x1c, x2, m, h, hI => step d _ x1a x1n x1c x2 m hI fun d' x1a x1n x1c x2 m h' hI' => patinaref05_chunks_l0_rule k kx2 I step n d' x1a x1n x1c x2 m (by omega) hI'

def patinaref05_chunks (k : Nat) (m : Mem) : Option (Sl × Mem) :=
  patinaref05_chunks_l0 k (fun y1a y1n y1c m6 => 
  some ((⟨y1a, y1n, y1c⟩ : Sl), m6)) k none 0 0 0 m

def patinaref05_chunks_call {R : Type} (k : Nat) : Fun R := callCons 50 (patinaref05_blank_arm k) (callNil)

theorem patinaref05_chunks_callOk {R : Type} (k : Nat) : CallOk Try.prog (patinaref05_chunks_call (R := R) k) := callOk_cons (patinaref05_blank_armOk k) (callOk_nil)

def patinaref05_chunks_l0_L (k : Nat) (K : Nat → List Value → Mem → Option (Sl × Mem)) (n : Nat) (vs : List Value) (m : Mem) : Option (Sl × Mem) := match vs with
  | [.slice x1a x1n x1c, .int .i64 x2] => patinaref05_chunks_l0 k (fun y1a y1n y1c m => K 2 [(Value.slice y1a y1n y1c)] m) n x1a x1n x1c x2 m
  | _ => none

def patinaref05_chunks_loop (k : Nat) : Nat → List Value → Mem → (Nat → List Value → Mem → Option (Sl × Mem)) → Option (Sl × Mem) := fun cur vs m K => match cur with
  | 0 => patinaref05_chunks_l0_L k K k vs m
  | _ => none

def patinaref05_chunks_C (k : Nat) : Ctx (Sl × Mem) := ⟨tt, patinaref05_chunks_call k, patinaref05_chunks_loop k, [(0, [1, 2])], [(2, [1])]⟩

noncomputable def patinaref05_chunks_l0_c : Code := ((loopsOf 0 (body Try.f22)).map (·.2)).getD 0 .skip

theorem patinaref05_chunks_loops : loopsOf 0 (body Try.f22) = [(0, patinaref05_chunks_l0_c)] := by kernel_rfl

theorem patinaref05_chunks_l0_ok (k : Nat) : LoopOk (patinaref05_chunks_C k) 0 patinaref05_chunks_l0_c := by
  refine ⟨[1, 2], by kernel_rfl, fun K r => ⟨patinaref05_chunks_l0_L k K, fun vs m h => ⟨k, h⟩, ?_⟩⟩
  intro n vs m h
  unfold patinaref05_chunks_l0_L at h
  split at h
  · cases n with
    | zero => cases h
    | succ n => exact ⟨n, rfl, Eq.trans (by kernel_rfl) h⟩
  · cases h

def patinaref05_chunks_dec : Value → Mem → Option (Sl × Mem) := fun v m => match v with
  | .slice q0a q0n q0c => some ((⟨q0a, q0n, q0c⟩ : Sl), m)
  | _ => none

theorem patinaref05_chunks_eq (k : Nat) (m : Mem) : fnX (patinaref05_chunks_C k) Try.f22 [] m patinaref05_chunks_dec = patinaref05_chunks k  m := by kernel_rfl

theorem patinaref05_chunks_ok {k : Nat} {m : Mem} {r : (Sl × Mem)} (h : patinaref05_chunks k  m = some r) : CallP Try.prog 22 [] m fun v m' => v = (Value.slice r.1.a r.1.len r.1.cap) ∧ m' = r.2 := by
  refine (fn_sound (C := patinaref05_chunks_C k) (c := body Try.f22) tOk mixed (patinaref05_chunks_callOk k) Try.func22 (by kernel_rfl) (by kernel_rfl) (by kernel_rfl) (by kernel_rfl) ?_ ?_ (Eq.trans (patinaref05_chunks_eq k  m) h)).mono ?_
  · intro p hp
    rw [patinaref05_chunks_loops] at hp
    simp only [List.mem_cons, List.not_mem_nil, or_false] at hp
    rcases hp with rfl
    · exact patinaref05_chunks_l0_ok k
  · intro p hp; rw [show rangesOf 0 (body Try.f22) = [] by kernel_rfl] at hp; cases hp
  · intro v m' hp
    unfold patinaref05_chunks_dec at hp
    split at hp
    · simp only [Option.some.injEq] at hp; subst hp; exact ⟨rfl, rfl⟩
    · cases hp

def patinaref05_chunks_arm {R : Type} (k : Nat) : Arm R := fun vs m K => match vs with
  | [] => (patinaref05_chunks k  m).bind fun r => K (Value.slice r.1.a r.1.len r.1.cap) r.2
  | _ => none

theorem patinaref05_chunks_armOk {R : Type} (k : Nat) : ArmOk Try.prog 22 (patinaref05_chunks_arm (R := R) k) := by
  intro vs m K r h
  unfold patinaref05_chunks_arm at h
  split at h
  · obtain ⟨r, h1, h2⟩ := Option.bind_eq_some_iff.1 h; exact ⟨_, _, h2, fun K' => by simp only [patinaref05_chunks_arm, h1, Option.bind_some], patinaref05_chunks_ok h1⟩
  · cases h

/-! ### patinaref05_New -/
def patinaref05_New_l0_b (k : Nat) (nx : Addr → Int → Mem → Option ((Option Addr) × Mem)) (kx2 : Addr → Mem → Option ((Option Addr) × Mem)) (x1 : Addr) (x2 : Int) (m : Mem) : Option ((Option Addr) × Mem) :=
  bif decide (x2 < 12) then (
  (ldSl m (plus x1 0)).bind fun t2 =>
  (patinaref05_chunks k  m).bind fun r3 =>
  let m4 : Mem := r3.2 ++ [.live [(Value.slice r3.1.a r3.1.len r3.1.cap), .int .i64 0, .bool false, (Value.int .i64 (-1)), .bool false]]
  (rdSl m4 (some ⟨List.length r3.2, 0, Option.none⟩) 1 5).bind fun l5 =>
  (appM 5 56 m4 t2.a t2.len t2.cap 1 l5).bind fun r6 =>
  (st r6.2 (plus x1 0) (Value.slice r6.1.a r6.1.len r6.1.cap)).bind fun m7 =>
  (ldSl r3.2 (plus x1 0)).bind fun t8 =>
  bif decide (t8.a = t2.a) && Nat.beq t8.len t2.len && Nat.beq t8.cap t2.cap then (
  (ldSl m4 (plus x1 0)).bind fun t9 =>
  bif decide (t9.a = t2.a) && Nat.beq t9.len t2.len && Nat.beq t9.cap t2.cap then (
  nx x1 (IntKind.wrap .i64 (x2 + 1)) m7) else none) else none) else (
  kx2 x1 m)

def patinaref05_New_l0 (k : Nat) (kx2 : Addr → Mem → Option ((Option Addr) × Mem)) : Nat → Addr → Int → Mem → Option ((Option Addr) × Mem)
  | 0, _, _, _ => none
  | n + 1, x1, x2, m => patinaref05_New_l0_b k (fun x1 x2 m => patinaref05_New_l0 k kx2 n x1 x2 m) kx2 x1 x2 m
termination_by structural x => x

theorem patinaref05_New_l0_rule (k : Nat) (kx2 : Addr → Mem → Option ((Option Addr) × Mem)) {P : ((Option Addr) × Mem) → Prop} (I : Nat → Addr → Int → Mem → Prop)
    (step : ∀ d (nx : Addr → Int → Mem → Option ((Option Addr) × Mem)) (x1 : Addr) (x2 : Int) (m : Mem), I d x1 x2 m → (∀ d' (x1 : Addr) (x2 : Int) (m : Mem), d' < d → I d' x1 x2 m → Ok (nx x1 x2 m) P) → Ok (patinaref05_New_l0_b k nx kx2 x1 x2 m) P) :
    ∀ n d (x1 : Addr) (x2 : Int) (m : Mem), d < n → I d x1 x2 m → Ok (patinaref05_New_l0 k kx2 n x1 x2 m) P
  | 0, d, x1, x2, m, h, _ => absurd h (Nat.not_lt_zero _)
  | n + 1, d, x1, x2, m, h, hI => step d _ x1 x2 m hI fun d' x1 x2 m h' hI' => patinaref05_New_l0_rule k kx2 I step n d' x1 x2 m (by omega) hI'

def patinaref05_New (k : Nat) (m : Mem) : Option ((Option Addr) × Mem) :=
  let m1 : Mem := m ++ [.live [.slice none 0 0, (Value.bool true), (Value.int .i64 (-1)), .int .i64 0]]
  patinaref05_New_l0 k (fun y1 m10 => 
  some ((some y1), m10)) k ⟨List.length m, 0, Option.none⟩ 0 m1

def patinaref05_New_call {R : Type} (k : Nat) : Fun R := callCons 22 (patinaref05_chunks_arm k) (callNil)

theorem patinaref05_New_callOk {R : Type} (k : Nat) : CallOk Try.prog (patinaref05_New_call (R := R) k) := callOk_cons (patinaref05_chunks_armOk k) (callOk_nil)

def patinaref05_New_l0_L (k : Nat) (K : Nat → List Value → Mem → Option ((Option Addr) × Mem)) (n : Nat) (vs : List Value) (m : Mem) : Option ((Option Addr) × Mem) := match vs with
  | [.pointer (some x1), .int .i64 x2] => patinaref05_New_l0 k (fun y1 m => K 2 [(Value.pointer (some y1))] m) n x1 x2 m
  | _ => none

def patinaref05_New_loop (k : Nat) : Nat → List Value → Mem → (Nat → List Value → Mem → Option ((Option Addr) × Mem)) → Option ((Option Addr) × Mem) := fun cur vs m K => match cur with
  | 0 => patinaref05_New_l0_L k K k vs m
  | _ => none

def patinaref05_New_C (k : Nat) : Ctx ((Option Addr) × Mem) := ⟨tt, patinaref05_New_call k, patinaref05_New_loop k, [(0, [1, 2])], [(2, [1])]⟩

noncomputable def patinaref05_New_l0_c : Code := ((loopsOf 0 (body Try.f7)).map (·.2)).getD 0 .skip

theorem patinaref05_New_loops : loopsOf 0 (body Try.f7) = [(0, patinaref05_New_l0_c)] := by kernel_rfl

theorem patinaref05_New_l0_ok (k : Nat) : LoopOk (patinaref05_New_C k) 0 patinaref05_New_l0_c := by
  refine ⟨[1, 2], by kernel_rfl, fun K r => ⟨patinaref05_New_l0_L k K, fun vs m h => ⟨k, h⟩, ?_⟩⟩
  intro n vs m h
  unfold patinaref05_New_l0_L at h
  split at h
  · cases n with
    | zero => cases h
    | succ n => exact ⟨n, rfl, Eq.trans (by kernel_rfl) h⟩
  · cases h

def patinaref05_New_dec : Value → Mem → Option ((Option Addr) × Mem) := fun v m => match v with
  | .pointer q0 => some (q0, m)
  | _ => none

theorem patinaref05_New_eq (k : Nat) (m : Mem) : fnX (patinaref05_New_C k) Try.f7 [] m patinaref05_New_dec = patinaref05_New k  m := by kernel_rfl

theorem patinaref05_New_ok {k : Nat} {m : Mem} {r : ((Option Addr) × Mem)} (h : patinaref05_New k  m = some r) : CallP Try.prog 7 [] m fun v m' => v = (Value.pointer r.1) ∧ m' = r.2 := by
  refine (fn_sound (C := patinaref05_New_C k) (c := body Try.f7) tOk mixed (patinaref05_New_callOk k) Try.func7 (by kernel_rfl) (by kernel_rfl) (by kernel_rfl) (by kernel_rfl) ?_ ?_ (Eq.trans (patinaref05_New_eq k  m) h)).mono ?_
  · intro p hp
    rw [patinaref05_New_loops] at hp
    simp only [List.mem_cons, List.not_mem_nil, or_false] at hp
    rcases hp with rfl
    · exact patinaref05_New_l0_ok k
  · intro p hp; rw [show rangesOf 0 (body Try.f7) = [] by kernel_rfl] at hp; cases hp
  · intro v m' hp
    unfold patinaref05_New_dec at hp
    split at hp
    · simp only [Option.some.injEq] at hp; subst hp; exact ⟨rfl, rfl⟩
    · cases hp

def patinaref05_New_arm {R : Type} (k : Nat) : Arm R := fun vs m K => match vs with
  | [] => (patinaref05_New k  m).bind fun r => K (Value.pointer r.1) r.2
  | _ => none

theorem patinaref05_New_armOk {R : Type} (k : Nat) : ArmOk Try.prog 7 (patinaref05_New_arm (R := R) k) := by
  intro vs m K r h
  unfold patinaref05_New_arm at h
  split at h
  · obtain ⟨r, h1, h2⟩ := Option.bind_eq_some_iff.1 h; exact ⟨_, _, h2, fun K' => by simp only [patinaref05_New_arm, h1, Option.bind_some], patinaref05_New_ok h1⟩
  · cases h

/-! ### patinaref05_isPage -/
def patinaref05_isPage (k : Nat) (p0 : Int) (m : Mem) : Option (Bool × Mem) :=
  bif decide (p0 ≥ 0) then (
  some (decide (p0 < 96), m)) else (
  some (false, m))

def patinaref05_isPage_call {R : Type} (k : Nat) : Fun R := callNil

theorem patinaref05_isPage_callOk {R : Type} (k : Nat) : CallOk Try.prog (patinaref05_isPage_call (R := R) k) := callOk_nil

def patinaref05_isPage_loop (k : Nat) : Nat → List Value → Mem → (Nat → List Value → Mem → Option (Bool × Mem)) → Option (Bool × Mem) := fun _ _ _ _ => none

def patinaref05_isPage_C (k : Nat) : Ctx (Bool × Mem) := ⟨tt, patinaref05_isPage_call k, patinaref05_isPage_loop k, [], []⟩

def patinaref05_isPage_dec : Value → Mem → Option (Bool × Mem) := fun v m => match v with
  | .bool q0 => some (q0, m)
  | _ => none

theorem patinaref05_isPage_eq (k : Nat) (p0 : Int) (m : Mem) : fnX (patinaref05_isPage_C k) Try.f51 [(Value.int .i64 p0)] m patinaref05_isPage_dec = patinaref05_isPage k p0 m := by kernel_rfl

theorem patinaref05_isPage_ok {k : Nat} {p0 : Int} {m : Mem} {r : (Bool × Mem)} (h : patinaref05_isPage k p0 m = some r) : CallP Try.prog 51 [(Value.int .i64 p0)] m fun v m' => v = (Value.bool r.1) ∧ m' = r.2 := by
  refine (fn_sound (C := patinaref05_isPage_C k) (c := body Try.f51) tOk mixed (patinaref05_isPage_callOk k) Try.func51 (by kernel_rfl) (by kernel_rfl) (by kernel_rfl) (by kernel_rfl) ?_ ?_ (Eq.trans (patinaref05_isPage_eq k p0 m) h)).mono ?_
  · intro p hp; rw [show loopsOf 0 (body Try.f51) = [] by kernel_rfl] at hp; cases hp
  · intro p hp; rw [show rangesOf 0 (body Try.f51) = [] by kernel_rfl] at hp; cases hp
  · intro v m' hp
    unfold patinaref05_isPage_dec at hp
    split at hp
    · simp only [Option.some.injEq] at hp; subst hp; exact ⟨rfl, rfl⟩
    · cases hp

def patinaref05_isPage_arm {R : Type} (k : Nat) : Arm R := fun vs m K => match vs with
  | [.int .i64 p0] => (patinaref05_isPage k p0 m).bind fun r => K (Value.bool r.1) r.2
  | _ => none

theorem patinaref05_isPage_armOk {R : Type} (k : Nat) : ArmOk Try.prog 51 (patinaref05_isPage_arm (R := R) k) := by
  intro vs m K r h
  unfold patinaref05_isPage_arm at h
  split at h
  · obtain ⟨r, h1, h2⟩ := Option.bind_eq_some_iff.1 h; exact ⟨_, _, h2, fun K' => by simp only [patinaref05_isPage_arm, h1, Option.bind_some], patinaref05_isPage_ok h1⟩
  · cases h

/-! ### patinaref05_Chip_chunk -/
def patinaref05_Chip_chunk (k : Nat) (p0 : Option Addr) (p1 : Int) (p2 : Int) (m : Mem) : Option ((Option Addr) × Mem) :=
  (p0).bind fun a1 =>
  (ldSl m (plus a1 0)).bind fun t2 =>
  bif inRange (IntKind.wrap .i64 (Int.tdiv p1 8)) t2.len then (
  (t2.a).bind fun a3 =>
  (ldSl m (plus (plus a3 (Int.toNat (IntKind.wrap .i64 (Int.tdiv p1 8)) * 5)) 0)).bind fun t4 =>
  bif inRange (IntKind.wrap .i64 ((IntKind.wrap .i64 ((Int.tmod p1 8) * 4)) + p2)) t4.len then (
  (t4.a).bind fun a5 =>
  some ((some (plus a5 (Int.toNat (IntKind.wrap .i64 ((IntKind.wrap .i64 ((Int.tmod p1 8) * 4)) + p2)) * 4))), m)) else none) else none

def patinaref05_Chip_chunk_call {R : Type} (k : Nat) : Fun R := callNil

theorem patinaref05_Chip_chunk_callOk {R : Type} (k : Nat) : CallOk Try.prog (patinaref05_Chip_chunk_call (R := R) k) := callOk_nil

def patinaref05_Chip_chunk_loop (k : Nat) : Nat → List Value → Mem → (Nat → List Value → Mem → Option ((Option Addr) × Mem)) → Option ((Option Addr) × Mem) := fun _ _ _ _ => none

def patinaref05_Chip_chunk_C (k : Nat) : Ctx ((Option Addr) × Mem) := ⟨tt, patinaref05_Chip_chunk_call k, patinaref05_Chip_chunk_loop k, [], []⟩

def patinaref05_Chip_chunk_dec : Value → Mem → Option ((Option Addr) × Mem) := fun v m => match v with
  | .pointer q0 => some (q0, m)
  | _ => none

theorem patinaref05_Chip_chunk_eq (k : Nat) (p0 : Option Addr) (p1 : Int) (p2 : Int) (m : Mem) : fnX (patinaref05_Chip_chunk_C k) Try.f54 [(Value.pointer p0), (Value.int .i64 p1), (Value.int .i64 p2)] m patinaref05_Chip_chunk_dec = patinaref05_Chip_chunk k p0 p1 p2 m := by kernel_rfl

theorem patinaref05_Chip_chunk_ok {k : Nat} {p0 : Option Addr} {p1 : Int} {p2 : Int} {m : Mem} {r : ((Option Addr) × Mem)} (h : patinaref05_Chip_chunk k p0 p1 p2 m = some r) : CallP Try.prog 54 [(Value.pointer p0), (Value.int .i64 p1), (Value.int .i64 p2)] m fun v m' => v = (Value.pointer r.1) ∧ m' = r.2 := by
  refine (fn_sound (C := patinaref05_Chip_chunk_C k) (c := body Try.f54) tOk mixed (patinaref05_Chip_chunk_callOk k) Try.func54 (by kernel_rfl) (by kernel_rfl) (by kernel_rfl) (by kernel_rfl) ?_ ?_ (Eq.trans (patinaref05_Chip_chunk_eq k p0 p1 p2 m) h)).mono ?_
  · intro p hp; rw [show loopsOf 0 (body Try.f54) = [] by kernel_rfl] at hp; cases hp
  · intro p hp; rw [show rangesOf 0 (body Try.f54) = [] by kernel_rfl] at hp; cases hp
  · intro v m' hp
    unfold patinaref05_Chip_chunk_dec at hp
    split at hp
    · simp only [Option.some.injEq] at hp; subst hp; exact ⟨rfl, rfl⟩
    · cases hp

def patinaref05_Chip_chunk_arm {R : Type} (k : Nat) : Arm R := fun vs m K => match vs with
  | [.pointer p0, .int .i64 p1, .int .i64 p2] => (patinaref05_Chip_chunk k p0 p1 p2 m).bind fun r => K (Value.pointer r.1) r.2
  | _ => none

theorem patinaref05_Chip_chunk_armOk {R : Type} (k : Nat) : ArmOk Try.prog 54 (patinaref05_Chip_chunk_arm (R := R) k) := by
  intro vs m K r h
  unfold patinaref05_Chip_chunk_arm at h
  split at h
  · obtain ⟨r, h1, h2⟩ := Option.bind_eq_some_iff.1 h; exact ⟨_, _, h2, fun K' => by simp only [patinaref05_Chip_chunk_arm, h1, Option.bind_some], patinaref05_Chip_chunk_ok h1⟩
  · cases h

/-! ### patinaref05_Chip_Page -/
def patinaref05_Chip_Page_l0_b (k : Nat) (nx : Option Addr → Int → Option Addr → Nat → Nat → Int → Mem → Option (Sl × Mem)) (kx2 : Option Addr → Nat → Nat → Mem → Option (Sl × Mem)) (x0 : Option Addr) (x1 : Int) (x5a : Option Addr) (x5n : Nat) (x5c : Nat) (x6 : Int) (m : Mem) : Option (Sl × Mem) :=
  bif decide (x6 < 4) then (
  (patinaref05_Chip_chunk k x0 x1 x6 m).bind fun r1 =>
  (r1.1).bind fun a2 =>
  (ldSl r1.2 (plus a2 0)).bind fun t3 =>
  (rdSl r1.2 t3.a t3.len 1).bind fun l4 =>
  (appM 1 1 r1.2 x5a x5n x5c t3.len l4).bind fun r5 =>
  nx x0 x1 r5.1.a r5.1.len r5.1.cap (IntKind.wrap .i64 (x6 + 1)) r5.2) else (
  kx2 x5a x5n x5c m)

def patinaref05_Chip_Page_l0 (k : Nat) (kx2 : Option Addr → Nat → Nat → Mem → Option (Sl × Mem)) : Nat → Option Addr → Int → Option Addr → Nat → Nat → Int → Mem → Option (Sl × Mem)
  | 0, _, _, _, _, _, _, _ => none
  | n + 1, x0, x1, x5a, x5n, x5c, x6, m => patinaref05_Chip_Page_l0_b k (fun x0 x1 x5a x5n x5c x6 m => patinaref05_Chip_Page_l0 k kx2 n x0 x1 x5a x5n x5c x6 m) kx2 x0 x1 x5a x5n x5c x6 m
termination_by structural x => x

theorem patinaref05_Chip_Page_l0_rule (k : Nat) (kx2 : Option Addr → Nat → Nat → Mem → Option (Sl × Mem)) {P : (Sl × Mem) → Prop} (I : Nat → Option Addr → Int → Option Addr → Nat → Nat → Int → Mem → Prop)
    (step : ∀ d (nx : Option Addr → Int → Option Addr → Nat → Nat → Int → Mem → Option (Sl × Mem)) (x0 : Option Addr) (x1 : Int) (x5a : Option Addr) (x5n : Nat) (x5c : Nat) (x6 : Int) (m : Mem), I d x0 x1 x5a x5n x5c x6 m → (∀ d' (x0 : Option Addr) (x1 : Int) (x5a : Option Addr) (x5n : Nat) (x5c : Nat) (x6 : Int) (m : Mem), d' < d → I d' x0 x1 x5a x5n x5c x6 m → Ok (nx x0 x1 x5a x5n x5c x6 m) P) → Ok (patinaref05_Chip_Page_l0_b k nx kx2 x0 x1 x5a x5n x5c x6 m) P) :
    ∀ n d (x0 : Option Addr) (x1 : Int) (x5a : Option Addr) (x5n : Nat) (x5c : Nat) (x6 : Int) (m : Mem), d < n → I d x0 x1 x5a x5n x5c x6 m → Ok (patinaref05_Chip_Page_l0 k kx2 n x0 x1 x5a x5n x5c x6 m) P
  | 0, d, x0, x1, x5a, x5n, x5c, x6, m, h, _ => absurd h (Nat.not_lt_zero _)
  | n + 1, d, x0, x1, x5a, x5n, x5c, x6, m, h, hI => step d _ x0 x1 x5a x5n x5c x6 m hI fun d' x0 x1 x5a x5n x5c x6 m h' hI' => patinaref05_Chip_Page_l0_rule k kx2 I step n d' x0 x1 x5a x5n x5c x6 m (by omega) hI'

def patinaref05_Chip_Page (k : Nat) (p0 : Option Addr) (p1 : Int) (m : Mem) : Option (Sl × Mem) :=
  patinaref05_Chip_Page_l0 k (fun y5a y5n y5c m6 => 
  some ((⟨y5a, y5n, y5c⟩ : Sl), m6)) k p0 p1 none 0 0 0 m

def patinaref05_Chip_Page_call {R : Type} (k : Nat) : Fun R := callCons 54 (patinaref05_Chip_chunk_arm k) (callNil)

theorem patinaref05_Chip_Page_callOk {R : Type} (k : Nat) : CallOk Try.prog (patinaref05_Chip_Page_call (R := R) k) := callOk_cons (patinaref05_Chip_chunk_armOk k) (callOk_nil)

def patinaref05_Chip_Page_l0_L (k : Nat) (K : Nat → List Value → Mem → Option (Sl × Mem)) (n : Nat) (vs : List Value) (m : Mem) : Option (Sl × Mem) := match vs with
  | [.pointer x0, .int .i64 x1, .slice x5a x5n x5c, .int .i64 x6] => patinaref05_Chip_Page_l0 k (fun y5a y5n y5c m => K 2 [(Value.slice y5a y5n y5c)] m) n x0 x1 x5a x5n x5c x6 m
  | _ => none

def patinaref05_Chip_Page_loop (k : Nat) : Nat → List Value → Mem → (Nat → List Value → Mem → Option (Sl × Mem)) → Option (Sl × Mem) := fun cur vs m K => match cur with
  | 0 => patinaref05_Chip_Page_l0_L k K k vs m
  | _ => none

def patinaref05_Chip_Page_C (k : Nat) : Ctx (Sl × Mem) := ⟨tt, patinaref05_Chip_Page_call k, patinaref05_Chip_Page_loop k, [(0, [0, 1, 5, 6])], [(2, [5])]⟩

noncomputable def patinaref05_Chip_Page_l0_c : Code := ((loopsOf 0 (body Try.f52)).map (·.2)).getD 0 .skip

theorem patinaref05_Chip_Page_loops : loopsOf 0 (body Try.f52) = [(0, patinaref05_Chip_Page_l0_c)] := by kernel_rfl

theorem patinaref05_Chip_Page_l0_ok (k : Nat) : LoopOk (patinaref05_Chip_Page_C k) 0 patinaref05_Chip_Page_l0_c := by
  refine ⟨[0, 1, 5, 6], by kernel_rfl, fun K r => ⟨patinaref05_Chip_Page_l0_L k K, fun vs m h => ⟨k, h⟩, ?_⟩⟩
  intro n vs m h
  unfold patinaref05_Chip_Page_l0_L at h
  split at h
  · cases n with
    | zero => cases h
    | succ n => exact ⟨n, rfl, Eq.trans (by kernel_rfl) h⟩
  · cases h

def patinaref05_Chip_Page_dec : Value → Mem → Option (Sl × Mem) := fun v m => match v with
  | .slice q0a q0n q0c => some ((⟨q0a, q0n, q0c⟩ : Sl), m)
  | _ => none

theorem patinaref05_Chip_Page_eq (k : Nat) (p0 : Option Addr) (p1 : Int) (m : Mem) : fnX (patinaref05_Chip_Page_C k) Try.f52 [(Value.pointer p0), (Value.int .i64 p1)] m patinaref05_Chip_Page_dec = patinaref05_Chip_Page k p0 p1 m := by kernel_rfl

theorem patinaref05_Chip_Page_ok {k : Nat} {p0 : Option Addr} {p1 : Int} {m : Mem} {r : (Sl × Mem)} (h : patinaref05_Chip_Page k p0 p1 m = some r) : CallP Try.prog 52 [(Value.pointer p0), (Value.int .i64 p1)] m fun v m' => v = (Value.slice r.1.a r.1.len r.1.cap) ∧ m' = r.2 := by
  refine (fn_sound (C := patinaref05_Chip_Page_C k) (c := body Try.f52) tOk mixed (patinaref05_Chip_Page_callOk k) Try.func52 (by kernel_rfl) (by kernel_rfl) (by kernel_rfl) (by kernel_rfl) ?_ ?_ (Eq.trans (patinaref05_Chip_Page_eq k p0 p1 m) h)).mono ?_
  · intro p hp
    rw [patinaref05_Chip_Page_loops] at hp
    simp only [List.mem_cons, List.not_mem_nil, or_false] at hp
    rcases hp with rfl
    · exact patinaref05_Chip_Page_l0_ok k
  · intro p hp; rw [show rangesOf 0 (body Try.f52) = [] by kernel_rfl] at hp; cases hp
  · intro v m' hp
    unfold patinaref05_Chip_Page_dec at hp
    split at hp
    · simp only [Option.some.injEq] at hp; subst hp; exact ⟨rfl, rfl⟩
    · cases hp

def patinaref05_Chip_Page_arm {R : Type} (k : Nat) : Arm R := fun vs m K => match vs with
  | [.pointer p0, .int .i64 p1] => (patinaref05_Chip_Page k p0 p1 m).bind fun r => K (Value.slice r.1.a r.1.len r.1.cap) r.2
  | _ => none

theorem patinaref05_Chip_Page_armOk {R : Type} (k : Nat) : ArmOk Try.prog 52 (patinaref05_Chip_Page_arm (R := R) k) := by
  intro vs m K r h
  unfold patinaref05_Chip_Page_arm at h
  split at h
  · obtain ⟨r, h1, h2⟩ := Option.bind_eq_some_iff.1 h; exact ⟨_, _, h2, fun K' => by simp only [patinaref05_Chip_Page_arm, h1, Option.bind_some], patinaref05_Chip_Page_ok h1⟩
  · cases h

/-! ### patinaref05_Chip_Read -/
def patinaref05_Chip_Read (k : Nat) (p0 : Option Addr) (p1 : Int) (m : Mem) : Option (Sl × Int × Mem) :=
  (patinaref05_isPage k p1 m).bind fun r1 =>
  bif !r1.1 then (
  some ((⟨none, 0, 0⟩ : Sl), 1, r1.2)) else (
  (p0).bind fun a2 =>
  (ldBool r1.2 (plus a2 1)).bind fun t3 =>
  bif !t3 then (
  some ((⟨none, 0, 0⟩ : Sl), 7, r1.2)) else (
  (p0).bind fun a4 =>
  (ldSl r1.2 (plus a4 0)).bind fun t5 =>
  bif inRange (IntKind.wrap .i64 (Int.tdiv p1 8)) t5.len then (
  (t5.a).bind fun a6 =>
  (ldInt .i64 r1.2 (plus (plus a6 (Int.toNat (IntKind.wrap .i64 (Int.tdiv p1 8)) * 5)) 1)).bind fun t7 =>
  bif inRange (IntKind.wrap .i64 (Int.tdiv p1 8)) t5.len then (
  (t5.a).bind fun a8 =>
  (st r1.2 (plus (plus a8 (Int.toNat (IntKind.wrap .i64 (Int.tdiv p1 8)) * 5)) 1) (Value.int .i64 (IntKind.wrap .i64 (t7 + 1)))).bind fun m9 =>
  (patinaref05_Chip_Page k p0 p1 m9).bind fun r10 =>
  some ((⟨r10.1.a, r10.1.len, r10.1.cap⟩ : Sl), 0, r10.2)) else none) else none))

def patinaref05_Chip_Read_call {R : Type} (k : Nat) : Fun R := callCons 51 (patinaref05_isPage_arm k) (callCons 52 (patinaref05_Chip_Page_arm k) (callNil))

theorem patinaref05_Chip_Read_callOk {R : Type} (k : Nat) : CallOk Try.prog (patinaref05_Chip_Read_call (R := R) k) := callOk_cons (patinaref05_isPage_armOk k) (callOk_cons (patinaref05_Chip_Page_armOk k) (callOk_nil))

def patinaref05_Chip_Read_loop (k : Nat) : Nat → List Value → Mem → (Nat → List Value → Mem → Option (Sl × Int × Mem)) → Option (Sl × Int × Mem) := fun _ _ _ _ => none

def patinaref05_Chip_Read_C (k : Nat) : Ctx (Sl × Int × Mem) := ⟨tt, patinaref05_Chip_Read_call k, patinaref05_Chip_Read_loop k, [], []⟩

def patinaref05_Chip_Read_dec : Value → Mem → Option (Sl × Int × Mem) := fun v m => match v with
  | .tuple ⟨[.slice q0a q0n q0c, .int .i64 q1]⟩ => some ((⟨q0a, q0n, q0c⟩ : Sl), q1, m)
  | _ => none

theorem patinaref05_Chip_Read_eq (k : Nat) (p0 : Option Addr) (p1 : Int) (m : Mem) : fnX (patinaref05_Chip_Read_C k) Try.f23 [(Value.pointer p0), (Value.int .i64 p1)] m patinaref05_Chip_Read_dec = patinaref05_Chip_Read k p0 p1 m := by kernel_rfl

theorem patinaref05_Chip_Read_ok {k : Nat} {p0 : Option Addr} {p1 : Int} {m : Mem} {r : (Sl × Int × Mem)} (h : patinaref05_Chip_Read k p0 p1 m = some r) : CallP Try.prog 23 [(Value.pointer p0), (Value.int .i64 p1)] m fun v m' => v = (Value.tuple ⟨[(Value.slice r.1.a r.1.len r.1.cap), (Value.int .i64 r.2.1)]⟩) ∧ m' = r.2.2 := by
  refine (fn_sound (C := patinaref05_Chip_Read_C k) (c := body Try.f23) tOk mixed (patinaref05_Chip_Read_callOk k) Try.func23 (by kernel_rfl) (by kernel_rfl) (by kernel_rfl) (by kernel_rfl) ?_ ?_ (Eq.trans (patinaref05_Chip_Read_eq k p0 p1 m) h)).mono ?_
  · intro p hp; rw [show loopsOf 0 (body Try.f23) = [] by kernel_rfl] at hp; cases hp
  · intro p hp; rw [show rangesOf 0 (body Try.f23) = [] by kernel_rfl] at hp; cases hp
  · intro v m' hp
    unfold patinaref05_Chip_Read_dec at hp
    split at hp
    · simp only [Option.some.injEq] at hp; subst hp; exact ⟨rfl, rfl⟩
    · cases hp

def patinaref05_Chip_Read_arm {R : Type} (k : Nat) : Arm R := fun vs m K => match vs with
  | [.pointer p0, .int .i64 p1] => (patinaref05_Chip_Read k p0 p1 m).bind fun r => K (Value.tuple ⟨[(Value.slice r.1.a r.1.len r.1.cap), (Value.int .i64 r.2.1)]⟩) r.2.2
  | _ => none

theorem patinaref05_Chip_Read_armOk {R : Type} (k : Nat) : ArmOk Try.prog 23 (patinaref05_Chip_Read_arm (R := R) k) := by
  intro vs m K r h
  unfold patinaref05_Chip_Read_arm at h
  split at h
  · obtain ⟨r, h1, h2⟩ := Option.bind_eq_some_iff.1 h; exact ⟨_, _, h2, fun K' => by simp only [patinaref05_Chip_Read_arm, h1, Option.bind_some], patinaref05_Chip_Read_ok h1⟩
  · cases h

/-! ### patinaref05_Chip_step -/
def patinaref05_Chip_step_j1 (k : Nat) (p0 : Option Addr) (mj : Mem) : Option (Bool × Mem) :=
  (p0).bind fun a5 =>
  (ldInt .i64 mj (plus a5 3)).bind fun t6 =>
  (p0).bind fun a7 =>
  (st mj (plus a7 3) (Value.int .i64 (IntKind.wrap .i64 (t6 + 1)))).bind fun m8 =>
  some (true, m8)

def patinaref05_Chip_step (k : Nat) (p0 : Option Addr) (m : Mem) : Option (Bool × Mem) :=
  (p0).bind fun a1 =>
  (ldInt .i64 m (plus a1 2)).bind fun t2 =>
  bif t2 == 0 then (
  (p0).bind fun a3 =>
  (st m (plus a3 1) (Value.bool false)).bind fun m4 =>
  some (false, m4)) else (
  (p0).bind fun a9 =>
  (ldInt .i64 m (plus a9 2)).bind fun t10 =>
  bif decide (t10 > 0) then (
  (p0).bind fun a11 =>
  (ldInt .i64 m (plus a11 2)).bind fun t12 =>
  (p0).bind fun a13 =>
  (st m (plus a13 2) (Value.int .i64 (IntKind.wrap .i64 (t12 - 1)))).bind fun m14 =>
  patinaref05_Chip_step_j1 k p0 m14) else (
  patinaref05_Chip_step_j1 k p0 m))

def patinaref05_Chip_step_call {R : Type} (k : Nat) : Fun R := callNil

theorem patinaref05_Chip_step_callOk {R : Type} (k : Nat) : CallOk Try.prog (patinaref05_Chip_step_call (R := R) k) := callOk_nil

def patinaref05_Chip_step_loop (k : Nat) : Nat → List Value → Mem → (Nat → List Value → Mem → Option (Bool × Mem)) → Option (Bool × Mem) := fun _ _ _ _ => none

def patinaref05_Chip_step_C (k : Nat) : Ctx (Bool × Mem) := ⟨tt, patinaref05_Chip_step_call k, patinaref05_Chip_step_loop k, [], []⟩

def patinaref05_Chip_step_dec : Value → Mem → Option (Bool × Mem) := fun v m => match v with
  | .bool q0 => some (q0, m)
  | _ => none

theorem patinaref05_Chip_step_eq (k : Nat) (p0 : Option Addr) (m : Mem) : fnX (patinaref05_Chip_step_C k) Try.f55 [(Value.pointer p0)] m patinaref05_Chip_step_dec = patinaref05_Chip_step k p0 m := by kernel_rfl

theorem patinaref05_Chip_step_ok {k : Nat} {p0 : Option Addr} {m : Mem} {r : (Bool × Mem)} (h : patinaref05_Chip_step k p0 m = some r) : CallP Try.prog 55 [(Value.pointer p0)] m fun v m' => v = (Value.bool r.1) ∧ m' = r.2 := by
  refine (fn_sound (C := patinaref05_Chip_step_C k) (c := body Try.f55) tOk mixed (patinaref05_Chip_step_callOk k) Try.func55 (by kernel_rfl) (by kernel_rfl) (by kernel_rfl) (by kernel_rfl) ?_ ?_ (Eq.trans (patinaref05_Chip_step_eq k p0 m) h)).mono ?_
  · intro p hp; rw [show loopsOf 0 (body Try.f55) = [] by kernel_rfl] at hp; cases hp
  · intro p hp; rw [show rangesOf 0 (body Try.f55) = [] by kernel_rfl] at hp; cases hp
  · intro v m' hp
    unfold patinaref05_Chip_step_dec at hp
    split at hp
    · simp only [Option.some.injEq] at hp; subst hp; exact ⟨rfl, rfl⟩
    · cases hp

def patinaref05_Chip_step_arm {R : Type} (k : Nat) : Arm R := fun vs m K => match vs with
  | [.pointer p0] => (patinaref05_Chip_step k p0 m).bind fun r => K (Value.bool r.1) r.2
  | _ => none

theorem patinaref05_Chip_step_armOk {R : Type} (k : Nat) : ArmOk Try.prog 55 (patinaref05_Chip_step_arm (R := R) k) := by
  intro vs m K r h
  unfold patinaref05_Chip_step_arm at h
  split at h
  · obtain ⟨r, h1, h2⟩ := Option.bind_eq_some_iff.1 h; exact ⟨_, _, h2, fun K' => by simp only [patinaref05_Chip_step_arm, h1, Option.bind_some], patinaref05_Chip_step_ok h1⟩
  · cases h

/-! ### patinaref05_Chip_Write -/
def patinaref05_Chip_Write_j2 (k : Nat) (p1 : Int) (p3a : Option Addr) (p3n : Nat) (r4 : (Option Addr) × Mem) (a10 : Addr) (mj : Mem) : Option (Int × Mem) :=
  (ldBool mj (plus (plus a10 (Int.toNat (IntKind.wrap .i64 (Int.tdiv p1 8)) * 5)) 2)).bind fun t11 =>
  bif t11 then (
  some (8, mj)) else (
  (r4.1).bind fun a12 =>
  (st mj (plus a12 0) (Value.slice none 0 0)).bind fun m13 =>
  (r4.1).bind fun a14 =>
  (ldSl m13 (plus a14 0)).bind fun t15 =>
  (rdSl m13 p3a p3n 1).bind fun l16 =>
  (appM 1 1 m13 t15.a t15.len t15.cap p3n l16).bind fun r17 =>
  (r4.1).bind fun a18 =>
  (st r17.2 (plus a18 0) (Value.slice r17.1.a r17.1.len r17.1.cap)).bind fun m19 =>
  (r4.1).bind fun a20 =>
  (st m19 (plus a20 1) (Value.slice none 0 0)).bind fun m21 =>
  (r4.1).bind fun a22 =>
  (ldSl m21 (plus a22 1)).bind fun t23 =>
  (rdSl m21 p3a p3n 1).bind fun l24 =>
  (appM 1 1 m21 t23.a t23.len t23.cap p3n l24).bind fun r25 =>
  (r4.1).bind fun a26 =>
  (st r25.2 (plus a26 1) (Value.slice r25.1.a r25.1.len r25.1.cap)).bind fun m27 =>
  (r4.1).bind fun a28 =>
  (st m27 (plus a28 2) (Value.bool true)).bind fun m29 =>
  (r4.1).bind fun a30 =>
  (st m29 (plus a30 3) (Value.int .i64 0)).bind fun m31 =>
  some (0, m31))

def patinaref05_Chip_Write_j1 (k : Nat) (p1 : Int) (p3a : Option Addr) (p3n : Nat) (r4 : (Option Addr) × Mem) (a10 : Addr) (mj : Mem) : Option (Int × Mem) :=
  (ldInt .i64 mj (plus (plus a10 (Int.toNat (IntKind.wrap .i64 (Int.tdiv p1 8)) * 5)) 3)).bind fun t32 =>
  bif decide (t32 ≥ 0) then (
  (ldInt .i64 mj (plus (plus a10 (Int.toNat (IntKind.wrap .i64 (Int.tdiv p1 8)) * 5)) 3)).bind fun t33 =>
  (st mj (plus (plus a10 (Int.toNat (IntKind.wrap .i64 (Int.tdiv p1 8)) * 5)) 3) (Value.int .i64 (IntKind.wrap .i64 (t33 - 1)))).bind fun m34 =>
  patinaref05_Chip_Write_j2 k p1 p3a p3n r4 a10 m34) else (
  patinaref05_Chip_Write_j2 k p1 p3a p3n r4 a10 mj)

def patinaref05_Chip_Write (k : Nat) (p0 : Option Addr) (p1 : Int) (p2 : Int) (p3a : Option Addr) (p3n : Nat) (p3c : Nat) (m : Mem) : Option (Int × Mem) :=
  (patinaref05_isPage k p1 m).bind fun r1 =>
  bif !r1.1 then (
  some (1, r1.2)) else (
  bif decide (p2 < 0) then (
  some (1, r1.2)) else (
  bif decide (p2 ≥ 4) then (
  some (1, r1.2)) else (
  bif ((p3n : Nat) : Int) != 64 then (
  some (1, r1.2)) else (
  (p0).bind fun a2 =>
  (ldBool r1.2 (plus a2 1)).bind fun t3 =>
  bif !t3 then (
  some (7, r1.2)) else (
  (patinaref05_Chip_chunk k p0 p1 p2 r1.2).bind fun r4 =>
  (r4.1).bind fun a5 =>
  (ldBool r4.2 (plus a5 2)).bind fun t6 =>
  bif t6 then (
  some (9, r4.2)) else (
  (patinaref05_Chip_step k p0 r4.2).bind fun r7 =>
  bif !r7.1 then (
  some (7, r7.2)) else (
  (p0).bind fun a8 =>
  (ldSl r7.2 (plus a8 0)).bind fun t9 =>
  bif inRange (IntKind.wrap .i64 (Int.tdiv p1 8)) t9.len then (
  (t9.a).bind fun a10 =>
  (ldInt .i64 r7.2 (plus (plus a10 (Int.toNat (IntKind.wrap .i64 (Int.tdiv p1 8)) * 5)) 3)).bind fun t35 =>
  bif t35 == 0 then (
  (st r7.2 (plus (plus a10 (Int.toNat (IntKind.wrap .i64 (Int.tdiv p1 8)) * 5)) 2) (Value.bool true)).bind fun m36 =>
  patinaref05_Chip_Write_j1 k p1 p3a p3n r4 a10 m36) else (
  patinaref05_Chip_Write_j1 k p1 p3a p3n r4 a10 r7.2)) else none)))))))

def patinaref05_Chip_Write_call {R : Type} (k : Nat) : Fun R := callCons 51 (patinaref05_isPage_arm k) (callCons 54 (patinaref05_Chip_chunk_arm k) (callCons 55 (patinaref05_Chip_step_arm k) (callNil)))

theorem patinaref05_Chip_Write_callOk {R : Type} (k : Nat) : CallOk Try.prog (patinaref05_Chip_Write_call (R := R) k) := callOk_cons (patinaref05_isPage_armOk k) (callOk_cons (patinaref05_Chip_chunk_armOk k) (callOk_cons (patinaref05_Chip_step_armOk k) (callOk_nil)))

def patinaref05_Chip_Write_loop (k : Nat) : Nat → List Value → Mem → (Nat → List Value → Mem → Option (Int × Mem)) → Option (Int × Mem) := fun _ _ _ _ => none

def patinaref05_Chip_Write_C (k : Nat) : Ctx (Int × Mem) := ⟨tt, patinaref05_Chip_Write_call k, patinaref05_Chip_Write_loop k, [], []⟩

def patinaref05_Chip_Write_dec : Value → Mem → Option (Int × Mem) := fun v m => match v with
  | .int .i64 q0 => some (q0, m)
  | _ => none

theorem patinaref05_Chip_Write_eq (k : Nat) (p0 : Option Addr) (p1 : Int) (p2 : Int) (p3a : Option Addr) (p3n : Nat) (p3c : Nat) (m : Mem) : fnX (patinaref05_Chip_Write_C k) Try.f29 [(Value.pointer p0), (Value.int .i64 p1), (Value.int .i64 p2), (Value.slice p3a p3n p3c)] m patinaref05_Chip_Write_dec = patinaref05_Chip_Write k p0 p1 p2 p3a p3n p3c m := by kernel_rfl

theorem patinaref05_Chip_Write_ok {k : Nat} {p0 : Option Addr} {p1 : Int} {p2 : Int} {p3a : Option Addr} {p3n : Nat} {p3c : Nat} {m : Mem} {r : (Int × Mem)} (h : patinaref05_Chip_Write k p0 p1 p2 p3a p3n p3c m = some r) : CallP Try.prog 29 [(Value.pointer p0), (Value.int .i64 p1), (Value.int .i64 p2), (Value.slice p3a p3n p3c)] m fun v m' => v = (Value.int .i64 r.1) ∧ m' = r.2 := by
  refine (fn_sound (C := patinaref05_Chip_Write_C k) (c := body Try.f29) tOk mixed (patinaref05_Chip_Write_callOk k) Try.func29 (by kernel_rfl) (by kernel_rfl) (by kernel_rfl) (by kernel_rfl) ?_ ?_ (Eq.trans (patinaref05_Chip_Write_eq k p0 p1 p2 p3a p3n p3c m) h)).mono ?_
  · intro p hp; rw [show loopsOf 0 (body Try.f29) = [] by kernel_rfl] at hp; cases hp
  · intro p hp; rw [show rangesOf 0 (body Try.f29) = [] by kernel_rfl] at hp; cases hp
  · intro v m' hp
    unfold patinaref05_Chip_Write_dec at hp
    split at hp
    · simp only [Option.some.injEq] at hp; subst hp; exact ⟨rfl, rfl⟩
    · cases hp

def patinaref05_Chip_Write_arm {R : Type} (k : Nat) : Arm R := fun vs m K => match vs with
  | [.pointer p0, .int .i64 p1, .int .i64 p2, .slice p3a p3n p3c] => (patinaref05_Chip_Write k p0 p1 p2 p3a p3n p3c m).bind fun r => K (Value.int .i64 r.1) r.2
  | _ => none

theorem patinaref05_Chip_Write_armOk {R : Type} (k : Nat) : ArmOk Try.prog 29 (patinaref05_Chip_Write_arm (R := R) k) := by
  intro vs m K r h
  unfold patinaref05_Chip_Write_arm at h
  split at h
  · obtain ⟨r, h1, h2⟩ := Option.bind_eq_some_iff.1 h; exact ⟨_, _, h2, fun K' => by simp only [patinaref05_Chip_Write_arm, h1, Option.bind_some], patinaref05_Chip_Write_ok h1⟩
  · cases h

/-! ### patinaref05_isBlock -/
def patinaref05_isBlock (k : Nat) (p0 : Int) (m : Mem) : Option (Bool × Mem) :=
  bif decide (p0 ≥ 0) then (
  some (decide (p0 < 12), m)) else (
  some (false, m))

def patinaref05_isBlock_call {R : Type} (k : Nat) : Fun R := callNil

theorem patinaref05_isBlock_callOk {R : Type} (k : Nat) : CallOk Try.prog (patinaref05_isBlock_call (R := R) k) := callOk_nil

def patinaref05_isBlock_loop (k : Nat) : Nat → List Value → Mem → (Nat → List Value → Mem → Option (Bool × Mem)) → Option (Bool × Mem) := fun _ _ _ _ => none

def patinaref05_isBlock_C (k : Nat) : Ctx (Bool × Mem) := ⟨tt, patinaref05_isBlock_call k, patinaref05_isBlock_loop k, [], []⟩

def patinaref05_isBlock_dec : Value → Mem → Option (Bool × Mem) := fun v m => match v with
  | .bool q0 => some (q0, m)
  | _ => none

theorem patinaref05_isBlock_eq (k : Nat) (p0 : Int) (m : Mem) : fnX (patinaref05_isBlock_C k) Try.f57 [(Value.int .i64 p0)] m patinaref05_isBlock_dec = patinaref05_isBlock k p0 m := by kernel_rfl

theorem patinaref05_isBlock_ok {k : Nat} {p0 : Int} {m : Mem} {r : (Bool × Mem)} (h : patinaref05_isBlock k p0 m = some r) : CallP Try.prog 57 [(Value.int .i64 p0)] m fun v m' => v = (Value.bool r.1) ∧ m' = r.2 := by
  refine (fn_sound (C := patinaref05_isBlock_C k) (c := body Try.f57) tOk mixed (patinaref05_isBlock_callOk k) Try.func57 (by kernel_rfl) (by kernel_rfl) (by kernel_rfl) (by kernel_rfl) ?_ ?_ (Eq.trans (patinaref05_isBlock_eq k p0 m) h)).mono ?_
  · intro p hp; rw [show loopsOf 0 (body Try.f57) = [] by kernel_rfl] at hp; cases hp
  · intro p hp; rw [show rangesOf 0 (body Try.f57) = [] by kernel_rfl] at hp; cases hp
  · intro v m' hp
    unfold patinaref05_isBlock_dec at hp
    split at hp
    · simp only [Option.some.injEq] at hp; subst hp; exact ⟨rfl, rfl⟩
    · cases hp

def patinaref05_isBlock_arm {R : Type} (k : Nat) : Arm R := fun vs m K => match vs with
  | [.int .i64 p0] => (patinaref05_isBlock k p0 m).bind fun r => K (Value.bool r.1) r.2
  | _ => none

theorem patinaref05_isBlock_armOk {R : Type} (k : Nat) : ArmOk Try.prog 57 (patinaref05_isBlock_arm (R := R) k) := by
  intro vs m K r h
  unfold patinaref05_isBlock_arm at h
  split at h
  · obtain ⟨r, h1, h2⟩ := Option.bind_eq_some_iff.1 h; exact ⟨_, _, h2, fun K' => by simp only [patinaref05_isBlock_arm, h1, Option.bind_some], patinaref05_isBlock_ok h1⟩
  · cases h

/-! ### patinaref05_Chip_Erase -/
def patinaref05_Chip_Erase_j1 (k : Nat) (p1 : Int) (a7 : Addr) (mj : Mem) : Option (Int × Mem) :=
  (ldBool mj (plus (plus a7 (Int.toNat p1 * 5)) 2)).bind fun t8 =>
  bif t8 then (
  some (8, mj)) else (
  (patinaref05_chunks k  mj).bind fun r9 =>
  (st r9.2 (plus (plus a7 (Int.toNat p1 * 5)) 0) (Value.slice r9.1.a r9.1.len r9.1.cap)).bind fun m10 =>
  (st m10 (plus (plus a7 (Int.toNat p1 * 5)) 1) (Value.int .i64 0)).bind fun m11 =>
  some (0, m11))

def patinaref05_Chip_Erase (k : Nat) (p0 : Option Addr) (p1 : Int) (m : Mem) : Option (Int × Mem) :=
  (patinaref05_isBlock k p1 m).bind fun r1 =>
  bif !r1.1 then (
  some (1, r1.2)) else (
  (p0).bind fun a2 =>
  (ldBool r1.2 (plus a2 1)).bind fun t3 =>
  bif !t3 then (
  some (7, r1.2)) else (
  (patinaref05_Chip_step k p0 r1.2).bind fun r4 =>
  bif !r4.1 then (
  some (7, r4.2)) else (
  (p0).bind fun a5 =>
  (ldSl r4.2 (plus a5 0)).bind fun t6 =>
  bif inRange p1 t6.len then (
  (t6.a).bind fun a7 =>
  (ldBool r4.2 (plus (plus a7 (Int.toNat p1 * 5)) 4)).bind fun t12 =>
  bif t12 then (
  (st r4.2 (plus (plus a7 (Int.toNat p1 * 5)) 2) (Value.bool true)).bind fun m13 =>
  patinaref05_Chip_Erase_j1 k p1 a7 m13) else (
  patinaref05_Chip_Erase_j1 k p1 a7 r4.2)) else none)))

def patinaref05_Chip_Erase_call {R : Type} (k : Nat) : Fun R := callCons 22 (patinaref05_chunks_arm k) (callCons 55 (patinaref05_Chip_step_arm k) (callCons 57 (patinaref05_isBlock_arm k) (callNil)))

theorem patinaref05_Chip_Erase_callOk {R : Type} (k : Nat) : CallOk Try.prog (patinaref05_Chip_Erase_call (R := R) k) := callOk_cons (patinaref05_chunks_armOk k) (callOk_cons (patinaref05_Chip_step_armOk k) (callOk_cons (patinaref05_isBlock_armOk k) (callOk_nil)))

def patinaref05_Chip_Erase_loop (k : Nat) : Nat → List Value → Mem → (Nat → List Value → Mem → Option (Int × Mem)) → Option (Int × Mem) := fun _ _ _ _ => none

def patinaref05_Chip_Erase_C (k : Nat) : Ctx (Int × Mem) := ⟨tt, patinaref05_Chip_Erase_call k, patinaref05_Chip_Erase_loop k, [], []⟩

def patinaref05_Chip_Erase_dec : Value → Mem → Option (Int × Mem) := fun v m => match v with
  | .int .i64 q0 => some (q0, m)
  | _ => none

theorem patinaref05_Chip_Erase_eq (k : Nat) (p0 : Option Addr) (p1 : Int) (m : Mem) : fnX (patinaref05_Chip_Erase_C k) Try.f31 [(Value.pointer p0), (Value.int .i64 p1)] m patinaref05_Chip_Erase_dec = patinaref05_Chip_Erase k p0 p1 m := by kernel_rfl

theorem patinaref05_Chip_Erase_ok {k : Nat} {p0 : Option Addr} {p1 : Int} {m : Mem} {r : (Int × Mem)} (h : patinaref05_Chip_Erase k p0 p1 m = some r) : CallP Try.prog 31 [(Value.pointer p0), (Value.int .i64 p1)] m fun v m' => v = (Value.int .i64 r.1) ∧ m' = r.2 := by
  refine (fn_sound (C := patinaref05_Chip_Erase_C k) (c := body Try.f31) tOk mixed (patinaref05_Chip_Erase_callOk k) Try.func31 (by kernel_rfl) (by kernel_rfl) (by kernel_rfl) (by kernel_rfl) ?_ ?_ (Eq.trans (patinaref05_Chip_Erase_eq k p0 p1 m) h)).mono ?_
  · intro p hp; rw [show loopsOf 0 (body Try.f31) = [] by kernel_rfl] at hp; cases hp
  · intro p hp; rw [show rangesOf 0 (body Try.f31) = [] by kernel_rfl] at hp; cases hp
  · intro v m' hp
    unfold patinaref05_Chip_Erase_dec at hp
    split at hp
    · simp only [Option.some.injEq] at hp; subst hp; exact ⟨rfl, rfl⟩
    · cases hp

def patinaref05_Chip_Erase_arm {R : Type} (k : Nat) : Arm R := fun vs m K => match vs with
  | [.pointer p0, .int .i64 p1] => (patinaref05_Chip_Erase k p0 p1 m).bind fun r => K (Value.int .i64 r.1) r.2
  | _ => none

theorem patinaref05_Chip_Erase_armOk {R : Type} (k : Nat) : ArmOk Try.prog 31 (patinaref05_Chip_Erase_arm (R := R) k) := by
  intro vs m K r h
  unfold patinaref05_Chip_Erase_arm at h
  split at h
  · obtain ⟨r, h1, h2⟩ := Option.bind_eq_some_iff.1 h; exact ⟨_, _, h2, fun K' => by simp only [patinaref05_Chip_Erase_arm, h1, Option.bind_some], patinaref05_Chip_Erase_ok h1⟩
  · cases h

/-! ### patinaref05_Chunk_damage -/
def patinaref05_Chunk_damage_j1 (k : Nat) (x0 : Option Addr) (x4 : Int) (nx : Option Addr → Int → Int → Mem → Option (Int × Mem)) (x3_ : Int) (mj : Mem) : Option (Int × Mem) :=
  nx x0 x3_ (IntKind.wrap .i64 (x4 + 1)) mj

def patinaref05_Chunk_damage_l0_b (k : Nat) (nx : Option Addr → Int → Int → Mem → Option (Int × Mem)) (kx2 : Int → Mem → Option (Int × Mem)) (x0 : Option Addr) (x3 : Int) (x4 : Int) (m : Mem) : Option (Int × Mem) :=
  bif decide (x4 < 64) then (
  (x0).bind fun a1 =>
  (ldSl m (plus a1 0)).bind fun t2 =>
  bif inRange x4 t2.len then (
  (t2.a).bind fun a3 =>
  (ldInt .u8 m (plus a3 (Int.toNat x4 * 1))).bind fun t4 =>
  (x0).bind fun a5 =>
  (ldSl m (plus a5 1)).bind fun t6 =>
  bif inRange x4 t6.len then (
  (t6.a).bind fun a7 =>
  (ldInt .u8 m (plus a7 (Int.toNat x4 * 1))).bind fun t8 =>
  bif t4 != t8 then (
  patinaref05_Chunk_damage_j1 k x0 x4 nx (IntKind.wrap .i64 (x3 + 1)) m) else (
  patinaref05_Chunk_damage_j1 k x0 x4 nx x3 m)) else none) else none) else (
  kx2 x3 m)

def patinaref05_Chunk_damage_l0 (k : Nat) (kx2 : Int → Mem → Option (Int × Mem)) : Nat → Option Addr → Int → Int → Mem → Option (Int × Mem)
  | 0, _, _, _, _ => none
  | n + 1, x0, x3, x4, m => patinaref05_Chunk_damage_l0_b k (fun x0 x3 x4 m => patinaref05_Chunk_damage_l0 k kx2 n x0 x3 x4 m) kx2 x0 x3 x4 m
termination_by structural x => x

theorem patinaref05_Chunk_damage_l0_rule (k : Nat) (kx2 : Int → Mem → Option (Int × Mem)) {P : (Int × Mem) → Prop} (I : Nat → Option Addr → Int → Int → Mem → Prop)
    (step : ∀ d (nx : Option Addr → Int → Int → Mem → Option (Int × Mem)) (x0 : Option Addr) (x3 : Int) (x4 : Int) (m : Mem), I d x0 x3 x4 m → (∀ d' (x0 : Option Addr) (x3 : Int) (x4 : Int) (m : Mem), d' < d → I d' x0 x3 x4 m → Ok (nx x0 x3 x4 m) P) → Ok (patinaref05_Chunk_damage_l0_b k nx kx2 x0 x3 x4 m) P) :
    ∀ n d (x0 : Option Addr) (x3 : Int) (x4 : Int) (m : Mem), d < n → I d x0 x3 x4 m → Ok (patinaref05_Chunk_damage_l0 k kx2 n x0 x3 x4 m) P
  | 0, d, x0, x3, x4, m, h, _ => absurd h (Nat.not_lt_zero _)
  | n + 1, d, x0, x3, x4, m, h, hI => step d _ x0 x3 x4 m hI fun d' x0 x3 x4 m h' hI' => patinaref05_Chunk_damage_l0_rule k kx2 I step n d' x0 x3 x4 m (by omega) hI'

def patinaref05_Chunk_damage (k : Nat) (p0 : Option Addr) (m : Mem) : Option (Int × Mem) :=
  patinaref05_Chunk_damage_l0 k (fun y3 m9 => 
  some (y3, m9)) k p0 0 0 m

def patinaref05_Chunk_damage_call {R : Type} (k : Nat) : Fun R := callNil

theorem patinaref05_Chunk_damage_callOk {R : Type} (k : Nat) : CallOk Try.prog (patinaref05_Chunk_damage_call (R := R) k) := callOk_nil

def patinaref05_Chunk_damage_l0_L (k : Nat) (K : Nat → List Value → Mem → Option (Int × Mem)) (n : Nat) (vs : List Value) (m : Mem) : Option (Int × Mem) := match vs with
  | [.pointer x0, .int .i64 x3, .int .i64 x4] => patinaref05_Chunk_damage_l0 k (fun y3 m => K 2 [(Value.int .i64 y3)] m) n x0 x3 x4 m
  | _ => none

def patinaref05_Chunk_damage_loop (k : Nat) : Nat → List Value → Mem → (Nat → List Value → Mem → Option (Int × Mem)) → Option (Int × Mem) := fun cur vs m K => match cur with
  | 0 => patinaref05_Chunk_damage_l0_L k K k vs m
  | _ => none

def patinaref05_Chunk_damage_C (k : Nat) : Ctx (Int × Mem) := ⟨tt, patinaref05_Chunk_damage_call k, patinaref05_Chunk_damage_loop k, [(0, [0, 3, 4])], [(2, [3])]⟩

noncomputable def patinaref05_Chunk_damage_l0_c : Code := ((loopsOf 0 (body Try.f58)).map (·.2)).getD 0 .skip

theorem patinaref05_Chunk_damage_loops : loopsOf 0 (body Try.f58) = [(0, patinaref05_Chunk_damage_l0_c)] := by kernel_rfl

theorem patinaref05_Chunk_damage_l0_ok (k : Nat) : LoopOk (patinaref05_Chunk_damage_C k) 0 patinaref05_Chunk_damage_l0_c := by
  refine ⟨[0, 3, 4], by kernel_rfl, fun K r => ⟨patinaref05_Chunk_damage_l0_L k K, fun vs m h => ⟨k, h⟩, ?_⟩⟩
  intro n vs m h
  unfold patinaref05_Chunk_damage_l0_L at h
  split at h
  · cases n with
    | zero => cases h
    | succ n => exact ⟨n, rfl, Eq.trans (by kernel_rfl) h⟩
  · cases h

def patinaref05_Chunk_damage_dec : Value → Mem → Option (Int × Mem) := fun v m => match v with
  | .int .i64 q0 => some (q0, m)
  | _ => none

theorem patinaref05_Chunk_damage_eq (k : Nat) (p0 : Option Addr) (m : Mem) : fnX (patinaref05_Chunk_damage_C k) Try.f58 [(Value.pointer p0)] m patinaref05_Chunk_damage_dec = patinaref05_Chunk_damage k p0 m := by kernel_rfl

theorem patinaref05_Chunk_damage_ok {k : Nat} {p0 : Option Addr} {m : Mem} {r : (Int × Mem)} (h : patinaref05_Chunk_damage k p0 m = some r) : CallP Try.prog 58 [(Value.pointer p0)] m fun v m' => v = (Value.int .i64 r.1) ∧ m' = r.2 := by
  refine (fn_sound (C := patinaref05_Chunk_damage_C k) (c := body Try.f58) tOk mixed (patinaref05_Chunk_damage_callOk k) Try.func58 (by kernel_rfl) (by kernel_rfl) (by kernel_rfl) (by kernel_rfl) ?_ ?_ (Eq.trans (patinaref05_Chunk_damage_eq k p0 m) h)).mono ?_
  · intro p hp
    rw [patinaref05_Chunk_damage_loops] at hp
    simp only [List.mem_cons, List.not_mem_nil, or_false] at hp
    rcases hp with rfl
    · exact patinaref05_Chunk_damage_l0_ok k
  · intro p hp; rw [show rangesOf 0 (body Try.f58) = [] by kernel_rfl] at hp; cases hp
  · intro v m' hp
    unfold patinaref05_Chunk_damage_dec at hp
    split at hp
    · simp only [Option.some.injEq] at hp; subst hp; exact ⟨rfl, rfl⟩
    · cases hp

def patinaref05_Chunk_damage_arm {R : Type} (k : Nat) : Arm R := fun vs m K => match vs with
  | [.pointer p0] => (patinaref05_Chunk_damage k p0 m).bind fun r => K (Value.int .i64 r.1) r.2
  | _ => none

theorem patinaref05_Chunk_damage_armOk {R : Type} (k : Nat) : ArmOk Try.prog 58 (patinaref05_Chunk_damage_arm (R := R) k) := by
  intro vs m K r h
  unfold patinaref05_Chunk_damage_arm at h
  split at h
  · obtain ⟨r, h1, h2⟩ := Option.bind_eq_some_iff.1 h; exact ⟨_, _, h2, fun K' => by simp only [patinaref05_Chunk_damage_arm, h1, Option.bind_some], patinaref05_Chunk_damage_ok h1⟩
  · cases h

/-! ### patinaref05_Chip_Flip -/
def patinaref05_Chip_Flip_j1 (k : Nat) (mj : Mem) : Option (Int × Mem) :=
  some (0, mj)

def patinaref05_Chip_Flip (k : Nat) (p0 : Option Addr) (p1 : Int) (p2 : Int) (m : Mem) : Option (Int × Mem) :=
  (patinaref05_isPage k p1 m).bind fun r1 =>
  bif !r1.1 then (
  some (1, r1.2)) else (
  bif decide (p2 < 0) then (
  some (1, r1.2)) else (
  bif decide (p2 ≥ 2048) then (
  some (1, r1.2)) else (
  (patinaref05_Chip_chunk k p0 p1 (IntKind.wrap .i64 (Int.tdiv (IntKind.wrap .i64 (Int.tdiv p2 8)) 64)) r1.2).bind fun r2 =>
  (r2.1).bind fun a3 =>
  (ldSl r2.2 (plus a3 0)).bind fun t4 =>
  (r2.1).bind fun a5 =>
  (ldSl r2.2 (plus a5 0)).bind fun t6 =>
  bif inRange (Int.tmod (IntKind.wrap .i64 (Int.tdiv p2 8)) 64) t6.len then (
  (t6.a).bind fun a7 =>
  (ldInt .u8 r2.2 (plus a7 (Int.toNat (Int.tmod (IntKind.wrap .i64 (Int.tdiv p2 8)) 64) * 1))).bind fun t8 =>
  bif decide ((Int.tmod p2 8) < 0) then none else (
  bif inRange (Int.tmod (IntKind.wrap .i64 (Int.tdiv p2 8)) 64) t4.len then (
  (t4.a).bind fun a9 =>
  (st r2.2 (plus a9 (Int.toNat (Int.tmod (IntKind.wrap .i64 (Int.tdiv p2 8)) 64) * 1)) (Value.int .u8 (bitI .xor .u8 t8 (shlI .u8 1 (Int.tmod p2 8))))).bind fun m10 =>
  (patinaref05_Chunk_damage k r2.1 m10).bind fun r11 =>
  (r2.1).bind fun a12 =>
  (ldInt .i64 r11.2 (plus a12 3)).bind fun t13 =>
  bif decide (r11.1 > t13) then (
  (r2.1).bind fun a14 =>
  (st r11.2 (plus a14 3) (Value.int .i64 r11.1)).bind fun m15 =>
  patinaref05_Chip_Flip_j1 k  m15) else (
  patinaref05_Chip_Flip_j1 k  r11.2)) else none)) else none)))

def patinaref05_Chip_Flip_call {R : Type} (k : Nat) : Fun R := callCons 51 (patinaref05_isPage_arm k) (callCons 54 (patinaref05_Chip_chunk_arm k) (callCons 58 (patinaref05_Chunk_damage_arm k) (callNil)))

theorem patinaref05_Chip_Flip_callOk {R : Type} (k : Nat) : CallOk Try.prog (patinaref05_Chip_Flip_call (R := R) k) := callOk_cons (patinaref05_isPage_armOk k) (callOk_cons (patinaref05_Chip_chunk_armOk k) (callOk_cons (patinaref05_Chunk_damage_armOk k) (callOk_nil)))

def patinaref05_Chip_Flip_loop (k : Nat) : Nat → List Value → Mem → (Nat → List Value → Mem → Option (Int × Mem)) → Option (Int × Mem) := fun _ _ _ _ => none

def patinaref05_Chip_Flip_C (k : Nat) : Ctx (Int × Mem) := ⟨tt, patinaref05_Chip_Flip_call k, patinaref05_Chip_Flip_loop k, [], []⟩

def patinaref05_Chip_Flip_dec : Value → Mem → Option (Int × Mem) := fun v m => match v with
  | .int .i64 q0 => some (q0, m)
  | _ => none

theorem patinaref05_Chip_Flip_eq (k : Nat) (p0 : Option Addr) (p1 : Int) (p2 : Int) (m : Mem) : fnX (patinaref05_Chip_Flip_C k) Try.f32 [(Value.pointer p0), (Value.int .i64 p1), (Value.int .i64 p2)] m patinaref05_Chip_Flip_dec = patinaref05_Chip_Flip k p0 p1 p2 m := by kernel_rfl

theorem patinaref05_Chip_Flip_ok {k : Nat} {p0 : Option Addr} {p1 : Int} {p2 : Int} {m : Mem} {r : (Int × Mem)} (h : patinaref05_Chip_Flip k p0 p1 p2 m = some r) : CallP Try.prog 32 [(Value.pointer p0), (Value.int .i64 p1), (Value.int .i64 p2)] m fun v m' => v = (Value.int .i64 r.1) ∧ m' = r.2 := by
  refine (fn_sound (C := patinaref05_Chip_Flip_C k) (c := body Try.f32) tOk mixed (patinaref05_Chip_Flip_callOk k) Try.func32 (by kernel_rfl) (by kernel_rfl) (by kernel_rfl) (by kernel_rfl) ?_ ?_ (Eq.trans (patinaref05_Chip_Flip_eq k p0 p1 p2 m) h)).mono ?_
  · intro p hp; rw [show loopsOf 0 (body Try.f32) = [] by kernel_rfl] at hp; cases hp
  · intro p hp; rw [show rangesOf 0 (body Try.f32) = [] by kernel_rfl] at hp; cases hp
  · intro v m' hp
    unfold patinaref05_Chip_Flip_dec at hp
    split at hp
    · simp only [Option.some.injEq] at hp; subst hp; exact ⟨rfl, rfl⟩
    · cases hp

def patinaref05_Chip_Flip_arm {R : Type} (k : Nat) : Arm R := fun vs m K => match vs with
  | [.pointer p0, .int .i64 p1, .int .i64 p2] => (patinaref05_Chip_Flip k p0 p1 p2 m).bind fun r => K (Value.int .i64 r.1) r.2
  | _ => none

theorem patinaref05_Chip_Flip_armOk {R : Type} (k : Nat) : ArmOk Try.prog 32 (patinaref05_Chip_Flip_arm (R := R) k) := by
  intro vs m K r h
  unfold patinaref05_Chip_Flip_arm at h
  split at h
  · obtain ⟨r, h1, h2⟩ := Option.bind_eq_some_iff.1 h; exact ⟨_, _, h2, fun K' => by simp only [patinaref05_Chip_Flip_arm, h1, Option.bind_some], patinaref05_Chip_Flip_ok h1⟩
  · cases h

/-! ### patinaref05_Chip_FailProgram -/
def patinaref05_Chip_FailProgram (k : Nat) (p0 : Option Addr) (p1 : Int) (p2 : Int) (m : Mem) : Option (Int × Mem) :=
  (patinaref05_isBlock k p1 m).bind fun r1 =>
  bif !r1.1 then (
  some (1, r1.2)) else (
  bif decide (p2 < 0) then (
  some (1, r1.2)) else (
  (p0).bind fun a2 =>
  (ldSl r1.2 (plus a2 0)).bind fun t3 =>
  bif inRange p1 t3.len then (
  (t3.a).bind fun a4 =>
  (st r1.2 (plus (plus a4 (Int.toNat p1 * 5)) 3) (Value.int .i64 p2)).bind fun m5 =>
  some (0, m5)) else none))

def patinaref05_Chip_FailProgram_call {R : Type} (k : Nat) : Fun R := callCons 57 (patinaref05_isBlock_arm k) (callNil)

theorem patinaref05_Chip_FailProgram_callOk {R : Type} (k : Nat) : CallOk Try.prog (patinaref05_Chip_FailProgram_call (R := R) k) := callOk_cons (patinaref05_isBlock_armOk k) (callOk_nil)

def patinaref05_Chip_FailProgram_loop (k : Nat) : Nat → List Value → Mem → (Nat → List Value → Mem → Option (Int × Mem)) → Option (Int × Mem) := fun _ _ _ _ => none

def patinaref05_Chip_FailProgram_C (k : Nat) : Ctx (Int × Mem) := ⟨tt, patinaref05_Chip_FailProgram_call k, patinaref05_Chip_FailProgram_loop k, [], []⟩

def patinaref05_Chip_FailProgram_dec : Value → Mem → Option (Int × Mem) := fun v m => match v with
  | .int .i64 q0 => some (q0, m)
  | _ => none

theorem patinaref05_Chip_FailProgram_eq (k : Nat) (p0 : Option Addr) (p1 : Int) (p2 : Int) (m : Mem) : fnX (patinaref05_Chip_FailProgram_C k) Try.f34 [(Value.pointer p0), (Value.int .i64 p1), (Value.int .i64 p2)] m patinaref05_Chip_FailProgram_dec = patinaref05_Chip_FailProgram k p0 p1 p2 m := by kernel_rfl

theorem patinaref05_Chip_FailProgram_ok {k : Nat} {p0 : Option Addr} {p1 : Int} {p2 : Int} {m : Mem} {r : (Int × Mem)} (h : patinaref05_Chip_FailProgram k p0 p1 p2 m = some r) : CallP Try.prog 34 [(Value.pointer p0), (Value.int .i64 p1), (Value.int .i64 p2)] m fun v m' => v = (Value.int .i64 r.1) ∧ m' = r.2 := by
  refine (fn_sound (C := patinaref05_Chip_FailProgram_C k) (c := body Try.f34) tOk mixed (patinaref05_Chip_FailProgram_callOk k) Try.func34 (by kernel_rfl) (by kernel_rfl) (by kernel_rfl) (by kernel_rfl) ?_ ?_ (Eq.trans (patinaref05_Chip_FailProgram_eq k p0 p1 p2 m) h)).mono ?_
  · intro p hp; rw [show loopsOf 0 (body Try.f34) = [] by kernel_rfl] at hp; cases hp
  · intro p hp; rw [show rangesOf 0 (body Try.f34) = [] by kernel_rfl] at hp; cases hp
  · intro v m' hp
    unfold patinaref05_Chip_FailProgram_dec at hp
    split at hp
    · simp only [Option.some.injEq] at hp; subst hp; exact ⟨rfl, rfl⟩
    · cases hp

def patinaref05_Chip_FailProgram_arm {R : Type} (k : Nat) : Arm R := fun vs m K => match vs with
  | [.pointer p0, .int .i64 p1, .int .i64 p2] => (patinaref05_Chip_FailProgram k p0 p1 p2 m).bind fun r => K (Value.int .i64 r.1) r.2
  | _ => none

theorem patinaref05_Chip_FailProgram_armOk {R : Type} (k : Nat) : ArmOk Try.prog 34 (patinaref05_Chip_FailProgram_arm (R := R) k) := by
  intro vs m K r h
  unfold patinaref05_Chip_FailProgram_arm at h
  split at h
  · obtain ⟨r, h1, h2⟩ := Option.bind_eq_some_iff.1 h; exact ⟨_, _, h2, fun K' => by simp only [patinaref05_Chip_FailProgram_arm, h1, Option.bind_some], patinaref05_Chip_FailProgram_ok h1⟩
  · cases h

/-! ### patinaref05_Chip_FailErase -/
def patinaref05_Chip_FailErase (k : Nat) (p0 : Option Addr) (p1 : Int) (m : Mem) : Option (Int × Mem) :=
  (patinaref05_isBlock k p1 m).bind fun r1 =>
  bif !r1.1 then (
  some (1, r1.2)) else (
  (p0).bind fun a2 =>
  (ldSl r1.2 (plus a2 0)).bind fun t3 =>
  bif inRange p1 t3.len then (
  (t3.a).bind fun a4 =>
  (st r1.2 (plus (plus a4 (Int.toNat p1 * 5)) 4) (Value.bool true)).bind fun m5 =>
  some (0, m5)) else none)

def patinaref05_Chip_FailErase_call {R : Type} (k : Nat) : Fun R := callCons 57 (patinaref05_isBlock_arm k) (callNil)

theorem patinaref05_Chip_FailErase_callOk {R : Type} (k : Nat) : CallOk Try.prog (patinaref05_Chip_FailErase_call (R := R) k) := callOk_cons (patinaref05_isBlock_armOk k) (callOk_nil)

def patinaref05_Chip_FailErase_loop (k : Nat) : Nat → List Value → Mem → (Nat → List Value → Mem → Option (Int × Mem)) → Option (Int × Mem) := fun _ _ _ _ => none

def patinaref05_Chip_FailErase_C (k : Nat) : Ctx (Int × Mem) := ⟨tt, patinaref05_Chip_FailErase_call k, patinaref05_Chip_FailErase_loop k, [], []⟩

def patinaref05_Chip_FailErase_dec : Value → Mem → Option (Int × Mem) := fun v m => match v with
  | .int .i64 q0 => some (q0, m)
  | _ => none

theorem patinaref05_Chip_FailErase_eq (k : Nat) (p0 : Option Addr) (p1 : Int) (m : Mem) : fnX (patinaref05_Chip_FailErase_C k) Try.f36 [(Value.pointer p0), (Value.int .i64 p1)] m patinaref05_Chip_FailErase_dec = patinaref05_Chip_FailErase k p0 p1 m := by kernel_rfl

theorem patinaref05_Chip_FailErase_ok {k : Nat} {p0 : Option Addr} {p1 : Int} {m : Mem} {r : (Int × Mem)} (h : patinaref05_Chip_FailErase k p0 p1 m = some r) : CallP Try.prog 36 [(Value.pointer p0), (Value.int .i64 p1)] m fun v m' => v = (Value.int .i64 r.1) ∧ m' = r.2 := by
  refine (fn_sound (C := patinaref05_Chip_FailErase_C k) (c := body Try.f36) tOk mixed (patinaref05_Chip_FailErase_callOk k) Try.func36 (by kernel_rfl) (by kernel_rfl) (by kernel_rfl) (by kernel_rfl) ?_ ?_ (Eq.trans (patinaref05_Chip_FailErase_eq k p0 p1 m) h)).mono ?_
  · intro p hp; rw [show loopsOf 0 (body Try.f36) = [] by kernel_rfl] at hp; cases hp
  · intro p hp; rw [show rangesOf 0 (body Try.f36) = [] by kernel_rfl] at hp; cases hp
  · intro v m' hp
    unfold patinaref05_Chip_FailErase_dec at hp
    split at hp
    · simp only [Option.some.injEq] at hp; subst hp; exact ⟨rfl, rfl⟩
    · cases hp

def patinaref05_Chip_FailErase_arm {R : Type} (k : Nat) : Arm R := fun vs m K => match vs with
  | [.pointer p0, .int .i64 p1] => (patinaref05_Chip_FailErase k p0 p1 m).bind fun r => K (Value.int .i64 r.1) r.2
  | _ => none

theorem patinaref05_Chip_FailErase_armOk {R : Type} (k : Nat) : ArmOk Try.prog 36 (patinaref05_Chip_FailErase_arm (R := R) k) := by
  intro vs m K r h
  unfold patinaref05_Chip_FailErase_arm at h
  split at h
  · obtain ⟨r, h1, h2⟩ := Option.bind_eq_some_iff.1 h; exact ⟨_, _, h2, fun K' => by simp only [patinaref05_Chip_FailErase_arm, h1, Option.bind_some], patinaref05_Chip_FailErase_ok h1⟩
  · cases h

/-! ### patinaref05_Chip_Cut -/
def patinaref05_Chip_Cut_j1 (k : Nat) (mj : Mem) : Option (Int × Mem) :=
  some (0, mj)

def patinaref05_Chip_Cut (k : Nat) (p0 : Option Addr) (p1 : Int) (m : Mem) : Option (Int × Mem) :=
  bif decide (p1 < 0) then (
  some (1, m)) else (
  (p0).bind fun a1 =>
  (ldBool m (plus a1 1)).bind fun t2 =>
  bif t2 then (
  (p0).bind fun a3 =>
  (st m (plus a3 2) (Value.int .i64 p1)).bind fun m4 =>
  patinaref05_Chip_Cut_j1 k  m4) else (
  patinaref05_Chip_Cut_j1 k  m))

def patinaref05_Chip_Cut_call {R : Type} (k : Nat) : Fun R := callNil

theorem patinaref05_Chip_Cut_callOk {R : Type} (k : Nat) : CallOk Try.prog (patinaref05_Chip_Cut_call (R := R) k) := callOk_nil

def patinaref05_Chip_Cut_loop (k : Nat) : Nat → List Value → Mem → (Nat → List Value → Mem → Option (Int × Mem)) → Option (Int × Mem) := fun _ _ _ _ => none

def patinaref05_Chip_Cut_C (k : Nat) : Ctx (Int × Mem) := ⟨tt, patinaref05_Chip_Cut_call k, patinaref05_Chip_Cut_loop k, [], []⟩

def patinaref05_Chip_Cut_dec : Value → Mem → Option (Int × Mem) := fun v m => match v with
  | .int .i64 q0 => some (q0, m)
  | _ => none

theorem patinaref05_Chip_Cut_eq (k : Nat) (p0 : Option Addr) (p1 : Int) (m : Mem) : fnX (patinaref05_Chip_Cut_C k) Try.f38 [(Value.pointer p0), (Value.int .i64 p1)] m patinaref05_Chip_Cut_dec = patinaref05_Chip_Cut k p0 p1 m := by kernel_rfl

theorem patinaref05_Chip_Cut_ok {k : Nat} {p0 : Option Addr} {p1 : Int} {m : Mem} {r : (Int × Mem)} (h : patinaref05_Chip_Cut k p0 p1 m = some r) : CallP Try.prog 38 [(Value.pointer p0), (Value.int .i64 p1)] m fun v m' => v = (Value.int .i64 r.1) ∧ m' = r.2 := by
  refine (fn_sound (C := patinaref05_Chip_Cut_C k) (c := body Try.f38) tOk mixed (patinaref05_Chip_Cut_callOk k) Try.func38 (by kernel_rfl) (by kernel_rfl) (by kernel_rfl) (by kernel_rfl) ?_ ?_ (Eq.trans (patinaref05_Chip_Cut_eq k p0 p1 m) h)).mono ?_
  · intro p hp; rw [show loopsOf 0 (body Try.f38) = [] by kernel_rfl] at hp; cases hp
  · intro p hp; rw [show rangesOf 0 (body Try.f38) = [] by kernel_rfl] at hp; cases hp
  · intro v m' hp
    unfold patinaref05_Chip_Cut_dec at hp
    split at hp
    · simp only [Option.some.injEq] at hp; subst hp; exact ⟨rfl, rfl⟩
    · cases hp

def patinaref05_Chip_Cut_arm {R : Type} (k : Nat) : Arm R := fun vs m K => match vs with
  | [.pointer p0, .int .i64 p1] => (patinaref05_Chip_Cut k p0 p1 m).bind fun r => K (Value.int .i64 r.1) r.2
  | _ => none

theorem patinaref05_Chip_Cut_armOk {R : Type} (k : Nat) : ArmOk Try.prog 38 (patinaref05_Chip_Cut_arm (R := R) k) := by
  intro vs m K r h
  unfold patinaref05_Chip_Cut_arm at h
  split at h
  · obtain ⟨r, h1, h2⟩ := Option.bind_eq_some_iff.1 h; exact ⟨_, _, h2, fun K' => by simp only [patinaref05_Chip_Cut_arm, h1, Option.bind_some], patinaref05_Chip_Cut_ok h1⟩
  · cases h

/-! ### patinaref05_Chip_Again -/
def patinaref05_Chip_Again (k : Nat) (p0 : Option Addr) (m : Mem) : Option Mem :=
  (p0).bind fun a1 =>
  (st m (plus a1 1) (Value.bool true)).bind fun m2 =>
  (p0).bind fun a3 =>
  (st m2 (plus a3 2) (Value.int .i64 (-1))).bind fun m4 =>
  some (m4)

def patinaref05_Chip_Again_call {R : Type} (k : Nat) : Fun R := callNil

theorem patinaref05_Chip_Again_callOk {R : Type} (k : Nat) : CallOk Try.prog (patinaref05_Chip_Again_call (R := R) k) := callOk_nil

def patinaref05_Chip_Again_loop (k : Nat) : Nat → List Value → Mem → (Nat → List Value → Mem → Option Mem) → Option Mem := fun _ _ _ _ => none

def patinaref05_Chip_Again_C (k : Nat) : Ctx Mem := ⟨tt, patinaref05_Chip_Again_call k, patinaref05_Chip_Again_loop k, [], []⟩

def patinaref05_Chip_Again_dec : Value → Mem → Option Mem := fun v m => match v with
  | .tuple ⟨[]⟩ => some (m)
  | _ => none

theorem patinaref05_Chip_Again_eq (k : Nat) (p0 : Option Addr) (m : Mem) : fnX (patinaref05_Chip_Again_C k) Try.f39 [(Value.pointer p0)] m patinaref05_Chip_Again_dec = patinaref05_Chip_Again k p0 m := by kernel_rfl

theorem patinaref05_Chip_Again_ok {k : Nat} {p0 : Option Addr} {m : Mem} {r : Mem} (h : patinaref05_Chip_Again k p0 m = some r) : CallP Try.prog 39 [(Value.pointer p0)] m fun v m' => v = (Value.tuple ⟨[]⟩) ∧ m' = r := by
  refine (fn_sound (C := patinaref05_Chip_Again_C k) (c := body Try.f39) tOk mixed (patinaref05_Chip_Again_callOk k) Try.func39 (by kernel_rfl) (by kernel_rfl) (by kernel_rfl) (by kernel_rfl) ?_ ?_ (Eq.trans (patinaref05_Chip_Again_eq k p0 m) h)).mono ?_
  · intro p hp; rw [show loopsOf 0 (body Try.f39) = [] by kernel_rfl] at hp; cases hp
  · intro p hp; rw [show rangesOf 0 (body Try.f39) = [] by kernel_rfl] at hp; cases hp
  · intro v m' hp
    unfold patinaref05_Chip_Again_dec at hp
    split at hp
    · simp only [Option.some.injEq] at hp; subst hp; exact ⟨rfl, rfl⟩
    · cases hp

def patinaref05_Chip_Again_arm {R : Type} (k : Nat) : Arm R := fun vs m K => match vs with
  | [.pointer p0] => (patinaref05_Chip_Again k p0 m).bind fun r => K (Value.tuple ⟨[]⟩) r
  | _ => none

theorem patinaref05_Chip_Again_armOk {R : Type} (k : Nat) : ArmOk Try.prog 39 (patinaref05_Chip_Again_arm (R := R) k) := by
  intro vs m K r h
  unfold patinaref05_Chip_Again_arm at h
  split at h
  · obtain ⟨r, h1, h2⟩ := Option.bind_eq_some_iff.1 h; exact ⟨_, _, h2, fun K' => by simp only [patinaref05_Chip_Again_arm, h1, Option.bind_some], patinaref05_Chip_Again_ok h1⟩
  · cases h

/-! ### patinaref05_Chip_Damage -/
def patinaref05_Chip_Damage (k : Nat) (p0 : Option Addr) (p1 : Int) (p2 : Int) (m : Mem) : Option (Int × Int × Int × Mem) :=
  (patinaref05_isPage k p1 m).bind fun r1 =>
  bif !r1.1 then (
  some (0, 0, 1, r1.2)) else (
  bif decide (p2 < 0) then (
  some (0, 0, 1, r1.2)) else (
  bif decide (p2 ≥ 4) then (
  some (0, 0, 1, r1.2)) else (
  (patinaref05_Chip_chunk k p0 p1 p2 r1.2).bind fun r2 =>
  (patinaref05_Chunk_damage k r2.1 r2.2).bind fun r3 =>
  (r2.1).bind fun a4 =>
  (ldInt .i64 r3.2 (plus a4 3)).bind fun t5 =>
  (ldInt .i64 r2.2 (plus a4 3)).bind fun t6 =>
  bif t6 == t5 then (
  some (r3.1, t5, 0, r3.2)) else none)))

def patinaref05_Chip_Damage_call {R : Type} (k : Nat) : Fun R := callCons 51 (patinaref05_isPage_arm k) (callCons 54 (patinaref05_Chip_chunk_arm k) (callCons 58 (patinaref05_Chunk_damage_arm k) (callNil)))

theorem patinaref05_Chip_Damage_callOk {R : Type} (k : Nat) : CallOk Try.prog (patinaref05_Chip_Damage_call (R := R) k) := callOk_cons (patinaref05_isPage_armOk k) (callOk_cons (patinaref05_Chip_chunk_armOk k) (callOk_cons (patinaref05_Chunk_damage_armOk k) (callOk_nil)))

def patinaref05_Chip_Damage_loop (k : Nat) : Nat → List Value → Mem → (Nat → List Value → Mem → Option (Int × Int × Int × Mem)) → Option (Int × Int × Int × Mem) := fun _ _ _ _ => none

def patinaref05_Chip_Damage_C (k : Nat) : Ctx (Int × Int × Int × Mem) := ⟨tt, patinaref05_Chip_Damage_call k, patinaref05_Chip_Damage_loop k, [], []⟩

def patinaref05_Chip_Damage_dec : Value → Mem → Option (Int × Int × Int × Mem) := fun v m => match v with
  | .tuple ⟨[.int .i64 q0, .int .i64 q1, .int .i64 q2]⟩ => some (q0, q1, q2, m)
  | _ => none

theorem patinaref05_Chip_Damage_eq (k : Nat) (p0 : Option Addr) (p1 : Int) (p2 : Int) (m : Mem) : fnX (patinaref05_Chip_Damage_C k) Try.f43 [(Value.pointer p0), (Value.int .i64 p1), (Value.int .i64 p2)] m patinaref05_Chip_Damage_dec = patinaref05_Chip_Damage k p0 p1 p2 m := by kernel_rfl

theorem patinaref05_Chip_Damage_ok {k : Nat} {p0 : Option Addr} {p1 : Int} {p2 : Int} {m : Mem} {r : (Int × Int × Int × Mem)} (h : patinaref05_Chip_Damage k p0 p1 p2 m = some r) : CallP Try.prog 43 [(Value.pointer p0), (Value.int .i64 p1), (Value.int .i64 p2)] m fun v m' => v = (Value.tuple ⟨[(Value.int .i64 r.1), (Value.int .i64 r.2.1), (Value.int .i64 r.2.2.1)]⟩) ∧ m' = r.2.2.2 := by
  refine (fn_sound (C := patinaref05_Chip_Damage_C k) (c := body Try.f43) tOk mixed (patinaref05_Chip_Damage_callOk k) Try.func43 (by kernel_rfl) (by kernel_rfl) (by kernel_rfl) (by kernel_rfl) ?_ ?_ (Eq.trans (patinaref05_Chip_Damage_eq k p0 p1 p2 m) h)).mono ?_
  · intro p hp; rw [show loopsOf 0 (body Try.f43) = [] by kernel_rfl] at hp; cases hp
  · intro p hp; rw [show rangesOf 0 (body Try.f43) = [] by kernel_rfl] at hp; cases hp
  · intro v m' hp
    unfold patinaref05_Chip_Damage_dec at hp
    split at hp
    · simp only [Option.some.injEq] at hp; subst hp; exact ⟨rfl, rfl⟩
    · cases hp

def patinaref05_Chip_Damage_arm {R : Type} (k : Nat) : Arm R := fun vs m K => match vs with
  | [.pointer p0, .int .i64 p1, .int .i64 p2] => (patinaref05_Chip_Damage k p0 p1 p2 m).bind fun r => K (Value.tuple ⟨[(Value.int .i64 r.1), (Value.int .i64 r.2.1), (Value.int .i64 r.2.2.1)]⟩) r.2.2.2
  | _ => none

theorem patinaref05_Chip_Damage_armOk {R : Type} (k : Nat) : ArmOk Try.prog 43 (patinaref05_Chip_Damage_arm (R := R) k) := by
  intro vs m K r h
  unfold patinaref05_Chip_Damage_arm at h
  split at h
  · obtain ⟨r, h1, h2⟩ := Option.bind_eq_some_iff.1 h; exact ⟨_, _, h2, fun K' => by simp only [patinaref05_Chip_Damage_arm, h1, Option.bind_some], patinaref05_Chip_Damage_ok h1⟩
  · cases h

/-! ### patinaref05_Chip_Truth -/
def patinaref05_Chip_Truth (k : Nat) (p0 : Option Addr) (p1 : Int) (p2 : Int) (m : Mem) : Option (Sl × Bool × Int × Mem) :=
  (patinaref05_isPage k p1 m).bind fun r1 =>
  bif !r1.1 then (
  some ((⟨none, 0, 0⟩ : Sl), false, 1, r1.2)) else (
  bif decide (p2 < 0) then (
  some ((⟨none, 0, 0⟩ : Sl), false, 1, r1.2)) else (
  bif decide (p2 ≥ 4) then (
  some ((⟨none, 0, 0⟩ : Sl), false, 1, r1.2)) else (
  (patinaref05_Chip_chunk k p0 p1 p2 r1.2).bind fun r2 =>
  (r2.1).bind fun a3 =>
  (ldSl r2.2 (plus a3 1)).bind fun t4 =>
  (r2.1).bind fun a5 =>
  (ldBool r2.2 (plus a5 2)).bind fun t6 =>
  some ((⟨t4.a, t4.len, t4.cap⟩ : Sl), t6, 0, r2.2))))

def patinaref05_Chip_Truth_call {R : Type} (k : Nat) : Fun R := callCons 51 (patinaref05_isPage_arm k) (callCons 54 (patinaref05_Chip_chunk_arm k) (callNil))

theorem patinaref05_Chip_Truth_callOk {R : Type} (k : Nat) : CallOk Try.prog (patinaref05_Chip_Truth_call (R := R) k) := callOk_cons (patinaref05_isPage_armOk k) (callOk_cons (patinaref05_Chip_chunk_armOk k) (callOk_nil))

def patinaref05_Chip_Truth_loop (k : Nat) : Nat → List Value → Mem → (Nat → List Value → Mem → Option (Sl × Bool × Int × Mem)) → Option (Sl × Bool × Int × Mem) := fun _ _ _ _ => none

def patinaref05_Chip_Truth_C (k : Nat) : Ctx (Sl × Bool × Int × Mem) := ⟨tt, patinaref05_Chip_Truth_call k, patinaref05_Chip_Truth_loop k, [], []⟩

def patinaref05_Chip_Truth_dec : Value → Mem → Option (Sl × Bool × Int × Mem) := fun v m => match v with
  | .tuple ⟨[.slice q0a q0n q0c, .bool q1, .int .i64 q2]⟩ => some ((⟨q0a, q0n, q0c⟩ : Sl), q1, q2, m)
  | _ => none

theorem patinaref05_Chip_Truth_eq (k : Nat) (p0 : Option Addr) (p1 : Int) (p2 : Int) (m : Mem) : fnX (patinaref05_Chip_Truth_C k) Try.f44 [(Value.pointer p0), (Value.int .i64 p1), (Value.int .i64 p2)] m patinaref05_Chip_Truth_dec = patinaref05_Chip_Truth k p0 p1 p2 m := by kernel_rfl

theorem patinaref05_Chip_Truth_ok {k : Nat} {p0 : Option Addr} {p1 : Int} {p2 : Int} {m : Mem} {r : (Sl × Bool × Int × Mem)} (h : patinaref05_Chip_Truth k p0 p1 p2 m = some r) : CallP Try.prog 44 [(Value.pointer p0), (Value.int .i64 p1), (Value.int .i64 p2)] m fun v m' => v = (Value.tuple ⟨[(Value.slice r.1.a r.1.len r.1.cap), (Value.bool r.2.1), (Value.int .i64 r.2.2.1)]⟩) ∧ m' = r.2.2.2 := by
  refine (fn_sound (C := patinaref05_Chip_Truth_C k) (c := body Try.f44) tOk mixed (patinaref05_Chip_Truth_callOk k) Try.func44 (by kernel_rfl) (by kernel_rfl) (by kernel_rfl) (by kernel_rfl) ?_ ?_ (Eq.trans (patinaref05_Chip_Truth_eq k p0 p1 p2 m) h)).mono ?_
  · intro p hp; rw [show loopsOf 0 (body Try.f44) = [] by kernel_rfl] at hp; cases hp
  · intro p hp; rw [show rangesOf 0 (body Try.f44) = [] by kernel_rfl] at hp; cases hp
  · intro v m' hp
    unfold patinaref05_Chip_Truth_dec at hp
    split at hp
    · simp only [Option.some.injEq] at hp; subst hp; exact ⟨rfl, rfl⟩
    · cases hp

def patinaref05_Chip_Truth_arm {R : Type} (k : Nat) : Arm R := fun vs m K => match vs with
  | [.pointer p0, .int .i64 p1, .int .i64 p2] => (patinaref05_Chip_Truth k p0 p1 p2 m).bind fun r => K (Value.tuple ⟨[(Value.slice r.1.a r.1.len r.1.cap), (Value.bool r.2.1), (Value.int .i64 r.2.2.1)]⟩) r.2.2.2
  | _ => none

theorem patinaref05_Chip_Truth_armOk {R : Type} (k : Nat) : ArmOk Try.prog 44 (patinaref05_Chip_Truth_arm (R := R) k) := by
  intro vs m K r h
  unfold patinaref05_Chip_Truth_arm at h
  split at h
  · obtain ⟨r, h1, h2⟩ := Option.bind_eq_some_iff.1 h; exact ⟨_, _, h2, fun K' => by simp only [patinaref05_Chip_Truth_arm, h1, Option.bind_some], patinaref05_Chip_Truth_ok h1⟩
  · cases h

/-! ### patinaref05_Chip_Reads -/
def patinaref05_Chip_Reads (k : Nat) (p0 : Option Addr) (p1 : Int) (m : Mem) : Option (Int × Int × Mem) :=
  (patinaref05_isBlock k p1 m).bind fun r1 =>
  bif !r1.1 then (
  some (0, 1, r1.2)) else (
  (p0).bind fun a2 =>
  (ldSl r1.2 (plus a2 0)).bind fun t3 =>
  bif inRange p1 t3.len then (
  (t3.a).bind fun a4 =>
  (ldInt .i64 r1.2 (plus (plus a4 (Int.toNat p1 * 5)) 1)).bind fun t5 =>
  some (t5, 0, r1.2)) else none)

def patinaref05_Chip_Reads_call {R : Type} (k : Nat) : Fun R := callCons 57 (patinaref05_isBlock_arm k) (callNil)

theorem patinaref05_Chip_Reads_callOk {R : Type} (k : Nat) : CallOk Try.prog (patinaref05_Chip_Reads_call (R := R) k) := callOk_cons (patinaref05_isBlock_armOk k) (callOk_nil)

def patinaref05_Chip_Reads_loop (k : Nat) : Nat → List Value → Mem → (Nat → List Value → Mem → Option (Int × Int × Mem)) → Option (Int × Int × Mem) := fun _ _ _ _ => none

def patinaref05_Chip_Reads_C (k : Nat) : Ctx (Int × Int × Mem) := ⟨tt, patinaref05_Chip_Reads_call k, patinaref05_Chip_Reads_loop k, [], []⟩

def patinaref05_Chip_Reads_dec : Value → Mem → Option (Int × Int × Mem) := fun v m => match v with
  | .tuple ⟨[.int .i64 q0, .int .i64 q1]⟩ => some (q0, q1, m)
  | _ => none

theorem patinaref05_Chip_Reads_eq (k : Nat) (p0 : Option Addr) (p1 : Int) (m : Mem) : fnX (patinaref05_Chip_Reads_C k) Try.f60 [(Value.pointer p0), (Value.int .i64 p1)] m patinaref05_Chip_Reads_dec = patinaref05_Chip_Reads k p0 p1 m := by kernel_rfl

theorem patinaref05_Chip_Reads_ok {k : Nat} {p0 : Option Addr} {p1 : Int} {m : Mem} {r : (Int × Int × Mem)} (h : patinaref05_Chip_Reads k p0 p1 m = some r) : CallP Try.prog 60 [(Value.pointer p0), (Value.int .i64 p1)] m fun v m' => v = (Value.tuple ⟨[(Value.int .i64 r.1), (Value.int .i64 r.2.1)]⟩) ∧ m' = r.2.2 := by
  refine (fn_sound (C := patinaref05_Chip_Reads_C k) (c := body Try.f60) tOk mixed (patinaref05_Chip_Reads_callOk k) Try.func60 (by kernel_rfl) (by kernel_rfl) (by kernel_rfl) (by kernel_rfl) ?_ ?_ (Eq.trans (patinaref05_Chip_Reads_eq k p0 p1 m) h)).mono ?_
  · intro p hp; rw [show loopsOf 0 (body Try.f60) = [] by kernel_rfl] at hp; cases hp
  · intro p hp; rw [show rangesOf 0 (body Try.f60) = [] by kernel_rfl] at hp; cases hp
  · intro v m' hp
    unfold patinaref05_Chip_Reads_dec at hp
    split at hp
    · simp only [Option.some.injEq] at hp; subst hp; exact ⟨rfl, rfl⟩
    · cases hp

def patinaref05_Chip_Reads_arm {R : Type} (k : Nat) : Arm R := fun vs m K => match vs with
  | [.pointer p0, .int .i64 p1] => (patinaref05_Chip_Reads k p0 p1 m).bind fun r => K (Value.tuple ⟨[(Value.int .i64 r.1), (Value.int .i64 r.2.1)]⟩) r.2.2
  | _ => none

theorem patinaref05_Chip_Reads_armOk {R : Type} (k : Nat) : ArmOk Try.prog 60 (patinaref05_Chip_Reads_arm (R := R) k) := by
  intro vs m K r h
  unfold patinaref05_Chip_Reads_arm at h
  split at h
  · obtain ⟨r, h1, h2⟩ := Option.bind_eq_some_iff.1 h; exact ⟨_, _, h2, fun K' => by simp only [patinaref05_Chip_Reads_arm, h1, Option.bind_some], patinaref05_Chip_Reads_ok h1⟩
  · cases h

/-! ### patinaref05_Chip_Failed -/
def patinaref05_Chip_Failed (k : Nat) (p0 : Option Addr) (p1 : Int) (m : Mem) : Option (Bool × Int × Mem) :=
  (patinaref05_isBlock k p1 m).bind fun r1 =>
  bif !r1.1 then (
  some (false, 1, r1.2)) else (
  (p0).bind fun a2 =>
  (ldSl r1.2 (plus a2 0)).bind fun t3 =>
  bif inRange p1 t3.len then (
  (t3.a).bind fun a4 =>
  (ldBool r1.2 (plus (plus a4 (Int.toNat p1 * 5)) 2)).bind fun t5 =>
  some (t5, 0, r1.2)) else none)

def patinaref05_Chip_Failed_call {R : Type} (k : Nat) : Fun R := callCons 57 (patinaref05_isBlock_arm k) (callNil)

theorem patinaref05_Chip_Failed_callOk {R : Type} (k : Nat) : CallOk Try.prog (patinaref05_Chip_Failed_call (R := R) k) := callOk_cons (patinaref05_isBlock_armOk k) (callOk_nil)

def patinaref05_Chip_Failed_loop (k : Nat) : Nat → List Value → Mem → (Nat → List Value → Mem → Option (Bool × Int × Mem)) → Option (Bool × Int × Mem) := fun _ _ _ _ => none

def patinaref05_Chip_Failed_C (k : Nat) : Ctx (Bool × Int × Mem) := ⟨tt, patinaref05_Chip_Failed_call k, patinaref05_Chip_Failed_loop k, [], []⟩

def patinaref05_Chip_Failed_dec : Value → Mem → Option (Bool × Int × Mem) := fun v m => match v with
  | .tuple ⟨[.bool q0, .int .i64 q1]⟩ => some (q0, q1, m)
  | _ => none

theorem patinaref05_Chip_Failed_eq (k : Nat) (p0 : Option Addr) (p1 : Int) (m : Mem) : fnX (patinaref05_Chip_Failed_C k) Try.f62 [(Value.pointer p0), (Value.int .i64 p1)] m patinaref05_Chip_Failed_dec = patinaref05_Chip_Failed k p0 p1 m := by kernel_rfl

theorem patinaref05_Chip_Failed_ok {k : Nat} {p0 : Option Addr} {p1 : Int} {m : Mem} {r : (Bool × Int × Mem)} (h : patinaref05_Chip_Failed k p0 p1 m = some r) : CallP Try.prog 62 [(Value.pointer p0), (Value.int .i64 p1)] m fun v m' => v = (Value.tuple ⟨[(Value.bool r.1), (Value.int .i64 r.2.1)]⟩) ∧ m' = r.2.2 := by
  refine (fn_sound (C := patinaref05_Chip_Failed_C k) (c := body Try.f62) tOk mixed (patinaref05_Chip_Failed_callOk k) Try.func62 (by kernel_rfl) (by kernel_rfl) (by kernel_rfl) (by kernel_rfl) ?_ ?_ (Eq.trans (patinaref05_Chip_Failed_eq k p0 p1 m) h)).mono ?_
  · intro p hp; rw [show loopsOf 0 (body Try.f62) = [] by kernel_rfl] at hp; cases hp
  · intro p hp; rw [show rangesOf 0 (body Try.f62) = [] by kernel_rfl] at hp; cases hp
  · intro v m' hp
    unfold patinaref05_Chip_Failed_dec at hp
    split at hp
    · simp only [Option.some.injEq] at hp; subst hp; exact ⟨rfl, rfl⟩
    · cases hp

def patinaref05_Chip_Failed_arm {R : Type} (k : Nat) : Arm R := fun vs m K => match vs with
  | [.pointer p0, .int .i64 p1] => (patinaref05_Chip_Failed k p0 p1 m).bind fun r => K (Value.tuple ⟨[(Value.bool r.1), (Value.int .i64 r.2.1)]⟩) r.2.2
  | _ => none

theorem patinaref05_Chip_Failed_armOk {R : Type} (k : Nat) : ArmOk Try.prog 62 (patinaref05_Chip_Failed_arm (R := R) k) := by
  intro vs m K r h
  unfold patinaref05_Chip_Failed_arm at h
  split at h
  · obtain ⟨r, h1, h2⟩ := Option.bind_eq_some_iff.1 h; exact ⟨_, _, h2, fun K' => by simp only [patinaref05_Chip_Failed_arm, h1, Option.bind_some], patinaref05_Chip_Failed_ok h1⟩
  · cases h

/-! ### patinaref05_Chip_Clone -/
def patinaref05_Chip_Clone_l2_b (k : Nat) (nx : Option Addr → Addr → Int → Addr → Int → Mem → Option ((Option Addr) × Mem)) (kx4 : Option Addr → Addr → Int → Addr → Mem → Option ((Option Addr) × Mem)) (x0 : Option Addr) (x3 : Addr) (x4 : Int) (x5 : Addr) (x6 : Int) (m : Mem) : Option ((Option Addr) × Mem) :=
  (x0).bind fun a15 =>
  (ldSl m (plus a15 0)).bind fun t16 =>
  bif inRange x4 t16.len then (
  (t16.a).bind fun a17 =>
  (ldSl m (plus (plus a17 (Int.toNat x4 * 5)) 0)).bind fun t18 =>
  bif decide (x6 < ((t18.len : Nat) : Int)) then (
  (x0).bind fun a19 =>
  (ldSl m (plus a19 0)).bind fun t20 =>
  bif inRange x4 t20.len then (
  (t20.a).bind fun a21 =>
  (ldSl m (plus (plus a21 (Int.toNat x4 * 5)) 0)).bind fun t22 =>
  bif inRange x6 t22.len then (
  (t22.a).bind fun a23 =>
  (ldCells m (plus a23 (Int.toNat x6 * 4)) 4).bind fun t24 =>
  let m25 : Mem := m ++ [.live [.slice none 0 0, .slice none 0 0, .bool false, .int .i64 0]]
  bif Nat.beq (List.length t24) 4 then (
  (stCells m25 ⟨List.length m, 0, Option.none⟩ t24).bind fun m26 =>
  (ldBool m26 (plus ⟨List.length m, 0, Option.none⟩ 2)).bind fun t27 =>
  (ldInt .i64 m26 (plus ⟨List.length m, 0, Option.none⟩ 3)).bind fun t28 =>
  let m29 : Mem := m26 ++ [.live [.slice none 0 0, .slice none 0 0, .bool false, .int .i64 0]]
  (stCells m29 ⟨List.length m26, 0, Option.none⟩ [.slice none 0 0, .slice none 0 0, (Value.bool t27), (Value.int .i64 t28)]).bind fun m30 =>
  (ldSl m30 (plus ⟨List.length m26, 0, Option.none⟩ 0)).bind fun t31 =>
  (ldSl m30 (plus ⟨List.length m, 0, Option.none⟩ 0)).bind fun t32 =>
  (rdSl m30 t32.a t32.len 1).bind fun l33 =>
  (appM 1 1 m30 t31.a t31.len t31.cap t32.len l33).bind fun r34 =>
  (st r34.2 (plus ⟨List.length m26, 0, Option.none⟩ 0) (Value.slice r34.1.a r34.1.len r34.1.cap)).bind fun m35 =>
  (ldSl m35 (plus ⟨List.length m26, 0, Option.none⟩ 1)).bind fun t36 =>
  (ldSl m35 (plus ⟨List.length m, 0, Option.none⟩ 1)).bind fun t37 =>
  (rdSl m35 t37.a t37.len 1).bind fun l38 =>
  (appM 1 1 m35 t36.a t36.len t36.cap t37.len l38).bind fun r39 =>
  (st r39.2 (plus ⟨List.length m26, 0, Option.none⟩ 1) (Value.slice r39.1.a r39.1.len r39.1.cap)).bind fun m40 =>
  (ldSl m40 (plus x5 0)).bind fun t41 =>
  (ldCells m40 ⟨List.length m26, 0, Option.none⟩ 4).bind fun t42 =>
  bif Nat.beq (List.length t42) 4 then (
  let m43 : Mem := m40 ++ [.live (putAt [.slice none 0 0, .slice none 0 0, .bool false, .int .i64 0] 0 4 t42)]
  (rdSl m43 (some ⟨List.length m40, 0, Option.none⟩) 1 4).bind fun l44 =>
  (appM 4 64 m43 t41.a t41.len t41.cap 1 l44).bind fun r45 =>
  (st r45.2 (plus x5 0) (Value.slice r45.1.a r45.1.len r45.1.cap)).bind fun m46 =>
  nx x0 x3 x4 x5 (IntKind.wrap .i64 (x6 + 1)) m46) else none) else none) else none) else none) else (
  kx4 x0 x3 x4 x5 m)) else none

def patinaref05_Chip_Clone_l2 (k : Nat) (kx4 : Option Addr → Addr → Int → Addr → Mem → Option ((Option Addr) × Mem)) : Nat → Option Addr → Addr → Int → Addr → Int → Mem → Option ((Option Addr) × Mem)
  | 0, _, _, _, _, _, _ => none
  | n + 1, x0, x3, x4, x5, x6, m => patinaref05_Chip_Clone_l2_b k (fun x0 x3 x4 x5 x6 m => patinaref05_Chip_Clone_l2 k kx4 n x0 x3 x4 x5 x6 m) kx4 x0 x3 x4 x5 x6 m
termination_by structural x => x

theorem patinaref05_Chip_Clone_l2_rule (k : Nat) (kx4 : Option Addr → Addr → Int → Addr → Mem → Option ((Option Addr) × Mem)) {P : ((Option Addr) × Mem) → Prop} (I : Nat → Option Addr → Addr → Int → Addr → Int → Mem → Prop)
    (step : ∀ d (nx : Option Addr → Addr → Int → Addr → Int → Mem → Option ((Option Addr) × Mem)) (x0 : Option Addr) (x3 : Addr) (x4 : Int) (x5 : Addr) (x6 : Int) (m : Mem), I d x0 x3 x4 x5 x6 m → (∀ d' (x0 : Option Addr) (x3 : Addr) (x4 : Int) (x5 : Addr) (x6 : Int) (m : Mem), d' < d → I d' x0 x3 x4 x5 x6 m → Ok (nx x0 x3 x4 x5 x6 m) P) → Ok (patinaref05_Chip_Clone_l2_b k nx kx4 x0 x3 x4 x5 x6 m) P) :
    ∀ n d (x0 : Option Addr) (x3 : Addr) (x4 : Int) (x5 : Addr) (x6 : Int) (m : Mem), d < n → I d x0 x3 x4 x5 x6 m → Ok (patinaref05_Chip_Clone_l2 k kx4 n x0 x3 x4 x5 x6 m) P
  | 0, d, x0, x3, x4, x5, x6, m, h, _ => absurd h (Nat.not_lt_zero _)
  | n + 1, d, x0, x3, x4, x5, x6, m, h, hI => step d _ x0 x3 x4 x5 x6 m hI fun d' x0 x3 x4 x5 x6 m h' hI' => patinaref05_Chip_Clone_l2_rule k kx4 I step n d' x0 x3 x4 x5 x6 m (by omega) hI'

def patinaref05_Chip_Clone_l0_b (k : Nat) (nx : Option Addr → Addr → Int → Mem → Option ((Option Addr) × Mem)) (kx2 : Addr → Mem → Option ((Option Addr) × Mem)) (x0 : Option Addr) (x3 : Addr) (x4 : Int) (m : Mem) : Option ((Option Addr) × Mem) :=
  bif decide (x4 < 12) then (
  (x0).bind fun a8 =>
  (ldSl m (plus a8 0)).bind fun t9 =>
  bif inRange x4 t9.len then (
  (t9.a).bind fun a10 =>
  (ldCells m (plus a10 (Int.toNat x4 * 5)) 5).bind fun t11 =>
  let m12 : Mem := m ++ [.live [.slice none 0 0, .int .i64 0, .bool false, .int .i64 0, .bool false]]
  bif Nat.beq (List.length t11) 5 then (
  (stCells m12 ⟨List.length m, 0, Option.none⟩ t11).bind fun m13 =>
  (st m13 (plus ⟨List.length m, 0, Option.none⟩ 0) (Value.slice none 0 0)).bind fun m14 =>
  patinaref05_Chip_Clone_l2 k (fun y0 y3 y4 y5 m47 => 
  (ldSl m47 (plus y3 0)).bind fun t48 =>
  (ldCells m47 y5 5).bind fun t49 =>
  bif Nat.beq (List.length t49) 5 then (
  let m50 : Mem := m47 ++ [.live (putAt [.slice none 0 0, .int .i64 0, .bool false, .int .i64 0, .bool false] 0 5 t49)]
  (rdSl m50 (some ⟨List.length m47, 0, Option.none⟩) 1 5).bind fun l51 =>
  (appM 5 56 m50 t48.a t48.len t48.cap 1 l51).bind fun r52 =>
  (st r52.2 (plus y3 0) (Value.slice r52.1.a r52.1.len r52.1.cap)).bind fun m53 =>
  (ldSl m50 (plus y3 0)).bind fun t54 =>
  bif decide (t54.a = t48.a) && Nat.beq t54.len t48.len && Nat.beq t54.cap t48.cap then (
  nx y0 y3 (IntKind.wrap .i64 (y4 + 1)) m53) else none) else none) k x0 x3 x4 ⟨List.length m, 0, Option.none⟩ 0 m14) else none) else none) else (
  kx2 x3 m)

def patinaref05_Chip_Clone_l0 (k : Nat) (kx2 : Addr → Mem → Option ((Option Addr) × Mem)) : Nat → Option Addr → Addr → Int → Mem → Option ((Option Addr) × Mem)
  | 0, _, _, _, _ => none
  | n + 1, x0, x3, x4, m => patinaref05_Chip_Clone_l0_b k (fun x0 x3 x4 m => patinaref05_Chip_Clone_l0 k kx2 n x0 x3 x4 m) kx2 x0 x3 x4 m
termination_by structural x => x

theorem patinaref05_Chip_Clone_l0_rule (k : Nat) (kx2 : Addr → Mem → Option ((Option Addr) × Mem)) {P : ((Option Addr) × Mem) → Prop} (I : Nat → Option Addr → Addr → Int → Mem → Prop)
    (step : ∀ d (nx : Option Addr → Addr → Int → Mem → Option ((Option Addr) × Mem)) (x0 : Option Addr) (x3 : Addr) (x4 : Int) (m : Mem), I d x0 x3 x4 m → (∀ d' (x0 : Option Addr) (x3 : Addr) (x4 : Int) (m : Mem), d' < d → I d' x0 x3 x4 m → Ok (nx x0 x3 x4 m) P) → Ok (patinaref05_Chip_Clone_l0_b k nx kx2 x0 x3 x4 m) P) :
    ∀ n d (x0 : Option Addr) (x3 : Addr) (x4 : Int) (m : Mem), d < n → I d x0 x3 x4 m → Ok (patinaref05_Chip_Clone_l0 k kx2 n x0 x3 x4 m) P
  | 0, d, x0, x3, x4, m, h, _ => absurd h (Nat.not_lt_zero _)
  | n + 1, d, x0, x3, x4, m, h, hI => step d _ x0 x3 x4 m hI fun d' x0 x3 x4 m h' hI' => patinaref05_Chip_Clone_l0_rule k kx2 I step n d' x0 x3 x4 m (by omega) hI'

def patinaref05_Chip_Clone (k : Nat) (p0 : Option Addr) (m : Mem) : Option ((Option Addr) × Mem) :=
  (p0).bind fun a1 =>
  (ldBool m (plus a1 1)).bind fun t2 =>
  (p0).bind fun a3 =>
  (ldInt .i64 m (plus a3 2)).bind fun t4 =>
  (p0).bind fun a5 =>
  (ldInt .i64 m (plus a5 3)).bind fun t6 =>
  let m7 : Mem := m ++ [.live [.slice none 0 0, (Value.bool t2), (Value.int .i64 t4), (Value.int .i64 t6)]]
  patinaref05_Chip_Clone_l0 k (fun y3 m55 => 
  some ((some y3), m55)) k p0 ⟨List.length m, 0, Option.none⟩ 0 m7

def patinaref05_Chip_Clone_call {R : Type} (k : Nat) : Fun R := callNil

theorem patinaref05_Chip_Clone_callOk {R : Type} (k : Nat) : CallOk Try.prog (patinaref05_Chip_Clone_call (R := R) k) := callOk_nil

def patinaref05_Chip_Clone_l0_L (k : Nat) (K : Nat → List Value → Mem → Option ((Option Addr) × Mem)) (n : Nat) (vs : List Value) (m : Mem) : Option ((Option Addr) × Mem) := match vs with
  | [.pointer x0, .pointer (some x3), .int .i64 x4] => patinaref05_Chip_Clone_l0 k (fun y3 m => K 2 [(Value.pointer (some y3))] m) n x0 x3 x4 m
  | _ => none

def patinaref05_Chip_Clone_l2_L (k : Nat) (K : Nat → List Value → Mem → Option ((Option Addr) × Mem)) (n : Nat) (vs : List Value) (m : Mem) : Option ((Option Addr) × Mem) := match vs with
  | [.pointer x0, .pointer (some x3), .int .i64 x4, .pointer (some x5), .int .i64 x6] => patinaref05_Chip_Clone_l2 k (fun y0 y3 y4 y5 m => K 4 [(Value.pointer y0), (Value.pointer (some y3)), (Value.int .i64 y4), (Value.pointer (some y5))] m) n x0 x3 x4 x5 x6 m
  | _ => none

def patinaref05_Chip_Clone_loop (k : Nat) : Nat → List Value → Mem → (Nat → List Value → Mem → Option ((Option Addr) × Mem)) → Option ((Option Addr) × Mem) := fun cur vs m K => match cur with
  | 0 => patinaref05_Chip_Clone_l0_L k K k vs m
  | 2 => patinaref05_Chip_Clone_l2_L k K k vs m
  | _ => none

def patinaref05_Chip_Clone_C (k : Nat) : Ctx ((Option Addr) × Mem) := ⟨tt, patinaref05_Chip_Clone_call k, patinaref05_Chip_Clone_loop k, [(0, [0, 3, 4]), (2, [0, 3, 4, 5, 6])], [(2, [3]), (4, [0, 3, 4, 5])]⟩

noncomputable def patinaref05_Chip_Clone_l0_c : Code := ((loopsOf 0 (body Try.f42)).map (·.2)).getD 0 .skip

noncomputable def patinaref05_Chip_Clone_l2_c : Code := ((loopsOf 0 (body Try.f42)).map (·.2)).getD 1 .skip

theorem patinaref05_Chip_Clone_loops : loopsOf 0 (body Try.f42) = [(0, patinaref05_Chip_Clone_l0_c), (2, patinaref05_Chip_Clone_l2_c)] := by kernel_rfl

theorem patinaref05_Chip_Clone_l0_ok (k : Nat) : LoopOk (patinaref05_Chip_Clone_C k) 0 patinaref05_Chip_Clone_l0_c := by
  refine ⟨[0, 3, 4], by kernel_rfl, fun K r => ⟨patinaref05_Chip_Clone_l0_L k K, fun vs m h => ⟨k, h⟩, ?_⟩⟩
  intro n vs m h
  unfold patinaref05_Chip_Clone_l0_L at h
  split at h
  · cases n with
    | zero => cases h
    | succ n => exact ⟨n, rfl, Eq.trans (by kernel_rfl) h⟩
  · cases h

theorem patinaref05_Chip_Clone_l2_ok (k : Nat) : LoopOk (patinaref05_Chip_Clone_C k) 2 patinaref05_Chip_Clone_l2_c := by
  refine ⟨[0, 3, 4, 5, 6], by kernel_rfl, fun K r => ⟨patinaref05_Chip_Clone_l2_L k K, fun vs m h => ⟨k, h⟩, ?_⟩⟩
  intro n vs m h
  unfold patinaref05_Chip_Clone_l2_L at h
  split at h
  · cases n with
    | zero => cases h
    | succ n => exact ⟨n, rfl, Eq.trans (by kernel_rfl) h⟩
  · cases h

def patinaref05_Chip_Clone_dec : Value → Mem → Option ((Option Addr) × Mem) := fun v m => match v with
  | .pointer q0 => some (q0, m)
  | _ => none

theorem patinaref05_Chip_Clone_eq (k : Nat) (p0 : Option Addr) (m : Mem) : fnX (patinaref05_Chip_Clone_C k) Try.f42 [(Value.pointer p0)] m patinaref05_Chip_Clone_dec = patinaref05_Chip_Clone k p0 m := by kernel_rfl

theorem patinaref05_Chip_Clone_ok {k : Nat} {p0 : Option Addr} {m : Mem} {r : ((Option Addr) × Mem)} (h : patinaref05_Chip_Clone k p0 m = some r) : CallP Try.prog 42 [(Value.pointer p0)] m fun v m' => v = (Value.pointer r.1) ∧ m' = r.2 := by
  refine (fn_sound (C := patinaref05_Chip_Clone_C k) (c := body Try.f42) tOk mixed (patinaref05_Chip_Clone_callOk k) Try.func42 (by kernel_rfl) (by kernel_rfl) (by kernel_rfl) (by kernel_rfl) ?_ ?_ (Eq.trans (patinaref05_Chip_Clone_eq k p0 m) h)).mono ?_
  · intro p hp
    rw [patinaref05_Chip_Clone_loops] at hp
    simp only [List.mem_cons, List.not_mem_nil, or_false] at hp
    rcases hp with rfl | rfl
    · exact patinaref05_Chip_Clone_l0_ok k
    · exact patinaref05_Chip_Clone_l2_ok k
  · intro p hp; rw [show rangesOf 0 (body Try.f42) = [] by kernel_rfl] at hp; cases hp
  · intro v m' hp
    unfold patinaref05_Chip_Clone_dec at hp
    split at hp
    · simp only [Option.some.injEq] at hp; subst hp; exact ⟨rfl, rfl⟩
    · cases hp

def patinaref05_Chip_Clone_arm {R : Type} (k : Nat) : Arm R := fun vs m K => match vs with
  | [.pointer p0] => (patinaref05_Chip_Clone k p0 m).bind fun r => K (Value.pointer r.1) r.2
  | _ => none

theorem patinaref05_Chip_Clone_armOk {R : Type} (k : Nat) : ArmOk Try.prog 42 (patinaref05_Chip_Clone_arm (R := R) k) := by
  intro vs m K r h
  unfold patinaref05_Chip_Clone_arm at h
  split at h
  · obtain ⟨r, h1, h2⟩ := Option.bind_eq_some_iff.1 h; exact ⟨_, _, h2, fun K' => by simp only [patinaref05_Chip_Clone_arm, h1, Option.bind_some], patinaref05_Chip_Clone_ok h1⟩
  · cases h

end Go.Proofs.Ytlbbcgjfkpnilaa
