/- The program's functions as plain Lean functions over a clean memory, each held against the program by the kernel. Written by mx.py. -/
import Derived.Test.YtchonnaoojpdoaaF0
set_option linter.unusedVariables false
set_option maxRecDepth 100000
namespace Go.Proofs.Ytchonnaoojpdoaa
open Go.Mx

/-! ### patinaref05_blank -/
def patinaref05_blank_l0_b (k : Nat) (nx : Option Addr → Nat → Nat → Int → Mem → Option (Sl × Mem)) (kx2 : Option Addr → Nat → Nat → Mem → Option (Sl × Mem)) (x1a : Option Addr) (x1n : Nat) (x1c : Nat) (x2 : Int) (m : Mem) : Option (Sl × Mem) :=
  bif decide (x2 < 64) then (
  bif inRange x2 x1n then (
  (x1a).bind fun a2 =>
  (st m (plus a2 (Int.toNat x2 * 1)) (Value.int .u8 255)).bind fun m3 =>
  nx x1a x1n x1c (IntKind.wrap .i64 (x2 + 1)) m3) else none) else (
  kx2 x1a x1n x1c m)

def patinaref05_blank_l0 (k : Nat) (kx2 : Option Addr → Nat → Nat → Mem → Option (Sl × Mem)) : Nat → Option Addr → Nat → Nat → Int → Mem → Option (Sl × Mem)
  | 0, _, _, _, _, _ => none
  | n + 1, x1a, x1n, x1c, x2, m => patinaref05_blank_l0_b k (fun x1a x1n x1c x2 m => patinaref05_blank_l0 k kx2 n x1a x1n x1c x2 m) kx2 x1a x1n x1c x2 m
termination_by structural x => x

theorem patinaref05_blank_l0_rule (k : Nat) (kx2 : Option Addr → Nat → Nat → Mem → Option (Sl × Mem)) {P : (Sl × Mem) → Prop} (I : Nat → Option Addr → Nat → Nat → Int → Mem → Prop)
    (step : ∀ d (nx : Option Addr → Nat → Nat → Int → Mem → Option (Sl × Mem)) (x1a : Option Addr) (x1n : Nat) (x1c : Nat) (x2 : Int) (m : Mem), I d x1a x1n x1c x2 m → (∀ d' (x1a : Option Addr) (x1n : Nat) (x1c : Nat) (x2 : Int) (m : Mem), d' < d → I d' x1a x1n x1c x2 m → Ok (nx x1a x1n x1c x2 m) P) → Ok (patinaref05_blank_l0_b k nx kx2 x1a x1n x1c x2 m) P) :
    ∀ n d (x1a : Option Addr) (x1n : Nat) (x1c : Nat) (x2 : Int) (m : Mem), d < n → I d x1a x1n x1c x2 m → Ok (patinaref05_blank_l0 k kx2 n x1a x1n x1c x2 m) P
  | 0, d, x1a, x1n, x1c, x2, m, h, _ => absurd h (Nat.not_lt_zero _)
  | n + 1, d, x1a, x1n, x1c, x2, m, h, hI => step d _ x1a x1n x1c x2 m hI fun d' x1a x1n x1c x2 m h' hI' => patinaref05_blank_l0_rule k kx2 I step n d' x1a x1n x1c x2 m (by omega) hI'

def patinaref05_blank (k : Nat) (m : Mem) : Option (Sl × Mem) :=
  let m1 : Mem := m ++ [.live (repl (Int.toNat 64) [.int .u8 0])]
  patinaref05_blank_l0 k (fun y1a y1n y1c m4 => 
  some ((⟨y1a, y1n, y1c⟩ : Sl), m4)) k (some ⟨List.length m, 0, Option.none⟩) (Int.toNat 64) (Int.toNat 64) 0 m1

def patinaref05_blank_call {R : Type} (k : Nat) : Fun R := callNil

theorem patinaref05_blank_callOk {R : Type} (k : Nat) : CallOk Try.prog (patinaref05_blank_call (R := R) k) := callOk_nil

def patinaref05_blank_l0_L (k : Nat) (K : Nat → List Value → Mem → Option (Sl × Mem)) (n : Nat) (vs : List Value) (m : Mem) : Option (Sl × Mem) := match vs with
  | [.slice x1a x1n x1c, .int .i64 x2] => patinaref05_blank_l0 k (fun y1a y1n y1c m => K 2 [(Value.slice y1a y1n y1c)] m) n x1a x1n x1c x2 m
  | _ => none

def patinaref05_blank_loop (k : Nat) : Nat → List Value → Mem → (Nat → List Value → Mem → Option (Sl × Mem)) → Option (Sl × Mem) := fun cur vs m K => match cur with
  | 0 => patinaref05_blank_l0_L k K k vs m
  | _ => none

def patinaref05_blank_C (k : Nat) : Ctx (Sl × Mem) := ⟨tt, patinaref05_blank_call k, patinaref05_blank_loop k, [(0, [1, 2])], [(2, [1])]⟩

noncomputable def patinaref05_blank_l0_c : Code := ((loopsOf 0 (body Try.f54)).map (·.2)).getD 0 .skip

theorem patinaref05_blank_loops : loopsOf 0 (body Try.f54) = [(0, patinaref05_blank_l0_c)] := by kernel_rfl

theorem patinaref05_blank_l0_ok (k : Nat) : LoopOk (patinaref05_blank_C k) 0 patinaref05_blank_l0_c := by
  refine ⟨[1, 2], by kernel_rfl, fun K r => ⟨patinaref05_blank_l0_L k K, fun vs m h => ⟨k, h⟩, ?_⟩⟩
  intro n vs m h
  unfold patinaref05_blank_l0_L at h
  split at h
  · cases n with
    | zero => cases h
    | succ n => exact ⟨n, rfl, Eq.trans (by kernel_rfl) h⟩
  · cases h

def patinaref05_blank_dec : Value → Mem → Option (Sl × Mem) := fun v m => match v with
  | .slice q0a q0n q0c => some ((⟨q0a, q0n, q0c⟩ : Sl), m)
  | _ => none

theorem patinaref05_blank_eq (k : Nat) (m : Mem) : fnX (patinaref05_blank_C k) Try.f54 [] m patinaref05_blank_dec = patinaref05_blank k  m := by kernel_rfl

theorem patinaref05_blank_ok {k : Nat} {m : Mem} {r : (Sl × Mem)} (h : patinaref05_blank k  m = some r) : CallP Try.prog 54 [] m fun v m' => v = (Value.slice r.1.a r.1.len r.1.cap) ∧ m' = r.2 := by
  refine (fn_sound (C := patinaref05_blank_C k) (c := body Try.f54) tOk mixed (patinaref05_blank_callOk k) Try.func54 (by kernel_rfl) (by kernel_rfl) (by kernel_rfl) (by kernel_rfl) ?_ ?_ (Eq.trans (patinaref05_blank_eq k  m) h)).mono ?_
  · intro p hp
    rw [patinaref05_blank_loops] at hp
    simp only [List.mem_cons, List.not_mem_nil, or_false] at hp
    rcases hp with rfl
    · exact patinaref05_blank_l0_ok k
  · intro p hp; rw [show rangesOf 0 (body Try.f54) = [] by kernel_rfl] at hp; cases hp
  · intro v m' hp
    unfold patinaref05_blank_dec at hp
    split at hp
    · simp only [Option.some.injEq] at hp; subst hp; exact ⟨rfl, rfl⟩
    · cases hp

def patinaref05_blank_arm {R : Type} (k : Nat) : Arm R := fun vs m K => match vs with
  | [] => (patinaref05_blank k  m).bind fun r => K (Value.slice r.1.a r.1.len r.1.cap) r.2
  | _ => none

theorem patinaref05_blank_armOk {R : Type} (k : Nat) : ArmOk Try.prog 54 (patinaref05_blank_arm (R := R) k) := by
  intro vs m K r h
  unfold patinaref05_blank_arm at h
  split at h
  · obtain ⟨r, h1, h2⟩ := Option.bind_eq_some_iff.1 h; exact ⟨_, _, h2, fun K' => by simp only [patinaref05_blank_arm, h1, Option.bind_some], patinaref05_blank_ok h1⟩
  · cases h

/-! ### patinaref05_chunks -/
def patinaref05_chunks_l0_b (k : Nat) (nx : Option Addr → Nat → Nat → Int → Mem → Option (Sl × Mem)) (kx2 : Option Addr → Nat → Nat → Mem → Option (Sl × Mem)) (x1a : Option Addr) (x1n : Nat) (x1c : Nat) (x2 : Int) (m : Mem) : Option (Sl × Mem) :=
  bif decide (x2 < 32) then (
  (patinaref05_blank k  m).bind fun r1 =>
  (patinaref05_blank k  r1.2).bind fun r2 =>
  let m3 : Mem := r2.2 ++ [.live [(Value.slice r1.1.a r1.1.len r1.1.cap), (Value.slice r2.1.a r2.1.len r2.1.cap), .bool false, .int .i64 0]]
  (rdSl m3 (some ⟨List.length r2.2, 0, Option.none⟩) 1 4).bind fun l4 =>
  (appM 4 64 m3 x1a x1n x1c 1 l4).bind fun r5 =>
  nx r5.1.a r5.1.len r5.1.cap (IntKind.wrap .i64 (x2 + 1)) r5.2) else (
  kx2 x1a x1n x1c m)

def patinaref05_chunks_l0 (k : Nat) (kx2 : Option Addr → Nat → Nat → Mem → Option (Sl × Mem)) : Nat → Option Addr → Nat → Nat → Int → Mem → Option (Sl × Mem)
  | 0, _, _, _, _, _ => none
  | n + 1, x1a, x1n, x1c, x2, m => patinaref05_chunks_l0_b k (fun x1a x1n x1c x2 m => patinaref05_chunks_l0 k kx2 n x1a x1n x1c x2 m) kx2 x1a x1n x1c x2 m
termination_by structural x => x

theorem patinaref05_chunks_l0_rule (k : Nat) (kx2 : Option Addr → Nat → Nat → Mem → Option (Sl × Mem)) {P : (Sl × Mem) → Prop} (I : Nat → Option Addr → Nat → Nat → Int → Mem → Prop)
    (step : ∀ d (nx : Option Addr → Nat → Nat → Int → Mem → Option (Sl × Mem)) (x1a : Option Addr) (x1n : Nat) (x1c : Nat) (x2 : Int) (m : Mem), I d x1a x1n x1c x2 m → (∀ d' (x1a : Option Addr) (x1n : Nat) (x1c : Nat) (x2 : Int) (m : Mem), d' < d → I d' x1a x1n x1c x2 m → Ok (nx x1a x1n x1c x2 m) P) → Ok (patinaref05_chunks_l0_b k nx kx2 x1a x1n x1c x2 m) P) :
    ∀ n d (x1a : Option Addr) (x1n : Nat) (x1c : Nat) (x2 : Int) (m : Mem), d < n → I d x1a x1n x1c x2 m → Ok (patinaref05_chunks_l0 k kx2 n x1a x1n x1c x2 m) P
  | 0, d, x1a, x1n, x1c, x2, m, h, _ => absurd h (Nat.not_lt_zero _)
  | n + 1, d, x1a, x1n, x1c, x2, m, h, hI => step d _ x1a x1n x1c x2 m hI fun d' x1a x1n x1c x2 m h' hI' => patinaref05_chunks_l0_rule k kx2 I step n d' x1a x1n x1c x2 m (by omega) hI'

def patinaref05_chunks (k : Nat) (m : Mem) : Option (Sl × Mem) :=
  patinaref05_chunks_l0 k (fun y1a y1n y1c m6 => 
  some ((⟨y1a, y1n, y1c⟩ : Sl), m6)) k none 0 0 0 m

def patinaref05_chunks_call {R : Type} (k : Nat) : Fun R := callCons 54 (patinaref05_blank_arm k) (callNil)

theorem patinaref05_chunks_callOk {R : Type} (k : Nat) : CallOk Try.prog (patinaref05_chunks_call (R := R) k) := callOk_cons (patinaref05_blank_armOk k) (callOk_nil)

def patinaref05_chunks_l0_L (k : Nat) (K : Nat → List Value → Mem → Option (Sl × Mem)) (n : Nat) (vs : List Value) (m : Mem) : Option (Sl × Mem) := match vs with
  | [.slice x1a x1n x1c, .int .i64 x2] => patinaref05_chunks_l0 k (fun y1a y1n y1c m => K 2 [(Value.slice y1a y1n y1c)] m) n x1a x1n x1c x2 m
  | _ => none

def patinaref05_chunks_loop (k : Nat) : Nat → List Value → Mem → (Nat → List Value → Mem → Option (Sl × Mem)) → Option (Sl × Mem) := fun cur vs m K => match cur with
  | 0 => patinaref05_chunks_l0_L k K k vs m
  | _ => none

def patinaref05_chunks_C (k : Nat) : Ctx (Sl × Mem) := ⟨tt, patinaref05_chunks_call k, patinaref05_chunks_loop k, [(0, [1, 2])], [(2, [1])]⟩

noncomputable def patinaref05_chunks_l0_c : Code := ((loopsOf 0 (body Try.f36)).map (·.2)).getD 0 .skip

theorem patinaref05_chunks_loops : loopsOf 0 (body Try.f36) = [(0, patinaref05_chunks_l0_c)] := by kernel_rfl

theorem patinaref05_chunks_l0_ok (k : Nat) : LoopOk (patinaref05_chunks_C k) 0 patinaref05_chunks_l0_c := by
  refine ⟨[1, 2], by kernel_rfl, fun K r => ⟨patinaref05_chunks_l0_L k K, fun vs m h => ⟨k, h⟩, ?_⟩⟩
  intro n vs m h
  unfold patinaref05_chunks_l0_L at h
  split at h
  · cases n with
    | zero => cases h
    | succ n => exact ⟨n, rfl, Eq.trans (by kernel_rfl) h⟩
  · cases h

def patinaref05_chunks_dec : Value → Mem → Option (Sl × Mem) := fun v m => match v with
  | .slice q0a q0n q0c => some ((⟨q0a, q0n, q0c⟩ : Sl), m)
  | _ => none

theorem patinaref05_chunks_eq (k : Nat) (m : Mem) : fnX (patinaref05_chunks_C k) Try.f36 [] m patinaref05_chunks_dec = patinaref05_chunks k  m := by kernel_rfl

theorem patinaref05_chunks_ok {k : Nat} {m : Mem} {r : (Sl × Mem)} (h : patinaref05_chunks k  m = some r) : CallP Try.prog 36 [] m fun v m' => v = (Value.slice r.1.a r.1.len r.1.cap) ∧ m' = r.2 := by
  refine (fn_sound (C := patinaref05_chunks_C k) (c := body Try.f36) tOk mixed (patinaref05_chunks_callOk k) Try.func36 (by kernel_rfl) (by kernel_rfl) (by kernel_rfl) (by kernel_rfl) ?_ ?_ (Eq.trans (patinaref05_chunks_eq k  m) h)).mono ?_
  · intro p hp
    rw [patinaref05_chunks_loops] at hp
    simp only [List.mem_cons, List.not_mem_nil, or_false] at hp
    rcases hp with rfl
    · exact patinaref05_chunks_l0_ok k
  · intro p hp; rw [show rangesOf 0 (body Try.f36) = [] by kernel_rfl] at hp; cases hp
  · intro v m' hp
    unfold patinaref05_chunks_dec at hp
    split at hp
    · simp only [Option.some.injEq] at hp; subst hp; exact ⟨rfl, rfl⟩
    · cases hp

def patinaref05_chunks_arm {R : Type} (k : Nat) : Arm R := fun vs m K => match vs with
  | [] => (patinaref05_chunks k  m).bind fun r => K (Value.slice r.1.a r.1.len r.1.cap) r.2
  | _ => none

theorem patinaref05_chunks_armOk {R : Type} (k : Nat) : ArmOk Try.prog 36 (patinaref05_chunks_arm (R := R) k) := by
  intro vs m K r h
  unfold patinaref05_chunks_arm at h
  split at h
  · obtain ⟨r, h1, h2⟩ := Option.bind_eq_some_iff.1 h; exact ⟨_, _, h2, fun K' => by simp only [patinaref05_chunks_arm, h1, Option.bind_some], patinaref05_chunks_ok h1⟩
  · cases h

/-! ### patinaref05_New -/
def patinaref05_New_l0_b (k : Nat) (nx : Addr → Int → Mem → Option ((Option Addr) × Mem)) (kx2 : Addr → Mem → Option ((Option Addr) × Mem)) (x1 : Addr) (x2 : Int) (m : Mem) : Option ((Option Addr) × Mem) :=
  bif decide (x2 < 12) then (
  (ldSl m (plus x1 0)).bind fun t2 =>
  (patinaref05_chunks k  m).bind fun r3 =>
  let m4 : Mem := r3.2 ++ [.live [(Value.slice r3.1.a r3.1.len r3.1.cap), .int .i64 0, .bool false, (Value.int .i64 (-1)), .bool false]]
  (rdSl m4 (some ⟨List.length r3.2, 0, Option.none⟩) 1 5).bind fun l5 =>
  (appM 5 56 m4 t2.a t2.len t2.cap 1 l5).bind fun r6 =>
  (st r6.2 (plus x1 0) (Value.slice r6.1.a r6.1.len r6.1.cap)).bind fun m7 =>
  (ldSl r3.2 (plus x1 0)).bind fun t8 =>
  bif decide (t8.a = t2.a) && Nat.beq t8.len t2.len && Nat.beq t8.cap t2.cap then (
  (ldSl m4 (plus x1 0)).bind fun t9 =>
  bif decide (t9.a = t2.a) && Nat.beq t9.len t2.len && Nat.beq t9.cap t2.cap then (
  nx x1 (IntKind.wrap .i64 (x2 + 1)) m7) else none) else none) else (
  kx2 x1 m)

def patinaref05_New_l0 (k : Nat) (kx2 : Addr → Mem → Option ((Option Addr) × Mem)) : Nat → Addr → Int → Mem → Option ((Option Addr) × Mem)
  | 0, _, _, _ => none
  | n + 1, x1, x2, m => patinaref05_New_l0_b k (fun x1 x2 m => patinaref05_New_l0 k kx2 n x1 x2 m) kx2 x1 x2 m
termination_by structural x => x

theorem patinaref05_New_l0_rule (k : Nat) (kx2 : Addr → Mem → Option ((Option Addr) × Mem)) {P : ((Option Addr) × Mem) → Prop} (I : Nat → Addr → Int → Mem → Prop)
    (step : ∀ d (nx : Addr → Int → Mem → Option ((Option Addr) × Mem)) (x1 : Addr) (x2 : Int) (m : Mem), I d x1 x2 m → (∀ d' (x1 : Addr) (x2 : Int) (m : Mem), d' < d → I d' x1 x2 m → Ok (nx x1 x2 m) P) → Ok (patinaref05_New_l0_b k nx kx2 x1 x2 m) P) :
    ∀ n d (x1 : Addr) (x2 : Int) (m : Mem), d < n → I d x1 x2 m → Ok (patinaref05_New_l0 k kx2 n x1 x2 m) P
  | 0, d, x1, x2, m, h, _ => absurd h (Nat.not_lt_zero _)
  | n + 1, d, x1, x2, m, h, hI => step d _ x1 x2 m hI fun d' x1 x2 m h' hI' => patinaref05_New_l0_rule k kx2 I step n d' x1 x2 m (by omega) hI'

def patinaref05_New (k : Nat) (m : Mem) : Option ((Option Addr) × Mem) :=
  let m1 : Mem := m ++ [.live [.slice none 0 0, (Value.bool true), (Value.int .i64 (-1)), .int .i64 0]]
  patinaref05_New_l0 k (fun y1 m10 => 
  some ((some y1), m10)) k ⟨List.length m, 0, Option.none⟩ 0 m1

def patinaref05_New_call {R : Type} (k : Nat) : Fun R := callCons 36 (patinaref05_chunks_arm k) (callNil)

theorem patinaref05_New_callOk {R : Type} (k : Nat) : CallOk Try.prog (patinaref05_New_call (R := R) k) := callOk_cons (patinaref05_chunks_armOk k) (callOk_nil)

def patinaref05_New_l0_L (k : Nat) (K : Nat → List Value → Mem → Option ((Option Addr) × Mem)) (n : Nat) (vs : List Value) (m : Mem) : Option ((Option Addr) × Mem) := match vs with
  | [.pointer (some x1), .int .i64 x2] => patinaref05_New_l0 k (fun y1 m => K 2 [(Value.pointer (some y1))] m) n x1 x2 m
  | _ => none

def patinaref05_New_loop (k : Nat) : Nat → List Value → Mem → (Nat → List Value → Mem → Option ((Option Addr) × Mem)) → Option ((Option Addr) × Mem) := fun cur vs m K => match cur with
  | 0 => patinaref05_New_l0_L k K k vs m
  | _ => none

def patinaref05_New_C (k : Nat) : Ctx ((Option Addr) × Mem) := ⟨tt, patinaref05_New_call k, patinaref05_New_loop k, [(0, [1, 2])], [(2, [1])]⟩

noncomputable def patinaref05_New_l0_c : Code := ((loopsOf 0 (body Try.f20)).map (·.2)).getD 0 .skip

theorem patinaref05_New_loops : loopsOf 0 (body Try.f20) = [(0, patinaref05_New_l0_c)] := by kernel_rfl

theorem patinaref05_New_l0_ok (k : Nat) : LoopOk (patinaref05_New_C k) 0 patinaref05_New_l0_c := by
  refine ⟨[1, 2], by kernel_rfl, fun K r => ⟨patinaref05_New_l0_L k K, fun vs m h => ⟨k, h⟩, ?_⟩⟩
  intro n vs m h
  unfold patinaref05_New_l0_L at h
  split at h
  · cases n with
    | zero => cases h
    | succ n => exact ⟨n, rfl, Eq.trans (by kernel_rfl) h⟩
  · cases h

def patinaref05_New_dec : Value → Mem → Option ((Option Addr) × Mem) := fun v m => match v with
  | .pointer q0 => some (q0, m)
  | _ => none

theorem patinaref05_New_eq (k : Nat) (m : Mem) : fnX (patinaref05_New_C k) Try.f20 [] m patinaref05_New_dec = patinaref05_New k  m := by kernel_rfl

theorem patinaref05_New_ok {k : Nat} {m : Mem} {r : ((Option Addr) × Mem)} (h : patinaref05_New k  m = some r) : CallP Try.prog 20 [] m fun v m' => v = (Value.pointer r.1) ∧ m' = r.2 := by
  refine (fn_sound (C := patinaref05_New_C k) (c := body Try.f20) tOk mixed (patinaref05_New_callOk k) Try.func20 (by kernel_rfl) (by kernel_rfl) (by kernel_rfl) (by kernel_rfl) ?_ ?_ (Eq.trans (patinaref05_New_eq k  m) h)).mono ?_
  · intro p hp
    rw [patinaref05_New_loops] at hp
    simp only [List.mem_cons, List.not_mem_nil, or_false] at hp
    rcases hp with rfl
    · exact patinaref05_New_l0_ok k
  · intro p hp; rw [show rangesOf 0 (body Try.f20) = [] by kernel_rfl] at hp; cases hp
  · intro v m' hp
    unfold patinaref05_New_dec at hp
    split at hp
    · simp only [Option.some.injEq] at hp; subst hp; exact ⟨rfl, rfl⟩
    · cases hp

def patinaref05_New_arm {R : Type} (k : Nat) : Arm R := fun vs m K => match vs with
  | [] => (patinaref05_New k  m).bind fun r => K (Value.pointer r.1) r.2
  | _ => none

theorem patinaref05_New_armOk {R : Type} (k : Nat) : ArmOk Try.prog 20 (patinaref05_New_arm (R := R) k) := by
  intro vs m K r h
  unfold patinaref05_New_arm at h
  split at h
  · obtain ⟨r, h1, h2⟩ := Option.bind_eq_some_iff.1 h; exact ⟨_, _, h2, fun K' => by simp only [patinaref05_New_arm, h1, Option.bind_some], patinaref05_New_ok h1⟩
  · cases h

end Go.Proofs.Ytchonnaoojpdoaa
