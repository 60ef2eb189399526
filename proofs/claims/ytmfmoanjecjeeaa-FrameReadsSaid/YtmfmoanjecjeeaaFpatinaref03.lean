/- The program's functions as plain Lean functions over a clean memory, each held against the program by the kernel. Written by mx.py. -/
import Derived.Test.YtmfmoanjecjeeaaF0
set_option linter.unusedVariables false
set_option maxRecDepth 100000
namespace Go.Proofs.Ytmfmoanjecjeeaa
open Go.Mx

/-! ### patinaref03_Mark -/
def patinaref03_Mark (k : Nat) (m : Mem) : Option (Sl × Mem) :=
  let m1 : Mem := m ++ [.live [(Value.int .u8 112), (Value.int .u8 97), (Value.int .u8 116), (Value.int .u8 105), (Value.int .u8 110), (Value.int .u8 97), (Value.int .u8 48), (Value.int .u8 49)]]
  some ((⟨(some ⟨List.length m, 0, Option.none⟩), 8, 8⟩ : Sl), m1)

def patinaref03_Mark_call {R : Type} (k : Nat) : Fun R := callNil

theorem patinaref03_Mark_callOk {R : Type} (k : Nat) : CallOk Try.prog (patinaref03_Mark_call (R := R) k) := callOk_nil

def patinaref03_Mark_loop (k : Nat) : Nat → List Value → Mem → (Nat → List Value → Mem → Option (Sl × Mem)) → Option (Sl × Mem) := fun _ _ _ _ => none

def patinaref03_Mark_C (k : Nat) : Ctx (Sl × Mem) := ⟨tt, patinaref03_Mark_call k, patinaref03_Mark_loop k, [], []⟩

def patinaref03_Mark_dec : Value → Mem → Option (Sl × Mem) := fun v m => match v with
  | .slice q0a q0n q0c => some ((⟨q0a, q0n, q0c⟩ : Sl), m)
  | _ => none

theorem patinaref03_Mark_eq (k : Nat) (m : Mem) : fnX (patinaref03_Mark_C k) Try.f45 [] m patinaref03_Mark_dec = patinaref03_Mark k  m := by kernel_rfl

theorem patinaref03_Mark_ok {k : Nat} {m : Mem} {r : (Sl × Mem)} (h : patinaref03_Mark k  m = some r) : CallP Try.prog 45 [] m fun v m' => v = (Value.slice r.1.a r.1.len r.1.cap) ∧ m' = r.2 := by
  refine (fn_sound (C := patinaref03_Mark_C k) (c := body Try.f45) tOk mixed (patinaref03_Mark_callOk k) Try.func45 (by kernel_rfl) (by kernel_rfl) (by kernel_rfl) (by kernel_rfl) ?_ ?_ (Eq.trans (patinaref03_Mark_eq k  m) h)).mono ?_
  · intro p hp; rw [show loopsOf 0 (body Try.f45) = [] by kernel_rfl] at hp; cases hp
  · intro p hp; rw [show rangesOf 0 (body Try.f45) = [] by kernel_rfl] at hp; cases hp
  · intro v m' hp
    unfold patinaref03_Mark_dec at hp
    split at hp
    · simp only [Option.some.injEq] at hp; subst hp; exact ⟨rfl, rfl⟩
    · cases hp

def patinaref03_Mark_arm {R : Type} (k : Nat) : Arm R := fun vs m K => match vs with
  | [] => (patinaref03_Mark k  m).bind fun r => K (Value.slice r.1.a r.1.len r.1.cap) r.2
  | _ => none

theorem patinaref03_Mark_armOk {R : Type} (k : Nat) : ArmOk Try.prog 45 (patinaref03_Mark_arm (R := R) k) := by
  intro vs m K r h
  unfold patinaref03_Mark_arm at h
  split at h
  · obtain ⟨r, h1, h2⟩ := Option.bind_eq_some_iff.1 h; exact ⟨_, _, h2, fun K' => by simp only [patinaref03_Mark_arm, h1, Option.bind_some], patinaref03_Mark_ok h1⟩
  · cases h

/-! ### patinaref03_Sealed -/
def patinaref03_Sealed (k : Nat) (p0a : Option Addr) (p0n : Nat) (p0c : Nat) (m : Mem) : Option (Sl × Mem) :=
  (rdSl m p0a p0n 1).bind fun l1 =>
  (appM 1 1 m none 0 0 p0n l1).bind fun r2 =>
  (patinaref03_Mark k  r2.2).bind fun r3 =>
  (rdSl r3.2 r3.1.a r3.1.len 1).bind fun l4 =>
  (appM 1 1 r3.2 r2.1.a r2.1.len r2.1.cap r3.1.len l4).bind fun r5 =>
  some ((⟨r5.1.a, r5.1.len, r5.1.cap⟩ : Sl), r5.2)

def patinaref03_Sealed_call {R : Type} (k : Nat) : Fun R := callCons 45 (patinaref03_Mark_arm k) (callNil)

theorem patinaref03_Sealed_callOk {R : Type} (k : Nat) : CallOk Try.prog (patinaref03_Sealed_call (R := R) k) := callOk_cons (patinaref03_Mark_armOk k) (callOk_nil)

def patinaref03_Sealed_loop (k : Nat) : Nat → List Value → Mem → (Nat → List Value → Mem → Option (Sl × Mem)) → Option (Sl × Mem) := fun _ _ _ _ => none

def patinaref03_Sealed_C (k : Nat) : Ctx (Sl × Mem) := ⟨tt, patinaref03_Sealed_call k, patinaref03_Sealed_loop k, [], []⟩

def patinaref03_Sealed_dec : Value → Mem → Option (Sl × Mem) := fun v m => match v with
  | .slice q0a q0n q0c => some ((⟨q0a, q0n, q0c⟩ : Sl), m)
  | _ => none

theorem patinaref03_Sealed_eq (k : Nat) (p0a : Option Addr) (p0n : Nat) (p0c : Nat) (m : Mem) : fnX (patinaref03_Sealed_C k) Try.f32 [(Value.slice p0a p0n p0c)] m patinaref03_Sealed_dec = patinaref03_Sealed k p0a p0n p0c m := by kernel_rfl

theorem patinaref03_Sealed_ok {k : Nat} {p0a : Option Addr} {p0n : Nat} {p0c : Nat} {m : Mem} {r : (Sl × Mem)} (h : patinaref03_Sealed k p0a p0n p0c m = some r) : CallP Try.prog 32 [(Value.slice p0a p0n p0c)] m fun v m' => v = (Value.slice r.1.a r.1.len r.1.cap) ∧ m' = r.2 := by
  refine (fn_sound (C := patinaref03_Sealed_C k) (c := body Try.f32) tOk mixed (patinaref03_Sealed_callOk k) Try.func32 (by kernel_rfl) (by kernel_rfl) (by kernel_rfl) (by kernel_rfl) ?_ ?_ (Eq.trans (patinaref03_Sealed_eq k p0a p0n p0c m) h)).mono ?_
  · intro p hp; rw [show loopsOf 0 (body Try.f32) = [] by kernel_rfl] at hp; cases hp
  · intro p hp; rw [show rangesOf 0 (body Try.f32) = [] by kernel_rfl] at hp; cases hp
  · intro v m' hp
    unfold patinaref03_Sealed_dec at hp
    split at hp
    · simp only [Option.some.injEq] at hp; subst hp; exact ⟨rfl, rfl⟩
    · cases hp

def patinaref03_Sealed_arm {R : Type} (k : Nat) : Arm R := fun vs m K => match vs with
  | [.slice p0a p0n p0c] => (patinaref03_Sealed k p0a p0n p0c m).bind fun r => K (Value.slice r.1.a r.1.len r.1.cap) r.2
  | _ => none

theorem patinaref03_Sealed_armOk {R : Type} (k : Nat) : ArmOk Try.prog 32 (patinaref03_Sealed_arm (R := R) k) := by
  intro vs m K r h
  unfold patinaref03_Sealed_arm at h
  split at h
  · obtain ⟨r, h1, h2⟩ := Option.bind_eq_some_iff.1 h; exact ⟨_, _, h2, fun K' => by simp only [patinaref03_Sealed_arm, h1, Option.bind_some], patinaref03_Sealed_ok h1⟩
  · cases h

/-! ### patinaref03_Marked -/
def patinaref03_Marked_l0_b (k : Nat) (nx : Option Addr → Nat → Nat → Option Addr → Nat → Nat → Int → Mem → Option (Bool × Mem)) (kx0 : Bool → Mem → Option (Bool × Mem)) (kx2 : Mem → Option (Bool × Mem)) (x0a : Option Addr) (x0n : Nat) (x0c : Nat) (x3a : Option Addr) (x3n : Nat) (x3c : Nat) (x4 : Int) (m : Mem) : Option (Bool × Mem) :=
  bif decide (x4 < ((x3n : Nat) : Int)) then (
  bif inRange (IntKind.wrap .i64 (50 + x4)) x0n then (
  (x0a).bind fun a2 =>
  (ldInt .u8 m (plus a2 (Int.toNat (IntKind.wrap .i64 (50 + x4)) * 1))).bind fun t3 =>
  bif inRange x4 x3n then (
  (x3a).bind fun a4 =>
  (ldInt .u8 m (plus a4 (Int.toNat x4 * 1))).bind fun t5 =>
  bif t3 != t5 then (
  kx0 false m) else (
  nx x0a x0n x0c x3a x3n x3c (IntKind.wrap .i64 (x4 + 1)) m)) else none) else none) else (
  kx2  m)

def patinaref03_Marked_l0 (k : Nat) (kx0 : Bool → Mem → Option (Bool × Mem)) (kx2 : Mem → Option (Bool × Mem)) : Nat → Option Addr → Nat → Nat → Option Addr → Nat → Nat → Int → Mem → Option (Bool × Mem)
  | 0, _, _, _, _, _, _, _, _ => none
  | n + 1, x0a, x0n, x0c, x3a, x3n, x3c, x4, m => patinaref03_Marked_l0_b k (fun x0a x0n x0c x3a x3n x3c x4 m => patinaref03_Marked_l0 k kx0 kx2 n x0a x0n x0c x3a x3n x3c x4 m) kx0 kx2 x0a x0n x0c x3a x3n x3c x4 m
termination_by structural x => x

theorem patinaref03_Marked_l0_rule (k : Nat) (kx0 : Bool → Mem → Option (Bool × Mem)) (kx2 : Mem → Option (Bool × Mem)) {P : (Bool × Mem) → Prop} (I : Nat → Option Addr → Nat → Nat → Option Addr → Nat → Nat → Int → Mem → Prop)
    (step : ∀ d (nx : Option Addr → Nat → Nat → Option Addr → Nat → Nat → Int → Mem → Option (Bool × Mem)) (x0a : Option Addr) (x0n : Nat) (x0c : Nat) (x3a : Option Addr) (x3n : Nat) (x3c : Nat) (x4 : Int) (m : Mem), I d x0a x0n x0c x3a x3n x3c x4 m → (∀ d' (x0a : Option Addr) (x0n : Nat) (x0c : Nat) (x3a : Option Addr) (x3n : Nat) (x3c : Nat) (x4 : Int) (m : Mem), d' < d → I d' x0a x0n x0c x3a x3n x3c x4 m → Ok (nx x0a x0n x0c x3a x3n x3c x4 m) P) → Ok (patinaref03_Marked_l0_b k nx kx0 kx2 x0a x0n x0c x3a x3n x3c x4 m) P) :
    ∀ n d (x0a : Option Addr) (x0n : Nat) (x0c : Nat) (x3a : Option Addr) (x3n : Nat) (x3c : Nat) (x4 : Int) (m : Mem), d < n → I d x0a x0n x0c x3a x3n x3c x4 m → Ok (patinaref03_Marked_l0 k kx0 kx2 n x0a x0n x0c x3a x3n x3c x4 m) P
  | 0, d, x0a, x0n, x0c, x3a, x3n, x3c, x4, m, h, _ => absurd h (Nat.not_lt_zero _)
  | n + 1, d, x0a, x0n, x0c, x3a, x3n, x3c, x4, m, h, hI => step d _ x0a x0n x0c x3a x3n x3c x4 m hI fun d' x0a x0n x0c x3a x3n x3c x4 m h' hI' => patinaref03_Marked_l0_rule k kx0 kx2 I step n d' x0a x0n x0c x3a x3n x3c x4 m (by omega) hI'

def patinaref03_Marked (k : Nat) (p0a : Option Addr) (p0n : Nat) (p0c : Nat) (m : Mem) : Option (Bool × Mem) :=
  (patinaref03_Mark k  m).bind fun r1 =>
  patinaref03_Marked_l0 k (fun y2 m6 => 
  some (y2, m6)) (fun m7 => 
  some (true, m7)) k p0a p0n p0c r1.1.a r1.1.len r1.1.cap 0 r1.2

def patinaref03_Marked_call {R : Type} (k : Nat) : Fun R := callCons 45 (patinaref03_Mark_arm k) (callNil)

theorem patinaref03_Marked_callOk {R : Type} (k : Nat) : CallOk Try.prog (patinaref03_Marked_call (R := R) k) := callOk_cons (patinaref03_Mark_armOk k) (callOk_nil)

def patinaref03_Marked_l0_L (k : Nat) (K : Nat → List Value → Mem → Option (Bool × Mem)) (n : Nat) (vs : List Value) (m : Mem) : Option (Bool × Mem) := match vs with
  | [.slice x0a x0n x0c, .slice x3a x3n x3c, .int .i64 x4] => patinaref03_Marked_l0 k (fun y2 m => K 0 [(Value.bool y2)] m) (fun m => K 2 [] m) n x0a x0n x0c x3a x3n x3c x4 m
  | _ => none

def patinaref03_Marked_loop (k : Nat) : Nat → List Value → Mem → (Nat → List Value → Mem → Option (Bool × Mem)) → Option (Bool × Mem) := fun cur vs m K => match cur with
  | 0 => patinaref03_Marked_l0_L k K k vs m
  | _ => none

def patinaref03_Marked_C (k : Nat) : Ctx (Bool × Mem) := ⟨tt, patinaref03_Marked_call k, patinaref03_Marked_loop k, [(0, [0, 3, 4])], [(0, [2]), (2, [])]⟩

noncomputable def patinaref03_Marked_l0_c : Code := ((loopsOf 0 (body Try.f36)).map (·.2)).getD 0 .skip

theorem patinaref03_Marked_loops : loopsOf 0 (body Try.f36) = [(0, patinaref03_Marked_l0_c)] := by kernel_rfl

theorem patinaref03_Marked_l0_ok (k : Nat) : LoopOk (patinaref03_Marked_C k) 0 patinaref03_Marked_l0_c := by
  refine ⟨[0, 3, 4], by kernel_rfl, fun K r => ⟨patinaref03_Marked_l0_L k K, fun vs m h => ⟨k, h⟩, ?_⟩⟩
  intro n vs m h
  unfold patinaref03_Marked_l0_L at h
  split at h
  · cases n with
    | zero => cases h
    | succ n => exact ⟨n, rfl, Eq.trans (by kernel_rfl) h⟩
  · cases h

def patinaref03_Marked_dec : Value → Mem → Option (Bool × Mem) := fun v m => match v with
  | .bool q0 => some (q0, m)
  | _ => none

theorem patinaref03_Marked_eq (k : Nat) (p0a : Option Addr) (p0n : Nat) (p0c : Nat) (m : Mem) : fnX (patinaref03_Marked_C k) Try.f36 [(Value.slice p0a p0n p0c)] m patinaref03_Marked_dec = patinaref03_Marked k p0a p0n p0c m := by kernel_rfl

theorem patinaref03_Marked_ok {k : Nat} {p0a : Option Addr} {p0n : Nat} {p0c : Nat} {m : Mem} {r : (Bool × Mem)} (h : patinaref03_Marked k p0a p0n p0c m = some r) : CallP Try.prog 36 [(Value.slice p0a p0n p0c)] m fun v m' => v = (Value.bool r.1) ∧ m' = r.2 := by
  refine (fn_sound (C := patinaref03_Marked_C k) (c := body Try.f36) tOk mixed (patinaref03_Marked_callOk k) Try.func36 (by kernel_rfl) (by kernel_rfl) (by kernel_rfl) (by kernel_rfl) ?_ ?_ (Eq.trans (patinaref03_Marked_eq k p0a p0n p0c m) h)).mono ?_
  · intro p hp
    rw [patinaref03_Marked_loops] at hp
    simp only [List.mem_cons, List.not_mem_nil, or_false] at hp
    rcases hp with rfl
    · exact patinaref03_Marked_l0_ok k
  · intro p hp; rw [show rangesOf 0 (body Try.f36) = [] by kernel_rfl] at hp; cases hp
  · intro v m' hp
    unfold patinaref03_Marked_dec at hp
    split at hp
    · simp only [Option.some.injEq] at hp; subst hp; exact ⟨rfl, rfl⟩
    · cases hp

def patinaref03_Marked_arm {R : Type} (k : Nat) : Arm R := fun vs m K => match vs with
  | [.slice p0a p0n p0c] => (patinaref03_Marked k p0a p0n p0c m).bind fun r => K (Value.bool r.1) r.2
  | _ => none

theorem patinaref03_Marked_armOk {R : Type} (k : Nat) : ArmOk Try.prog 36 (patinaref03_Marked_arm (R := R) k) := by
  intro vs m K r h
  unfold patinaref03_Marked_arm at h
  split at h
  · obtain ⟨r, h1, h2⟩ := Option.bind_eq_some_iff.1 h; exact ⟨_, _, h2, fun K' => by simp only [patinaref03_Marked_arm, h1, Option.bind_some], patinaref03_Marked_ok h1⟩
  · cases h

end Go.Proofs.Ytmfmoanjecjeeaa
