/- The program's functions as plain Lean functions over a clean memory, each held against the program by the kernel. Written by mx.py. -/
import Derived.Test.YtoljgolgecbcdabF0
import Derived.Test.YtoljgolgecbcdabFpatinaref01
set_option linter.unusedVariables false
set_option maxRecDepth 100000
namespace Go.Proofs.Ytoljgolgecbcdab
open Go.Mx

/-! ### patinaref02_Apart -/
def patinaref02_Apart_j1 (k : Nat) (x0a : Option Addr) (x0n : Nat) (x0c : Nat) (x1a : Option Addr) (x1n : Nat) (x1c : Nat) (x6 : Int) (nx : Option Addr → Nat → Nat → Option Addr → Nat → Nat → Int → Int → Mem → Option (Int × Mem)) (x5_ : Int) (mj : Mem) : Option (Int × Mem) :=
  nx x0a x0n x0c x1a x1n x1c x5_ (IntKind.wrap .i64 (x6 + 1)) mj

def patinaref02_Apart_l0_b (k : Nat) (nx : Option Addr → Nat → Nat → Option Addr → Nat → Nat → Int → Int → Mem → Option (Int × Mem)) (kx2 : Int → Mem → Option (Int × Mem)) (x0a : Option Addr) (x0n : Nat) (x0c : Nat) (x1a : Option Addr) (x1n : Nat) (x1c : Nat) (x5 : Int) (x6 : Int) (m : Mem) : Option (Int × Mem) :=
  bif decide (x6 < ((x0n : Nat) : Int)) then (
  bif inRange x6 x0n then (
  (x0a).bind fun a1 =>
  (ldInt .u8 m (plus a1 (Int.toNat x6 * 1))).bind fun t2 =>
  bif inRange x6 x1n then (
  (x1a).bind fun a3 =>
  (ldInt .u8 m (plus a3 (Int.toNat x6 * 1))).bind fun t4 =>
  bif t2 != t4 then (
  patinaref02_Apart_j1 k x0a x0n x0c x1a x1n x1c x6 nx (IntKind.wrap .i64 (x5 + 1)) m) else (
  patinaref02_Apart_j1 k x0a x0n x0c x1a x1n x1c x6 nx x5 m)) else none) else none) else (
  kx2 x5 m)

def patinaref02_Apart_l0 (k : Nat) (kx2 : Int → Mem → Option (Int × Mem)) : Nat → Option Addr → Nat → Nat → Option Addr → Nat → Nat → Int → Int → Mem → Option (Int × Mem)
  | 0, _, _, _, _, _, _, _, _, _ => none
  | n + 1, x0a, x0n, x0c, x1a, x1n, x1c, x5, x6, m => patinaref02_Apart_l0_b k (fun x0a x0n x0c x1a x1n x1c x5 x6 m => patinaref02_Apart_l0 k kx2 n x0a x0n x0c x1a x1n x1c x5 x6 m) kx2 x0a x0n x0c x1a x1n x1c x5 x6 m

theorem patinaref02_Apart_l0_rule (k : Nat) (kx2 : Int → Mem → Option (Int × Mem)) {P : (Int × Mem) → Prop} (I : Nat → Option Addr → Nat → Nat → Option Addr → Nat → Nat → Int → Int → Mem → Prop)
    (step : ∀ d (nx : Option Addr → Nat → Nat → Option Addr → Nat → Nat → Int → Int → Mem → Option (Int × Mem)) (x0a : Option Addr) (x0n : Nat) (x0c : Nat) (x1a : Option Addr) (x1n : Nat) (x1c : Nat) (x5 : Int) (x6 : Int) (m : Mem), I d x0a x0n x0c x1a x1n x1c x5 x6 m → (∀ d' (x0a : Option Addr) (x0n : Nat) (x0c : Nat) (x1a : Option Addr) (x1n : Nat) (x1c : Nat) (x5 : Int) (x6 : Int) (m : Mem), d' < d → I d' x0a x0n x0c x1a x1n x1c x5 x6 m → Ok (nx x0a x0n x0c x1a x1n x1c x5 x6 m) P) → Ok (patinaref02_Apart_l0_b k nx kx2 x0a x0n x0c x1a x1n x1c x5 x6 m) P) :
    ∀ n d (x0a : Option Addr) (x0n : Nat) (x0c : Nat) (x1a : Option Addr) (x1n : Nat) (x1c : Nat) (x5 : Int) (x6 : Int) (m : Mem), d < n → I d x0a x0n x0c x1a x1n x1c x5 x6 m → Ok (patinaref02_Apart_l0 k kx2 n x0a x0n x0c x1a x1n x1c x5 x6 m) P
  | 0, d, x0a, x0n, x0c, x1a, x1n, x1c, x5, x6, m, h, _ => absurd h (Nat.not_lt_zero _)
  | n + 1, d, x0a, x0n, x0c, x1a, x1n, x1c, x5, x6, m, h, hI => step d _ x0a x0n x0c x1a x1n x1c x5 x6 m hI fun d' x0a x0n x0c x1a x1n x1c x5 x6 m h' hI' => patinaref02_Apart_l0_rule k kx2 I step n d' x0a x0n x0c x1a x1n x1c x5 x6 m (by omega) hI'

def patinaref02_Apart (k : Nat) (p0a : Option Addr) (p0n : Nat) (p0c : Nat) (p1a : Option Addr) (p1n : Nat) (p1c : Nat) (m : Mem) : Option (Int × Mem) :=
  patinaref02_Apart_l0 k (fun y5 m5 => 
  some (y5, m5)) k p0a p0n p0c p1a p1n p1c 0 0 m

def patinaref02_Apart_call {R : Type} (k : Nat) : Fun R := callNil

theorem patinaref02_Apart_callOk {R : Type} (k : Nat) : CallOk Try.prog (patinaref02_Apart_call (R := R) k) := callOk_nil

def patinaref02_Apart_l0_L (k : Nat) (K : Nat → List Value → Mem → Option (Int × Mem)) (n : Nat) (vs : List Value) (m : Mem) : Option (Int × Mem) := match vs with
  | [.slice x0a x0n x0c, .slice x1a x1n x1c, .int .i64 x5, .int .i64 x6] => patinaref02_Apart_l0 k (fun y5 m => K 2 [(Value.int .i64 y5)] m) n x0a x0n x0c x1a x1n x1c x5 x6 m
  | _ => none

def patinaref02_Apart_loop (k : Nat) : Nat → List Value → Mem → (Nat → List Value → Mem → Option (Int × Mem)) → Option (Int × Mem) := fun cur vs m K => match cur with
  | 0 => patinaref02_Apart_l0_L k K k vs m
  | _ => none

def patinaref02_Apart_C (k : Nat) : Ctx (Int × Mem) := ⟨tt, patinaref02_Apart_call k, patinaref02_Apart_loop k, [(0, [0, 1, 5, 6])], [(2, [5])]⟩

noncomputable def patinaref02_Apart_l0_c : Code := ((loopsOf 0 (body Try.f12)).map (·.2)).getD 0 .skip

theorem patinaref02_Apart_loops : loopsOf 0 (body Try.f12) = [(0, patinaref02_Apart_l0_c)] := by kernel_rfl

theorem patinaref02_Apart_l0_ok (k : Nat) : LoopOk (patinaref02_Apart_C k) 0 patinaref02_Apart_l0_c := by
  refine ⟨[0, 1, 5, 6], by kernel_rfl, fun K r => ⟨patinaref02_Apart_l0_L k K, fun vs m h => ⟨k, h⟩, ?_⟩⟩
  intro n vs m h
  unfold patinaref02_Apart_l0_L at h
  split at h
  · cases n with
    | zero => cases h
    | succ n => exact ⟨n, rfl, Eq.trans (by kernel_rfl) h⟩
  · cases h

def patinaref02_Apart_dec : Value → Mem → Option (Int × Mem) := fun v m => match v with
  | .int .i64 q0 => some (q0, m)
  | _ => none

theorem patinaref02_Apart_eq (k : Nat) (p0a : Option Addr) (p0n : Nat) (p0c : Nat) (p1a : Option Addr) (p1n : Nat) (p1c : Nat) (m : Mem) : fnX (patinaref02_Apart_C k) Try.f12 [(Value.slice p0a p0n p0c), (Value.slice p1a p1n p1c)] m patinaref02_Apart_dec = patinaref02_Apart k p0a p0n p0c p1a p1n p1c m := by kernel_rfl

theorem patinaref02_Apart_ok {k : Nat} {p0a : Option Addr} {p0n : Nat} {p0c : Nat} {p1a : Option Addr} {p1n : Nat} {p1c : Nat} {m : Mem} {r : (Int × Mem)} (h : patinaref02_Apart k p0a p0n p0c p1a p1n p1c m = some r) : CallP Try.prog 12 [(Value.slice p0a p0n p0c), (Value.slice p1a p1n p1c)] m fun v m' => v = (Value.int .i64 r.1) ∧ m' = r.2 := by
  refine (fn_sound (C := patinaref02_Apart_C k) (c := body Try.f12) tOk mixed (patinaref02_Apart_callOk k) Try.func12 (by kernel_rfl) (by kernel_rfl) (by kernel_rfl) (by kernel_rfl) ?_ (Eq.trans (patinaref02_Apart_eq k p0a p0n p0c p1a p1n p1c m) h)).mono ?_
  · intro p hp
    rw [patinaref02_Apart_loops] at hp
    simp only [List.mem_cons, List.not_mem_nil, or_false] at hp
    rcases hp with rfl
    · exact patinaref02_Apart_l0_ok k
  · intro v m' hp
    unfold patinaref02_Apart_dec at hp
    split at hp
    · simp only [Option.some.injEq] at hp; subst hp; exact ⟨rfl, rfl⟩
    · cases hp

def patinaref02_Apart_arm {R : Type} (k : Nat) : Arm R := fun vs m K => match vs with
  | [.slice p0a p0n p0c, .slice p1a p1n p1c] => (patinaref02_Apart k p0a p0n p0c p1a p1n p1c m).bind fun r => K (Value.int .i64 r.1) r.2
  | _ => none

theorem patinaref02_Apart_armOk {R : Type} (k : Nat) : ArmOk Try.prog 12 (patinaref02_Apart_arm (R := R) k) := by
  intro vs m K r h
  unfold patinaref02_Apart_arm at h
  split at h
  · obtain ⟨r, h1, h2⟩ := Option.bind_eq_some_iff.1 h; exact ⟨_, _, h2, fun K' => by simp only [patinaref02_Apart_arm, h1, Option.bind_some], patinaref02_Apart_ok h1⟩
  · cases h

/-! ### patinaref02_Syndromes -/
def patinaref02_Syndromes_l0_b (k : Nat) (nx : Option Addr → Nat → Nat → Option Addr → Nat → Nat → Int → Int → Mem → Option (Sl × Mem)) (kx2 : Option Addr → Nat → Nat → Mem → Option (Sl × Mem)) (x0a : Option Addr) (x0n : Nat) (x0c : Nat) (x3a : Option Addr) (x3n : Nat) (x3c : Nat) (x4 : Int) (x5 : Int) (m : Mem) : Option (Sl × Mem) :=
  bif decide (x5 < 6) then (
  (patinaref01_Eval k x0a x0n x0c x4 m).bind fun r1 =>
  let m2 : Mem := r1.2 ++ [.live [(Value.int .u8 r1.1)]]
  (rdSl m2 (some ⟨List.length r1.2, 0, Option.none⟩) 1 1).bind fun l3 =>
  (appM 1 1 m2 x3a x3n x3c 1 l3).bind fun r4 =>
  (patinaref01_Mul k x4 2 r4.2).bind fun r5 =>
  nx x0a x0n x0c r4.1.a r4.1.len r4.1.cap r5.1 (IntKind.wrap .i64 (x5 + 1)) r5.2) else (
  kx2 x3a x3n x3c m)

def patinaref02_Syndromes_l0 (k : Nat) (kx2 : Option Addr → Nat → Nat → Mem → Option (Sl × Mem)) : Nat → Option Addr → Nat → Nat → Option Addr → Nat → Nat → Int → Int → Mem → Option (Sl × Mem)
  | 0, _, _, _, _, _, _, _, _, _ => none
  | n + 1, x0a, x0n, x0c, x3a, x3n, x3c, x4, x5, m => patinaref02_Syndromes_l0_b k (fun x0a x0n x0c x3a x3n x3c x4 x5 m => patinaref02_Syndromes_l0 k kx2 n x0a x0n x0c x3a x3n x3c x4 x5 m) kx2 x0a x0n x0c x3a x3n x3c x4 x5 m

theorem patinaref02_Syndromes_l0_rule (k : Nat) (kx2 : Option Addr → Nat → Nat → Mem → Option (Sl × Mem)) {P : (Sl × Mem) → Prop} (I : Nat → Option Addr → Nat → Nat → Option Addr → Nat → Nat → Int → Int → Mem → Prop)
    (step : ∀ d (nx : Option Addr → Nat → Nat → Option Addr → Nat → Nat → Int → Int → Mem → Option (Sl × Mem)) (x0a : Option Addr) (x0n : Nat) (x0c : Nat) (x3a : Option Addr) (x3n : Nat) (x3c : Nat) (x4 : Int) (x5 : Int) (m : Mem), I d x0a x0n x0c x3a x3n x3c x4 x5 m → (∀ d' (x0a : Option Addr) (x0n : Nat) (x0c : Nat) (x3a : Option Addr) (x3n : Nat) (x3c : Nat) (x4 : Int) (x5 : Int) (m : Mem), d' < d → I d' x0a x0n x0c x3a x3n x3c x4 x5 m → Ok (nx x0a x0n x0c x3a x3n x3c x4 x5 m) P) → Ok (patinaref02_Syndromes_l0_b k nx kx2 x0a x0n x0c x3a x3n x3c x4 x5 m) P) :
    ∀ n d (x0a : Option Addr) (x0n : Nat) (x0c : Nat) (x3a : Option Addr) (x3n : Nat) (x3c : Nat) (x4 : Int) (x5 : Int) (m : Mem), d < n → I d x0a x0n x0c x3a x3n x3c x4 x5 m → Ok (patinaref02_Syndromes_l0 k kx2 n x0a x0n x0c x3a x3n x3c x4 x5 m) P
  | 0, d, x0a, x0n, x0c, x3a, x3n, x3c, x4, x5, m, h, _ => absurd h (Nat.not_lt_zero _)
  | n + 1, d, x0a, x0n, x0c, x3a, x3n, x3c, x4, x5, m, h, hI => step d _ x0a x0n x0c x3a x3n x3c x4 x5 m hI fun d' x0a x0n x0c x3a x3n x3c x4 x5 m h' hI' => patinaref02_Syndromes_l0_rule k kx2 I step n d' x0a x0n x0c x3a x3n x3c x4 x5 m (by omega) hI'

def patinaref02_Syndromes (k : Nat) (p0a : Option Addr) (p0n : Nat) (p0c : Nat) (m : Mem) : Option (Sl × Mem) :=
  patinaref02_Syndromes_l0 k (fun y3a y3n y3c m6 => 
  some ((⟨y3a, y3n, y3c⟩ : Sl), m6)) k p0a p0n p0c none 0 0 1 0 m

def patinaref02_Syndromes_call {R : Type} (k : Nat) : Fun R := callCons 37 (patinaref01_Eval_arm k) (callCons 38 (patinaref01_Mul_arm k) (callNil))

theorem patinaref02_Syndromes_callOk {R : Type} (k : Nat) : CallOk Try.prog (patinaref02_Syndromes_call (R := R) k) := callOk_cons (patinaref01_Eval_armOk k) (callOk_cons (patinaref01_Mul_armOk k) (callOk_nil))

def patinaref02_Syndromes_l0_L (k : Nat) (K : Nat → List Value → Mem → Option (Sl × Mem)) (n : Nat) (vs : List Value) (m : Mem) : Option (Sl × Mem) := match vs with
  | [.slice x0a x0n x0c, .slice x3a x3n x3c, .int .u8 x4, .int .i64 x5] => patinaref02_Syndromes_l0 k (fun y3a y3n y3c m => K 2 [(Value.slice y3a y3n y3c)] m) n x0a x0n x0c x3a x3n x3c x4 x5 m
  | _ => none

def patinaref02_Syndromes_loop (k : Nat) : Nat → List Value → Mem → (Nat → List Value → Mem → Option (Sl × Mem)) → Option (Sl × Mem) := fun cur vs m K => match cur with
  | 0 => patinaref02_Syndromes_l0_L k K k vs m
  | _ => none

def patinaref02_Syndromes_C (k : Nat) : Ctx (Sl × Mem) := ⟨tt, patinaref02_Syndromes_call k, patinaref02_Syndromes_loop k, [(0, [0, 3, 4, 5])], [(2, [3])]⟩

noncomputable def patinaref02_Syndromes_l0_c : Code := ((loopsOf 0 (body Try.f16)).map (·.2)).getD 0 .skip

theorem patinaref02_Syndromes_loops : loopsOf 0 (body Try.f16) = [(0, patinaref02_Syndromes_l0_c)] := by kernel_rfl

theorem patinaref02_Syndromes_l0_ok (k : Nat) : LoopOk (patinaref02_Syndromes_C k) 0 patinaref02_Syndromes_l0_c := by
  refine ⟨[0, 3, 4, 5], by kernel_rfl, fun K r => ⟨patinaref02_Syndromes_l0_L k K, fun vs m h => ⟨k, h⟩, ?_⟩⟩
  intro n vs m h
  unfold patinaref02_Syndromes_l0_L at h
  split at h
  · cases n with
    | zero => cases h
    | succ n => exact ⟨n, rfl, Eq.trans (by kernel_rfl) h⟩
  · cases h

def patinaref02_Syndromes_dec : Value → Mem → Option (Sl × Mem) := fun v m => match v with
  | .slice q0a q0n q0c => some ((⟨q0a, q0n, q0c⟩ : Sl), m)
  | _ => none

theorem patinaref02_Syndromes_eq (k : Nat) (p0a : Option Addr) (p0n : Nat) (p0c : Nat) (m : Mem) : fnX (patinaref02_Syndromes_C k) Try.f16 [(Value.slice p0a p0n p0c)] m patinaref02_Syndromes_dec = patinaref02_Syndromes k p0a p0n p0c m := by kernel_rfl

theorem patinaref02_Syndromes_ok {k : Nat} {p0a : Option Addr} {p0n : Nat} {p0c : Nat} {m : Mem} {r : (Sl × Mem)} (h : patinaref02_Syndromes k p0a p0n p0c m = some r) : CallP Try.prog 16 [(Value.slice p0a p0n p0c)] m fun v m' => v = (Value.slice r.1.a r.1.len r.1.cap) ∧ m' = r.2 := by
  refine (fn_sound (C := patinaref02_Syndromes_C k) (c := body Try.f16) tOk mixed (patinaref02_Syndromes_callOk k) Try.func16 (by kernel_rfl) (by kernel_rfl) (by kernel_rfl) (by kernel_rfl) ?_ (Eq.trans (patinaref02_Syndromes_eq k p0a p0n p0c m) h)).mono ?_
  · intro p hp
    rw [patinaref02_Syndromes_loops] at hp
    simp only [List.mem_cons, List.not_mem_nil, or_false] at hp
    rcases hp with rfl
    · exact patinaref02_Syndromes_l0_ok k
  · intro v m' hp
    unfold patinaref02_Syndromes_dec at hp
    split at hp
    · simp only [Option.some.injEq] at hp; subst hp; exact ⟨rfl, rfl⟩
    · cases hp

def patinaref02_Syndromes_arm {R : Type} (k : Nat) : Arm R := fun vs m K => match vs with
  | [.slice p0a p0n p0c] => (patinaref02_Syndromes k p0a p0n p0c m).bind fun r => K (Value.slice r.1.a r.1.len r.1.cap) r.2
  | _ => none

theorem patinaref02_Syndromes_armOk {R : Type} (k : Nat) : ArmOk Try.prog 16 (patinaref02_Syndromes_arm (R := R) k) := by
  intro vs m K r h
  unfold patinaref02_Syndromes_arm at h
  split at h
  · obtain ⟨r, h1, h2⟩ := Option.bind_eq_some_iff.1 h; exact ⟨_, _, h2, fun K' => by simp only [patinaref02_Syndromes_arm, h1, Option.bind_some], patinaref02_Syndromes_ok h1⟩
  · cases h

end Go.Proofs.Ytoljgolgecbcdab
