/- The program's functions as plain Lean functions over a clean memory, each held against the program by the kernel. Written by mx.py. -/
import Derived.Test.YtchonnaoojpdoaaF0
set_option linter.unusedVariables false
set_option maxRecDepth 100000
namespace Go.Proofs.Ytchonnaoojpdoaa
open Go.Mx

/-! ### patinaref01_Same -/
def patinaref01_Same_l0_b (k : Nat) (nx : Option Addr → Nat → Nat → Option Addr → Nat → Nat → Int → Mem → Option (Bool × Mem)) (kx0 : Bool → Mem → Option (Bool × Mem)) (kx2 : Mem → Option (Bool × Mem)) (x0a : Option Addr) (x0n : Nat) (x0c : Nat) (x1a : Option Addr) (x1n : Nat) (x1c : Nat) (x5 : Int) (m : Mem) : Option (Bool × Mem) :=
  bif decide (x5 < ((x0n : Nat) : Int)) then (
  bif inRange x5 x0n then (
  (x0a).bind fun a1 =>
  (ldInt .u8 m (plus a1 (Int.toNat x5 * 1))).bind fun t2 =>
  bif inRange x5 x1n then (
  (x1a).bind fun a3 =>
  (ldInt .u8 m (plus a3 (Int.toNat x5 * 1))).bind fun t4 =>
  bif t2 != t4 then (
  kx0 false m) else (
  nx x0a x0n x0c x1a x1n x1c (IntKind.wrap .i64 (x5 + 1)) m)) else none) else none) else (
  kx2  m)

def patinaref01_Same_l0 (k : Nat) (kx0 : Bool → Mem → Option (Bool × Mem)) (kx2 : Mem → Option (Bool × Mem)) : Nat → Option Addr → Nat → Nat → Option Addr → Nat → Nat → Int → Mem → Option (Bool × Mem)
  | 0, _, _, _, _, _, _, _, _ => none
  | n + 1, x0a, x0n, x0c, x1a, x1n, x1c, x5, m => patinaref01_Same_l0_b k (fun x0a x0n x0c x1a x1n x1c x5 m => patinaref01_Same_l0 k kx0 kx2 n x0a x0n x0c x1a x1n x1c x5 m) kx0 kx2 x0a x0n x0c x1a x1n x1c x5 m
termination_by structural x => x

theorem patinaref01_Same_l0_rule (k : Nat) (kx0 : Bool → Mem → Option (Bool × Mem)) (kx2 : Mem → Option (Bool × Mem)) {P : (Bool × Mem) → Prop} (I : Nat → Option Addr → Nat → Nat → Option Addr → Nat → Nat → Int → Mem → Prop)
    (step : ∀ d (nx : Option Addr → Nat → Nat → Option Addr → Nat → Nat → Int → Mem → Option (Bool × Mem)) (x0a : Option Addr) (x0n : Nat) (x0c : Nat) (x1a : Option Addr) (x1n : Nat) (x1c : Nat) (x5 : Int) (m : Mem), I d x0a x0n x0c x1a x1n x1c x5 m → (∀ d' (x0a : Option Addr) (x0n : Nat) (x0c : Nat) (x1a : Option Addr) (x1n : Nat) (x1c : Nat) (x5 : Int) (m : Mem), d' < d → I d' x0a x0n x0c x1a x1n x1c x5 m → Ok (nx x0a x0n x0c x1a x1n x1c x5 m) P) → Ok (patinaref01_Same_l0_b k nx kx0 kx2 x0a x0n x0c x1a x1n x1c x5 m) P) :
    ∀ n d (x0a : Option Addr) (x0n : Nat) (x0c : Nat) (x1a : Option Addr) (x1n : Nat) (x1c : Nat) (x5 : Int) (m : Mem), d < n → I d x0a x0n x0c x1a x1n x1c x5 m → Ok (patinaref01_Same_l0 k kx0 kx2 n x0a x0n x0c x1a x1n x1c x5 m) P
  | 0, d, x0a, x0n, x0c, x1a, x1n, x1c, x5, m, h, _ => absurd h (Nat.not_lt_zero _)
  | n + 1, d, x0a, x0n, x0c, x1a, x1n, x1c, x5, m, h, hI => step d _ x0a x0n x0c x1a x1n x1c x5 m hI fun d' x0a x0n x0c x1a x1n x1c x5 m h' hI' => patinaref01_Same_l0_rule k kx0 kx2 I step n d' x0a x0n x0c x1a x1n x1c x5 m (by omega) hI'

def patinaref01_Same (k : Nat) (p0a : Option Addr) (p0n : Nat) (p0c : Nat) (p1a : Option Addr) (p1n : Nat) (p1c : Nat) (m : Mem) : Option (Bool × Mem) :=
  bif ((p0n : Nat) : Int) != ((p1n : Nat) : Int) then (
  some (false, m)) else (
  patinaref01_Same_l0 k (fun y4 m5 => 
  some (y4, m5)) (fun m6 => 
  some (true, m6)) k p0a p0n p0c p1a p1n p1c 0 m)

def patinaref01_Same_call {R : Type} (k : Nat) : Fun R := callNil

theorem patinaref01_Same_callOk {R : Type} (k : Nat) : CallOk Try.prog (patinaref01_Same_call (R := R) k) := callOk_nil

def patinaref01_Same_l0_L (k : Nat) (K : Nat → List Value → Mem → Option (Bool × Mem)) (n : Nat) (vs : List Value) (m : Mem) : Option (Bool × Mem) := match vs with
  | [.slice x0a x0n x0c, .slice x1a x1n x1c, .int .i64 x5] => patinaref01_Same_l0 k (fun y4 m => K 0 [(Value.bool y4)] m) (fun m => K 2 [] m) n x0a x0n x0c x1a x1n x1c x5 m
  | _ => none

def patinaref01_Same_loop (k : Nat) : Nat → List Value → Mem → (Nat → List Value → Mem → Option (Bool × Mem)) → Option (Bool × Mem) := fun cur vs m K => match cur with
  | 0 => patinaref01_Same_l0_L k K k vs m
  | _ => none

def patinaref01_Same_C (k : Nat) : Ctx (Bool × Mem) := ⟨tt, patinaref01_Same_call k, patinaref01_Same_loop k, [(0, [0, 1, 5])], [(0, [4]), (2, [])]⟩

noncomputable def patinaref01_Same_l0_c : Code := ((loopsOf 0 (body Try.f13)).map (·.2)).getD 0 .skip

theorem patinaref01_Same_loops : loopsOf 0 (body Try.f13) = [(0, patinaref01_Same_l0_c)] := by kernel_rfl

theorem patinaref01_Same_l0_ok (k : Nat) : LoopOk (patinaref01_Same_C k) 0 patinaref01_Same_l0_c := by
  refine ⟨[0, 1, 5], by kernel_rfl, fun K r => ⟨patinaref01_Same_l0_L k K, fun vs m h => ⟨k, h⟩, ?_⟩⟩
  intro n vs m h
  unfold patinaref01_Same_l0_L at h
  split at h
  · cases n with
    | zero => cases h
    | succ n => exact ⟨n, rfl, Eq.trans (by kernel_rfl) h⟩
  · cases h

def patinaref01_Same_dec : Value → Mem → Option (Bool × Mem) := fun v m => match v with
  | .bool q0 => some (q0, m)
  | _ => none

theorem patinaref01_Same_eq (k : Nat) (p0a : Option Addr) (p0n : Nat) (p0c : Nat) (p1a : Option Addr) (p1n : Nat) (p1c : Nat) (m : Mem) : fnX (patinaref01_Same_C k) Try.f13 [(Value.slice p0a p0n p0c), (Value.slice p1a p1n p1c)] m patinaref01_Same_dec = patinaref01_Same k p0a p0n p0c p1a p1n p1c m := by kernel_rfl

theorem patinaref01_Same_ok {k : Nat} {p0a : Option Addr} {p0n : Nat} {p0c : Nat} {p1a : Option Addr} {p1n : Nat} {p1c : Nat} {m : Mem} {r : (Bool × Mem)} (h : patinaref01_Same k p0a p0n p0c p1a p1n p1c m = some r) : CallP Try.prog 13 [(Value.slice p0a p0n p0c), (Value.slice p1a p1n p1c)] m fun v m' => v = (Value.bool r.1) ∧ m' = r.2 := by
  refine (fn_sound (C := patinaref01_Same_C k) (c := body Try.f13) tOk mixed (patinaref01_Same_callOk k) Try.func13 (by kernel_rfl) (by kernel_rfl) (by kernel_rfl) (by kernel_rfl) ?_ ?_ (Eq.trans (patinaref01_Same_eq k p0a p0n p0c p1a p1n p1c m) h)).mono ?_
  · intro p hp
    rw [patinaref01_Same_loops] at hp
    simp only [List.mem_cons, List.not_mem_nil, or_false] at hp
    rcases hp with rfl
    · exact patinaref01_Same_l0_ok k
  · intro p hp; rw [show rangesOf 0 (body Try.f13) = [] by kernel_rfl] at hp; cases hp
  · intro v m' hp
    unfold patinaref01_Same_dec at hp
    split at hp
    · simp only [Option.some.injEq] at hp; subst hp; exact ⟨rfl, rfl⟩
    · cases hp

def patinaref01_Same_arm {R : Type} (k : Nat) : Arm R := fun vs m K => match vs with
  | [.slice p0a p0n p0c, .slice p1a p1n p1c] => (patinaref01_Same k p0a p0n p0c p1a p1n p1c m).bind fun r => K (Value.bool r.1) r.2
  | _ => none

theorem patinaref01_Same_armOk {R : Type} (k : Nat) : ArmOk Try.prog 13 (patinaref01_Same_arm (R := R) k) := by
  intro vs m K r h
  unfold patinaref01_Same_arm at h
  split at h
  · obtain ⟨r, h1, h2⟩ := Option.bind_eq_some_iff.1 h; exact ⟨_, _, h2, fun K' => by simp only [patinaref01_Same_arm, h1, Option.bind_some], patinaref01_Same_ok h1⟩
  · cases h

end Go.Proofs.Ytchonnaoojpdoaa
