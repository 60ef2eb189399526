/- The program's functions as plain Lean functions over a clean memory, each held against the program by the kernel. Written by mx.py. -/
import Derived.Test.YteilkkojcojaiaaF0
set_option linter.unusedVariables false
set_option maxRecDepth 100000
namespace Go.Proofs.Yteilkkojcojaiaa
open Go.Mx

/-! ### patinaref15_Queue_Add -/
def patinaref15_Queue_Add_l0_b (k : Nat) (nx : Option Addr → Int → Int → Mem → Option (Int × Mem)) (kx0 : Int → Mem → Option (Int × Mem)) (kx2 : Option Addr → Int → Mem → Option (Int × Mem)) (x0 : Option Addr) (x1 : Int) (x5 : Int) (m : Mem) : Option (Int × Mem) :=
  (x0).bind fun a1 =>
  (ldSl m (plus a1 0)).bind fun t2 =>
  bif decide (x5 < ((t2.len : Nat) : Int)) then (
  (x0).bind fun a3 =>
  (ldSl m (plus a3 0)).bind fun t4 =>
  bif inRange x5 t4.len then (
  (t4.a).bind fun a5 =>
  (ldInt .i64 m (plus a5 (Int.toNat x5 * 1))).bind fun t6 =>
  bif t6 == x1 then (
  kx0 0 m) else (
  nx x0 x1 (IntKind.wrap .i64 (x5 + 1)) m)) else none) else (
  kx2 x0 x1 m)

def patinaref15_Queue_Add_l0 (k : Nat) (kx0 : Int → Mem → Option (Int × Mem)) (kx2 : Option Addr → Int → Mem → Option (Int × Mem)) : Nat → Option Addr → Int → Int → Mem → Option (Int × Mem)
  | 0, _, _, _, _ => none
  | n + 1, x0, x1, x5, m => patinaref15_Queue_Add_l0_b k (fun x0 x1 x5 m => patinaref15_Queue_Add_l0 k kx0 kx2 n x0 x1 x5 m) kx0 kx2 x0 x1 x5 m

theorem patinaref15_Queue_Add_l0_rule (k : Nat) (kx0 : Int → Mem → Option (Int × Mem)) (kx2 : Option Addr → Int → Mem → Option (Int × Mem)) {P : (Int × Mem) → Prop} (I : Nat → Option Addr → Int → Int → Mem → Prop)
    (step : ∀ d (nx : Option Addr → Int → Int → Mem → Option (Int × Mem)) (x0 : Option Addr) (x1 : Int) (x5 : Int) (m : Mem), I d x0 x1 x5 m → (∀ d' (x0 : Option Addr) (x1 : Int) (x5 : Int) (m : Mem), d' < d → I d' x0 x1 x5 m → Ok (nx x0 x1 x5 m) P) → Ok (patinaref15_Queue_Add_l0_b k nx kx0 kx2 x0 x1 x5 m) P) :
    ∀ n d (x0 : Option Addr) (x1 : Int) (x5 : Int) (m : Mem), d < n → I d x0 x1 x5 m → Ok (patinaref15_Queue_Add_l0 k kx0 kx2 n x0 x1 x5 m) P
  | 0, d, x0, x1, x5, m, h, _ => absurd h (Nat.not_lt_zero _)
  | n + 1, d, x0, x1, x5, m, h, hI => step d _ x0 x1 x5 m hI fun d' x0 x1 x5 m h' hI' => patinaref15_Queue_Add_l0_rule k kx0 kx2 I step n d' x0 x1 x5 m (by omega) hI'

def patinaref15_Queue_Add (k : Nat) (p0 : Option Addr) (p1 : Int) (m : Mem) : Option (Int × Mem) :=
  bif decide (p1 < 0) then (
  some (1, m)) else (
  bif decide (p1 > 11) then (
  some (1, m)) else (
  patinaref15_Queue_Add_l0 k (fun y4 m7 => 
  some (y4, m7)) (fun y0 y1 m8 => 
  (y0).bind fun a9 =>
  (ldSl m8 (plus a9 0)).bind fun t10 =>
  let m11 : Mem := m8 ++ [.live [(Value.int .i64 y1)]]
  (rdSl m11 (some ⟨List.length m8, 0, Option.none⟩) 1 1).bind fun l12 =>
  (appM 1 8 m11 t10.a t10.len t10.cap 1 l12).bind fun r13 =>
  (y0).bind fun a14 =>
  (st r13.2 (plus a14 0) (Value.slice r13.1.a r13.1.len r13.1.cap)).bind fun m15 =>
  some (0, m15)) k p0 p1 0 m))

def patinaref15_Queue_Add_call {R : Type} (k : Nat) : Fun R := callNil

theorem patinaref15_Queue_Add_callOk {R : Type} (k : Nat) : CallOk Try.prog (patinaref15_Queue_Add_call (R := R) k) := callOk_nil

def patinaref15_Queue_Add_l0_L (k : Nat) (K : Nat → List Value → Mem → Option (Int × Mem)) (n : Nat) (vs : List Value) (m : Mem) : Option (Int × Mem) := match vs with
  | [.pointer x0, .int .i64 x1, .int .i64 x5] => patinaref15_Queue_Add_l0 k (fun y4 m => K 0 [(Value.int .i64 y4)] m) (fun y0 y1 m => K 2 [(Value.pointer y0), (Value.int .i64 y1)] m) n x0 x1 x5 m
  | _ => none

def patinaref15_Queue_Add_loop (k : Nat) : Nat → List Value → Mem → (Nat → List Value → Mem → Option (Int × Mem)) → Option (Int × Mem) := fun cur vs m K => match cur with
  | 0 => patinaref15_Queue_Add_l0_L k K k vs m
  | _ => none

def patinaref15_Queue_Add_C (k : Nat) : Ctx (Int × Mem) := ⟨tt, patinaref15_Queue_Add_call k, patinaref15_Queue_Add_loop k, [(0, [0, 1, 5])], [(0, [4]), (2, [0, 1])]⟩

noncomputable def patinaref15_Queue_Add_l0_c : Code := ((loopsOf 0 (body Try.f8)).map (·.2)).getD 0 .skip

theorem patinaref15_Queue_Add_loops : loopsOf 0 (body Try.f8) = [(0, patinaref15_Queue_Add_l0_c)] := by kernel_rfl

theorem patinaref15_Queue_Add_l0_ok (k : Nat) : LoopOk (patinaref15_Queue_Add_C k) 0 patinaref15_Queue_Add_l0_c := by
  refine ⟨[0, 1, 5], by kernel_rfl, fun K r => ⟨patinaref15_Queue_Add_l0_L k K, fun vs m h => ⟨k, h⟩, ?_⟩⟩
  intro n vs m h
  unfold patinaref15_Queue_Add_l0_L at h
  split at h
  · cases n with
    | zero => cases h
    | succ n => exact ⟨n, rfl, Eq.trans (by kernel_rfl) h⟩
  · cases h

def patinaref15_Queue_Add_dec : Value → Mem → Option (Int × Mem) := fun v m => match v with
  | .int .i64 q0 => some (q0, m)
  | _ => none

theorem patinaref15_Queue_Add_eq (k : Nat) (p0 : Option Addr) (p1 : Int) (m : Mem) : fnX (patinaref15_Queue_Add_C k) Try.f8 [(Value.pointer p0), (Value.int .i64 p1)] m patinaref15_Queue_Add_dec = patinaref15_Queue_Add k p0 p1 m := by kernel_rfl

theorem patinaref15_Queue_Add_ok {k : Nat} {p0 : Option Addr} {p1 : Int} {m : Mem} {r : (Int × Mem)} (h : patinaref15_Queue_Add k p0 p1 m = some r) : CallP Try.prog 8 [(Value.pointer p0), (Value.int .i64 p1)] m fun v m' => v = (Value.int .i64 r.1) ∧ m' = r.2 := by
  refine (fn_sound (C := patinaref15_Queue_Add_C k) (c := body Try.f8) tOk mixed (patinaref15_Queue_Add_callOk k) Try.func8 (by kernel_rfl) (by kernel_rfl) (by kernel_rfl) (by kernel_rfl) ?_ (Eq.trans (patinaref15_Queue_Add_eq k p0 p1 m) h)).mono ?_
  · intro p hp
    rw [patinaref15_Queue_Add_loops] at hp
    simp only [List.mem_cons, List.not_mem_nil, or_false] at hp
    rcases hp with rfl
    · exact patinaref15_Queue_Add_l0_ok k
  · intro v m' hp
    unfold patinaref15_Queue_Add_dec at hp
    split at hp
    · simp only [Option.some.injEq] at hp; subst hp; exact ⟨rfl, rfl⟩
    · cases hp

def patinaref15_Queue_Add_arm {R : Type} (k : Nat) : Arm R := fun vs m K => match vs with
  | [.pointer p0, .int .i64 p1] => (patinaref15_Queue_Add k p0 p1 m).bind fun r => K (Value.int .i64 r.1) r.2
  | _ => none

theorem patinaref15_Queue_Add_armOk {R : Type} (k : Nat) : ArmOk Try.prog 8 (patinaref15_Queue_Add_arm (R := R) k) := by
  intro vs m K r h
  unfold patinaref15_Queue_Add_arm at h
  split at h
  · obtain ⟨r, h1, h2⟩ := Option.bind_eq_some_iff.1 h; exact ⟨_, _, h2, fun K' => by simp only [patinaref15_Queue_Add_arm, h1, Option.bind_some], patinaref15_Queue_Add_ok h1⟩
  · cases h

/-! ### patinaref15_Queue_Next -/
def patinaref15_Queue_Next (k : Nat) (p0 : Option Addr) (m : Mem) : Option (Int × Bool × Mem) :=
  (p0).bind fun a1 =>
  (ldSl m (plus a1 0)).bind fun t2 =>
  bif ((t2.len : Nat) : Int) == 0 then (
  some (0, false, m)) else (
  (p0).bind fun a3 =>
  (ldSl m (plus a3 0)).bind fun t4 =>
  bif inRange 0 t4.len then (
  (t4.a).bind fun a5 =>
  (ldInt .i64 m (plus a5 (Int.toNat 0 * 1))).bind fun t6 =>
  (p0).bind fun a7 =>
  (ldSl m (plus a7 0)).bind fun t8 =>
  bif sliceK.okZ t8.a 1 false && inUpto 1 t8.len then (
  (p0).bind fun a9 =>
  (st m (plus a9 0) (Value.slice ((sliceK.clear t8.a false).map fun a => plus a ((Int.toNat 1) * 1)) (t8.len - (Int.toNat 1)) (t8.cap - (Int.toNat 1)))).bind fun m10 =>
  some (t6, true, m10)) else none) else none)

def patinaref15_Queue_Next_call {R : Type} (k : Nat) : Fun R := callNil

theorem patinaref15_Queue_Next_callOk {R : Type} (k : Nat) : CallOk Try.prog (patinaref15_Queue_Next_call (R := R) k) := callOk_nil

def patinaref15_Queue_Next_loop (k : Nat) : Nat → List Value → Mem → (Nat → List Value → Mem → Option (Int × Bool × Mem)) → Option (Int × Bool × Mem) := fun _ _ _ _ => none

def patinaref15_Queue_Next_C (k : Nat) : Ctx (Int × Bool × Mem) := ⟨tt, patinaref15_Queue_Next_call k, patinaref15_Queue_Next_loop k, [], []⟩

def patinaref15_Queue_Next_dec : Value → Mem → Option (Int × Bool × Mem) := fun v m => match v with
  | .tuple ⟨[.int .i64 q0, .bool q1]⟩ => some (q0, q1, m)
  | _ => none

theorem patinaref15_Queue_Next_eq (k : Nat) (p0 : Option Addr) (m : Mem) : fnX (patinaref15_Queue_Next_C k) Try.f10 [(Value.pointer p0)] m patinaref15_Queue_Next_dec = patinaref15_Queue_Next k p0 m := by kernel_rfl

theorem patinaref15_Queue_Next_ok {k : Nat} {p0 : Option Addr} {m : Mem} {r : (Int × Bool × Mem)} (h : patinaref15_Queue_Next k p0 m = some r) : CallP Try.prog 10 [(Value.pointer p0)] m fun v m' => v = (Value.tuple ⟨[(Value.int .i64 r.1), (Value.bool r.2.1)]⟩) ∧ m' = r.2.2 := by
  refine (fn_sound (C := patinaref15_Queue_Next_C k) (c := body Try.f10) tOk mixed (patinaref15_Queue_Next_callOk k) Try.func10 (by kernel_rfl) (by kernel_rfl) (by kernel_rfl) (by kernel_rfl) ?_ (Eq.trans (patinaref15_Queue_Next_eq k p0 m) h)).mono ?_
  · intro p hp; rw [show loopsOf 0 (body Try.f10) = [] by kernel_rfl] at hp; cases hp
  · intro v m' hp
    unfold patinaref15_Queue_Next_dec at hp
    split at hp
    · simp only [Option.some.injEq] at hp; subst hp; exact ⟨rfl, rfl⟩
    · cases hp

def patinaref15_Queue_Next_arm {R : Type} (k : Nat) : Arm R := fun vs m K => match vs with
  | [.pointer p0] => (patinaref15_Queue_Next k p0 m).bind fun r => K (Value.tuple ⟨[(Value.int .i64 r.1), (Value.bool r.2.1)]⟩) r.2.2
  | _ => none

theorem patinaref15_Queue_Next_armOk {R : Type} (k : Nat) : ArmOk Try.prog 10 (patinaref15_Queue_Next_arm (R := R) k) := by
  intro vs m K r h
  unfold patinaref15_Queue_Next_arm at h
  split at h
  · obtain ⟨r, h1, h2⟩ := Option.bind_eq_some_iff.1 h; exact ⟨_, _, h2, fun K' => by simp only [patinaref15_Queue_Next_arm, h1, Option.bind_some], patinaref15_Queue_Next_ok h1⟩
  · cases h

end Go.Proofs.Yteilkkojcojaiaa
