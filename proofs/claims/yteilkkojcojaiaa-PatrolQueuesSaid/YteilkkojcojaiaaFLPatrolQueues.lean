/- The program's functions as plain Lean functions over a clean memory, each held against the program by the kernel. Written by mx.py. -/
import Derived.Test.YteilkkojcojaiaaF0
import Derived.Test.YteilkkojcojaiaaFpatinalaw00
import Derived.Test.YteilkkojcojaiaaFpatinalaw15
import Derived.Test.YteilkkojcojaiaaFpatinaref15
import Derived.Test.YteilkkojcojaiaaFpatrol
set_option linter.unusedVariables false
set_option maxRecDepth 100000
namespace Go.Proofs.Yteilkkojcojaiaa
open Go.Mx

/-! ### patinalaw15_PatrolQueues -/
def patinalaw15_PatrolQueues_j1 (k : Nat) (x0a : Option Addr) (x0n : Nat) (x0c : Nat) (x3 : Bool) (x4 : Addr) (x5 : Addr) (x6 : Int) (nx : Option Addr → Nat → Nat → Bool → Addr → Addr → Int → Mem → Option (Bool × Mem)) (kx0 : Bool → Mem → Option (Bool × Mem)) (mj : Mem) : Option (Bool × Mem) :=
  (patrol_Queue_Len k (some x4) mj).bind fun r4 =>
  (ldSl r4.2 (plus x5 0)).bind fun t5 =>
  (ldSl mj (plus x5 0)).bind fun t6 =>
  bif decide (t6.a = t5.a) && Nat.beq t6.len t5.len && Nat.beq t6.cap t5.cap then (
  bif r4.1 != ((t5.len : Nat) : Int) then (
  kx0 false r4.2) else (
  nx x0a x0n x0c x3 x4 x5 (IntKind.wrap .i64 (x6 + 1)) r4.2)) else none

def patinalaw15_PatrolQueues_j2 (k : Nat) (x0a : Option Addr) (x0n : Nat) (x0c : Nat) (x3 : Bool) (x4 : Addr) (x5 : Addr) (x6 : Int) (nx : Option Addr → Nat → Nat → Bool → Addr → Addr → Int → Mem → Option (Bool × Mem)) (kx0 : Bool → Mem → Option (Bool × Mem)) (r9 : Int × Mem) (x29_ : Bool) (mj : Mem) : Option (Bool × Mem) :=
  bif x29_ then (
  bif inRange x6 x0n then (
  (x0a).bind fun a10 =>
  (ldInt .i64 mj (plus (plus a10 (Int.toNat x6 * 2)) 1)).bind fun t11 =>
  (patrol_Queue_Add k (some x4) t11 mj).bind fun r12 =>
  (patinalaw00_Code k r12.1 r12.2).bind fun r13 =>
  bif inRange x6 x0n then (
  (x0a).bind fun a14 =>
  (ldInt .i64 r13.2 (plus (plus a14 (Int.toNat x6 * 2)) 1)).bind fun t15 =>
  (patinaref15_Queue_Add k (some x5) t15 r13.2).bind fun r16 =>
  (ldInt .i64 r12.2 (plus (plus a14 (Int.toNat x6 * 2)) 1)).bind fun t17 =>
  bif t17 == t15 then (
  bif r13.1 != r16.1 then (
  kx0 false r16.2) else (
  patinalaw15_PatrolQueues_j1 k x0a x0n x0c x3 x4 x5 x6 nx kx0 r16.2)) else none) else none) else none) else (
  bif r9.1 == 2 then (
  (patrol_Queue_Next k (some x4) mj).bind fun r18 =>
  (patinaref15_Queue_Next k (some x5) r18.2.2).bind fun r19 =>
  bif r18.1 != r19.1 then (
  kx0 false r19.2.2) else (
  bif !(r18.2.1 == r19.2.1) then (
  kx0 false r19.2.2) else (
  patinalaw15_PatrolQueues_j1 k x0a x0n x0c x3 x4 x5 x6 nx kx0 r19.2.2))) else (
  patinalaw15_PatrolQueues_j1 k x0a x0n x0c x3 x4 x5 x6 nx kx0 mj))

def patinalaw15_PatrolQueues_l0_b (k : Nat) (nx : Option Addr → Nat → Nat → Bool → Addr → Addr → Int → Mem → Option (Bool × Mem)) (kx0 : Bool → Mem → Option (Bool × Mem)) (kx2 : Bool → Mem → Option (Bool × Mem)) (x0a : Option Addr) (x0n : Nat) (x0c : Nat) (x3 : Bool) (x4 : Addr) (x5 : Addr) (x6 : Int) (m : Mem) : Option (Bool × Mem) :=
  bif decide (x6 < ((x0n : Nat) : Int)) then (
  bif inRange x6 x0n then (
  (x0a).bind fun a7 =>
  (ldInt .i64 m (plus (plus a7 (Int.toNat x6 * 2)) 0)).bind fun t8 =>
  (patinalaw15_pick k t8 4 m).bind fun r9 =>
  bif r9.1 == 0 then (
  patinalaw15_PatrolQueues_j2 k x0a x0n x0c x3 x4 x5 x6 nx kx0 r9 (r9.1 == 0) r9.2) else (
  patinalaw15_PatrolQueues_j2 k x0a x0n x0c x3 x4 x5 x6 nx kx0 r9 (r9.1 == 1) r9.2)) else none) else (
  kx2 x3 m)

def patinalaw15_PatrolQueues_l0 (k : Nat) (kx0 : Bool → Mem → Option (Bool × Mem)) (kx2 : Bool → Mem → Option (Bool × Mem)) : Nat → Option Addr → Nat → Nat → Bool → Addr → Addr → Int → Mem → Option (Bool × Mem)
  | 0, _, _, _, _, _, _, _, _ => none
  | n + 1, x0a, x0n, x0c, x3, x4, x5, x6, m => patinalaw15_PatrolQueues_l0_b k (fun x0a x0n x0c x3 x4 x5 x6 m => patinalaw15_PatrolQueues_l0 k kx0 kx2 n x0a x0n x0c x3 x4 x5 x6 m) kx0 kx2 x0a x0n x0c x3 x4 x5 x6 m

theorem patinalaw15_PatrolQueues_l0_rule (k : Nat) (kx0 : Bool → Mem → Option (Bool × Mem)) (kx2 : Bool → Mem → Option (Bool × Mem)) {P : (Bool × Mem) → Prop} (I : Nat → Option Addr → Nat → Nat → Bool → Addr → Addr → Int → Mem → Prop)
    (step : ∀ d (nx : Option Addr → Nat → Nat → Bool → Addr → Addr → Int → Mem → Option (Bool × Mem)) (x0a : Option Addr) (x0n : Nat) (x0c : Nat) (x3 : Bool) (x4 : Addr) (x5 : Addr) (x6 : Int) (m : Mem), I d x0a x0n x0c x3 x4 x5 x6 m → (∀ d' (x0a : Option Addr) (x0n : Nat) (x0c : Nat) (x3 : Bool) (x4 : Addr) (x5 : Addr) (x6 : Int) (m : Mem), d' < d → I d' x0a x0n x0c x3 x4 x5 x6 m → Ok (nx x0a x0n x0c x3 x4 x5 x6 m) P) → Ok (patinalaw15_PatrolQueues_l0_b k nx kx0 kx2 x0a x0n x0c x3 x4 x5 x6 m) P) :
    ∀ n d (x0a : Option Addr) (x0n : Nat) (x0c : Nat) (x3 : Bool) (x4 : Addr) (x5 : Addr) (x6 : Int) (m : Mem), d < n → I d x0a x0n x0c x3 x4 x5 x6 m → Ok (patinalaw15_PatrolQueues_l0 k kx0 kx2 n x0a x0n x0c x3 x4 x5 x6 m) P
  | 0, d, x0a, x0n, x0c, x3, x4, x5, x6, m, h, _ => absurd h (Nat.not_lt_zero _)
  | n + 1, d, x0a, x0n, x0c, x3, x4, x5, x6, m, h, hI => step d _ x0a x0n x0c x3 x4 x5 x6 m hI fun d' x0a x0n x0c x3 x4 x5 x6 m h' hI' => patinalaw15_PatrolQueues_l0_rule k kx0 kx2 I step n d' x0a x0n x0c x3 x4 x5 x6 m (by omega) hI'

def patinalaw15_PatrolQueues (k : Nat) (p0a : Option Addr) (p0n : Nat) (p0c : Nat) (m : Mem) : Option (Bool × Mem) :=
  (patinalaw15_up k  m).bind fun r1 =>
  let m2 : Mem := r1.2 ++ [.live [.slice none 0 0]]
  let m3 : Mem := m2 ++ [.live [.slice none 0 0]]
  patinalaw15_PatrolQueues_l0 k (fun y2 m20 => 
  some (y2, m20)) (fun y3 m21 => 
  some (y3, m21)) k p0a p0n p0c r1.1 ⟨List.length r1.2, 0, Option.none⟩ ⟨List.length m2, 0, Option.none⟩ 0 m3

def patinalaw15_PatrolQueues_call {R : Type} (k : Nat) : Fun R := callCons 4 (patinalaw15_up_arm k) (callCons 5 (patinalaw15_pick_arm k) (callCons 6 (patrol_Queue_Add_arm k) (callCons 7 (patinalaw00_Code_arm k) (callCons 8 (patinaref15_Queue_Add_arm k) (callCons 9 (patrol_Queue_Next_arm k) (callCons 10 (patinaref15_Queue_Next_arm k) (callCons 11 (patrol_Queue_Len_arm k) (callNil))))))))

theorem patinalaw15_PatrolQueues_callOk {R : Type} (k : Nat) : CallOk Try.prog (patinalaw15_PatrolQueues_call (R := R) k) := callOk_cons (patinalaw15_up_armOk k) (callOk_cons (patinalaw15_pick_armOk k) (callOk_cons (patrol_Queue_Add_armOk k) (callOk_cons (patinalaw00_Code_armOk k) (callOk_cons (patinaref15_Queue_Add_armOk k) (callOk_cons (patrol_Queue_Next_armOk k) (callOk_cons (patinaref15_Queue_Next_armOk k) (callOk_cons (patrol_Queue_Len_armOk k) (callOk_nil))))))))

def patinalaw15_PatrolQueues_l0_L (k : Nat) (K : Nat → List Value → Mem → Option (Bool × Mem)) (n : Nat) (vs : List Value) (m : Mem) : Option (Bool × Mem) := match vs with
  | [.slice x0a x0n x0c, .bool x3, .pointer (some x4), .pointer (some x5), .int .i64 x6] => patinalaw15_PatrolQueues_l0 k (fun y2 m => K 0 [(Value.bool y2)] m) (fun y3 m => K 2 [(Value.bool y3)] m) n x0a x0n x0c x3 x4 x5 x6 m
  | _ => none

def patinalaw15_PatrolQueues_loop (k : Nat) : Nat → List Value → Mem → (Nat → List Value → Mem → Option (Bool × Mem)) → Option (Bool × Mem) := fun cur vs m K => match cur with
  | 0 => patinalaw15_PatrolQueues_l0_L k K k vs m
  | _ => none

def patinalaw15_PatrolQueues_C (k : Nat) : Ctx (Bool × Mem) := ⟨tt, patinalaw15_PatrolQueues_call k, patinalaw15_PatrolQueues_loop k, [(0, [0, 3, 4, 5, 6])], [(0, [2]), (2, [3])]⟩

noncomputable def patinalaw15_PatrolQueues_l0_c : Code := ((loopsOf 0 (body Try.f3)).map (·.2)).getD 0 .skip

theorem patinalaw15_PatrolQueues_loops : loopsOf 0 (body Try.f3) = [(0, patinalaw15_PatrolQueues_l0_c)] := by kernel_rfl

theorem patinalaw15_PatrolQueues_l0_ok (k : Nat) : LoopOk (patinalaw15_PatrolQueues_C k) 0 patinalaw15_PatrolQueues_l0_c := by
  refine ⟨[0, 3, 4, 5, 6], by kernel_rfl, fun K r => ⟨patinalaw15_PatrolQueues_l0_L k K, fun vs m h => ⟨k, h⟩, ?_⟩⟩
  intro n vs m h
  unfold patinalaw15_PatrolQueues_l0_L at h
  split at h
  · cases n with
    | zero => cases h
    | succ n => exact ⟨n, rfl, Eq.trans (by kernel_rfl) h⟩
  · cases h

def patinalaw15_PatrolQueues_dec : Value → Mem → Option (Bool × Mem) := fun v m => match v with
  | .bool q0 => some (q0, m)
  | _ => none

theorem patinalaw15_PatrolQueues_eq (k : Nat) (p0a : Option Addr) (p0n : Nat) (p0c : Nat) (m : Mem) : fnX (patinalaw15_PatrolQueues_C k) Try.f3 [(Value.slice p0a p0n p0c)] m patinalaw15_PatrolQueues_dec = patinalaw15_PatrolQueues k p0a p0n p0c m := by kernel_rfl

theorem patinalaw15_PatrolQueues_ok {k : Nat} {p0a : Option Addr} {p0n : Nat} {p0c : Nat} {m : Mem} {r : (Bool × Mem)} (h : patinalaw15_PatrolQueues k p0a p0n p0c m = some r) : CallP Try.prog 3 [(Value.slice p0a p0n p0c)] m fun v m' => v = (Value.bool r.1) ∧ m' = r.2 := by
  refine (fn_sound (C := patinalaw15_PatrolQueues_C k) (c := body Try.f3) tOk mixed (patinalaw15_PatrolQueues_callOk k) Try.func3 (by kernel_rfl) (by kernel_rfl) (by kernel_rfl) (by kernel_rfl) ?_ (Eq.trans (patinalaw15_PatrolQueues_eq k p0a p0n p0c m) h)).mono ?_
  · intro p hp
    rw [patinalaw15_PatrolQueues_loops] at hp
    simp only [List.mem_cons, List.not_mem_nil, or_false] at hp
    rcases hp with rfl
    · exact patinalaw15_PatrolQueues_l0_ok k
  · intro v m' hp
    unfold patinalaw15_PatrolQueues_dec at hp
    split at hp
    · simp only [Option.some.injEq] at hp; subst hp; exact ⟨rfl, rfl⟩
    · cases hp

def patinalaw15_PatrolQueues_arm {R : Type} (k : Nat) : Arm R := fun vs m K => match vs with
  | [.slice p0a p0n p0c] => (patinalaw15_PatrolQueues k p0a p0n p0c m).bind fun r => K (Value.bool r.1) r.2
  | _ => none

theorem patinalaw15_PatrolQueues_armOk {R : Type} (k : Nat) : ArmOk Try.prog 3 (patinalaw15_PatrolQueues_arm (R := R) k) := by
  intro vs m K r h
  unfold patinalaw15_PatrolQueues_arm at h
  split at h
  · obtain ⟨r, h1, h2⟩ := Option.bind_eq_some_iff.1 h; exact ⟨_, _, h2, fun K' => by simp only [patinalaw15_PatrolQueues_arm, h1, Option.bind_some], patinalaw15_PatrolQueues_ok h1⟩
  · cases h

end Go.Proofs.Yteilkkojcojaiaa
