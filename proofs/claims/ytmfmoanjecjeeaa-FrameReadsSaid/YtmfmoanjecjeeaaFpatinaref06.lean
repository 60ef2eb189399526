/- The program's functions as plain Lean functions over a clean memory, each held against the program by the kernel. Written by mx.py. -/
import Derived.Test.YtmfmoanjecjeeaaF0
import Derived.Test.YtmfmoanjecjeeaaFpatinaref02
import Derived.Test.YtmfmoanjecjeeaaFpatinaref03
set_option linter.unusedVariables false
set_option maxRecDepth 100000
namespace Go.Proofs.Ytmfmoanjecjeeaa
open Go.Mx

/-! ### patinaref06_Lay -/
def patinaref06_Lay_l0_b (k : Nat) (nx : Option Addr → Nat → Nat → Option Addr → Nat → Nat → Option Addr → Nat → Nat → Int → Mem → Option (Sl × Bool × Mem)) (kx2 : Option Addr → Nat → Nat → Option Addr → Nat → Nat → Mem → Option (Sl × Bool × Mem)) (x0a : Option Addr) (x0n : Nat) (x0c : Nat) (x1a : Option Addr) (x1n : Nat) (x1c : Nat) (x6a : Option Addr) (x6n : Nat) (x6c : Nat) (x7 : Int) (m : Mem) : Option (Sl × Bool × Mem) :=
  bif decide (x7 < 3) then (
  bif sliceK.okZ x0a 1 false && inUpto (IntKind.wrap .i64 ((IntKind.wrap .i64 (58 * x7)) + 58)) x0c && inUpto (IntKind.wrap .i64 (58 * x7)) (Int.toNat (IntKind.wrap .i64 ((IntKind.wrap .i64 (58 * x7)) + 58))) then (
  (patinaref02_Encode k ((sliceK.clear x0a false).map fun a => plus a ((Int.toNat (IntKind.wrap .i64 (58 * x7))) * 1)) ((Int.toNat (IntKind.wrap .i64 ((IntKind.wrap .i64 (58 * x7)) + 58))) - (Int.toNat (IntKind.wrap .i64 (58 * x7)))) (x0c - (Int.toNat (IntKind.wrap .i64 (58 * x7)))) m).bind fun r1 =>
  let m2 : Mem := r1.2 ++ [.live [(Value.slice r1.1.a r1.1.len r1.1.cap)]]
  (rdSl m2 (some ⟨List.length r1.2, 0, Option.none⟩) 1 1).bind fun l3 =>
  (appM 1 24 m2 x6a x6n x6c 1 l3).bind fun r4 =>
  nx x0a x0n x0c x1a x1n x1c r4.1.a r4.1.len r4.1.cap (IntKind.wrap .i64 (x7 + 1)) r4.2) else none) else (
  kx2 x1a x1n x1c x6a x6n x6c m)

def patinaref06_Lay_l0 (k : Nat) (kx2 : Option Addr → Nat → Nat → Option Addr → Nat → Nat → Mem → Option (Sl × Bool × Mem)) : Nat → Option Addr → Nat → Nat → Option Addr → Nat → Nat → Option Addr → Nat → Nat → Int → Mem → Option (Sl × Bool × Mem)
  | 0, _, _, _, _, _, _, _, _, _, _, _ => none
  | n + 1, x0a, x0n, x0c, x1a, x1n, x1c, x6a, x6n, x6c, x7, m => patinaref06_Lay_l0_b k (fun x0a x0n x0c x1a x1n x1c x6a x6n x6c x7 m => patinaref06_Lay_l0 k kx2 n x0a x0n x0c x1a x1n x1c x6a x6n x6c x7 m) kx2 x0a x0n x0c x1a x1n x1c x6a x6n x6c x7 m
termination_by structural x => x

theorem patinaref06_Lay_l0_rule (k : Nat) (kx2 : Option Addr → Nat → Nat → Option Addr → Nat → Nat → Mem → Option (Sl × Bool × Mem)) {P : (Sl × Bool × Mem) → Prop} (I : Nat → Option Addr → Nat → Nat → Option Addr → Nat → Nat → Option Addr → Nat → Nat → Int → Mem → Prop)
    (step : ∀ d (nx : Option Addr → Nat → Nat → Option Addr → Nat → Nat → Option Addr → Nat → Nat → Int → Mem → Option (Sl × Bool × Mem)) (x0a : Option Addr) (x0n : Nat) (x0c : Nat) (x1a : Option Addr) (x1n : Nat) (x1c : Nat) (x6a : Option Addr) (x6n : Nat) (x6c : Nat) (x7 : Int) (m : Mem), I d x0a x0n x0c x1a x1n x1c x6a x6n x6c x7 m → (∀ d' (x0a : Option Addr) (x0n : Nat) (x0c : Nat) (x1a : Option Addr) (x1n : Nat) (x1c : Nat) (x6a : Option Addr) (x6n : Nat) (x6c : Nat) (x7 : Int) (m : Mem), d' < d → I d' x0a x0n x0c x1a x1n x1c x6a x6n x6c x7 m → Ok (nx x0a x0n x0c x1a x1n x1c x6a x6n x6c x7 m) P) → Ok (patinaref06_Lay_l0_b k nx kx2 x0a x0n x0c x1a x1n x1c x6a x6n x6c x7 m) P) :
    ∀ n d (x0a : Option Addr) (x0n : Nat) (x0c : Nat) (x1a : Option Addr) (x1n : Nat) (x1c : Nat) (x6a : Option Addr) (x6n : Nat) (x6c : Nat) (x7 : Int) (m : Mem), d < n → I d x0a x0n x0c x1a x1n x1c x6a x6n x6c x7 m → Ok (patinaref06_Lay_l0 k kx2 n x0a x0n x0c x1a x1n x1c x6a x6n x6c x7 m) P
  | 0, d, x0a, x0n, x0c, x1a, x1n, x1c, x6a, x6n, x6c, x7, m, h, _ => absurd h (Nat.not_lt_zero _)
  | n + 1, d, x0a, x0n, x0c, x1a, x1n, x1c, x6a, x6n, x6c, x7, m, h, hI => step d _ x0a x0n x0c x1a x1n x1c x6a x6n x6c x7 m hI fun d' x0a x0n x0c x1a x1n x1c x6a x6n x6c x7 m h' hI' => patinaref06_Lay_l0_rule k kx2 I step n d' x0a x0n x0c x1a x1n x1c x6a x6n x6c x7 m (by omega) hI'

def patinaref06_Lay (k : Nat) (p0a : Option Addr) (p0n : Nat) (p0c : Nat) (p1a : Option Addr) (p1n : Nat) (p1c : Nat) (m : Mem) : Option (Sl × Bool × Mem) :=
  bif ((p0n : Nat) : Int) != 174 then (
  some ((⟨none, 0, 0⟩ : Sl), false, m)) else (
  bif ((p1n : Nat) : Int) != 50 then (
  some ((⟨none, 0, 0⟩ : Sl), false, m)) else (
  patinaref06_Lay_l0 k (fun y1a y1n y1c y6a y6n y6c m5 => 
  (patinaref03_Sealed k y1a y1n y1c m5).bind fun r6 =>
  (patinaref02_Encode k r6.1.a r6.1.len r6.1.cap r6.2).bind fun r7 =>
  let m8 : Mem := r7.2 ++ [.live [(Value.slice r7.1.a r7.1.len r7.1.cap)]]
  (rdSl m8 (some ⟨List.length r7.2, 0, Option.none⟩) 1 1).bind fun l9 =>
  (appM 1 24 m8 y6a y6n y6c 1 l9).bind fun r10 =>
  some ((⟨r10.1.a, r10.1.len, r10.1.cap⟩ : Sl), true, r10.2)) k p0a p0n p0c p1a p1n p1c none 0 0 0 m))

def patinaref06_Lay_call {R : Type} (k : Nat) : Fun R := callCons 31 (patinaref02_Encode_arm k) (callCons 32 (patinaref03_Sealed_arm k) (callNil))

theorem patinaref06_Lay_callOk {R : Type} (k : Nat) : CallOk Try.prog (patinaref06_Lay_call (R := R) k) := callOk_cons (patinaref02_Encode_armOk k) (callOk_cons (patinaref03_Sealed_armOk k) (callOk_nil))

def patinaref06_Lay_l0_L (k : Nat) (K : Nat → List Value → Mem → Option (Sl × Bool × Mem)) (n : Nat) (vs : List Value) (m : Mem) : Option (Sl × Bool × Mem) := match vs with
  | [.slice x0a x0n x0c, .slice x1a x1n x1c, .slice x6a x6n x6c, .int .i64 x7] => patinaref06_Lay_l0 k (fun y1a y1n y1c y6a y6n y6c m => K 2 [(Value.slice y1a y1n y1c), (Value.slice y6a y6n y6c)] m) n x0a x0n x0c x1a x1n x1c x6a x6n x6c x7 m
  | _ => none

def patinaref06_Lay_loop (k : Nat) : Nat → List Value → Mem → (Nat → List Value → Mem → Option (Sl × Bool × Mem)) → Option (Sl × Bool × Mem) := fun cur vs m K => match cur with
  | 0 => patinaref06_Lay_l0_L k K k vs m
  | _ => none

def patinaref06_Lay_C (k : Nat) : Ctx (Sl × Bool × Mem) := ⟨tt, patinaref06_Lay_call k, patinaref06_Lay_loop k, [(0, [0, 1, 6, 7])], [(2, [1, 6])]⟩

noncomputable def patinaref06_Lay_l0_c : Code := ((loopsOf 0 (body Try.f14)).map (·.2)).getD 0 .skip

theorem patinaref06_Lay_loops : loopsOf 0 (body Try.f14) = [(0, patinaref06_Lay_l0_c)] := by kernel_rfl

theorem patinaref06_Lay_l0_ok (k : Nat) : LoopOk (patinaref06_Lay_C k) 0 patinaref06_Lay_l0_c := by
  refine ⟨[0, 1, 6, 7], by kernel_rfl, fun K r => ⟨patinaref06_Lay_l0_L k K, fun vs m h => ⟨k, h⟩, ?_⟩⟩
  intro n vs m h
  unfold patinaref06_Lay_l0_L at h
  split at h
  · cases n with
    | zero => cases h
    | succ n => exact ⟨n, rfl, Eq.trans (by kernel_rfl) h⟩
  · cases h

def patinaref06_Lay_dec : Value → Mem → Option (Sl × Bool × Mem) := fun v m => match v with
  | .tuple ⟨[.slice q0a q0n q0c, .bool q1]⟩ => some ((⟨q0a, q0n, q0c⟩ : Sl), q1, m)
  | _ => none

theorem patinaref06_Lay_eq (k : Nat) (p0a : Option Addr) (p0n : Nat) (p0c : Nat) (p1a : Option Addr) (p1n : Nat) (p1c : Nat) (m : Mem) : fnX (patinaref06_Lay_C k) Try.f14 [(Value.slice p0a p0n p0c), (Value.slice p1a p1n p1c)] m patinaref06_Lay_dec = patinaref06_Lay k p0a p0n p0c p1a p1n p1c m := by kernel_rfl

theorem patinaref06_Lay_ok {k : Nat} {p0a : Option Addr} {p0n : Nat} {p0c : Nat} {p1a : Option Addr} {p1n : Nat} {p1c : Nat} {m : Mem} {r : (Sl × Bool × Mem)} (h : patinaref06_Lay k p0a p0n p0c p1a p1n p1c m = some r) : CallP Try.prog 14 [(Value.slice p0a p0n p0c), (Value.slice p1a p1n p1c)] m fun v m' => v = (Value.tuple ⟨[(Value.slice r.1.a r.1.len r.1.cap), (Value.bool r.2.1)]⟩) ∧ m' = r.2.2 := by
  refine (fn_sound (C := patinaref06_Lay_C k) (c := body Try.f14) tOk mixed (patinaref06_Lay_callOk k) Try.func14 (by kernel_rfl) (by kernel_rfl) (by kernel_rfl) (by kernel_rfl) ?_ ?_ (Eq.trans (patinaref06_Lay_eq k p0a p0n p0c p1a p1n p1c m) h)).mono ?_
  · intro p hp
    rw [patinaref06_Lay_loops] at hp
    simp only [List.mem_cons, List.not_mem_nil, or_false] at hp
    rcases hp with rfl
    · exact patinaref06_Lay_l0_ok k
  · intro p hp; rw [show rangesOf 0 (body Try.f14) = [] by kernel_rfl] at hp; cases hp
  · intro v m' hp
    unfold patinaref06_Lay_dec at hp
    split at hp
    · simp only [Option.some.injEq] at hp; subst hp; exact ⟨rfl, rfl⟩
    · cases hp

def patinaref06_Lay_arm {R : Type} (k : Nat) : Arm R := fun vs m K => match vs with
  | [.slice p0a p0n p0c, .slice p1a p1n p1c] => (patinaref06_Lay k p0a p0n p0c p1a p1n p1c m).bind fun r => K (Value.tuple ⟨[(Value.slice r.1.a r.1.len r.1.cap), (Value.bool r.2.1)]⟩) r.2.2
  | _ => none

theorem patinaref06_Lay_armOk {R : Type} (k : Nat) : ArmOk Try.prog 14 (patinaref06_Lay_arm (R := R) k) := by
  intro vs m K r h
  unfold patinaref06_Lay_arm at h
  split at h
  · obtain ⟨r, h1, h2⟩ := Option.bind_eq_some_iff.1 h; exact ⟨_, _, h2, fun K' => by simp only [patinaref06_Lay_arm, h1, Option.bind_some], patinaref06_Lay_ok h1⟩
  · cases h

/-! ### patinaref06_Message -/
def patinaref06_Message (k : Nat) (p0a : Option Addr) (p0n : Nat) (p0c : Nat) (p1 : Int) (m : Mem) : Option (Sl × Int × Int × Mem) :=
  bif ((p0n : Nat) : Int) != 256 then (
  some ((⟨none, 0, 0⟩ : Sl), 0, 1, m)) else (
  bif decide (p1 < 0) then (
  some ((⟨none, 0, 0⟩ : Sl), 0, 1, m)) else (
  bif decide (p1 > 3) then (
  some ((⟨none, 0, 0⟩ : Sl), 0, 1, m)) else (
  bif sliceK.okZ p0a 1 false && inUpto (IntKind.wrap .i64 ((IntKind.wrap .i64 (64 * p1)) + 64)) p0c && inUpto (IntKind.wrap .i64 (64 * p1)) (Int.toNat (IntKind.wrap .i64 ((IntKind.wrap .i64 (64 * p1)) + 64))) then (
  (patinaref02_Decode k ((sliceK.clear p0a false).map fun a => plus a ((Int.toNat (IntKind.wrap .i64 (64 * p1))) * 1)) ((Int.toNat (IntKind.wrap .i64 ((IntKind.wrap .i64 (64 * p1)) + 64))) - (Int.toNat (IntKind.wrap .i64 (64 * p1)))) (p0c - (Int.toNat (IntKind.wrap .i64 (64 * p1)))) m).bind fun r1 =>
  bif !r1.2.2.1 then (
  some ((⟨none, 0, 0⟩ : Sl), 0, 5, r1.2.2.2)) else (
  some ((⟨r1.1.a, r1.1.len, r1.1.cap⟩ : Sl), r1.2.1, 0, r1.2.2.2))) else none)))

def patinaref06_Message_call {R : Type} (k : Nat) : Fun R := callCons 35 (patinaref02_Decode_arm k) (callNil)

theorem patinaref06_Message_callOk {R : Type} (k : Nat) : CallOk Try.prog (patinaref06_Message_call (R := R) k) := callOk_cons (patinaref02_Decode_armOk k) (callOk_nil)

def patinaref06_Message_loop (k : Nat) : Nat → List Value → Mem → (Nat → List Value → Mem → Option (Sl × Int × Int × Mem)) → Option (Sl × Int × Int × Mem) := fun _ _ _ _ => none

def patinaref06_Message_C (k : Nat) : Ctx (Sl × Int × Int × Mem) := ⟨tt, patinaref06_Message_call k, patinaref06_Message_loop k, [], []⟩

def patinaref06_Message_dec : Value → Mem → Option (Sl × Int × Int × Mem) := fun v m => match v with
  | .tuple ⟨[.slice q0a q0n q0c, .int .i64 q1, .int .i64 q2]⟩ => some ((⟨q0a, q0n, q0c⟩ : Sl), q1, q2, m)
  | _ => none

theorem patinaref06_Message_eq (k : Nat) (p0a : Option Addr) (p0n : Nat) (p0c : Nat) (p1 : Int) (m : Mem) : fnX (patinaref06_Message_C k) Try.f20 [(Value.slice p0a p0n p0c), (Value.int .i64 p1)] m patinaref06_Message_dec = patinaref06_Message k p0a p0n p0c p1 m := by kernel_rfl

theorem patinaref06_Message_ok {k : Nat} {p0a : Option Addr} {p0n : Nat} {p0c : Nat} {p1 : Int} {m : Mem} {r : (Sl × Int × Int × Mem)} (h : patinaref06_Message k p0a p0n p0c p1 m = some r) : CallP Try.prog 20 [(Value.slice p0a p0n p0c), (Value.int .i64 p1)] m fun v m' => v = (Value.tuple ⟨[(Value.slice r.1.a r.1.len r.1.cap), (Value.int .i64 r.2.1), (Value.int .i64 r.2.2.1)]⟩) ∧ m' = r.2.2.2 := by
  refine (fn_sound (C := patinaref06_Message_C k) (c := body Try.f20) tOk mixed (patinaref06_Message_callOk k) Try.func20 (by kernel_rfl) (by kernel_rfl) (by kernel_rfl) (by kernel_rfl) ?_ ?_ (Eq.trans (patinaref06_Message_eq k p0a p0n p0c p1 m) h)).mono ?_
  · intro p hp; rw [show loopsOf 0 (body Try.f20) = [] by kernel_rfl] at hp; cases hp
  · intro p hp; rw [show rangesOf 0 (body Try.f20) = [] by kernel_rfl] at hp; cases hp
  · intro v m' hp
    unfold patinaref06_Message_dec at hp
    split at hp
    · simp only [Option.some.injEq] at hp; subst hp; exact ⟨rfl, rfl⟩
    · cases hp

def patinaref06_Message_arm {R : Type} (k : Nat) : Arm R := fun vs m K => match vs with
  | [.slice p0a p0n p0c, .int .i64 p1] => (patinaref06_Message k p0a p0n p0c p1 m).bind fun r => K (Value.tuple ⟨[(Value.slice r.1.a r.1.len r.1.cap), (Value.int .i64 r.2.1), (Value.int .i64 r.2.2.1)]⟩) r.2.2.2
  | _ => none

theorem patinaref06_Message_armOk {R : Type} (k : Nat) : ArmOk Try.prog 20 (patinaref06_Message_arm (R := R) k) := by
  intro vs m K r h
  unfold patinaref06_Message_arm at h
  split at h
  · obtain ⟨r, h1, h2⟩ := Option.bind_eq_some_iff.1 h; exact ⟨_, _, h2, fun K' => by simp only [patinaref06_Message_arm, h1, Option.bind_some], patinaref06_Message_ok h1⟩
  · cases h

/-! ### patinaref06_Data -/
def patinaref06_Data_j1 (k : Nat) (x0a : Option Addr) (x0n : Nat) (x0c : Nat) (x7 : Int) (nx : Option Addr → Nat → Nat → Option Addr → Nat → Nat → Int → Int → Mem → Option (Sl × Int × Int × Mem)) (x5_a : Option Addr) (x5_n : Nat) (x5_c : Nat) (x6_ : Int) (mj : Mem) : Option (Sl × Int × Int × Mem) :=
  nx x0a x0n x0c x5_a x5_n x5_c x6_ (IntKind.wrap .i64 (x7 + 1)) mj

def patinaref06_Data_l0_b (k : Nat) (nx : Option Addr → Nat → Nat → Option Addr → Nat → Nat → Int → Int → Mem → Option (Sl × Int × Int × Mem)) (kx0 : Option Addr → Nat → Nat → Int → Int → Mem → Option (Sl × Int × Int × Mem)) (kx2 : Option Addr → Nat → Nat → Int → Mem → Option (Sl × Int × Int × Mem)) (x0a : Option Addr) (x0n : Nat) (x0c : Nat) (x5a : Option Addr) (x5n : Nat) (x5c : Nat) (x6 : Int) (x7 : Int) (m : Mem) : Option (Sl × Int × Int × Mem) :=
  bif decide (x7 < 3) then (
  (patinaref06_Message k x0a x0n x0c x7 m).bind fun r1 =>
  bif r1.2.2.1 != 0 then (
  kx0 none 0 0 0 r1.2.2.1 r1.2.2.2) else (
  (rdSl r1.2.2.2 r1.1.a r1.1.len 1).bind fun l2 =>
  (appM 1 1 r1.2.2.2 x5a x5n x5c r1.1.len l2).bind fun r3 =>
  bif decide (r1.2.1 > x6) then (
  patinaref06_Data_j1 k x0a x0n x0c x7 nx r3.1.a r3.1.len r3.1.cap r1.2.1 r3.2) else (
  patinaref06_Data_j1 k x0a x0n x0c x7 nx r3.1.a r3.1.len r3.1.cap x6 r3.2))) else (
  kx2 x5a x5n x5c x6 m)

def patinaref06_Data_l0 (k : Nat) (kx0 : Option Addr → Nat → Nat → Int → Int → Mem → Option (Sl × Int × Int × Mem)) (kx2 : Option Addr → Nat → Nat → Int → Mem → Option (Sl × Int × Int × Mem)) : Nat → Option Addr → Nat → Nat → Option Addr → Nat → Nat → Int → Int → Mem → Option (Sl × Int × Int × Mem)
  | 0, _, _, _, _, _, _, _, _, _ => none
  | n + 1, x0a, x0n, x0c, x5a, x5n, x5c, x6, x7, m => patinaref06_Data_l0_b k (fun x0a x0n x0c x5a x5n x5c x6 x7 m => patinaref06_Data_l0 k kx0 kx2 n x0a x0n x0c x5a x5n x5c x6 x7 m) kx0 kx2 x0a x0n x0c x5a x5n x5c x6 x7 m
termination_by structural x => x

theorem patinaref06_Data_l0_rule (k : Nat) (kx0 : Option Addr → Nat → Nat → Int → Int → Mem → Option (Sl × Int × Int × Mem)) (kx2 : Option Addr → Nat → Nat → Int → Mem → Option (Sl × Int × Int × Mem)) {P : (Sl × Int × Int × Mem) → Prop} (I : Nat → Option Addr → Nat → Nat → Option Addr → Nat → Nat → Int → Int → Mem → Prop)
    (step : ∀ d (nx : Option Addr → Nat → Nat → Option Addr → Nat → Nat → Int → Int → Mem → Option (Sl × Int × Int × Mem)) (x0a : Option Addr) (x0n : Nat) (x0c : Nat) (x5a : Option Addr) (x5n : Nat) (x5c : Nat) (x6 : Int) (x7 : Int) (m : Mem), I d x0a x0n x0c x5a x5n x5c x6 x7 m → (∀ d' (x0a : Option Addr) (x0n : Nat) (x0c : Nat) (x5a : Option Addr) (x5n : Nat) (x5c : Nat) (x6 : Int) (x7 : Int) (m : Mem), d' < d → I d' x0a x0n x0c x5a x5n x5c x6 x7 m → Ok (nx x0a x0n x0c x5a x5n x5c x6 x7 m) P) → Ok (patinaref06_Data_l0_b k nx kx0 kx2 x0a x0n x0c x5a x5n x5c x6 x7 m) P) :
    ∀ n d (x0a : Option Addr) (x0n : Nat) (x0c : Nat) (x5a : Option Addr) (x5n : Nat) (x5c : Nat) (x6 : Int) (x7 : Int) (m : Mem), d < n → I d x0a x0n x0c x5a x5n x5c x6 x7 m → Ok (patinaref06_Data_l0 k kx0 kx2 n x0a x0n x0c x5a x5n x5c x6 x7 m) P
  | 0, d, x0a, x0n, x0c, x5a, x5n, x5c, x6, x7, m, h, _ => absurd h (Nat.not_lt_zero _)
  | n + 1, d, x0a, x0n, x0c, x5a, x5n, x5c, x6, x7, m, h, hI => step d _ x0a x0n x0c x5a x5n x5c x6 x7 m hI fun d' x0a x0n x0c x5a x5n x5c x6 x7 m h' hI' => patinaref06_Data_l0_rule k kx0 kx2 I step n d' x0a x0n x0c x5a x5n x5c x6 x7 m (by omega) hI'

def patinaref06_Data (k : Nat) (p0a : Option Addr) (p0n : Nat) (p0c : Nat) (m : Mem) : Option (Sl × Int × Int × Mem) :=
  patinaref06_Data_l0 k (fun y2a y2n y2c y3 y4 m4 => 
  some ((⟨y2a, y2n, y2c⟩ : Sl), y3, y4, m4)) (fun y5a y5n y5c y6 m5 => 
  some ((⟨y5a, y5n, y5c⟩ : Sl), y6, 0, m5)) k p0a p0n p0c none 0 0 0 0 m

def patinaref06_Data_call {R : Type} (k : Nat) : Fun R := callCons 20 (patinaref06_Message_arm k) (callNil)

theorem patinaref06_Data_callOk {R : Type} (k : Nat) : CallOk Try.prog (patinaref06_Data_call (R := R) k) := callOk_cons (patinaref06_Message_armOk k) (callOk_nil)

def patinaref06_Data_l0_L (k : Nat) (K : Nat → List Value → Mem → Option (Sl × Int × Int × Mem)) (n : Nat) (vs : List Value) (m : Mem) : Option (Sl × Int × Int × Mem) := match vs with
  | [.slice x0a x0n x0c, .slice x5a x5n x5c, .int .i64 x6, .int .i64 x7] => patinaref06_Data_l0 k (fun y2a y2n y2c y3 y4 m => K 0 [(Value.slice y2a y2n y2c), (Value.int .i64 y3), (Value.int .i64 y4)] m) (fun y5a y5n y5c y6 m => K 2 [(Value.slice y5a y5n y5c), (Value.int .i64 y6)] m) n x0a x0n x0c x5a x5n x5c x6 x7 m
  | _ => none

def patinaref06_Data_loop (k : Nat) : Nat → List Value → Mem → (Nat → List Value → Mem → Option (Sl × Int × Int × Mem)) → Option (Sl × Int × Int × Mem) := fun cur vs m K => match cur with
  | 0 => patinaref06_Data_l0_L k K k vs m
  | _ => none

def patinaref06_Data_C (k : Nat) : Ctx (Sl × Int × Int × Mem) := ⟨tt, patinaref06_Data_call k, patinaref06_Data_loop k, [(0, [0, 5, 6, 7])], [(0, [2, 3, 4]), (2, [5, 6])]⟩

noncomputable def patinaref06_Data_l0_c : Code := ((loopsOf 0 (body Try.f21)).map (·.2)).getD 0 .skip

theorem patinaref06_Data_loops : loopsOf 0 (body Try.f21) = [(0, patinaref06_Data_l0_c)] := by kernel_rfl

theorem patinaref06_Data_l0_ok (k : Nat) : LoopOk (patinaref06_Data_C k) 0 patinaref06_Data_l0_c := by
  refine ⟨[0, 5, 6, 7], by kernel_rfl, fun K r => ⟨patinaref06_Data_l0_L k K, fun vs m h => ⟨k, h⟩, ?_⟩⟩
  intro n vs m h
  unfold patinaref06_Data_l0_L at h
  split at h
  · cases n with
    | zero => cases h
    | succ n => exact ⟨n, rfl, Eq.trans (by kernel_rfl) h⟩
  · cases h

def patinaref06_Data_dec : Value → Mem → Option (Sl × Int × Int × Mem) := fun v m => match v with
  | .tuple ⟨[.slice q0a q0n q0c, .int .i64 q1, .int .i64 q2]⟩ => some ((⟨q0a, q0n, q0c⟩ : Sl), q1, q2, m)
  | _ => none

theorem patinaref06_Data_eq (k : Nat) (p0a : Option Addr) (p0n : Nat) (p0c : Nat) (m : Mem) : fnX (patinaref06_Data_C k) Try.f21 [(Value.slice p0a p0n p0c)] m patinaref06_Data_dec = patinaref06_Data k p0a p0n p0c m := by kernel_rfl

theorem patinaref06_Data_ok {k : Nat} {p0a : Option Addr} {p0n : Nat} {p0c : Nat} {m : Mem} {r : (Sl × Int × Int × Mem)} (h : patinaref06_Data k p0a p0n p0c m = some r) : CallP Try.prog 21 [(Value.slice p0a p0n p0c)] m fun v m' => v = (Value.tuple ⟨[(Value.slice r.1.a r.1.len r.1.cap), (Value.int .i64 r.2.1), (Value.int .i64 r.2.2.1)]⟩) ∧ m' = r.2.2.2 := by
  refine (fn_sound (C := patinaref06_Data_C k) (c := body Try.f21) tOk mixed (patinaref06_Data_callOk k) Try.func21 (by kernel_rfl) (by kernel_rfl) (by kernel_rfl) (by kernel_rfl) ?_ ?_ (Eq.trans (patinaref06_Data_eq k p0a p0n p0c m) h)).mono ?_
  · intro p hp
    rw [patinaref06_Data_loops] at hp
    simp only [List.mem_cons, List.not_mem_nil, or_false] at hp
    rcases hp with rfl
    · exact patinaref06_Data_l0_ok k
  · intro p hp; rw [show rangesOf 0 (body Try.f21) = [] by kernel_rfl] at hp; cases hp
  · intro v m' hp
    unfold patinaref06_Data_dec at hp
    split at hp
    · simp only [Option.some.injEq] at hp; subst hp; exact ⟨rfl, rfl⟩
    · cases hp

def patinaref06_Data_arm {R : Type} (k : Nat) : Arm R := fun vs m K => match vs with
  | [.slice p0a p0n p0c] => (patinaref06_Data k p0a p0n p0c m).bind fun r => K (Value.tuple ⟨[(Value.slice r.1.a r.1.len r.1.cap), (Value.int .i64 r.2.1), (Value.int .i64 r.2.2.1)]⟩) r.2.2.2
  | _ => none

theorem patinaref06_Data_armOk {R : Type} (k : Nat) : ArmOk Try.prog 21 (patinaref06_Data_arm (R := R) k) := by
  intro vs m K r h
  unfold patinaref06_Data_arm at h
  split at h
  · obtain ⟨r, h1, h2⟩ := Option.bind_eq_some_iff.1 h; exact ⟨_, _, h2, fun K' => by simp only [patinaref06_Data_arm, h1, Option.bind_some], patinaref06_Data_ok h1⟩
  · cases h

/-! ### patinaref06_Body -/
def patinaref06_Body (k : Nat) (p0a : Option Addr) (p0n : Nat) (p0c : Nat) (m : Mem) : Option (Sl × Int × Int × Mem) :=
  (patinaref06_Message k p0a p0n p0c 3 m).bind fun r1 =>
  bif r1.2.2.1 != 0 then (
  some ((⟨none, 0, 0⟩ : Sl), 0, r1.2.2.1, r1.2.2.2)) else (
  (patinaref03_Marked k r1.1.a r1.1.len r1.1.cap r1.2.2.2).bind fun r2 =>
  bif !r2.1 then (
  some ((⟨none, 0, 0⟩ : Sl), 0, 6, r2.2)) else (
  bif inUpto 50 r1.1.cap then (
  some ((⟨(sliceK.clear r1.1.a false), (Int.toNat 50), r1.1.cap⟩ : Sl), r1.2.1, 0, r2.2)) else none))

def patinaref06_Body_call {R : Type} (k : Nat) : Fun R := callCons 20 (patinaref06_Message_arm k) (callCons 36 (patinaref03_Marked_arm k) (callNil))

theorem patinaref06_Body_callOk {R : Type} (k : Nat) : CallOk Try.prog (patinaref06_Body_call (R := R) k) := callOk_cons (patinaref06_Message_armOk k) (callOk_cons (patinaref03_Marked_armOk k) (callOk_nil))

def patinaref06_Body_loop (k : Nat) : Nat → List Value → Mem → (Nat → List Value → Mem → Option (Sl × Int × Int × Mem)) → Option (Sl × Int × Int × Mem) := fun _ _ _ _ => none

def patinaref06_Body_C (k : Nat) : Ctx (Sl × Int × Int × Mem) := ⟨tt, patinaref06_Body_call k, patinaref06_Body_loop k, [], []⟩

def patinaref06_Body_dec : Value → Mem → Option (Sl × Int × Int × Mem) := fun v m => match v with
  | .tuple ⟨[.slice q0a q0n q0c, .int .i64 q1, .int .i64 q2]⟩ => some ((⟨q0a, q0n, q0c⟩ : Sl), q1, q2, m)
  | _ => none

theorem patinaref06_Body_eq (k : Nat) (p0a : Option Addr) (p0n : Nat) (p0c : Nat) (m : Mem) : fnX (patinaref06_Body_C k) Try.f22 [(Value.slice p0a p0n p0c)] m patinaref06_Body_dec = patinaref06_Body k p0a p0n p0c m := by kernel_rfl

theorem patinaref06_Body_ok {k : Nat} {p0a : Option Addr} {p0n : Nat} {p0c : Nat} {m : Mem} {r : (Sl × Int × Int × Mem)} (h : patinaref06_Body k p0a p0n p0c m = some r) : CallP Try.prog 22 [(Value.slice p0a p0n p0c)] m fun v m' => v = (Value.tuple ⟨[(Value.slice r.1.a r.1.len r.1.cap), (Value.int .i64 r.2.1), (Value.int .i64 r.2.2.1)]⟩) ∧ m' = r.2.2.2 := by
  refine (fn_sound (C := patinaref06_Body_C k) (c := body Try.f22) tOk mixed (patinaref06_Body_callOk k) Try.func22 (by kernel_rfl) (by kernel_rfl) (by kernel_rfl) (by kernel_rfl) ?_ ?_ (Eq.trans (patinaref06_Body_eq k p0a p0n p0c m) h)).mono ?_
  · intro p hp; rw [show loopsOf 0 (body Try.f22) = [] by kernel_rfl] at hp; cases hp
  · intro p hp; rw [show rangesOf 0 (body Try.f22) = [] by kernel_rfl] at hp; cases hp
  · intro v m' hp
    unfold patinaref06_Body_dec at hp
    split at hp
    · simp only [Option.some.injEq] at hp; subst hp; exact ⟨rfl, rfl⟩
    · cases hp

def patinaref06_Body_arm {R : Type} (k : Nat) : Arm R := fun vs m K => match vs with
  | [.slice p0a p0n p0c] => (patinaref06_Body k p0a p0n p0c m).bind fun r => K (Value.tuple ⟨[(Value.slice r.1.a r.1.len r.1.cap), (Value.int .i64 r.2.1), (Value.int .i64 r.2.2.1)]⟩) r.2.2.2
  | _ => none

theorem patinaref06_Body_armOk {R : Type} (k : Nat) : ArmOk Try.prog 22 (patinaref06_Body_arm (R := R) k) := by
  intro vs m K r h
  unfold patinaref06_Body_arm at h
  split at h
  · obtain ⟨r, h1, h2⟩ := Option.bind_eq_some_iff.1 h; exact ⟨_, _, h2, fun K' => by simp only [patinaref06_Body_arm, h1, Option.bind_some], patinaref06_Body_ok h1⟩
  · cases h

end Go.Proofs.Ytmfmoanjecjeeaa
