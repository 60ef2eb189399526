/- The program's functions as plain Lean functions over a clean memory, each held against the program by the kernel. Written by mx.py. -/
import Derived.Test.YtmfmoanjecjeeaaF0
import Derived.Test.YtmfmoanjecjeeaaFpatinaref01
set_option linter.unusedVariables false
set_option maxRecDepth 100000
namespace Go.Proofs.Ytmfmoanjecjeeaa
open Go.Mx

/-! ### patinaref02_rule -/
def patinaref02_rule_l0_b (k : Nat) (nx : Option Addr → Nat → Nat → Int → Int → Mem → Option (Sl × Mem)) (kx2 : Option Addr → Nat → Nat → Mem → Option (Sl × Mem)) (x1a : Option Addr) (x1n : Nat) (x1c : Nat) (x2 : Int) (x3 : Int) (m : Mem) : Option (Sl × Mem) :=
  bif decide (x3 < 6) then (
  let m2 : Mem := m ++ [.live [(Value.int .u8 1), (Value.int .u8 x2)]]
  (patinaref01_Times k x1a x1n x1c (some ⟨List.length m, 0, Option.none⟩) 2 2 m2).bind fun r3 =>
  (patinaref01_Mul k x2 2 r3.2).bind fun r4 =>
  nx r3.1.a r3.1.len r3.1.cap r4.1 (IntKind.wrap .i64 (x3 + 1)) r4.2) else (
  kx2 x1a x1n x1c m)

def patinaref02_rule_l0 (k : Nat) (kx2 : Option Addr → Nat → Nat → Mem → Option (Sl × Mem)) : Nat → Option Addr → Nat → Nat → Int → Int → Mem → Option (Sl × Mem)
  | 0, _, _, _, _, _, _ => none
  | n + 1, x1a, x1n, x1c, x2, x3, m => patinaref02_rule_l0_b k (fun x1a x1n x1c x2 x3 m => patinaref02_rule_l0 k kx2 n x1a x1n x1c x2 x3 m) kx2 x1a x1n x1c x2 x3 m
termination_by structural x => x

theorem patinaref02_rule_l0_rule (k : Nat) (kx2 : Option Addr → Nat → Nat → Mem → Option (Sl × Mem)) {P : (Sl × Mem) → Prop} (I : Nat → Option Addr → Nat → Nat → Int → Int → Mem → Prop)
    (step : ∀ d (nx : Option Addr → Nat → Nat → Int → Int → Mem → Option (Sl × Mem)) (x1a : Option Addr) (x1n : Nat) (x1c : Nat) (x2 : Int) (x3 : Int) (m : Mem), I d x1a x1n x1c x2 x3 m → (∀ d' (x1a : Option Addr) (x1n : Nat) (x1c : Nat) (x2 : Int) (x3 : Int) (m : Mem), d' < d → I d' x1a x1n x1c x2 x3 m → Ok (nx x1a x1n x1c x2 x3 m) P) → Ok (patinaref02_rule_l0_b k nx kx2 x1a x1n x1c x2 x3 m) P) :
    ∀ n d (x1a : Option Addr) (x1n : Nat) (x1c : Nat) (x2 : Int) (x3 : Int) (m : Mem), d < n → I d x1a x1n x1c x2 x3 m → Ok (patinaref02_rule_l0 k kx2 n x1a x1n x1c x2 x3 m) P
  | 0, d, x1a, x1n, x1c, x2, x3, m, h, _ => absurd h (Nat.not_lt_zero _)
  | n + 1, d, x1a, x1n, x1c, x2, x3, m, h, hI => step d _ x1a x1n x1c x2 x3 m hI fun d' x1a x1n x1c x2 x3 m h' hI' => patinaref02_rule_l0_rule k kx2 I step n d' x1a x1n x1c x2 x3 m (by omega) hI'

def patinaref02_rule (k : Nat) (m : Mem) : Option (Sl × Mem) :=
  let m1 : Mem := m ++ [.live [(Value.int .u8 1)]]
  patinaref02_rule_l0 k (fun y1a y1n y1c m5 => 
  some ((⟨y1a, y1n, y1c⟩ : Sl), m5)) k (some ⟨List.length m, 0, Option.none⟩) 1 1 1 0 m1

def patinaref02_rule_call {R : Type} (k : Nat) : Fun R := callCons 44 (patinaref01_Mul_arm k) (callCons 57 (patinaref01_Times_arm k) (callNil))

theorem patinaref02_rule_callOk {R : Type} (k : Nat) : CallOk Try.prog (patinaref02_rule_call (R := R) k) := callOk_cons (patinaref01_Mul_armOk k) (callOk_cons (patinaref01_Times_armOk k) (callOk_nil))

def patinaref02_rule_l0_L (k : Nat) (K : Nat → List Value → Mem → Option (Sl × Mem)) (n : Nat) (vs : List Value) (m : Mem) : Option (Sl × Mem) := match vs with
  | [.slice x1a x1n x1c, .int .u8 x2, .int .i64 x3] => patinaref02_rule_l0 k (fun y1a y1n y1c m => K 2 [(Value.slice y1a y1n y1c)] m) n x1a x1n x1c x2 x3 m
  | _ => none

def patinaref02_rule_loop (k : Nat) : Nat → List Value → Mem → (Nat → List Value → Mem → Option (Sl × Mem)) → Option (Sl × Mem) := fun cur vs m K => match cur with
  | 0 => patinaref02_rule_l0_L k K k vs m
  | _ => none

def patinaref02_rule_C (k : Nat) : Ctx (Sl × Mem) := ⟨tt, patinaref02_rule_call k, patinaref02_rule_loop k, [(0, [1, 2, 3])], [(2, [1])]⟩

noncomputable def patinaref02_rule_l0_c : Code := ((loopsOf 0 (body Try.f43)).map (·.2)).getD 0 .skip

theorem patinaref02_rule_loops : loopsOf 0 (body Try.f43) = [(0, patinaref02_rule_l0_c)] := by kernel_rfl

theorem patinaref02_rule_l0_ok (k : Nat) : LoopOk (patinaref02_rule_C k) 0 patinaref02_rule_l0_c := by
  refine ⟨[1, 2, 3], by kernel_rfl, fun K r => ⟨patinaref02_rule_l0_L k K, fun vs m h => ⟨k, h⟩, ?_⟩⟩
  intro n vs m h
  unfold patinaref02_rule_l0_L at h
  split at h
  · cases n with
    | zero => cases h
    | succ n => exact ⟨n, rfl, Eq.trans (by kernel_rfl) h⟩
  · cases h

def patinaref02_rule_dec : Value → Mem → Option (Sl × Mem) := fun v m => match v with
  | .slice q0a q0n q0c => some ((⟨q0a, q0n, q0c⟩ : Sl), m)
  | _ => none

theorem patinaref02_rule_eq (k : Nat) (m : Mem) : fnX (patinaref02_rule_C k) Try.f43 [] m patinaref02_rule_dec = patinaref02_rule k  m := by kernel_rfl

theorem patinaref02_rule_ok {k : Nat} {m : Mem} {r : (Sl × Mem)} (h : patinaref02_rule k  m = some r) : CallP Try.prog 43 [] m fun v m' => v = (Value.slice r.1.a r.1.len r.1.cap) ∧ m' = r.2 := by
  refine (fn_sound (C := patinaref02_rule_C k) (c := body Try.f43) tOk mixed (patinaref02_rule_callOk k) Try.func43 (by kernel_rfl) (by kernel_rfl) (by kernel_rfl) (by kernel_rfl) ?_ ?_ (Eq.trans (patinaref02_rule_eq k  m) h)).mono ?_
  · intro p hp
    rw [patinaref02_rule_loops] at hp
    simp only [List.mem_cons, List.not_mem_nil, or_false] at hp
    rcases hp with rfl
    · exact patinaref02_rule_l0_ok k
  · intro p hp; rw [show rangesOf 0 (body Try.f43) = [] by kernel_rfl] at hp; cases hp
  · intro v m' hp
    unfold patinaref02_rule_dec at hp
    split at hp
    · simp only [Option.some.injEq] at hp; subst hp; exact ⟨rfl, rfl⟩
    · cases hp

def patinaref02_rule_arm {R : Type} (k : Nat) : Arm R := fun vs m K => match vs with
  | [] => (patinaref02_rule k  m).bind fun r => K (Value.slice r.1.a r.1.len r.1.cap) r.2
  | _ => none

theorem patinaref02_rule_armOk {R : Type} (k : Nat) : ArmOk Try.prog 43 (patinaref02_rule_arm (R := R) k) := by
  intro vs m K r h
  unfold patinaref02_rule_arm at h
  split at h
  · obtain ⟨r, h1, h2⟩ := Option.bind_eq_some_iff.1 h; exact ⟨_, _, h2, fun K' => by simp only [patinaref02_rule_arm, h1, Option.bind_some], patinaref02_rule_ok h1⟩
  · cases h

/-! ### patinaref02_Encode -/
def patinaref02_Encode_l2_b (k : Nat) (nx : Option Addr → Nat → Nat → Option Addr → Nat → Nat → Option Addr → Nat → Nat → Int → Int → Int → Mem → Option (Sl × Mem)) (kx4 : Option Addr → Nat → Nat → Option Addr → Nat → Nat → Option Addr → Nat → Nat → Int → Mem → Option (Sl × Mem)) (x0a : Option Addr) (x0n : Nat) (x0c : Nat) (x3a : Option Addr) (x3n : Nat) (x3c : Nat) (x4a : Option Addr) (x4n : Nat) (x4c : Nat) (x5 : Int) (x6 : Int) (x7 : Int) (m : Mem) : Option (Sl × Mem) :=
  bif decide (x7 < ((x4n : Nat) : Int)) then (
  bif inRange (IntKind.wrap .i64 (x5 + x7)) x3n then (
  (x3a).bind fun a9 =>
  (ldInt .u8 m (plus a9 (Int.toNat (IntKind.wrap .i64 (x5 + x7)) * 1))).bind fun t10 =>
  bif inRange x7 x4n then (
  (x4a).bind fun a11 =>
  (ldInt .u8 m (plus a11 (Int.toNat x7 * 1))).bind fun t12 =>
  (patinaref01_Mul k x6 t12 m).bind fun r13 =>
  bif inRange (IntKind.wrap .i64 (x5 + x7)) x3n then (
  (x3a).bind fun a14 =>
  (st r13.2 (plus a14 (Int.toNat (IntKind.wrap .i64 (x5 + x7)) * 1)) (Value.int .u8 (bitI .xor .u8 t10 r13.1))).bind fun m15 =>
  (ldInt .u8 r13.2 (plus a9 (Int.toNat (IntKind.wrap .i64 (x5 + x7)) * 1))).bind fun t16 =>
  bif t16 == t10 then (
  nx x0a x0n x0c x3a x3n x3c x4a x4n x4c x5 x6 (IntKind.wrap .i64 (x7 + 1)) m15) else none) else none) else none) else none) else (
  kx4 x0a x0n x0c x3a x3n x3c x4a x4n x4c x5 m)

def patinaref02_Encode_l2 (k : Nat) (kx4 : Option Addr → Nat → Nat → Option Addr → Nat → Nat → Option Addr → Nat → Nat → Int → Mem → Option (Sl × Mem)) : Nat → Option Addr → Nat → Nat → Option Addr → Nat → Nat → Option Addr → Nat → Nat → Int → Int → Int → Mem → Option (Sl × Mem)
  | 0, _, _, _, _, _, _, _, _, _, _, _, _, _ => none
  | n + 1, x0a, x0n, x0c, x3a, x3n, x3c, x4a, x4n, x4c, x5, x6, x7, m => patinaref02_Encode_l2_b k (fun x0a x0n x0c x3a x3n x3c x4a x4n x4c x5 x6 x7 m => patinaref02_Encode_l2 k kx4 n x0a x0n x0c x3a x3n x3c x4a x4n x4c x5 x6 x7 m) kx4 x0a x0n x0c x3a x3n x3c x4a x4n x4c x5 x6 x7 m
termination_by structural x => x

theorem patinaref02_Encode_l2_rule (k : Nat) (kx4 : Option Addr → Nat → Nat → Option Addr → Nat → Nat → Option Addr → Nat → Nat → Int → Mem → Option (Sl × Mem)) {P : (Sl × Mem) → Prop} (I : Nat → Option Addr → Nat → Nat → Option Addr → Nat → Nat → Option Addr → Nat → Nat → Int → Int → Int → Mem → Prop)
    (step : ∀ d (nx : Option Addr → Nat → Nat → Option Addr → Nat → Nat → Option Addr → Nat → Nat → Int → Int → Int → Mem → Option (Sl × Mem)) (x0a : Option Addr) (x0n : Nat) (x0c : Nat) (x3a : Option Addr) (x3n : Nat) (x3c : Nat) (x4a : Option Addr) (x4n : Nat) (x4c : Nat) (x5 : Int) (x6 : Int) (x7 : Int) (m : Mem), I d x0a x0n x0c x3a x3n x3c x4a x4n x4c x5 x6 x7 m → (∀ d' (x0a : Option Addr) (x0n : Nat) (x0c : Nat) (x3a : Option Addr) (x3n : Nat) (x3c : Nat) (x4a : Option Addr) (x4n : Nat) (x4c : Nat) (x5 : Int) (x6 : Int) (x7 : Int) (m : Mem), d' < d → I d' x0a x0n x0c x3a x3n x3c x4a x4n x4c x5 x6 x7 m → Ok (nx x0a x0n x0c x3a x3n x3c x4a x4n x4c x5 x6 x7 m) P) → Ok (patinaref02_Encode_l2_b k nx kx4 x0a x0n x0c x3a x3n x3c x4a x4n x4c x5 x6 x7 m) P) :
    ∀ n d (x0a : Option Addr) (x0n : Nat) (x0c : Nat) (x3a : Option Addr) (x3n : Nat) (x3c : Nat) (x4a : Option Addr) (x4n : Nat) (x4c : Nat) (x5 : Int) (x6 : Int) (x7 : Int) (m : Mem), d < n → I d x0a x0n x0c x3a x3n x3c x4a x4n x4c x5 x6 x7 m → Ok (patinaref02_Encode_l2 k kx4 n x0a x0n x0c x3a x3n x3c x4a x4n x4c x5 x6 x7 m) P
  | 0, d, x0a, x0n, x0c, x3a, x3n, x3c, x4a, x4n, x4c, x5, x6, x7, m, h, _ => absurd h (Nat.not_lt_zero _)
  | n + 1, d, x0a, x0n, x0c, x3a, x3n, x3c, x4a, x4n, x4c, x5, x6, x7, m, h, hI => step d _ x0a x0n x0c x3a x3n x3c x4a x4n x4c x5 x6 x7 m hI fun d' x0a x0n x0c x3a x3n x3c x4a x4n x4c x5 x6 x7 m h' hI' => patinaref02_Encode_l2_rule k kx4 I step n d' x0a x0n x0c x3a x3n x3c x4a x4n x4c x5 x6 x7 m (by omega) hI'

def patinaref02_Encode_l0_b (k : Nat) (nx : Option Addr → Nat → Nat → Option Addr → Nat → Nat → Option Addr → Nat → Nat → Int → Mem → Option (Sl × Mem)) (kx2 : Option Addr → Nat → Nat → Option Addr → Nat → Nat → Mem → Option (Sl × Mem)) (x0a : Option Addr) (x0n : Nat) (x0c : Nat) (x3a : Option Addr) (x3n : Nat) (x3c : Nat) (x4a : Option Addr) (x4n : Nat) (x4c : Nat) (x5 : Int) (m : Mem) : Option (Sl × Mem) :=
  bif decide (x5 < 58) then (
  bif inRange x5 x3n then (
  (x3a).bind fun a7 =>
  (ldInt .u8 m (plus a7 (Int.toNat x5 * 1))).bind fun t8 =>
  patinaref02_Encode_l2 k (fun y0a y0n y0c y3a y3n y3c y4a y4n y4c y5 m17 => 
  nx y0a y0n y0c y3a y3n y3c y4a y4n y4c (IntKind.wrap .i64 (y5 + 1)) m17) k x0a x0n x0c x3a x3n x3c x4a x4n x4c x5 t8 0 m) else none) else (
  kx2 x0a x0n x0c x3a x3n x3c m)

def patinaref02_Encode_l0 (k : Nat) (kx2 : Option Addr → Nat → Nat → Option Addr → Nat → Nat → Mem → Option (Sl × Mem)) : Nat → Option Addr → Nat → Nat → Option Addr → Nat → Nat → Option Addr → Nat → Nat → Int → Mem → Option (Sl × Mem)
  | 0, _, _, _, _, _, _, _, _, _, _, _ => none
  | n + 1, x0a, x0n, x0c, x3a, x3n, x3c, x4a, x4n, x4c, x5, m => patinaref02_Encode_l0_b k (fun x0a x0n x0c x3a x3n x3c x4a x4n x4c x5 m => patinaref02_Encode_l0 k kx2 n x0a x0n x0c x3a x3n x3c x4a x4n x4c x5 m) kx2 x0a x0n x0c x3a x3n x3c x4a x4n x4c x5 m
termination_by structural x => x

theorem patinaref02_Encode_l0_rule (k : Nat) (kx2 : Option Addr → Nat → Nat → Option Addr → Nat → Nat → Mem → Option (Sl × Mem)) {P : (Sl × Mem) → Prop} (I : Nat → Option Addr → Nat → Nat → Option Addr → Nat → Nat → Option Addr → Nat → Nat → Int → Mem → Prop)
    (step : ∀ d (nx : Option Addr → Nat → Nat → Option Addr → Nat → Nat → Option Addr → Nat → Nat → Int → Mem → Option (Sl × Mem)) (x0a : Option Addr) (x0n : Nat) (x0c : Nat) (x3a : Option Addr) (x3n : Nat) (x3c : Nat) (x4a : Option Addr) (x4n : Nat) (x4c : Nat) (x5 : Int) (m : Mem), I d x0a x0n x0c x3a x3n x3c x4a x4n x4c x5 m → (∀ d' (x0a : Option Addr) (x0n : Nat) (x0c : Nat) (x3a : Option Addr) (x3n : Nat) (x3c : Nat) (x4a : Option Addr) (x4n : Nat) (x4c : Nat) (x5 : Int) (m : Mem), d' < d → I d' x0a x0n x0c x3a x3n x3c x4a x4n x4c x5 m → Ok (nx x0a x0n x0c x3a x3n x3c x4a x4n x4c x5 m) P) → Ok (patinaref02_Encode_l0_b k nx kx2 x0a x0n x0c x3a x3n x3c x4a x4n x4c x5 m) P) :
    ∀ n d (x0a : Option Addr) (x0n : Nat) (x0c : Nat) (x3a : Option Addr) (x3n : Nat) (x3c : Nat) (x4a : Option Addr) (x4n : Nat) (x4c : Nat) (x5 : Int) (m : Mem), d < n → I d x0a x0n x0c x3a x3n x3c x4a x4n x4c x5 m → Ok (patinaref02_Encode_l0 k kx2 n x0a x0n x0c x3a x3n x3c x4a x4n x4c x5 m) P
  | 0, d, x0a, x0n, x0c, x3a, x3n, x3c, x4a, x4n, x4c, x5, m, h, _ => absurd h (Nat.not_lt_zero _)
  | n + 1, d, x0a, x0n, x0c, x3a, x3n, x3c, x4a, x4n, x4c, x5, m, h, hI => step d _ x0a x0n x0c x3a x3n x3c x4a x4n x4c x5 m hI fun d' x0a x0n x0c x3a x3n x3c x4a x4n x4c x5 m h' hI' => patinaref02_Encode_l0_rule k kx2 I step n d' x0a x0n x0c x3a x3n x3c x4a x4n x4c x5 m (by omega) hI'

def patinaref02_Encode (k : Nat) (p0a : Option Addr) (p0n : Nat) (p0c : Nat) (m : Mem) : Option (Sl × Mem) :=
  (rdSl m p0a p0n 1).bind fun l1 =>
  (appM 1 1 m none 0 0 p0n l1).bind fun r2 =>
  let m3 : Mem := r2.2 ++ [.live [(Value.int .u8 0), (Value.int .u8 0), (Value.int .u8 0), (Value.int .u8 0), (Value.int .u8 0), (Value.int .u8 0)]]
  (rdSl m3 (some ⟨List.length r2.2, 0, Option.none⟩) 6 1).bind fun l4 =>
  (appM 1 1 m3 r2.1.a r2.1.len r2.1.cap 6 l4).bind fun r5 =>
  (patinaref02_rule k  r5.2).bind fun r6 =>
  patinaref02_Encode_l0 k (fun y0a y0n y0c y3a y3n y3c m18 => 
  (rdSl m18 y0a y0n 1).bind fun l19 =>
  (appM 1 1 m18 none 0 0 y0n l19).bind fun r20 =>
  bif sliceK.okZ y3a 1 false && inUpto 58 y3n then (
  (rdSl r20.2 ((sliceK.clear y3a false).map fun a => plus a ((Int.toNat 58) * 1)) (y3n - (Int.toNat 58)) 1).bind fun l21 =>
  (appM 1 1 r20.2 r20.1.a r20.1.len r20.1.cap (y3n - (Int.toNat 58)) l21).bind fun r22 =>
  some ((⟨r22.1.a, r22.1.len, r22.1.cap⟩ : Sl), r22.2)) else none) k p0a p0n p0c r5.1.a r5.1.len r5.1.cap r6.1.a r6.1.len r6.1.cap 0 r6.2

def patinaref02_Encode_call {R : Type} (k : Nat) : Fun R := callCons 43 (patinaref02_rule_arm k) (callCons 44 (patinaref01_Mul_arm k) (callNil))

theorem patinaref02_Encode_callOk {R : Type} (k : Nat) : CallOk Try.prog (patinaref02_Encode_call (R := R) k) := callOk_cons (patinaref02_rule_armOk k) (callOk_cons (patinaref01_Mul_armOk k) (callOk_nil))

def patinaref02_Encode_l0_L (k : Nat) (K : Nat → List Value → Mem → Option (Sl × Mem)) (n : Nat) (vs : List Value) (m : Mem) : Option (Sl × Mem) := match vs with
  | [.slice x0a x0n x0c, .slice x3a x3n x3c, .slice x4a x4n x4c, .int .i64 x5] => patinaref02_Encode_l0 k (fun y0a y0n y0c y3a y3n y3c m => K 2 [(Value.slice y0a y0n y0c), (Value.slice y3a y3n y3c)] m) n x0a x0n x0c x3a x3n x3c x4a x4n x4c x5 m
  | _ => none

def patinaref02_Encode_l2_L (k : Nat) (K : Nat → List Value → Mem → Option (Sl × Mem)) (n : Nat) (vs : List Value) (m : Mem) : Option (Sl × Mem) := match vs with
  | [.slice x0a x0n x0c, .slice x3a x3n x3c, .slice x4a x4n x4c, .int .i64 x5, .int .u8 x6, .int .i64 x7] => patinaref02_Encode_l2 k (fun y0a y0n y0c y3a y3n y3c y4a y4n y4c y5 m => K 4 [(Value.slice y0a y0n y0c), (Value.slice y3a y3n y3c), (Value.slice y4a y4n y4c), (Value.int .i64 y5)] m) n x0a x0n x0c x3a x3n x3c x4a x4n x4c x5 x6 x7 m
  | _ => none

def patinaref02_Encode_loop (k : Nat) : Nat → List Value → Mem → (Nat → List Value → Mem → Option (Sl × Mem)) → Option (Sl × Mem) := fun cur vs m K => match cur with
  | 0 => patinaref02_Encode_l0_L k K k vs m
  | 2 => patinaref02_Encode_l2_L k K k vs m
  | _ => none

def patinaref02_Encode_C (k : Nat) : Ctx (Sl × Mem) := ⟨tt, patinaref02_Encode_call k, patinaref02_Encode_loop k, [(0, [0, 3, 4, 5]), (2, [0, 3, 4, 5, 6, 7])], [(2, [0, 3]), (4, [0, 3, 4, 5])]⟩

noncomputable def patinaref02_Encode_l0_c : Code := ((loopsOf 0 (body Try.f31)).map (·.2)).getD 0 .skip

noncomputable def patinaref02_Encode_l2_c : Code := ((loopsOf 0 (body Try.f31)).map (·.2)).getD 1 .skip

theorem patinaref02_Encode_loops : loopsOf 0 (body Try.f31) = [(0, patinaref02_Encode_l0_c), (2, patinaref02_Encode_l2_c)] := by kernel_rfl

theorem patinaref02_Encode_l0_ok (k : Nat) : LoopOk (patinaref02_Encode_C k) 0 patinaref02_Encode_l0_c := by
  refine ⟨[0, 3, 4, 5], by kernel_rfl, fun K r => ⟨patinaref02_Encode_l0_L k K, fun vs m h => ⟨k, h⟩, ?_⟩⟩
  intro n vs m h
  unfold patinaref02_Encode_l0_L at h
  split at h
  · cases n with
    | zero => cases h
    | succ n => exact ⟨n, rfl, Eq.trans (by kernel_rfl) h⟩
  · cases h

theorem patinaref02_Encode_l2_ok (k : Nat) : LoopOk (patinaref02_Encode_C k) 2 patinaref02_Encode_l2_c := by
  refine ⟨[0, 3, 4, 5, 6, 7], by kernel_rfl, fun K r => ⟨patinaref02_Encode_l2_L k K, fun vs m h => ⟨k, h⟩, ?_⟩⟩
  intro n vs m h
  unfold patinaref02_Encode_l2_L at h
  split at h
  · cases n with
    | zero => cases h
    | succ n => exact ⟨n, rfl, Eq.trans (by kernel_rfl) h⟩
  · cases h

def patinaref02_Encode_dec : Value → Mem → Option (Sl × Mem) := fun v m => match v with
  | .slice q0a q0n q0c => some ((⟨q0a, q0n, q0c⟩ : Sl), m)
  | _ => none

theorem patinaref02_Encode_eq (k : Nat) (p0a : Option Addr) (p0n : Nat) (p0c : Nat) (m : Mem) : fnX (patinaref02_Encode_C k) Try.f31 [(Value.slice p0a p0n p0c)] m patinaref02_Encode_dec = patinaref02_Encode k p0a p0n p0c m := by kernel_rfl

theorem patinaref02_Encode_ok {k : Nat} {p0a : Option Addr} {p0n : Nat} {p0c : Nat} {m : Mem} {r : (Sl × Mem)} (h : patinaref02_Encode k p0a p0n p0c m = some r) : CallP Try.prog 31 [(Value.slice p0a p0n p0c)] m fun v m' => v = (Value.slice r.1.a r.1.len r.1.cap) ∧ m' = r.2 := by
  refine (fn_sound (C := patinaref02_Encode_C k) (c := body Try.f31) tOk mixed (patinaref02_Encode_callOk k) Try.func31 (by kernel_rfl) (by kernel_rfl) (by kernel_rfl) (by kernel_rfl) ?_ ?_ (Eq.trans (patinaref02_Encode_eq k p0a p0n p0c m) h)).mono ?_
  · intro p hp
    rw [patinaref02_Encode_loops] at hp
    simp only [List.mem_cons, List.not_mem_nil, or_false] at hp
    rcases hp with rfl | rfl
    · exact patinaref02_Encode_l0_ok k
    · exact patinaref02_Encode_l2_ok k
  · intro p hp; rw [show rangesOf 0 (body Try.f31) = [] by kernel_rfl] at hp; cases hp
  · intro v m' hp
    unfold patinaref02_Encode_dec at hp
    split at hp
    · simp only [Option.some.injEq] at hp; subst hp; exact ⟨rfl, rfl⟩
    · cases hp

def patinaref02_Encode_arm {R : Type} (k : Nat) : Arm R := fun vs m K => match vs with
  | [.slice p0a p0n p0c] => (patinaref02_Encode k p0a p0n p0c m).bind fun r => K (Value.slice r.1.a r.1.len r.1.cap) r.2
  | _ => none

theorem patinaref02_Encode_armOk {R : Type} (k : Nat) : ArmOk Try.prog 31 (patinaref02_Encode_arm (R := R) k) := by
  intro vs m K r h
  unfold patinaref02_Encode_arm at h
  split at h
  · obtain ⟨r, h1, h2⟩ := Option.bind_eq_some_iff.1 h; exact ⟨_, _, h2, fun K' => by simp only [patinaref02_Encode_arm, h1, Option.bind_some], patinaref02_Encode_ok h1⟩
  · cases h

/-! ### patinaref02_Syndromes -/
def patinaref02_Syndromes_l0_b (k : Nat) (nx : Option Addr → Nat → Nat → Option Addr → Nat → Nat → Int → Int → Mem → Option (Sl × Mem)) (kx2 : Option Addr → Nat → Nat → Mem → Option (Sl × Mem)) (x0a : Option Addr) (x0n : Nat) (x0c : Nat) (x3a : Option Addr) (x3n : Nat) (x3c : Nat) (x4 : Int) (x5 : Int) (m : Mem) : Option (Sl × Mem) :=
  bif decide (x5 < 6) then (
  (patinaref01_Eval k x0a x0n x0c x4 m).bind fun r1 =>
  let m2 : Mem := r1.2 ++ [.live [(Value.int .u8 r1.1)]]
  (rdSl m2 (some ⟨List.length r1.2, 0, Option.none⟩) 1 1).bind fun l3 =>
  (appM 1 1 m2 x3a x3n x3c 1 l3).bind fun r4 =>
  (patinaref01_Mul k x4 2 r4.2).bind fun r5 =>
  nx x0a x0n x0c r4.1.a r4.1.len r4.1.cap r5.1 (IntKind.wrap .i64 (x5 + 1)) r5.2) else (
  kx2 x3a x3n x3c m)

def patinaref02_Syndromes_l0 (k : Nat) (kx2 : Option Addr → Nat → Nat → Mem → Option (Sl × Mem)) : Nat → Option Addr → Nat → Nat → Option Addr → Nat → Nat → Int → Int → Mem → Option (Sl × Mem)
  | 0, _, _, _, _, _, _, _, _, _ => none
  | n + 1, x0a, x0n, x0c, x3a, x3n, x3c, x4, x5, m => patinaref02_Syndromes_l0_b k (fun x0a x0n x0c x3a x3n x3c x4 x5 m => patinaref02_Syndromes_l0 k kx2 n x0a x0n x0c x3a x3n x3c x4 x5 m) kx2 x0a x0n x0c x3a x3n x3c x4 x5 m
termination_by structural x => x

theorem patinaref02_Syndromes_l0_rule (k : Nat) (kx2 : Option Addr → Nat → Nat → Mem → Option (Sl × Mem)) {P : (Sl × Mem) → Prop} (I : Nat → Option Addr → Nat → Nat → Option Addr → Nat → Nat → Int → Int → Mem → Prop)
    (step : ∀ d (nx : Option Addr → Nat → Nat → Option Addr → Nat → Nat → Int → Int → Mem → Option (Sl × Mem)) (x0a : Option Addr) (x0n : Nat) (x0c : Nat) (x3a : Option Addr) (x3n : Nat) (x3c : Nat) (x4 : Int) (x5 : Int) (m : Mem), I d x0a x0n x0c x3a x3n x3c x4 x5 m → (∀ d' (x0a : Option Addr) (x0n : Nat) (x0c : Nat) (x3a : Option Addr) (x3n : Nat) (x3c : Nat) (x4 : Int) (x5 : Int) (m : Mem), d' < d → I d' x0a x0n x0c x3a x3n x3c x4 x5 m → Ok (nx x0a x0n x0c x3a x3n x3c x4 x5 m) P) → Ok (patinaref02_Syndromes_l0_b k nx kx2 x0a x0n x0c x3a x3n x3c x4 x5 m) P) :
    ∀ n d (x0a : Option Addr) (x0n : Nat) (x0c : Nat) (x3a : Option Addr) (x3n : Nat) (x3c : Nat) (x4 : Int) (x5 : Int) (m : Mem), d < n → I d x0a x0n x0c x3a x3n x3c x4 x5 m → Ok (patinaref02_Syndromes_l0 k kx2 n x0a x0n x0c x3a x3n x3c x4 x5 m) P
  | 0, d, x0a, x0n, x0c, x3a, x3n, x3c, x4, x5, m, h, _ => absurd h (Nat.not_lt_zero _)
  | n + 1, d, x0a, x0n, x0c, x3a, x3n, x3c, x4, x5, m, h, hI => step d _ x0a x0n x0c x3a x3n x3c x4 x5 m hI fun d' x0a x0n x0c x3a x3n x3c x4 x5 m h' hI' => patinaref02_Syndromes_l0_rule k kx2 I step n d' x0a x0n x0c x3a x3n x3c x4 x5 m (by omega) hI'

def patinaref02_Syndromes (k : Nat) (p0a : Option Addr) (p0n : Nat) (p0c : Nat) (m : Mem) : Option (Sl × Mem) :=
  patinaref02_Syndromes_l0 k (fun y3a y3n y3c m6 => 
  some ((⟨y3a, y3n, y3c⟩ : Sl), m6)) k p0a p0n p0c none 0 0 1 0 m

def patinaref02_Syndromes_call {R : Type} (k : Nat) : Fun R := callCons 44 (patinaref01_Mul_arm k) (callCons 62 (patinaref01_Eval_arm k) (callNil))

theorem patinaref02_Syndromes_callOk {R : Type} (k : Nat) : CallOk Try.prog (patinaref02_Syndromes_call (R := R) k) := callOk_cons (patinaref01_Mul_armOk k) (callOk_cons (patinaref01_Eval_armOk k) (callOk_nil))

def patinaref02_Syndromes_l0_L (k : Nat) (K : Nat → List Value → Mem → Option (Sl × Mem)) (n : Nat) (vs : List Value) (m : Mem) : Option (Sl × Mem) := match vs with
  | [.slice x0a x0n x0c, .slice x3a x3n x3c, .int .u8 x4, .int .i64 x5] => patinaref02_Syndromes_l0 k (fun y3a y3n y3c m => K 2 [(Value.slice y3a y3n y3c)] m) n x0a x0n x0c x3a x3n x3c x4 x5 m
  | _ => none

def patinaref02_Syndromes_loop (k : Nat) : Nat → List Value → Mem → (Nat → List Value → Mem → Option (Sl × Mem)) → Option (Sl × Mem) := fun cur vs m K => match cur with
  | 0 => patinaref02_Syndromes_l0_L k K k vs m
  | _ => none

def patinaref02_Syndromes_C (k : Nat) : Ctx (Sl × Mem) := ⟨tt, patinaref02_Syndromes_call k, patinaref02_Syndromes_loop k, [(0, [0, 3, 4, 5])], [(2, [3])]⟩

noncomputable def patinaref02_Syndromes_l0_c : Code := ((loopsOf 0 (body Try.f50)).map (·.2)).getD 0 .skip

theorem patinaref02_Syndromes_loops : loopsOf 0 (body Try.f50) = [(0, patinaref02_Syndromes_l0_c)] := by kernel_rfl

theorem patinaref02_Syndromes_l0_ok (k : Nat) : LoopOk (patinaref02_Syndromes_C k) 0 patinaref02_Syndromes_l0_c := by
  refine ⟨[0, 3, 4, 5], by kernel_rfl, fun K r => ⟨patinaref02_Syndromes_l0_L k K, fun vs m h => ⟨k, h⟩, ?_⟩⟩
  intro n vs m h
  unfold patinaref02_Syndromes_l0_L at h
  split at h
  · cases n with
    | zero => cases h
    | succ n => exact ⟨n, rfl, Eq.trans (by kernel_rfl) h⟩
  · cases h

def patinaref02_Syndromes_dec : Value → Mem → Option (Sl × Mem) := fun v m => match v with
  | .slice q0a q0n q0c => some ((⟨q0a, q0n, q0c⟩ : Sl), m)
  | _ => none

theorem patinaref02_Syndromes_eq (k : Nat) (p0a : Option Addr) (p0n : Nat) (p0c : Nat) (m : Mem) : fnX (patinaref02_Syndromes_C k) Try.f50 [(Value.slice p0a p0n p0c)] m patinaref02_Syndromes_dec = patinaref02_Syndromes k p0a p0n p0c m := by kernel_rfl

theorem patinaref02_Syndromes_ok {k : Nat} {p0a : Option Addr} {p0n : Nat} {p0c : Nat} {m : Mem} {r : (Sl × Mem)} (h : patinaref02_Syndromes k p0a p0n p0c m = some r) : CallP Try.prog 50 [(Value.slice p0a p0n p0c)] m fun v m' => v = (Value.slice r.1.a r.1.len r.1.cap) ∧ m' = r.2 := by
  refine (fn_sound (C := patinaref02_Syndromes_C k) (c := body Try.f50) tOk mixed (patinaref02_Syndromes_callOk k) Try.func50 (by kernel_rfl) (by kernel_rfl) (by kernel_rfl) (by kernel_rfl) ?_ ?_ (Eq.trans (patinaref02_Syndromes_eq k p0a p0n p0c m) h)).mono ?_
  · intro p hp
    rw [patinaref02_Syndromes_loops] at hp
    simp only [List.mem_cons, List.not_mem_nil, or_false] at hp
    rcases hp with rfl
    · exact patinaref02_Syndromes_l0_ok k
  · intro p hp; rw [show rangesOf 0 (body Try.f50) = [] by kernel_rfl] at hp; cases hp
  · intro v m' hp
    unfold patinaref02_Syndromes_dec at hp
    split at hp
    · simp only [Option.some.injEq] at hp; subst hp; exact ⟨rfl, rfl⟩
    · cases hp

def patinaref02_Syndromes_arm {R : Type} (k : Nat) : Arm R := fun vs m K => match vs with
  | [.slice p0a p0n p0c] => (patinaref02_Syndromes k p0a p0n p0c m).bind fun r => K (Value.slice r.1.a r.1.len r.1.cap) r.2
  | _ => none

theorem patinaref02_Syndromes_armOk {R : Type} (k : Nat) : ArmOk Try.prog 50 (patinaref02_Syndromes_arm (R := R) k) := by
  intro vs m K r h
  unfold patinaref02_Syndromes_arm at h
  split at h
  · obtain ⟨r, h1, h2⟩ := Option.bind_eq_some_iff.1 h; exact ⟨_, _, h2, fun K' => by simp only [patinaref02_Syndromes_arm, h1, Option.bind_some], patinaref02_Syndromes_ok h1⟩
  · cases h

/-! ### patinaref02_turned -/
def patinaref02_turned (k : Nat) (p0a : Option Addr) (p0n : Nat) (p0c : Nat) (p1 : Int) (p2 : Int) (p3 : Int) (p4 : Int) (m : Mem) : Option (Sl × Mem) :=
  (rdSl m p0a p0n 1).bind fun l1 =>
  (appM 1 1 m none 0 0 p0n l1).bind fun r2 =>
  bif inRange p2 r2.1.len then (
  (r2.1.a).bind fun a3 =>
  (ldInt .u8 r2.2 (plus a3 (Int.toNat p2 * 1))).bind fun t4 =>
  bif inRange p2 r2.1.len then (
  (r2.1.a).bind fun a5 =>
  (st r2.2 (plus a5 (Int.toNat p2 * 1)) (Value.int .u8 (bitI .xor .u8 t4 p1))).bind fun m6 =>
  bif inRange p4 r2.1.len then (
  (r2.1.a).bind fun a7 =>
  (ldInt .u8 m6 (plus a7 (Int.toNat p4 * 1))).bind fun t8 =>
  bif inRange p4 r2.1.len then (
  (r2.1.a).bind fun a9 =>
  (st m6 (plus a9 (Int.toNat p4 * 1)) (Value.int .u8 (bitI .xor .u8 t8 p3))).bind fun m10 =>
  bif inUpto 58 r2.1.cap then (
  some ((⟨(sliceK.clear r2.1.a false), (Int.toNat 58), r2.1.cap⟩ : Sl), m10)) else none) else none) else none) else none) else none

def patinaref02_turned_call {R : Type} (k : Nat) : Fun R := callNil

theorem patinaref02_turned_callOk {R : Type} (k : Nat) : CallOk Try.prog (patinaref02_turned_call (R := R) k) := callOk_nil

def patinaref02_turned_loop (k : Nat) : Nat → List Value → Mem → (Nat → List Value → Mem → Option (Sl × Mem)) → Option (Sl × Mem) := fun _ _ _ _ => none

def patinaref02_turned_C (k : Nat) : Ctx (Sl × Mem) := ⟨tt, patinaref02_turned_call k, patinaref02_turned_loop k, [], []⟩

def patinaref02_turned_dec : Value → Mem → Option (Sl × Mem) := fun v m => match v with
  | .slice q0a q0n q0c => some ((⟨q0a, q0n, q0c⟩ : Sl), m)
  | _ => none

theorem patinaref02_turned_eq (k : Nat) (p0a : Option Addr) (p0n : Nat) (p0c : Nat) (p1 : Int) (p2 : Int) (p3 : Int) (p4 : Int) (m : Mem) : fnX (patinaref02_turned_C k) Try.f51 [(Value.slice p0a p0n p0c), (Value.int .u8 p1), (Value.int .i64 p2), (Value.int .u8 p3), (Value.int .i64 p4)] m patinaref02_turned_dec = patinaref02_turned k p0a p0n p0c p1 p2 p3 p4 m := by kernel_rfl

theorem patinaref02_turned_ok {k : Nat} {p0a : Option Addr} {p0n : Nat} {p0c : Nat} {p1 : Int} {p2 : Int} {p3 : Int} {p4 : Int} {m : Mem} {r : (Sl × Mem)} (h : patinaref02_turned k p0a p0n p0c p1 p2 p3 p4 m = some r) : CallP Try.prog 51 [(Value.slice p0a p0n p0c), (Value.int .u8 p1), (Value.int .i64 p2), (Value.int .u8 p3), (Value.int .i64 p4)] m fun v m' => v = (Value.slice r.1.a r.1.len r.1.cap) ∧ m' = r.2 := by
  refine (fn_sound (C := patinaref02_turned_C k) (c := body Try.f51) tOk mixed (patinaref02_turned_callOk k) Try.func51 (by kernel_rfl) (by kernel_rfl) (by kernel_rfl) (by kernel_rfl) ?_ ?_ (Eq.trans (patinaref02_turned_eq k p0a p0n p0c p1 p2 p3 p4 m) h)).mono ?_
  · intro p hp; rw [show loopsOf 0 (body Try.f51) = [] by kernel_rfl] at hp; cases hp
  · intro p hp; rw [show rangesOf 0 (body Try.f51) = [] by kernel_rfl] at hp; cases hp
  · intro v m' hp
    unfold patinaref02_turned_dec at hp
    split at hp
    · simp only [Option.some.injEq] at hp; subst hp; exact ⟨rfl, rfl⟩
    · cases hp

def patinaref02_turned_arm {R : Type} (k : Nat) : Arm R := fun vs m K => match vs with
  | [.slice p0a p0n p0c, .int .u8 p1, .int .i64 p2, .int .u8 p3, .int .i64 p4] => (patinaref02_turned k p0a p0n p0c p1 p2 p3 p4 m).bind fun r => K (Value.slice r.1.a r.1.len r.1.cap) r.2
  | _ => none

theorem patinaref02_turned_armOk {R : Type} (k : Nat) : ArmOk Try.prog 51 (patinaref02_turned_arm (R := R) k) := by
  intro vs m K r h
  unfold patinaref02_turned_arm at h
  split at h
  · obtain ⟨r, h1, h2⟩ := Option.bind_eq_some_iff.1 h; exact ⟨_, _, h2, fun K' => by simp only [patinaref02_turned_arm, h1, Option.bind_some], patinaref02_turned_ok h1⟩
  · cases h

/-! ### patinaref02_tables -/
def patinaref02_tables_l0_b (k : Nat) (nx : Option Addr → Nat → Nat → Option Addr → Nat → Nat → Int → Int → Mem → Option (Sl × Sl × Mem)) (kx2 : Option Addr → Nat → Nat → Option Addr → Nat → Nat → Mem → Option (Sl × Sl × Mem)) (x2a : Option Addr) (x2n : Nat) (x2c : Nat) (x3a : Option Addr) (x3n : Nat) (x3c : Nat) (x4 : Int) (x5 : Int) (m : Mem) : Option (Sl × Sl × Mem) :=
  bif decide (x5 < 255) then (
  bif inRange x5 x2n then (
  (x2a).bind fun a3 =>
  (st m (plus a3 (Int.toNat x5 * 1)) (Value.int .u8 x4)).bind fun m4 =>
  bif inRange (IntKind.wrap .i64 x4) x3n then (
  (x3a).bind fun a5 =>
  (st m4 (plus a5 (Int.toNat (IntKind.wrap .i64 x4) * 1)) (Value.int .i64 x5)).bind fun m6 =>
  (patinaref01_Mul k x4 2 m6).bind fun r7 =>
  nx x2a x2n x2c x3a x3n x3c r7.1 (IntKind.wrap .i64 (x5 + 1)) r7.2) else none) else none) else (
  kx2 x2a x2n x2c x3a x3n x3c m)

def patinaref02_tables_l0 (k : Nat) (kx2 : Option Addr → Nat → Nat → Option Addr → Nat → Nat → Mem → Option (Sl × Sl × Mem)) : Nat → Option Addr → Nat → Nat → Option Addr → Nat → Nat → Int → Int → Mem → Option (Sl × Sl × Mem)
  | 0, _, _, _, _, _, _, _, _, _ => none
  | n + 1, x2a, x2n, x2c, x3a, x3n, x3c, x4, x5, m => patinaref02_tables_l0_b k (fun x2a x2n x2c x3a x3n x3c x4 x5 m => patinaref02_tables_l0 k kx2 n x2a x2n x2c x3a x3n x3c x4 x5 m) kx2 x2a x2n x2c x3a x3n x3c x4 x5 m
termination_by structural x => x

theorem patinaref02_tables_l0_rule (k : Nat) (kx2 : Option Addr → Nat → Nat → Option Addr → Nat → Nat → Mem → Option (Sl × Sl × Mem)) {P : (Sl × Sl × Mem) → Prop} (I : Nat → Option Addr → Nat → Nat → Option Addr → Nat → Nat → Int → Int → Mem → Prop)
    (step : ∀ d (nx : Option Addr → Nat → Nat → Option Addr → Nat → Nat → Int → Int → Mem → Option (Sl × Sl × Mem)) (x2a : Option Addr) (x2n : Nat) (x2c : Nat) (x3a : Option Addr) (x3n : Nat) (x3c : Nat) (x4 : Int) (x5 : Int) (m : Mem), I d x2a x2n x2c x3a x3n x3c x4 x5 m → (∀ d' (x2a : Option Addr) (x2n : Nat) (x2c : Nat) (x3a : Option Addr) (x3n : Nat) (x3c : Nat) (x4 : Int) (x5 : Int) (m : Mem), d' < d → I d' x2a x2n x2c x3a x3n x3c x4 x5 m → Ok (nx x2a x2n x2c x3a x3n x3c x4 x5 m) P) → Ok (patinaref02_tables_l0_b k nx kx2 x2a x2n x2c x3a x3n x3c x4 x5 m) P) :
    ∀ n d (x2a : Option Addr) (x2n : Nat) (x2c : Nat) (x3a : Option Addr) (x3n : Nat) (x3c : Nat) (x4 : Int) (x5 : Int) (m : Mem), d < n → I d x2a x2n x2c x3a x3n x3c x4 x5 m → Ok (patinaref02_tables_l0 k kx2 n x2a x2n x2c x3a x3n x3c x4 x5 m) P
  | 0, d, x2a, x2n, x2c, x3a, x3n, x3c, x4, x5, m, h, _ => absurd h (Nat.not_lt_zero _)
  | n + 1, d, x2a, x2n, x2c, x3a, x3n, x3c, x4, x5, m, h, hI => step d _ x2a x2n x2c x3a x3n x3c x4 x5 m hI fun d' x2a x2n x2c x3a x3n x3c x4 x5 m h' hI' => patinaref02_tables_l0_rule k kx2 I step n d' x2a x2n x2c x3a x3n x3c x4 x5 m (by omega) hI'

def patinaref02_tables (k : Nat) (m : Mem) : Option (Sl × Sl × Mem) :=
  let m1 : Mem := m ++ [.live (repl (Int.toNat 255) [.int .u8 0])]
  let m2 : Mem := m1 ++ [.live (repl (Int.toNat 256) [.int .i64 0])]
  patinaref02_tables_l0 k (fun y2a y2n y2c y3a y3n y3c m8 => 
  some ((⟨y2a, y2n, y2c⟩ : Sl), (⟨y3a, y3n, y3c⟩ : Sl), m8)) k (some ⟨List.length m, 0, Option.none⟩) (Int.toNat 255) (Int.toNat 255) (some ⟨List.length m1, 0, Option.none⟩) (Int.toNat 256) (Int.toNat 256) 1 0 m2

def patinaref02_tables_call {R : Type} (k : Nat) : Fun R := callCons 44 (patinaref01_Mul_arm k) (callNil)

theorem patinaref02_tables_callOk {R : Type} (k : Nat) : CallOk Try.prog (patinaref02_tables_call (R := R) k) := callOk_cons (patinaref01_Mul_armOk k) (callOk_nil)

def patinaref02_tables_l0_L (k : Nat) (K : Nat → List Value → Mem → Option (Sl × Sl × Mem)) (n : Nat) (vs : List Value) (m : Mem) : Option (Sl × Sl × Mem) := match vs with
  | [.slice x2a x2n x2c, .slice x3a x3n x3c, .int .u8 x4, .int .i64 x5] => patinaref02_tables_l0 k (fun y2a y2n y2c y3a y3n y3c m => K 2 [(Value.slice y2a y2n y2c), (Value.slice y3a y3n y3c)] m) n x2a x2n x2c x3a x3n x3c x4 x5 m
  | _ => none

def patinaref02_tables_loop (k : Nat) : Nat → List Value → Mem → (Nat → List Value → Mem → Option (Sl × Sl × Mem)) → Option (Sl × Sl × Mem) := fun cur vs m K => match cur with
  | 0 => patinaref02_tables_l0_L k K k vs m
  | _ => none

def patinaref02_tables_C (k : Nat) : Ctx (Sl × Sl × Mem) := ⟨tt, patinaref02_tables_call k, patinaref02_tables_loop k, [(0, [2, 3, 4, 5])], [(2, [2, 3])]⟩

noncomputable def patinaref02_tables_l0_c : Code := ((loopsOf 0 (body Try.f52)).map (·.2)).getD 0 .skip

theorem patinaref02_tables_loops : loopsOf 0 (body Try.f52) = [(0, patinaref02_tables_l0_c)] := by kernel_rfl

theorem patinaref02_tables_l0_ok (k : Nat) : LoopOk (patinaref02_tables_C k) 0 patinaref02_tables_l0_c := by
  refine ⟨[2, 3, 4, 5], by kernel_rfl, fun K r => ⟨patinaref02_tables_l0_L k K, fun vs m h => ⟨k, h⟩, ?_⟩⟩
  intro n vs m h
  unfold patinaref02_tables_l0_L at h
  split at h
  · cases n with
    | zero => cases h
    | succ n => exact ⟨n, rfl, Eq.trans (by kernel_rfl) h⟩
  · cases h

def patinaref02_tables_dec : Value → Mem → Option (Sl × Sl × Mem) := fun v m => match v with
  | .tuple ⟨[.slice q0a q0n q0c, .slice q1a q1n q1c]⟩ => some ((⟨q0a, q0n, q0c⟩ : Sl), (⟨q1a, q1n, q1c⟩ : Sl), m)
  | _ => none

theorem patinaref02_tables_eq (k : Nat) (m : Mem) : fnX (patinaref02_tables_C k) Try.f52 [] m patinaref02_tables_dec = patinaref02_tables k  m := by kernel_rfl

theorem patinaref02_tables_ok {k : Nat} {m : Mem} {r : (Sl × Sl × Mem)} (h : patinaref02_tables k  m = some r) : CallP Try.prog 52 [] m fun v m' => v = (Value.tuple ⟨[(Value.slice r.1.a r.1.len r.1.cap), (Value.slice r.2.1.a r.2.1.len r.2.1.cap)]⟩) ∧ m' = r.2.2 := by
  refine (fn_sound (C := patinaref02_tables_C k) (c := body Try.f52) tOk mixed (patinaref02_tables_callOk k) Try.func52 (by kernel_rfl) (by kernel_rfl) (by kernel_rfl) (by kernel_rfl) ?_ ?_ (Eq.trans (patinaref02_tables_eq k  m) h)).mono ?_
  · intro p hp
    rw [patinaref02_tables_loops] at hp
    simp only [List.mem_cons, List.not_mem_nil, or_false] at hp
    rcases hp with rfl
    · exact patinaref02_tables_l0_ok k
  · intro p hp; rw [show rangesOf 0 (body Try.f52) = [] by kernel_rfl] at hp; cases hp
  · intro v m' hp
    unfold patinaref02_tables_dec at hp
    split at hp
    · simp only [Option.some.injEq] at hp; subst hp; exact ⟨rfl, rfl⟩
    · cases hp

def patinaref02_tables_arm {R : Type} (k : Nat) : Arm R := fun vs m K => match vs with
  | [] => (patinaref02_tables k  m).bind fun r => K (Value.tuple ⟨[(Value.slice r.1.a r.1.len r.1.cap), (Value.slice r.2.1.a r.2.1.len r.2.1.cap)]⟩) r.2.2
  | _ => none

theorem patinaref02_tables_armOk {R : Type} (k : Nat) : ArmOk Try.prog 52 (patinaref02_tables_arm (R := R) k) := by
  intro vs m K r h
  unfold patinaref02_tables_arm at h
  split at h
  · obtain ⟨r, h1, h2⟩ := Option.bind_eq_some_iff.1 h; exact ⟨_, _, h2, fun K' => by simp only [patinaref02_tables_arm, h1, Option.bind_some], patinaref02_tables_ok h1⟩
  · cases h

/-! ### patinaref02_fits -/
def patinaref02_fits_j2 (k : Nat) (x0a : Option Addr) (x0n : Nat) (x0c : Nat) (x1a : Option Addr) (x1n : Nat) (x1c : Nat) (x2a : Option Addr) (x2n : Nat) (x2c : Nat) (x3 : Int) (x4 : Int) (x5 : Int) (x6 : Int) (x15 : Int) (nx : Option Addr → Nat → Nat → Option Addr → Nat → Nat → Option Addr → Nat → Nat → Int → Int → Int → Int → Int → Mem → Option (Bool × Mem)) (kx0 : Bool → Mem → Option (Bool × Mem)) (x16_ : Int) (mj : Mem) : Option (Bool × Mem) :=
  bif inRange x15 x0n then (
  (x0a).bind fun a1 =>
  (ldInt .u8 mj (plus a1 (Int.toNat x15 * 1))).bind fun t2 =>
  bif x16_ != t2 then (
  kx0 false mj) else (
  nx x0a x0n x0c x1a x1n x1c x2a x2n x2c x3 x4 x5 x6 (IntKind.wrap .i64 (x15 + 1)) mj)) else none

def patinaref02_fits_j1 (k : Nat) (x0a : Option Addr) (x0n : Nat) (x0c : Nat) (x1a : Option Addr) (x1n : Nat) (x1c : Nat) (x2a : Option Addr) (x2n : Nat) (x2c : Nat) (x3 : Int) (x4 : Int) (x5 : Int) (x6 : Int) (x15 : Int) (nx : Option Addr → Nat → Nat → Option Addr → Nat → Nat → Option Addr → Nat → Nat → Int → Int → Int → Int → Int → Mem → Option (Bool × Mem)) (kx0 : Bool → Mem → Option (Bool × Mem)) (x16_ : Int) (mj : Mem) : Option (Bool × Mem) :=
  bif x5 != 0 then (
  bif inRange (IntKind.wrap .i64 x5) x2n then (
  (x2a).bind fun a3 =>
  (ldInt .i64 mj (plus a3 (Int.toNat (IntKind.wrap .i64 x5) * 1))).bind fun t4 =>
  bif inRange (Int.tmod (IntKind.wrap .i64 (t4 + (IntKind.wrap .i64 (x15 * x6)))) 255) x1n then (
  (x1a).bind fun a5 =>
  (ldInt .u8 mj (plus a5 (Int.toNat (Int.tmod (IntKind.wrap .i64 (t4 + (IntKind.wrap .i64 (x15 * x6)))) 255) * 1))).bind fun t6 =>
  patinaref02_fits_j2 k x0a x0n x0c x1a x1n x1c x2a x2n x2c x3 x4 x5 x6 x15 nx kx0 (bitI .xor .u8 x16_ t6) mj) else none) else none) else (
  patinaref02_fits_j2 k x0a x0n x0c x1a x1n x1c x2a x2n x2c x3 x4 x5 x6 x15 nx kx0 x16_ mj)

def patinaref02_fits_l0_b (k : Nat) (nx : Option Addr → Nat → Nat → Option Addr → Nat → Nat → Option Addr → Nat → Nat → Int → Int → Int → Int → Int → Mem → Option (Bool × Mem)) (kx0 : Bool → Mem → Option (Bool × Mem)) (kx2 : Mem → Option (Bool × Mem)) (x0a : Option Addr) (x0n : Nat) (x0c : Nat) (x1a : Option Addr) (x1n : Nat) (x1c : Nat) (x2a : Option Addr) (x2n : Nat) (x2c : Nat) (x3 : Int) (x4 : Int) (x5 : Int) (x6 : Int) (x15 : Int) (m : Mem) : Option (Bool × Mem) :=
  bif decide (x15 < ((x0n : Nat) : Int)) then (
  bif x3 != 0 then (
  bif inRange (IntKind.wrap .i64 x3) x2n then (
  (x2a).bind fun a7 =>
  (ldInt .i64 m (plus a7 (Int.toNat (IntKind.wrap .i64 x3) * 1))).bind fun t8 =>
  bif inRange (Int.tmod (IntKind.wrap .i64 (t8 + (IntKind.wrap .i64 (x15 * x4)))) 255) x1n then (
  (x1a).bind fun a9 =>
  (ldInt .u8 m (plus a9 (Int.toNat (Int.tmod (IntKind.wrap .i64 (t8 + (IntKind.wrap .i64 (x15 * x4)))) 255) * 1))).bind fun t10 =>
  patinaref02_fits_j1 k x0a x0n x0c x1a x1n x1c x2a x2n x2c x3 x4 x5 x6 x15 nx kx0 (bitI .xor .u8 0 t10) m) else none) else none) else (
  patinaref02_fits_j1 k x0a x0n x0c x1a x1n x1c x2a x2n x2c x3 x4 x5 x6 x15 nx kx0 0 m)) else (
  kx2  m)

def patinaref02_fits_l0 (k : Nat) (kx0 : Bool → Mem → Option (Bool × Mem)) (kx2 : Mem → Option (Bool × Mem)) : Nat → Option Addr → Nat → Nat → Option Addr → Nat → Nat → Option Addr → Nat → Nat → Int → Int → Int → Int → Int → Mem → Option (Bool × Mem)
  | 0, _, _, _, _, _, _, _, _, _, _, _, _, _, _, _ => none
  | n + 1, x0a, x0n, x0c, x1a, x1n, x1c, x2a, x2n, x2c, x3, x4, x5, x6, x15, m => patinaref02_fits_l0_b k (fun x0a x0n x0c x1a x1n x1c x2a x2n x2c x3 x4 x5 x6 x15 m => patinaref02_fits_l0 k kx0 kx2 n x0a x0n x0c x1a x1n x1c x2a x2n x2c x3 x4 x5 x6 x15 m) kx0 kx2 x0a x0n x0c x1a x1n x1c x2a x2n x2c x3 x4 x5 x6 x15 m
termination_by structural x => x

theorem patinaref02_fits_l0_rule (k : Nat) (kx0 : Bool → Mem → Option (Bool × Mem)) (kx2 : Mem → Option (Bool × Mem)) {P : (Bool × Mem) → Prop} (I : Nat → Option Addr → Nat → Nat → Option Addr → Nat → Nat → Option Addr → Nat → Nat → Int → Int → Int → Int → Int → Mem → Prop)
    (step : ∀ d (nx : Option Addr → Nat → Nat → Option Addr → Nat → Nat → Option Addr → Nat → Nat → Int → Int → Int → Int → Int → Mem → Option (Bool × Mem)) (x0a : Option Addr) (x0n : Nat) (x0c : Nat) (x1a : Option Addr) (x1n : Nat) (x1c : Nat) (x2a : Option Addr) (x2n : Nat) (x2c : Nat) (x3 : Int) (x4 : Int) (x5 : Int) (x6 : Int) (x15 : Int) (m : Mem), I d x0a x0n x0c x1a x1n x1c x2a x2n x2c x3 x4 x5 x6 x15 m → (∀ d' (x0a : Option Addr) (x0n : Nat) (x0c : Nat) (x1a : Option Addr) (x1n : Nat) (x1c : Nat) (x2a : Option Addr) (x2n : Nat) (x2c : Nat) (x3 : Int) (x4 : Int) (x5 : Int) (x6 : Int) (x15 : Int) (m : Mem), d' < d → I d' x0a x0n x0c x1a x1n x1c x2a x2n x2c x3 x4 x5 x6 x15 m → Ok (nx x0a x0n x0c x1a x1n x1c x2a x2n x2c x3 x4 x5 x6 x15 m) P) → Ok (patinaref02_fits_l0_b k nx kx0 kx2 x0a x0n x0c x1a x1n x1c x2a x2n x2c x3 x4 x5 x6 x15 m) P) :
    ∀ n d (x0a : Option Addr) (x0n : Nat) (x0c : Nat) (x1a : Option Addr) (x1n : Nat) (x1c : Nat) (x2a : Option Addr) (x2n : Nat) (x2c : Nat) (x3 : Int) (x4 : Int) (x5 : Int) (x6 : Int) (x15 : Int) (m : Mem), d < n → I d x0a x0n x0c x1a x1n x1c x2a x2n x2c x3 x4 x5 x6 x15 m → Ok (patinaref02_fits_l0 k kx0 kx2 n x0a x0n x0c x1a x1n x1c x2a x2n x2c x3 x4 x5 x6 x15 m) P
  | 0, d, x0a, x0n, x0c, x1a, x1n, x1c, x2a, x2n, x2c, x3, x4, x5, x6, x15, m, h, _ => absurd h (Nat.not_lt_zero _)
  | n + 1, d, x0a, x0n, x0c, x1a, x1n, x1c, x2a, x2n, x2c, x3, x4, x5, x6, x15, m, h, hI => step d _ x0a x0n x0c x1a x1n x1c x2a x2n x2c x3 x4 x5 x6 x15 m hI fun d' x0a x0n x0c x1a x1n x1c x2a x2n x2c x3 x4 x5 x6 x15 m h' hI' => patinaref02_fits_l0_rule k kx0 kx2 I step n d' x0a x0n x0c x1a x1n x1c x2a x2n x2c x3 x4 x5 x6 x15 m (by omega) hI'

def patinaref02_fits (k : Nat) (p0a : Option Addr) (p0n : Nat) (p0c : Nat) (p1a : Option Addr) (p1n : Nat) (p1c : Nat) (p2a : Option Addr) (p2n : Nat) (p2c : Nat) (p3 : Int) (p4 : Int) (p5 : Int) (p6 : Int) (m : Mem) : Option (Bool × Mem) :=
  patinaref02_fits_l0 k (fun y14 m11 => 
  some (y14, m11)) (fun m12 => 
  some (true, m12)) k p0a p0n p0c p1a p1n p1c p2a p2n p2c p3 p4 p5 p6 0 m

def patinaref02_fits_call {R : Type} (k : Nat) : Fun R := callNil

theorem patinaref02_fits_callOk {R : Type} (k : Nat) : CallOk Try.prog (patinaref02_fits_call (R := R) k) := callOk_nil

def patinaref02_fits_l0_L (k : Nat) (K : Nat → List Value → Mem → Option (Bool × Mem)) (n : Nat) (vs : List Value) (m : Mem) : Option (Bool × Mem) := match vs with
  | [.slice x0a x0n x0c, .slice x1a x1n x1c, .slice x2a x2n x2c, .int .u8 x3, .int .i64 x4, .int .u8 x5, .int .i64 x6, .int .i64 x15] => patinaref02_fits_l0 k (fun y14 m => K 0 [(Value.bool y14)] m) (fun m => K 2 [] m) n x0a x0n x0c x1a x1n x1c x2a x2n x2c x3 x4 x5 x6 x15 m
  | _ => none

def patinaref02_fits_loop (k : Nat) : Nat → List Value → Mem → (Nat → List Value → Mem → Option (Bool × Mem)) → Option (Bool × Mem) := fun cur vs m K => match cur with
  | 0 => patinaref02_fits_l0_L k K k vs m
  | _ => none

def patinaref02_fits_C (k : Nat) : Ctx (Bool × Mem) := ⟨tt, patinaref02_fits_call k, patinaref02_fits_loop k, [(0, [0, 1, 2, 3, 4, 5, 6, 15])], [(0, [14]), (2, [])]⟩

noncomputable def patinaref02_fits_l0_c : Code := ((loopsOf 0 (body Try.f53)).map (·.2)).getD 0 .skip

theorem patinaref02_fits_loops : loopsOf 0 (body Try.f53) = [(0, patinaref02_fits_l0_c)] := by kernel_rfl

theorem patinaref02_fits_l0_ok (k : Nat) : LoopOk (patinaref02_fits_C k) 0 patinaref02_fits_l0_c := by
  refine ⟨[0, 1, 2, 3, 4, 5, 6, 15], by kernel_rfl, fun K r => ⟨patinaref02_fits_l0_L k K, fun vs m h => ⟨k, h⟩, ?_⟩⟩
  intro n vs m h
  unfold patinaref02_fits_l0_L at h
  split at h
  · cases n with
    | zero => cases h
    | succ n => exact ⟨n, rfl, Eq.trans (by kernel_rfl) h⟩
  · cases h

def patinaref02_fits_dec : Value → Mem → Option (Bool × Mem) := fun v m => match v with
  | .bool q0 => some (q0, m)
  | _ => none

theorem patinaref02_fits_eq (k : Nat) (p0a : Option Addr) (p0n : Nat) (p0c : Nat) (p1a : Option Addr) (p1n : Nat) (p1c : Nat) (p2a : Option Addr) (p2n : Nat) (p2c : Nat) (p3 : Int) (p4 : Int) (p5 : Int) (p6 : Int) (m : Mem) : fnX (patinaref02_fits_C k) Try.f53 [(Value.slice p0a p0n p0c), (Value.slice p1a p1n p1c), (Value.slice p2a p2n p2c), (Value.int .u8 p3), (Value.int .i64 p4), (Value.int .u8 p5), (Value.int .i64 p6)] m patinaref02_fits_dec = patinaref02_fits k p0a p0n p0c p1a p1n p1c p2a p2n p2c p3 p4 p5 p6 m := by kernel_rfl

theorem patinaref02_fits_ok {k : Nat} {p0a : Option Addr} {p0n : Nat} {p0c : Nat} {p1a : Option Addr} {p1n : Nat} {p1c : Nat} {p2a : Option Addr} {p2n : Nat} {p2c : Nat} {p3 : Int} {p4 : Int} {p5 : Int} {p6 : Int} {m : Mem} {r : (Bool × Mem)} (h : patinaref02_fits k p0a p0n p0c p1a p1n p1c p2a p2n p2c p3 p4 p5 p6 m = some r) : CallP Try.prog 53 [(Value.slice p0a p0n p0c), (Value.slice p1a p1n p1c), (Value.slice p2a p2n p2c), (Value.int .u8 p3), (Value.int .i64 p4), (Value.int .u8 p5), (Value.int .i64 p6)] m fun v m' => v = (Value.bool r.1) ∧ m' = r.2 := by
  refine (fn_sound (C := patinaref02_fits_C k) (c := body Try.f53) tOk mixed (patinaref02_fits_callOk k) Try.func53 (by kernel_rfl) (by kernel_rfl) (by kernel_rfl) (by kernel_rfl) ?_ ?_ (Eq.trans (patinaref02_fits_eq k p0a p0n p0c p1a p1n p1c p2a p2n p2c p3 p4 p5 p6 m) h)).mono ?_
  · intro p hp
    rw [patinaref02_fits_loops] at hp
    simp only [List.mem_cons, List.not_mem_nil, or_false] at hp
    rcases hp with rfl
    · exact patinaref02_fits_l0_ok k
  · intro p hp; rw [show rangesOf 0 (body Try.f53) = [] by kernel_rfl] at hp; cases hp
  · intro v m' hp
    unfold patinaref02_fits_dec at hp
    split at hp
    · simp only [Option.some.injEq] at hp; subst hp; exact ⟨rfl, rfl⟩
    · cases hp

def patinaref02_fits_arm {R : Type} (k : Nat) : Arm R := fun vs m K => match vs with
  | [.slice p0a p0n p0c, .slice p1a p1n p1c, .slice p2a p2n p2c, .int .u8 p3, .int .i64 p4, .int .u8 p5, .int .i64 p6] => (patinaref02_fits k p0a p0n p0c p1a p1n p1c p2a p2n p2c p3 p4 p5 p6 m).bind fun r => K (Value.bool r.1) r.2
  | _ => none

theorem patinaref02_fits_armOk {R : Type} (k : Nat) : ArmOk Try.prog 53 (patinaref02_fits_arm (R := R) k) := by
  intro vs m K r h
  unfold patinaref02_fits_arm at h
  split at h
  · obtain ⟨r, h1, h2⟩ := Option.bind_eq_some_iff.1 h; exact ⟨_, _, h2, fun K' => by simp only [patinaref02_fits_arm, h1, Option.bind_some], patinaref02_fits_ok h1⟩
  · cases h

/-! ### patinaref02_over -/
def patinaref02_over (k : Nat) (p0a : Option Addr) (p0n : Nat) (p0c : Nat) (p1a : Option Addr) (p1n : Nat) (p1c : Nat) (p2 : Int) (p3 : Int) (m : Mem) : Option (Int × Mem) :=
  bif p2 == 0 then (
  some (0, m)) else (
  bif inRange (IntKind.wrap .i64 p2) p1n then (
  (p1a).bind fun a1 =>
  (ldInt .i64 m (plus a1 (Int.toNat (IntKind.wrap .i64 p2) * 1))).bind fun t2 =>
  bif inRange (IntKind.wrap .i64 p3) p1n then (
  (p1a).bind fun a3 =>
  (ldInt .i64 m (plus a3 (Int.toNat (IntKind.wrap .i64 p3) * 1))).bind fun t4 =>
  bif inRange (Int.tmod (IntKind.wrap .i64 ((IntKind.wrap .i64 (t2 - t4)) + 255)) 255) p0n then (
  (p0a).bind fun a5 =>
  (ldInt .u8 m (plus a5 (Int.toNat (Int.tmod (IntKind.wrap .i64 ((IntKind.wrap .i64 (t2 - t4)) + 255)) 255) * 1))).bind fun t6 =>
  some (t6, m)) else none) else none) else none)

def patinaref02_over_call {R : Type} (k : Nat) : Fun R := callNil

theorem patinaref02_over_callOk {R : Type} (k : Nat) : CallOk Try.prog (patinaref02_over_call (R := R) k) := callOk_nil

def patinaref02_over_loop (k : Nat) : Nat → List Value → Mem → (Nat → List Value → Mem → Option (Int × Mem)) → Option (Int × Mem) := fun _ _ _ _ => none

def patinaref02_over_C (k : Nat) : Ctx (Int × Mem) := ⟨tt, patinaref02_over_call k, patinaref02_over_loop k, [], []⟩

def patinaref02_over_dec : Value → Mem → Option (Int × Mem) := fun v m => match v with
  | .int .u8 q0 => some (q0, m)
  | _ => none

theorem patinaref02_over_eq (k : Nat) (p0a : Option Addr) (p0n : Nat) (p0c : Nat) (p1a : Option Addr) (p1n : Nat) (p1c : Nat) (p2 : Int) (p3 : Int) (m : Mem) : fnX (patinaref02_over_C k) Try.f54 [(Value.slice p0a p0n p0c), (Value.slice p1a p1n p1c), (Value.int .u8 p2), (Value.int .u8 p3)] m patinaref02_over_dec = patinaref02_over k p0a p0n p0c p1a p1n p1c p2 p3 m := by kernel_rfl

theorem patinaref02_over_ok {k : Nat} {p0a : Option Addr} {p0n : Nat} {p0c : Nat} {p1a : Option Addr} {p1n : Nat} {p1c : Nat} {p2 : Int} {p3 : Int} {m : Mem} {r : (Int × Mem)} (h : patinaref02_over k p0a p0n p0c p1a p1n p1c p2 p3 m = some r) : CallP Try.prog 54 [(Value.slice p0a p0n p0c), (Value.slice p1a p1n p1c), (Value.int .u8 p2), (Value.int .u8 p3)] m fun v m' => v = (Value.int .u8 r.1) ∧ m' = r.2 := by
  refine (fn_sound (C := patinaref02_over_C k) (c := body Try.f54) tOk mixed (patinaref02_over_callOk k) Try.func54 (by kernel_rfl) (by kernel_rfl) (by kernel_rfl) (by kernel_rfl) ?_ ?_ (Eq.trans (patinaref02_over_eq k p0a p0n p0c p1a p1n p1c p2 p3 m) h)).mono ?_
  · intro p hp; rw [show loopsOf 0 (body Try.f54) = [] by kernel_rfl] at hp; cases hp
  · intro p hp; rw [show rangesOf 0 (body Try.f54) = [] by kernel_rfl] at hp; cases hp
  · intro v m' hp
    unfold patinaref02_over_dec at hp
    split at hp
    · simp only [Option.some.injEq] at hp; subst hp; exact ⟨rfl, rfl⟩
    · cases hp

def patinaref02_over_arm {R : Type} (k : Nat) : Arm R := fun vs m K => match vs with
  | [.slice p0a p0n p0c, .slice p1a p1n p1c, .int .u8 p2, .int .u8 p3] => (patinaref02_over k p0a p0n p0c p1a p1n p1c p2 p3 m).bind fun r => K (Value.int .u8 r.1) r.2
  | _ => none

theorem patinaref02_over_armOk {R : Type} (k : Nat) : ArmOk Try.prog 54 (patinaref02_over_arm (R := R) k) := by
  intro vs m K r h
  unfold patinaref02_over_arm at h
  split at h
  · obtain ⟨r, h1, h2⟩ := Option.bind_eq_some_iff.1 h; exact ⟨_, _, h2, fun K' => by simp only [patinaref02_over_arm, h1, Option.bind_some], patinaref02_over_ok h1⟩
  · cases h

/-! ### patinaref02_Decode -/
def patinaref02_Decode_l0_b (k : Nat) (nx : Option Addr → Nat → Nat → Option Addr → Nat → Nat → Option Addr → Nat → Nat → Option Addr → Nat → Nat → Int → Mem → Option (Sl × Int × Bool × Mem)) (kx0 : Option Addr → Nat → Nat → Int → Bool → Mem → Option (Sl × Int × Bool × Mem)) (kx2 : Option Addr → Nat → Nat → Option Addr → Nat → Nat → Option Addr → Nat → Nat → Option Addr → Nat → Nat → Mem → Option (Sl × Int × Bool × Mem)) (x0a : Option Addr) (x0n : Nat) (x0c : Nat) (x5a : Option Addr) (x5n : Nat) (x5c : Nat) (x7a : Option Addr) (x7n : Nat) (x7c : Nat) (x8a : Option Addr) (x8n : Nat) (x8c : Nat) (x9 : Int) (m : Mem) : Option (Sl × Int × Bool × Mem) :=
  bif decide (x9 < 64) then (
  bif inRange 0 x5n then (
  (x5a).bind fun a6 =>
  (ldInt .u8 m (plus a6 (Int.toNat 0 * 1))).bind fun t7 =>
  (patinaref02_fits k x5a x5n x5c x7a x7n x7c x8a x8n x8c t7 (IntKind.wrap .i64 (63 - x9)) 0 0 m).bind fun r8 =>
  bif r8.1 then (
  bif inRange 0 x5n then (
  (x5a).bind fun a9 =>
  (ldInt .u8 r8.2 (plus a9 (Int.toNat 0 * 1))).bind fun t10 =>
  (patinaref02_turned k x0a x0n x0c t10 x9 0 x9 r8.2).bind fun r11 =>
  kx0 r11.1.a r11.1.len r11.1.cap 1 true r11.2) else none) else (
  nx x0a x0n x0c x5a x5n x5c x7a x7n x7c x8a x8n x8c (IntKind.wrap .i64 (x9 + 1)) r8.2)) else none) else (
  kx2 x0a x0n x0c x5a x5n x5c x7a x7n x7c x8a x8n x8c m)

def patinaref02_Decode_l0 (k : Nat) (kx0 : Option Addr → Nat → Nat → Int → Bool → Mem → Option (Sl × Int × Bool × Mem)) (kx2 : Option Addr → Nat → Nat → Option Addr → Nat → Nat → Option Addr → Nat → Nat → Option Addr → Nat → Nat → Mem → Option (Sl × Int × Bool × Mem)) : Nat → Option Addr → Nat → Nat → Option Addr → Nat → Nat → Option Addr → Nat → Nat → Option Addr → Nat → Nat → Int → Mem → Option (Sl × Int × Bool × Mem)
  | 0, _, _, _, _, _, _, _, _, _, _, _, _, _, _ => none
  | n + 1, x0a, x0n, x0c, x5a, x5n, x5c, x7a, x7n, x7c, x8a, x8n, x8c, x9, m => patinaref02_Decode_l0_b k (fun x0a x0n x0c x5a x5n x5c x7a x7n x7c x8a x8n x8c x9 m => patinaref02_Decode_l0 k kx0 kx2 n x0a x0n x0c x5a x5n x5c x7a x7n x7c x8a x8n x8c x9 m) kx0 kx2 x0a x0n x0c x5a x5n x5c x7a x7n x7c x8a x8n x8c x9 m
termination_by structural x => x

theorem patinaref02_Decode_l0_rule (k : Nat) (kx0 : Option Addr → Nat → Nat → Int → Bool → Mem → Option (Sl × Int × Bool × Mem)) (kx2 : Option Addr → Nat → Nat → Option Addr → Nat → Nat → Option Addr → Nat → Nat → Option Addr → Nat → Nat → Mem → Option (Sl × Int × Bool × Mem)) {P : (Sl × Int × Bool × Mem) → Prop} (I : Nat → Option Addr → Nat → Nat → Option Addr → Nat → Nat → Option Addr → Nat → Nat → Option Addr → Nat → Nat → Int → Mem → Prop)
    (step : ∀ d (nx : Option Addr → Nat → Nat → Option Addr → Nat → Nat → Option Addr → Nat → Nat → Option Addr → Nat → Nat → Int → Mem → Option (Sl × Int × Bool × Mem)) (x0a : Option Addr) (x0n : Nat) (x0c : Nat) (x5a : Option Addr) (x5n : Nat) (x5c : Nat) (x7a : Option Addr) (x7n : Nat) (x7c : Nat) (x8a : Option Addr) (x8n : Nat) (x8c : Nat) (x9 : Int) (m : Mem), I d x0a x0n x0c x5a x5n x5c x7a x7n x7c x8a x8n x8c x9 m → (∀ d' (x0a : Option Addr) (x0n : Nat) (x0c : Nat) (x5a : Option Addr) (x5n : Nat) (x5c : Nat) (x7a : Option Addr) (x7n : Nat) (x7c : Nat) (x8a : Option Addr) (x8n : Nat) (x8c : Nat) (x9 : Int) (m : Mem), d' < d → I d' x0a x0n x0c x5a x5n x5c x7a x7n x7c x8a x8n x8c x9 m → Ok (nx x0a x0n x0c x5a x5n x5c x7a x7n x7c x8a x8n x8c x9 m) P) → Ok (patinaref02_Decode_l0_b k nx kx0 kx2 x0a x0n x0c x5a x5n x5c x7a x7n x7c x8a x8n x8c x9 m) P) :
    ∀ n d (x0a : Option Addr) (x0n : Nat) (x0c : Nat) (x5a : Option Addr) (x5n : Nat) (x5c : Nat) (x7a : Option Addr) (x7n : Nat) (x7c : Nat) (x8a : Option Addr) (x8n : Nat) (x8c : Nat) (x9 : Int) (m : Mem), d < n → I d x0a x0n x0c x5a x5n x5c x7a x7n x7c x8a x8n x8c x9 m → Ok (patinaref02_Decode_l0 k kx0 kx2 n x0a x0n x0c x5a x5n x5c x7a x7n x7c x8a x8n x8c x9 m) P
  | 0, d, x0a, x0n, x0c, x5a, x5n, x5c, x7a, x7n, x7c, x8a, x8n, x8c, x9, m, h, _ => absurd h (Nat.not_lt_zero _)
  | n + 1, d, x0a, x0n, x0c, x5a, x5n, x5c, x7a, x7n, x7c, x8a, x8n, x8c, x9, m, h, hI => step d _ x0a x0n x0c x5a x5n x5c x7a x7n x7c x8a x8n x8c x9 m hI fun d' x0a x0n x0c x5a x5n x5c x7a x7n x7c x8a x8n x8c x9 m h' hI' => patinaref02_Decode_l0_rule k kx0 kx2 I step n d' x0a x0n x0c x5a x5n x5c x7a x7n x7c x8a x8n x8c x9 m (by omega) hI'

def patinaref02_Decode_j1 (k : Nat) (x0a : Option Addr) (x0n : Nat) (x0c : Nat) (x5a : Option Addr) (x5n : Nat) (x5c : Nat) (x7a : Option Addr) (x7n : Nat) (x7c : Nat) (x8a : Option Addr) (x8n : Nat) (x8c : Nat) (x11 : Int) (x12 : Int) (x13 : Int) (nx : Option Addr → Nat → Nat → Option Addr → Nat → Nat → Option Addr → Nat → Nat → Option Addr → Nat → Nat → Int → Int → Int → Mem → Option (Sl × Int × Bool × Mem)) (mj : Mem) : Option (Sl × Int × Bool × Mem) :=
  nx x0a x0n x0c x5a x5n x5c x7a x7n x7c x8a x8n x8c x11 x12 (IntKind.wrap .i64 (x13 + 1)) mj

def patinaref02_Decode_j2 (k : Nat) (x0a : Option Addr) (x0n : Nat) (x0c : Nat) (x5a : Option Addr) (x5n : Nat) (x5c : Nat) (x7a : Option Addr) (x7n : Nat) (x7c : Nat) (x8a : Option Addr) (x8n : Nat) (x8c : Nat) (x11 : Int) (x12 : Int) (x13 : Int) (nx : Option Addr → Nat → Nat → Option Addr → Nat → Nat → Option Addr → Nat → Nat → Option Addr → Nat → Nat → Int → Int → Int → Mem → Option (Sl × Int × Bool × Mem)) (kx0 : Option Addr → Nat → Nat → Int → Bool → Mem → Option (Sl × Int × Bool × Mem)) (x15_ : Int) (mj : Mem) : Option (Sl × Int × Bool × Mem) :=
  bif inRange 1 x5n then (
  (x5a).bind fun a14 =>
  (ldInt .u8 mj (plus a14 (Int.toNat 1 * 1))).bind fun t15 =>
  bif inRange x12 x7n then (
  (x7a).bind fun a16 =>
  (ldInt .u8 mj (plus a16 (Int.toNat x12 * 1))).bind fun t17 =>
  bif inRange (IntKind.wrap .i64 (63 - x13)) x7n then (
  (x7a).bind fun a18 =>
  (ldInt .u8 mj (plus a18 (Int.toNat (IntKind.wrap .i64 (63 - x13)) * 1))).bind fun t19 =>
  (patinaref02_over k x7a x7n x7c x8a x8n x8c (bitI .xor .u8 t15 x15_) (bitI .xor .u8 t17 t19) mj).bind fun r20 =>
  bif inRange 0 x5n then (
  (x5a).bind fun a21 =>
  (ldInt .u8 r20.2 (plus a21 (Int.toNat 0 * 1))).bind fun t22 =>
  bif r20.1 == 0 then (
  patinaref02_Decode_j1 k x0a x0n x0c x5a x5n x5c x7a x7n x7c x8a x8n x8c x11 x12 x13 nx r20.2) else (
  bif (bitI .xor .u8 t22 r20.1) == 0 then (
  patinaref02_Decode_j1 k x0a x0n x0c x5a x5n x5c x7a x7n x7c x8a x8n x8c x11 x12 x13 nx r20.2) else (
  (patinaref02_fits k x5a x5n x5c x7a x7n x7c x8a x8n x8c r20.1 x12 (bitI .xor .u8 t22 r20.1) (IntKind.wrap .i64 (63 - x13)) r20.2).bind fun r23 =>
  bif r23.1 then (
  (patinaref02_turned k x0a x0n x0c r20.1 x11 (bitI .xor .u8 t22 r20.1) x13 r23.2).bind fun r24 =>
  kx0 r24.1.a r24.1.len r24.1.cap 2 true r24.2) else (
  patinaref02_Decode_j1 k x0a x0n x0c x5a x5n x5c x7a x7n x7c x8a x8n x8c x11 x12 x13 nx r23.2)))) else none) else none) else none) else none

def patinaref02_Decode_l4_b (k : Nat) (nx : Option Addr → Nat → Nat → Option Addr → Nat → Nat → Option Addr → Nat → Nat → Option Addr → Nat → Nat → Int → Int → Int → Mem → Option (Sl × Int × Bool × Mem)) (kx0 : Option Addr → Nat → Nat → Int → Bool → Mem → Option (Sl × Int × Bool × Mem)) (kx6 : Option Addr → Nat → Nat → Option Addr → Nat → Nat → Option Addr → Nat → Nat → Option Addr → Nat → Nat → Int → Mem → Option (Sl × Int × Bool × Mem)) (x0a : Option Addr) (x0n : Nat) (x0c : Nat) (x5a : Option Addr) (x5n : Nat) (x5c : Nat) (x7a : Option Addr) (x7n : Nat) (x7c : Nat) (x8a : Option Addr) (x8n : Nat) (x8c : Nat) (x11 : Int) (x12 : Int) (x13 : Int) (m : Mem) : Option (Sl × Int × Bool × Mem) :=
  bif decide (x13 < 64) then (
  bif inRange 0 x5n then (
  (x5a).bind fun a25 =>
  (ldInt .u8 m (plus a25 (Int.toNat 0 * 1))).bind fun t26 =>
  bif t26 != 0 then (
  bif inRange 0 x5n then (
  (x5a).bind fun a27 =>
  (ldInt .u8 m (plus a27 (Int.toNat 0 * 1))).bind fun t28 =>
  bif inRange (IntKind.wrap .i64 t28) x8n then (
  (x8a).bind fun a29 =>
  (ldInt .i64 m (plus a29 (Int.toNat (IntKind.wrap .i64 t28) * 1))).bind fun t30 =>
  bif inRange (Int.tmod (IntKind.wrap .i64 (t30 + (IntKind.wrap .i64 (63 - x13)))) 255) x7n then (
  (x7a).bind fun a31 =>
  (ldInt .u8 m (plus a31 (Int.toNat (Int.tmod (IntKind.wrap .i64 (t30 + (IntKind.wrap .i64 (63 - x13)))) 255) * 1))).bind fun t32 =>
  patinaref02_Decode_j2 k x0a x0n x0c x5a x5n x5c x7a x7n x7c x8a x8n x8c x11 x12 x13 nx kx0 t32 m) else none) else none) else none) else (
  patinaref02_Decode_j2 k x0a x0n x0c x5a x5n x5c x7a x7n x7c x8a x8n x8c x11 x12 x13 nx kx0 0 m)) else none) else (
  kx6 x0a x0n x0c x5a x5n x5c x7a x7n x7c x8a x8n x8c x11 m)

def patinaref02_Decode_l4 (k : Nat) (kx0 : Option Addr → Nat → Nat → Int → Bool → Mem → Option (Sl × Int × Bool × Mem)) (kx6 : Option Addr → Nat → Nat → Option Addr → Nat → Nat → Option Addr → Nat → Nat → Option Addr → Nat → Nat → Int → Mem → Option (Sl × Int × Bool × Mem)) : Nat → Option Addr → Nat → Nat → Option Addr → Nat → Nat → Option Addr → Nat → Nat → Option Addr → Nat → Nat → Int → Int → Int → Mem → Option (Sl × Int × Bool × Mem)
  | 0, _, _, _, _, _, _, _, _, _, _, _, _, _, _, _, _ => none
  | n + 1, x0a, x0n, x0c, x5a, x5n, x5c, x7a, x7n, x7c, x8a, x8n, x8c, x11, x12, x13, m => patinaref02_Decode_l4_b k (fun x0a x0n x0c x5a x5n x5c x7a x7n x7c x8a x8n x8c x11 x12 x13 m => patinaref02_Decode_l4 k kx0 kx6 n x0a x0n x0c x5a x5n x5c x7a x7n x7c x8a x8n x8c x11 x12 x13 m) kx0 kx6 x0a x0n x0c x5a x5n x5c x7a x7n x7c x8a x8n x8c x11 x12 x13 m
termination_by structural x => x

theorem patinaref02_Decode_l4_rule (k : Nat) (kx0 : Option Addr → Nat → Nat → Int → Bool → Mem → Option (Sl × Int × Bool × Mem)) (kx6 : Option Addr → Nat → Nat → Option Addr → Nat → Nat → Option Addr → Nat → Nat → Option Addr → Nat → Nat → Int → Mem → Option (Sl × Int × Bool × Mem)) {P : (Sl × Int × Bool × Mem) → Prop} (I : Nat → Option Addr → Nat → Nat → Option Addr → Nat → Nat → Option Addr → Nat → Nat → Option Addr → Nat → Nat → Int → Int → Int → Mem → Prop)
    (step : ∀ d (nx : Option Addr → Nat → Nat → Option Addr → Nat → Nat → Option Addr → Nat → Nat → Option Addr → Nat → Nat → Int → Int → Int → Mem → Option (Sl × Int × Bool × Mem)) (x0a : Option Addr) (x0n : Nat) (x0c : Nat) (x5a : Option Addr) (x5n : Nat) (x5c : Nat) (x7a : Option Addr) (x7n : Nat) (x7c : Nat) (x8a : Option Addr) (x8n : Nat) (x8c : Nat) (x11 : Int) (x12 : Int) (x13 : Int) (m : Mem), I d x0a x0n x0c x5a x5n x5c x7a x7n x7c x8a x8n x8c x11 x12 x13 m → (∀ d' (x0a : Option Addr) (x0n : Nat) (x0c : Nat) (x5a : Option Addr) (x5n : Nat) (x5c : Nat) (x7a : Option Addr) (x7n : Nat) (x7c : Nat) (x8a : Option Addr) (x8n : Nat) (x8c : Nat) (x11 : Int) (x12 : Int) (x13 : Int) (m : Mem), d' < d → I d' x0a x0n x0c x5a x5n x5c x7a x7n x7c x8a x8n x8c x11 x12 x13 m → Ok (nx x0a x0n x0c x5a x5n x5c x7a x7n x7c x8a x8n x8c x11 x12 x13 m) P) → Ok (patinaref02_Decode_l4_b k nx kx0 kx6 x0a x0n x0c x5a x5n x5c x7a x7n x7c x8a x8n x8c x11 x12 x13 m) P) :
    ∀ n d (x0a : Option Addr) (x0n : Nat) (x0c : Nat) (x5a : Option Addr) (x5n : Nat) (x5c : Nat) (x7a : Option Addr) (x7n : Nat) (x7c : Nat) (x8a : Option Addr) (x8n : Nat) (x8c : Nat) (x11 : Int) (x12 : Int) (x13 : Int) (m : Mem), d < n → I d x0a x0n x0c x5a x5n x5c x7a x7n x7c x8a x8n x8c x11 x12 x13 m → Ok (patinaref02_Decode_l4 k kx0 kx6 n x0a x0n x0c x5a x5n x5c x7a x7n x7c x8a x8n x8c x11 x12 x13 m) P
  | 0, d, x0a, x0n, x0c, x5a, x5n, x5c, x7a, x7n, x7c, x8a, x8n, x8c, x11, x12, x13, m, h, _ => absurd h (Nat.not_lt_zero _)
  | n + 1, d, x0a, x0n, x0c, x5a, x5n, x5c, x7a, x7n, x7c, x8a, x8n, x8c, x11, x12, x13, m, h, hI => step d _ x0a x0n x0c x5a x5n x5c x7a x7n x7c x8a x8n x8c x11 x12 x13 m hI fun d' x0a x0n x0c x5a x5n x5c x7a x7n x7c x8a x8n x8c x11 x12 x13 m h' hI' => patinaref02_Decode_l4_rule k kx0 kx6 I step n d' x0a x0n x0c x5a x5n x5c x7a x7n x7c x8a x8n x8c x11 x12 x13 m (by omega) hI'

def patinaref02_Decode_l2_b (k : Nat) (nx : Option Addr → Nat → Nat → Option Addr → Nat → Nat → Option Addr → Nat → Nat → Option Addr → Nat → Nat → Int → Mem → Option (Sl × Int × Bool × Mem)) (kx0 : Option Addr → Nat → Nat → Int → Bool → Mem → Option (Sl × Int × Bool × Mem)) (kx4 : Mem → Option (Sl × Int × Bool × Mem)) (x0a : Option Addr) (x0n : Nat) (x0c : Nat) (x5a : Option Addr) (x5n : Nat) (x5c : Nat) (x7a : Option Addr) (x7n : Nat) (x7c : Nat) (x8a : Option Addr) (x8n : Nat) (x8c : Nat) (x11 : Int) (m : Mem) : Option (Sl × Int × Bool × Mem) :=
  bif decide (x11 < 64) then (
  patinaref02_Decode_l4 k (fun y2a y2n y2c y3 y4 m33 => 
  kx0 y2a y2n y2c y3 y4 m33) (fun y0a y0n y0c y5a y5n y5c y7a y7n y7c y8a y8n y8c y11 m34 => 
  nx y0a y0n y0c y5a y5n y5c y7a y7n y7c y8a y8n y8c (IntKind.wrap .i64 (y11 + 1)) m34) k x0a x0n x0c x5a x5n x5c x7a x7n x7c x8a x8n x8c x11 (IntKind.wrap .i64 (63 - x11)) (IntKind.wrap .i64 (x11 + 1)) m) else (
  kx4  m)

def patinaref02_Decode_l2 (k : Nat) (kx0 : Option Addr → Nat → Nat → Int → Bool → Mem → Option (Sl × Int × Bool × Mem)) (kx4 : Mem → Option (Sl × Int × Bool × Mem)) : Nat → Option Addr → Nat → Nat → Option Addr → Nat → Nat → Option Addr → Nat → Nat → Option Addr → Nat → Nat → Int → Mem → Option (Sl × Int × Bool × Mem)
  | 0, _, _, _, _, _, _, _, _, _, _, _, _, _, _ => none
  | n + 1, x0a, x0n, x0c, x5a, x5n, x5c, x7a, x7n, x7c, x8a, x8n, x8c, x11, m => patinaref02_Decode_l2_b k (fun x0a x0n x0c x5a x5n x5c x7a x7n x7c x8a x8n x8c x11 m => patinaref02_Decode_l2 k kx0 kx4 n x0a x0n x0c x5a x5n x5c x7a x7n x7c x8a x8n x8c x11 m) kx0 kx4 x0a x0n x0c x5a x5n x5c x7a x7n x7c x8a x8n x8c x11 m
termination_by structural x => x

theorem patinaref02_Decode_l2_rule (k : Nat) (kx0 : Option Addr → Nat → Nat → Int → Bool → Mem → Option (Sl × Int × Bool × Mem)) (kx4 : Mem → Option (Sl × Int × Bool × Mem)) {P : (Sl × Int × Bool × Mem) → Prop} (I : Nat → Option Addr → Nat → Nat → Option Addr → Nat → Nat → Option Addr → Nat → Nat → Option Addr → Nat → Nat → Int → Mem → Prop)
    (step : ∀ d (nx : Option Addr → Nat → Nat → Option Addr → Nat → Nat → Option Addr → Nat → Nat → Option Addr → Nat → Nat → Int → Mem → Option (Sl × Int × Bool × Mem)) (x0a : Option Addr) (x0n : Nat) (x0c : Nat) (x5a : Option Addr) (x5n : Nat) (x5c : Nat) (x7a : Option Addr) (x7n : Nat) (x7c : Nat) (x8a : Option Addr) (x8n : Nat) (x8c : Nat) (x11 : Int) (m : Mem), I d x0a x0n x0c x5a x5n x5c x7a x7n x7c x8a x8n x8c x11 m → (∀ d' (x0a : Option Addr) (x0n : Nat) (x0c : Nat) (x5a : Option Addr) (x5n : Nat) (x5c : Nat) (x7a : Option Addr) (x7n : Nat) (x7c : Nat) (x8a : Option Addr) (x8n : Nat) (x8c : Nat) (x11 : Int) (m : Mem), d' < d → I d' x0a x0n x0c x5a x5n x5c x7a x7n x7c x8a x8n x8c x11 m → Ok (nx x0a x0n x0c x5a x5n x5c x7a x7n x7c x8a x8n x8c x11 m) P) → Ok (patinaref02_Decode_l2_b k nx kx0 kx4 x0a x0n x0c x5a x5n x5c x7a x7n x7c x8a x8n x8c x11 m) P) :
    ∀ n d (x0a : Option Addr) (x0n : Nat) (x0c : Nat) (x5a : Option Addr) (x5n : Nat) (x5c : Nat) (x7a : Option Addr) (x7n : Nat) (x7c : Nat) (x8a : Option Addr) (x8n : Nat) (x8c : Nat) (x11 : Int) (m : Mem), d < n → I d x0a x0n x0c x5a x5n x5c x7a x7n x7c x8a x8n x8c x11 m → Ok (patinaref02_Decode_l2 k kx0 kx4 n x0a x0n x0c x5a x5n x5c x7a x7n x7c x8a x8n x8c x11 m) P
  | 0, d, x0a, x0n, x0c, x5a, x5n, x5c, x7a, x7n, x7c, x8a, x8n, x8c, x11, m, h, _ => absurd h (Nat.not_lt_zero _)
  | n + 1, d, x0a, x0n, x0c, x5a, x5n, x5c, x7a, x7n, x7c, x8a, x8n, x8c, x11, m, h, hI => step d _ x0a x0n x0c x5a x5n x5c x7a x7n x7c x8a x8n x8c x11 m hI fun d' x0a x0n x0c x5a x5n x5c x7a x7n x7c x8a x8n x8c x11 m h' hI' => patinaref02_Decode_l2_rule k kx0 kx4 I step n d' x0a x0n x0c x5a x5n x5c x7a x7n x7c x8a x8n x8c x11 m (by omega) hI'

def patinaref02_Decode (k : Nat) (p0a : Option Addr) (p0n : Nat) (p0c : Nat) (m : Mem) : Option (Sl × Int × Bool × Mem) :=
  (patinaref02_Syndromes k p0a p0n p0c m).bind fun r1 =>
  let m2 : Mem := r1.2 ++ [.live (repl (Int.toNat 6) [.int .u8 0])]
  (patinaref01_Same k r1.1.a r1.1.len r1.1.cap (some ⟨List.length r1.2, 0, Option.none⟩) (Int.toNat 6) (Int.toNat 6) m2).bind fun r3 =>
  bif r3.1 then (
  (patinaref02_turned k p0a p0n p0c 0 0 0 0 r3.2).bind fun r4 =>
  some ((⟨r4.1.a, r4.1.len, r4.1.cap⟩ : Sl), 0, true, r4.2)) else (
  (patinaref02_tables k  r3.2).bind fun r5 =>
  patinaref02_Decode_l0 k (fun y2a y2n y2c y3 y4 m12 => 
  some ((⟨y2a, y2n, y2c⟩ : Sl), y3, y4, m12)) (fun y0a y0n y0c y5a y5n y5c y7a y7n y7c y8a y8n y8c m13 => 
  patinaref02_Decode_l2 k (fun y2a y2n y2c y3 y4 m35 => 
  some ((⟨y2a, y2n, y2c⟩ : Sl), y3, y4, m35)) (fun m36 => 
  some ((⟨none, 0, 0⟩ : Sl), 0, false, m36)) k y0a y0n y0c y5a y5n y5c y7a y7n y7c y8a y8n y8c 0 m13) k p0a p0n p0c r1.1.a r1.1.len r1.1.cap r5.1.a r5.1.len r5.1.cap r5.2.1.a r5.2.1.len r5.2.1.cap 0 r5.2.2)

def patinaref02_Decode_call {R : Type} (k : Nat) : Fun R := callCons 15 (patinaref01_Same_arm k) (callCons 50 (patinaref02_Syndromes_arm k) (callCons 51 (patinaref02_turned_arm k) (callCons 52 (patinaref02_tables_arm k) (callCons 53 (patinaref02_fits_arm k) (callCons 54 (patinaref02_over_arm k) (callNil))))))

theorem patinaref02_Decode_callOk {R : Type} (k : Nat) : CallOk Try.prog (patinaref02_Decode_call (R := R) k) := callOk_cons (patinaref01_Same_armOk k) (callOk_cons (patinaref02_Syndromes_armOk k) (callOk_cons (patinaref02_turned_armOk k) (callOk_cons (patinaref02_tables_armOk k) (callOk_cons (patinaref02_fits_armOk k) (callOk_cons (patinaref02_over_armOk k) (callOk_nil))))))

def patinaref02_Decode_l0_L (k : Nat) (K : Nat → List Value → Mem → Option (Sl × Int × Bool × Mem)) (n : Nat) (vs : List Value) (m : Mem) : Option (Sl × Int × Bool × Mem) := match vs with
  | [.slice x0a x0n x0c, .slice x5a x5n x5c, .slice x7a x7n x7c, .slice x8a x8n x8c, .int .i64 x9] => patinaref02_Decode_l0 k (fun y2a y2n y2c y3 y4 m => K 0 [(Value.slice y2a y2n y2c), (Value.int .i64 y3), (Value.bool y4)] m) (fun y0a y0n y0c y5a y5n y5c y7a y7n y7c y8a y8n y8c m => K 2 [(Value.slice y0a y0n y0c), (Value.slice y5a y5n y5c), (Value.slice y7a y7n y7c), (Value.slice y8a y8n y8c)] m) n x0a x0n x0c x5a x5n x5c x7a x7n x7c x8a x8n x8c x9 m
  | _ => none

def patinaref02_Decode_l2_L (k : Nat) (K : Nat → List Value → Mem → Option (Sl × Int × Bool × Mem)) (n : Nat) (vs : List Value) (m : Mem) : Option (Sl × Int × Bool × Mem) := match vs with
  | [.slice x0a x0n x0c, .slice x5a x5n x5c, .slice x7a x7n x7c, .slice x8a x8n x8c, .int .i64 x11] => patinaref02_Decode_l2 k (fun y2a y2n y2c y3 y4 m => K 0 [(Value.slice y2a y2n y2c), (Value.int .i64 y3), (Value.bool y4)] m) (fun m => K 4 [] m) n x0a x0n x0c x5a x5n x5c x7a x7n x7c x8a x8n x8c x11 m
  | _ => none

def patinaref02_Decode_l4_L (k : Nat) (K : Nat → List Value → Mem → Option (Sl × Int × Bool × Mem)) (n : Nat) (vs : List Value) (m : Mem) : Option (Sl × Int × Bool × Mem) := match vs with
  | [.slice x0a x0n x0c, .slice x5a x5n x5c, .slice x7a x7n x7c, .slice x8a x8n x8c, .int .i64 x11, .int .i64 x12, .int .i64 x13] => patinaref02_Decode_l4 k (fun y2a y2n y2c y3 y4 m => K 0 [(Value.slice y2a y2n y2c), (Value.int .i64 y3), (Value.bool y4)] m) (fun y0a y0n y0c y5a y5n y5c y7a y7n y7c y8a y8n y8c y11 m => K 6 [(Value.slice y0a y0n y0c), (Value.slice y5a y5n y5c), (Value.slice y7a y7n y7c), (Value.slice y8a y8n y8c), (Value.int .i64 y11)] m) n x0a x0n x0c x5a x5n x5c x7a x7n x7c x8a x8n x8c x11 x12 x13 m
  | _ => none

def patinaref02_Decode_loop (k : Nat) : Nat → List Value → Mem → (Nat → List Value → Mem → Option (Sl × Int × Bool × Mem)) → Option (Sl × Int × Bool × Mem) := fun cur vs m K => match cur with
  | 0 => patinaref02_Decode_l0_L k K k vs m
  | 2 => patinaref02_Decode_l2_L k K k vs m
  | 4 => patinaref02_Decode_l4_L k K k vs m
  | _ => none

def patinaref02_Decode_C (k : Nat) : Ctx (Sl × Int × Bool × Mem) := ⟨tt, patinaref02_Decode_call k, patinaref02_Decode_loop k, [(0, [0, 5, 7, 8, 9]), (2, [0, 5, 7, 8, 11]), (4, [0, 5, 7, 8, 11, 12, 13])], [(0, [2, 3, 4]), (2, [0, 5, 7, 8]), (4, []), (6, [0, 5, 7, 8, 11])]⟩

noncomputable def patinaref02_Decode_l0_c : Code := ((loopsOf 0 (body Try.f35)).map (·.2)).getD 0 .skip

noncomputable def patinaref02_Decode_l2_c : Code := ((loopsOf 0 (body Try.f35)).map (·.2)).getD 1 .skip

noncomputable def patinaref02_Decode_l4_c : Code := ((loopsOf 0 (body Try.f35)).map (·.2)).getD 2 .skip

theorem patinaref02_Decode_loops : loopsOf 0 (body Try.f35) = [(0, patinaref02_Decode_l0_c), (2, patinaref02_Decode_l2_c), (4, patinaref02_Decode_l4_c)] := by kernel_rfl

theorem patinaref02_Decode_l0_ok (k : Nat) : LoopOk (patinaref02_Decode_C k) 0 patinaref02_Decode_l0_c := by
  refine ⟨[0, 5, 7, 8, 9], by kernel_rfl, fun K r => ⟨patinaref02_Decode_l0_L k K, fun vs m h => ⟨k, h⟩, ?_⟩⟩
  intro n vs m h
  unfold patinaref02_Decode_l0_L at h
  split at h
  · cases n with
    | zero => cases h
    | succ n => exact ⟨n, rfl, Eq.trans (by kernel_rfl) h⟩
  · cases h

theorem patinaref02_Decode_l2_ok (k : Nat) : LoopOk (patinaref02_Decode_C k) 2 patinaref02_Decode_l2_c := by
  refine ⟨[0, 5, 7, 8, 11], by kernel_rfl, fun K r => ⟨patinaref02_Decode_l2_L k K, fun vs m h => ⟨k, h⟩, ?_⟩⟩
  intro n vs m h
  unfold patinaref02_Decode_l2_L at h
  split at h
  · cases n with
    | zero => cases h
    | succ n => exact ⟨n, rfl, Eq.trans (by kernel_rfl) h⟩
  · cases h

theorem patinaref02_Decode_l4_ok (k : Nat) : LoopOk (patinaref02_Decode_C k) 4 patinaref02_Decode_l4_c := by
  refine ⟨[0, 5, 7, 8, 11, 12, 13], by kernel_rfl, fun K r => ⟨patinaref02_Decode_l4_L k K, fun vs m h => ⟨k, h⟩, ?_⟩⟩
  intro n vs m h
  unfold patinaref02_Decode_l4_L at h
  split at h
  · cases n with
    | zero => cases h
    | succ n => exact ⟨n, rfl, Eq.trans (by kernel_rfl) h⟩
  · cases h

def patinaref02_Decode_dec : Value → Mem → Option (Sl × Int × Bool × Mem) := fun v m => match v with
  | .tuple ⟨[.slice q0a q0n q0c, .int .i64 q1, .bool q2]⟩ => some ((⟨q0a, q0n, q0c⟩ : Sl), q1, q2, m)
  | _ => none

theorem patinaref02_Decode_eq (k : Nat) (p0a : Option Addr) (p0n : Nat) (p0c : Nat) (m : Mem) : fnX (patinaref02_Decode_C k) Try.f35 [(Value.slice p0a p0n p0c)] m patinaref02_Decode_dec = patinaref02_Decode k p0a p0n p0c m := by kernel_rfl

theorem patinaref02_Decode_ok {k : Nat} {p0a : Option Addr} {p0n : Nat} {p0c : Nat} {m : Mem} {r : (Sl × Int × Bool × Mem)} (h : patinaref02_Decode k p0a p0n p0c m = some r) : CallP Try.prog 35 [(Value.slice p0a p0n p0c)] m fun v m' => v = (Value.tuple ⟨[(Value.slice r.1.a r.1.len r.1.cap), (Value.int .i64 r.2.1), (Value.bool r.2.2.1)]⟩) ∧ m' = r.2.2.2 := by
  refine (fn_sound (C := patinaref02_Decode_C k) (c := body Try.f35) tOk mixed (patinaref02_Decode_callOk k) Try.func35 (by kernel_rfl) (by kernel_rfl) (by kernel_rfl) (by kernel_rfl) ?_ ?_ (Eq.trans (patinaref02_Decode_eq k p0a p0n p0c m) h)).mono ?_
  · intro p hp
    rw [patinaref02_Decode_loops] at hp
    simp only [List.mem_cons, List.not_mem_nil, or_false] at hp
    rcases hp with rfl | rfl | rfl
    · exact patinaref02_Decode_l0_ok k
    · exact patinaref02_Decode_l2_ok k
    · exact patinaref02_Decode_l4_ok k
  · intro p hp; rw [show rangesOf 0 (body Try.f35) = [] by kernel_rfl] at hp; cases hp
  · intro v m' hp
    unfold patinaref02_Decode_dec at hp
    split at hp
    · simp only [Option.some.injEq] at hp; subst hp; exact ⟨rfl, rfl⟩
    · cases hp

def patinaref02_Decode_arm {R : Type} (k : Nat) : Arm R := fun vs m K => match vs with
  | [.slice p0a p0n p0c] => (patinaref02_Decode k p0a p0n p0c m).bind fun r => K (Value.tuple ⟨[(Value.slice r.1.a r.1.len r.1.cap), (Value.int .i64 r.2.1), (Value.bool r.2.2.1)]⟩) r.2.2.2
  | _ => none

theorem patinaref02_Decode_armOk {R : Type} (k : Nat) : ArmOk Try.prog 35 (patinaref02_Decode_arm (R := R) k) := by
  intro vs m K r h
  unfold patinaref02_Decode_arm at h
  split at h
  · obtain ⟨r, h1, h2⟩ := Option.bind_eq_some_iff.1 h; exact ⟨_, _, h2, fun K' => by simp only [patinaref02_Decode_arm, h1, Option.bind_some], patinaref02_Decode_ok h1⟩
  · cases h

end Go.Proofs.Ytmfmoanjecjeeaa
