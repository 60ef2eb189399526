/- The program's functions as plain Lean functions over a clean memory, each held against the program by the kernel. Written by mx.py. -/
import Derived.Test.YtchonnaoojpdoaaF0
import Derived.Test.YtchonnaoojpdoaaFbytes
set_option linter.unusedVariables false
set_option maxRecDepth 100000
namespace Go.Proofs.Ytchonnaoojpdoaa
open Go.Mx

/-! ### wire_Open -/
def wire_Open (k : Nat) (p0a : Option Addr) (p0n : Nat) (p0c : Nat) (m : Mem) : Option (Sl × Value × Mem) :=
  bif ((p0n : Nat) : Int) != 58 then (
  some ((⟨none, 0, 0⟩ : Sl), (Value.iface ty_api_Code (Value.int .i64 1)), m)) else (
  (bytes_Clone k p0a p0n p0c m).bind fun r1 =>
  bif sliceK.okZ r1.1.a 1 false && inUpto 50 r1.1.len then (
  (rdSl r1.2 ((sliceK.clear r1.1.a false).map fun a => plus a ((Int.toNat 50) * 1)) (r1.1.len - (Int.toNat 50)) 1).bind fun l2 =>
  (strOf l2).bind fun s3 =>
  bif !(strEq s3 (ByteArray.mk #[112, 97, 116, 105, 110, 97, 48, 49])) then (
  some ((⟨none, 0, 0⟩ : Sl), (Value.iface ty_api_Code (Value.int .i64 6)), r1.2)) else (
  bif inUpto 50 r1.1.cap && inUpto 50 (Int.toNat 50) then (
  some ((⟨(sliceK.clear r1.1.a true), (Int.toNat 50), (Int.toNat 50)⟩ : Sl), Value.nilIface, r1.2)) else none)) else none)

def wire_Open_call {R : Type} (k : Nat) : Fun R := callCons 61 (bytes_Clone_arm k) (callNil)

theorem wire_Open_callOk {R : Type} (k : Nat) : CallOk Try.prog (wire_Open_call (R := R) k) := callOk_cons (bytes_Clone_armOk k) (callOk_nil)

def wire_Open_loop (k : Nat) : Nat → List Value → Mem → (Nat → List Value → Mem → Option (Sl × Value × Mem)) → Option (Sl × Value × Mem) := fun _ _ _ _ => none

def wire_Open_C (k : Nat) : Ctx (Sl × Value × Mem) := ⟨tt, wire_Open_call k, wire_Open_loop k, [], []⟩

def wire_Open_dec : Value → Mem → Option (Sl × Value × Mem) := fun v m => match v with
  | .tuple ⟨[.slice q0a q0n q0c, q1]⟩ => some ((⟨q0a, q0n, q0c⟩ : Sl), q1, m)
  | _ => none

theorem wire_Open_eq (k : Nat) (p0a : Option Addr) (p0n : Nat) (p0c : Nat) (m : Mem) : fnX (wire_Open_C k) Try.f49 [(Value.slice p0a p0n p0c)] m wire_Open_dec = wire_Open k p0a p0n p0c m := by kernel_rfl

theorem wire_Open_ok {k : Nat} {p0a : Option Addr} {p0n : Nat} {p0c : Nat} {m : Mem} {r : (Sl × Value × Mem)} (h : wire_Open k p0a p0n p0c m = some r) : CallP Try.prog 49 [(Value.slice p0a p0n p0c)] m fun v m' => v = (Value.tuple ⟨[(Value.slice r.1.a r.1.len r.1.cap), r.2.1]⟩) ∧ m' = r.2.2 := by
  refine (fn_sound (C := wire_Open_C k) (c := body Try.f49) tOk mixed (wire_Open_callOk k) Try.func49 (by kernel_rfl) (by kernel_rfl) (by kernel_rfl) (by kernel_rfl) ?_ ?_ (Eq.trans (wire_Open_eq k p0a p0n p0c m) h)).mono ?_
  · intro p hp; rw [show loopsOf 0 (body Try.f49) = [] by kernel_rfl] at hp; cases hp
  · intro p hp; rw [show rangesOf 0 (body Try.f49) = [] by kernel_rfl] at hp; cases hp
  · intro v m' hp
    unfold wire_Open_dec at hp
    split at hp
    · simp only [Option.some.injEq] at hp; subst hp; exact ⟨rfl, rfl⟩
    · cases hp

def wire_Open_arm {R : Type} (k : Nat) : Arm R := fun vs m K => match vs with
  | [.slice p0a p0n p0c] => (wire_Open k p0a p0n p0c m).bind fun r => K (Value.tuple ⟨[(Value.slice r.1.a r.1.len r.1.cap), r.2.1]⟩) r.2.2
  | _ => none

theorem wire_Open_armOk {R : Type} (k : Nat) : ArmOk Try.prog 49 (wire_Open_arm (R := R) k) := by
  intro vs m K r h
  unfold wire_Open_arm at h
  split at h
  · obtain ⟨r, h1, h2⟩ := Option.bind_eq_some_iff.1 h; exact ⟨_, _, h2, fun K' => by simp only [wire_Open_arm, h1, Option.bind_some], wire_Open_ok h1⟩
  · cases h

/-! ### wire_Put -/
def wire_Put_l0_b (k : Nat) (nx : Int → Option Addr → Nat → Nat → Int → Int → Mem → Option (Sl × Value × Mem)) (kx2 : Int → Option Addr → Nat → Nat → Mem → Option (Sl × Value × Mem)) (x0 : Int) (x6a : Option Addr) (x6n : Nat) (x6c : Nat) (x18 : Int) (x19 : Int) (m : Mem) : Option (Sl × Value × Mem) :=
  bif decide (x19 < x18) then (
  bif inRange x19 x6n then (
  (x6a).bind fun a2 =>
  (st m (plus a2 (Int.toNat x19 * 1)) (Value.int .u8 (IntKind.wrap .u8 x0))).bind fun m3 =>
  nx (shrI .u64 x0 8) x6a x6n x6c x18 (IntKind.wrap .i64 (x19 + 1)) m3) else none) else (
  kx2 x0 x6a x6n x6c m)

def wire_Put_l0 (k : Nat) (kx2 : Int → Option Addr → Nat → Nat → Mem → Option (Sl × Value × Mem)) : Nat → Int → Option Addr → Nat → Nat → Int → Int → Mem → Option (Sl × Value × Mem)
  | 0, _, _, _, _, _, _, _ => none
  | n + 1, x0, x6a, x6n, x6c, x18, x19, m => wire_Put_l0_b k (fun x0 x6a x6n x6c x18 x19 m => wire_Put_l0 k kx2 n x0 x6a x6n x6c x18 x19 m) kx2 x0 x6a x6n x6c x18 x19 m
termination_by structural x => x

theorem wire_Put_l0_rule (k : Nat) (kx2 : Int → Option Addr → Nat → Nat → Mem → Option (Sl × Value × Mem)) {P : (Sl × Value × Mem) → Prop} (I : Nat → Int → Option Addr → Nat → Nat → Int → Int → Mem → Prop)
    (step : ∀ d (nx : Int → Option Addr → Nat → Nat → Int → Int → Mem → Option (Sl × Value × Mem)) (x0 : Int) (x6a : Option Addr) (x6n : Nat) (x6c : Nat) (x18 : Int) (x19 : Int) (m : Mem), I d x0 x6a x6n x6c x18 x19 m → (∀ d' (x0 : Int) (x6a : Option Addr) (x6n : Nat) (x6c : Nat) (x18 : Int) (x19 : Int) (m : Mem), d' < d → I d' x0 x6a x6n x6c x18 x19 m → Ok (nx x0 x6a x6n x6c x18 x19 m) P) → Ok (wire_Put_l0_b k nx kx2 x0 x6a x6n x6c x18 x19 m) P) :
    ∀ n d (x0 : Int) (x6a : Option Addr) (x6n : Nat) (x6c : Nat) (x18 : Int) (x19 : Int) (m : Mem), d < n → I d x0 x6a x6n x6c x18 x19 m → Ok (wire_Put_l0 k kx2 n x0 x6a x6n x6c x18 x19 m) P
  | 0, d, x0, x6a, x6n, x6c, x18, x19, m, h, _ => absurd h (Nat.not_lt_zero _)
  | n + 1, d, x0, x6a, x6n, x6c, x18, x19, m, h, hI => step d _ x0 x6a x6n x6c x18 x19 m hI fun d' x0 x6a x6n x6c x18 x19 m h' hI' => wire_Put_l0_rule k kx2 I step n d' x0 x6a x6n x6c x18 x19 m (by omega) hI'

def wire_Put (k : Nat) (p0 : Int) (p1 : Int) (m : Mem) : Option (Sl × Value × Mem) :=
  bif decide (p1 < 1) then (
  some ((⟨none, 0, 0⟩ : Sl), (Value.iface ty_api_Code (Value.int .i64 1)), m)) else (
  bif decide (p1 > 8) then (
  some ((⟨none, 0, 0⟩ : Sl), (Value.iface ty_api_Code (Value.int .i64 1)), m)) else (
  bif decide (0 ≤ p1) && decide (p1 ≤ p1) && decide (p1 * (((tt 5).bytes : Nat) : Int) ≤ ((most : Nat) : Int)) && decide (p1 ≤ ((most : Nat) : Int)) then (
  let m1 : Mem := m ++ [.live (repl (Int.toNat p1) [.int .u8 0])]
  wire_Put_l0 k (fun y0 y6a y6n y6c m4 => 
  bif y0 != 0 then (
  some ((⟨none, 0, 0⟩ : Sl), (Value.iface ty_api_Code (Value.int .i64 2)), m4)) else (
  some ((⟨y6a, y6n, y6c⟩ : Sl), Value.nilIface, m4))) k p0 (some ⟨List.length m, 0, Option.none⟩) (Int.toNat p1) (Int.toNat p1) (((Int.toNat p1) : Nat) : Int) 0 m1) else none))

def wire_Put_call {R : Type} (k : Nat) : Fun R := callNil

theorem wire_Put_callOk {R : Type} (k : Nat) : CallOk Try.prog (wire_Put_call (R := R) k) := callOk_nil

def wire_Put_l0_L (k : Nat) (K : Nat → List Value → Mem → Option (Sl × Value × Mem)) (n : Nat) (vs : List Value) (m : Mem) : Option (Sl × Value × Mem) := match vs with
  | [.int .u64 x0, .slice x6a x6n x6c, .int .i64 x18, .int .i64 x19] => wire_Put_l0 k (fun y0 y6a y6n y6c m => K 2 [(Value.int .u64 y0), (Value.slice y6a y6n y6c)] m) n x0 x6a x6n x6c x18 x19 m
  | _ => none

def wire_Put_loop (k : Nat) : Nat → List Value → Mem → (Nat → List Value → Mem → Option (Sl × Value × Mem)) → Option (Sl × Value × Mem) := fun cur vs m K => match cur with
  | 0 => wire_Put_l0_L k K k vs m
  | _ => none

def wire_Put_C (k : Nat) : Ctx (Sl × Value × Mem) := ⟨tt, wire_Put_call k, wire_Put_loop k, [(0, [0, 6, 18, 19])], [(2, [0, 6])]⟩

noncomputable def wire_Put_l0_c : Code := ((loopsOf 0 (body Try.f66)).map (·.2)).getD 0 .skip

theorem wire_Put_loops : loopsOf 0 (body Try.f66) = [(0, wire_Put_l0_c)] := by kernel_rfl

theorem wire_Put_l0_ok (k : Nat) : LoopOk (wire_Put_C k) 0 wire_Put_l0_c := by
  refine ⟨[0, 6, 18, 19], by kernel_rfl, fun K r => ⟨wire_Put_l0_L k K, fun vs m h => ⟨k, h⟩, ?_⟩⟩
  intro n vs m h
  unfold wire_Put_l0_L at h
  split at h
  · cases n with
    | zero => cases h
    | succ n => exact ⟨n, rfl, Eq.trans (by kernel_rfl) h⟩
  · cases h

def wire_Put_dec : Value → Mem → Option (Sl × Value × Mem) := fun v m => match v with
  | .tuple ⟨[.slice q0a q0n q0c, q1]⟩ => some ((⟨q0a, q0n, q0c⟩ : Sl), q1, m)
  | _ => none

theorem wire_Put_eq (k : Nat) (p0 : Int) (p1 : Int) (m : Mem) : fnX (wire_Put_C k) Try.f66 [(Value.int .u64 p0), (Value.int .i64 p1)] m wire_Put_dec = wire_Put k p0 p1 m := by kernel_rfl

theorem wire_Put_ok {k : Nat} {p0 : Int} {p1 : Int} {m : Mem} {r : (Sl × Value × Mem)} (h : wire_Put k p0 p1 m = some r) : CallP Try.prog 66 [(Value.int .u64 p0), (Value.int .i64 p1)] m fun v m' => v = (Value.tuple ⟨[(Value.slice r.1.a r.1.len r.1.cap), r.2.1]⟩) ∧ m' = r.2.2 := by
  refine (fn_sound (C := wire_Put_C k) (c := body Try.f66) tOk mixed (wire_Put_callOk k) Try.func66 (by kernel_rfl) (by kernel_rfl) (by kernel_rfl) (by kernel_rfl) ?_ ?_ (Eq.trans (wire_Put_eq k p0 p1 m) h)).mono ?_
  · intro p hp
    rw [wire_Put_loops] at hp
    simp only [List.mem_cons, List.not_mem_nil, or_false] at hp
    rcases hp with rfl
    · exact wire_Put_l0_ok k
  · intro p hp; rw [show rangesOf 0 (body Try.f66) = [] by kernel_rfl] at hp; cases hp
  · intro v m' hp
    unfold wire_Put_dec at hp
    split at hp
    · simp only [Option.some.injEq] at hp; subst hp; exact ⟨rfl, rfl⟩
    · cases hp

def wire_Put_arm {R : Type} (k : Nat) : Arm R := fun vs m K => match vs with
  | [.int .u64 p0, .int .i64 p1] => (wire_Put k p0 p1 m).bind fun r => K (Value.tuple ⟨[(Value.slice r.1.a r.1.len r.1.cap), r.2.1]⟩) r.2.2
  | _ => none

theorem wire_Put_armOk {R : Type} (k : Nat) : ArmOk Try.prog 66 (wire_Put_arm (R := R) k) := by
  intro vs m K r h
  unfold wire_Put_arm at h
  split at h
  · obtain ⟨r, h1, h2⟩ := Option.bind_eq_some_iff.1 h; exact ⟨_, _, h2, fun K' => by simp only [wire_Put_arm, h1, Option.bind_some], wire_Put_ok h1⟩
  · cases h

/-! ### wire_Get -/
def wire_Get_l0_b (k : Nat) (nx : Int → Option Addr → Nat → Nat → Int → Int → Mem → Option (Int × Value × Mem)) (kx2 : Int → Mem → Option (Int × Value × Mem)) (x4 : Int) (x16a : Option Addr) (x16n : Nat) (x16c : Nat) (x17 : Int) (x18 : Int) (m : Mem) : Option (Int × Value × Mem) :=
  bif decide (x18 < x17) then (
  bif inRange x18 x16n then (
  (x16a).bind fun a1 =>
  (ldInt .u8 m (plus a1 (Int.toNat x18 * 1))).bind fun t2 =>
  bif decide ((IntKind.wrap .i64 (8 * x18)) < 0) then none else (
  nx (bitI .or .u64 x4 (shlI .u64 (IntKind.wrap .u64 t2) (IntKind.wrap .i64 (8 * x18)))) x16a x16n x16c x17 (IntKind.wrap .i64 (x18 + 1)) m)) else none) else (
  kx2 x4 m)

def wire_Get_l0 (k : Nat) (kx2 : Int → Mem → Option (Int × Value × Mem)) : Nat → Int → Option Addr → Nat → Nat → Int → Int → Mem → Option (Int × Value × Mem)
  | 0, _, _, _, _, _, _, _ => none
  | n + 1, x4, x16a, x16n, x16c, x17, x18, m => wire_Get_l0_b k (fun x4 x16a x16n x16c x17 x18 m => wire_Get_l0 k kx2 n x4 x16a x16n x16c x17 x18 m) kx2 x4 x16a x16n x16c x17 x18 m
termination_by structural x => x

theorem wire_Get_l0_rule (k : Nat) (kx2 : Int → Mem → Option (Int × Value × Mem)) {P : (Int × Value × Mem) → Prop} (I : Nat → Int → Option Addr → Nat → Nat → Int → Int → Mem → Prop)
    (step : ∀ d (nx : Int → Option Addr → Nat → Nat → Int → Int → Mem → Option (Int × Value × Mem)) (x4 : Int) (x16a : Option Addr) (x16n : Nat) (x16c : Nat) (x17 : Int) (x18 : Int) (m : Mem), I d x4 x16a x16n x16c x17 x18 m → (∀ d' (x4 : Int) (x16a : Option Addr) (x16n : Nat) (x16c : Nat) (x17 : Int) (x18 : Int) (m : Mem), d' < d → I d' x4 x16a x16n x16c x17 x18 m → Ok (nx x4 x16a x16n x16c x17 x18 m) P) → Ok (wire_Get_l0_b k nx kx2 x4 x16a x16n x16c x17 x18 m) P) :
    ∀ n d (x4 : Int) (x16a : Option Addr) (x16n : Nat) (x16c : Nat) (x17 : Int) (x18 : Int) (m : Mem), d < n → I d x4 x16a x16n x16c x17 x18 m → Ok (wire_Get_l0 k kx2 n x4 x16a x16n x16c x17 x18 m) P
  | 0, d, x4, x16a, x16n, x16c, x17, x18, m, h, _ => absurd h (Nat.not_lt_zero _)
  | n + 1, d, x4, x16a, x16n, x16c, x17, x18, m, h, hI => step d _ x4 x16a x16n x16c x17 x18 m hI fun d' x4 x16a x16n x16c x17 x18 m h' hI' => wire_Get_l0_rule k kx2 I step n d' x4 x16a x16n x16c x17 x18 m (by omega) hI'

def wire_Get (k : Nat) (p0a : Option Addr) (p0n : Nat) (p0c : Nat) (m : Mem) : Option (Int × Value × Mem) :=
  bif decide (((p0n : Nat) : Int) < 1) then (
  some (0, (Value.iface ty_api_Code (Value.int .i64 1)), m)) else (
  bif decide (((p0n : Nat) : Int) > 8) then (
  some (0, (Value.iface ty_api_Code (Value.int .i64 1)), m)) else (
  wire_Get_l0 k (fun y4 m3 => 
  some (y4, Value.nilIface, m3)) k 0 p0a p0n p0c ((p0n : Nat) : Int) 0 m))

def wire_Get_call {R : Type} (k : Nat) : Fun R := callNil

theorem wire_Get_callOk {R : Type} (k : Nat) : CallOk Try.prog (wire_Get_call (R := R) k) := callOk_nil

def wire_Get_l0_L (k : Nat) (K : Nat → List Value → Mem → Option (Int × Value × Mem)) (n : Nat) (vs : List Value) (m : Mem) : Option (Int × Value × Mem) := match vs with
  | [.int .u64 x4, .slice x16a x16n x16c, .int .i64 x17, .int .i64 x18] => wire_Get_l0 k (fun y4 m => K 2 [(Value.int .u64 y4)] m) n x4 x16a x16n x16c x17 x18 m
  | _ => none

def wire_Get_loop (k : Nat) : Nat → List Value → Mem → (Nat → List Value → Mem → Option (Int × Value × Mem)) → Option (Int × Value × Mem) := fun cur vs m K => match cur with
  | 0 => wire_Get_l0_L k K k vs m
  | _ => none

def wire_Get_C (k : Nat) : Ctx (Int × Value × Mem) := ⟨tt, wire_Get_call k, wire_Get_loop k, [(0, [4, 16, 17, 18])], [(2, [4])]⟩

noncomputable def wire_Get_l0_c : Code := ((loopsOf 0 (body Try.f50)).map (·.2)).getD 0 .skip

theorem wire_Get_loops : loopsOf 0 (body Try.f50) = [(0, wire_Get_l0_c)] := by kernel_rfl

theorem wire_Get_l0_ok (k : Nat) : LoopOk (wire_Get_C k) 0 wire_Get_l0_c := by
  refine ⟨[4, 16, 17, 18], by kernel_rfl, fun K r => ⟨wire_Get_l0_L k K, fun vs m h => ⟨k, h⟩, ?_⟩⟩
  intro n vs m h
  unfold wire_Get_l0_L at h
  split at h
  · cases n with
    | zero => cases h
    | succ n => exact ⟨n, rfl, Eq.trans (by kernel_rfl) h⟩
  · cases h

def wire_Get_dec : Value → Mem → Option (Int × Value × Mem) := fun v m => match v with
  | .tuple ⟨[.int .u64 q0, q1]⟩ => some (q0, q1, m)
  | _ => none

theorem wire_Get_eq (k : Nat) (p0a : Option Addr) (p0n : Nat) (p0c : Nat) (m : Mem) : fnX (wire_Get_C k) Try.f50 [(Value.slice p0a p0n p0c)] m wire_Get_dec = wire_Get k p0a p0n p0c m := by kernel_rfl

theorem wire_Get_ok {k : Nat} {p0a : Option Addr} {p0n : Nat} {p0c : Nat} {m : Mem} {r : (Int × Value × Mem)} (h : wire_Get k p0a p0n p0c m = some r) : CallP Try.prog 50 [(Value.slice p0a p0n p0c)] m fun v m' => v = (Value.tuple ⟨[(Value.int .u64 r.1), r.2.1]⟩) ∧ m' = r.2.2 := by
  refine (fn_sound (C := wire_Get_C k) (c := body Try.f50) tOk mixed (wire_Get_callOk k) Try.func50 (by kernel_rfl) (by kernel_rfl) (by kernel_rfl) (by kernel_rfl) ?_ ?_ (Eq.trans (wire_Get_eq k p0a p0n p0c m) h)).mono ?_
  · intro p hp
    rw [wire_Get_loops] at hp
    simp only [List.mem_cons, List.not_mem_nil, or_false] at hp
    rcases hp with rfl
    · exact wire_Get_l0_ok k
  · intro p hp; rw [show rangesOf 0 (body Try.f50) = [] by kernel_rfl] at hp; cases hp
  · intro v m' hp
    unfold wire_Get_dec at hp
    split at hp
    · simp only [Option.some.injEq] at hp; subst hp; exact ⟨rfl, rfl⟩
    · cases hp

def wire_Get_arm {R : Type} (k : Nat) : Arm R := fun vs m K => match vs with
  | [.slice p0a p0n p0c] => (wire_Get k p0a p0n p0c m).bind fun r => K (Value.tuple ⟨[(Value.int .u64 r.1), r.2.1]⟩) r.2.2
  | _ => none

theorem wire_Get_armOk {R : Type} (k : Nat) : ArmOk Try.prog 50 (wire_Get_arm (R := R) k) := by
  intro vs m K r h
  unfold wire_Get_arm at h
  split at h
  · obtain ⟨r, h1, h2⟩ := Option.bind_eq_some_iff.1 h; exact ⟨_, _, h2, fun K' => by simp only [wire_Get_arm, h1, Option.bind_some], wire_Get_ok h1⟩
  · cases h

/-! ### wire_Seal -/
def wire_Seal (k : Nat) (p0a : Option Addr) (p0n : Nat) (p0c : Nat) (m : Mem) : Option (Sl × Value × Mem) :=
  bif ((p0n : Nat) : Int) != 50 then (
  some ((⟨none, 0, 0⟩ : Sl), (Value.iface ty_api_Code (Value.int .i64 1)), m)) else (
  let m1 : Mem := m ++ [.live (repl (Int.toNat 58) [.int .u8 0])]
  (rdSl m1 p0a (min p0n (Int.toNat 58)) 1).bind fun l2 =>
  (oper.stSl m1 (some ⟨List.length m, 0, Option.none⟩) l2).bind fun m3 =>
  bif sliceK.okZ (some ⟨List.length m, 0, Option.none⟩) 1 false && inUpto 50 (Int.toNat 58) then (
  (oper.stSl m3 ((sliceK.clear (some ⟨List.length m, 0, Option.none⟩) false).map fun a => plus a ((Int.toNat 50) * 1)) (List.take (min (ByteArray.size (ByteArray.mk #[112, 97, 116, 105, 110, 97, 48, 49])) ((Int.toNat 58) - (Int.toNat 50))) (bytesOf (ByteArray.mk #[112, 97, 116, 105, 110, 97, 48, 49])))).bind fun m5 =>
  some ((⟨(some ⟨List.length m, 0, Option.none⟩), (Int.toNat 58), (Int.toNat 58)⟩ : Sl), Value.nilIface, m5)) else none)

def wire_Seal_call {R : Type} (k : Nat) : Fun R := callNil

theorem wire_Seal_callOk {R : Type} (k : Nat) : CallOk Try.prog (wire_Seal_call (R := R) k) := callOk_nil

def wire_Seal_loop (k : Nat) : Nat → List Value → Mem → (Nat → List Value → Mem → Option (Sl × Value × Mem)) → Option (Sl × Value × Mem) := fun _ _ _ _ => none

def wire_Seal_C (k : Nat) : Ctx (Sl × Value × Mem) := ⟨tt, wire_Seal_call k, wire_Seal_loop k, [], []⟩

def wire_Seal_dec : Value → Mem → Option (Sl × Value × Mem) := fun v m => match v with
  | .tuple ⟨[.slice q0a q0n q0c, q1]⟩ => some ((⟨q0a, q0n, q0c⟩ : Sl), q1, m)
  | _ => none

theorem wire_Seal_eq (k : Nat) (p0a : Option Addr) (p0n : Nat) (p0c : Nat) (m : Mem) : fnX (wire_Seal_C k) Try.f43 [(Value.slice p0a p0n p0c)] m wire_Seal_dec = wire_Seal k p0a p0n p0c m := by kernel_rfl

theorem wire_Seal_ok {k : Nat} {p0a : Option Addr} {p0n : Nat} {p0c : Nat} {m : Mem} {r : (Sl × Value × Mem)} (h : wire_Seal k p0a p0n p0c m = some r) : CallP Try.prog 43 [(Value.slice p0a p0n p0c)] m fun v m' => v = (Value.tuple ⟨[(Value.slice r.1.a r.1.len r.1.cap), r.2.1]⟩) ∧ m' = r.2.2 := by
  refine (fn_sound (C := wire_Seal_C k) (c := body Try.f43) tOk mixed (wire_Seal_callOk k) Try.func43 (by kernel_rfl) (by kernel_rfl) (by kernel_rfl) (by kernel_rfl) ?_ ?_ (Eq.trans (wire_Seal_eq k p0a p0n p0c m) h)).mono ?_
  · intro p hp; rw [show loopsOf 0 (body Try.f43) = [] by kernel_rfl] at hp; cases hp
  · intro p hp; rw [show rangesOf 0 (body Try.f43) = [] by kernel_rfl] at hp; cases hp
  · intro v m' hp
    unfold wire_Seal_dec at hp
    split at hp
    · simp only [Option.some.injEq] at hp; subst hp; exact ⟨rfl, rfl⟩
    · cases hp

def wire_Seal_arm {R : Type} (k : Nat) : Arm R := fun vs m K => match vs with
  | [.slice p0a p0n p0c] => (wire_Seal k p0a p0n p0c m).bind fun r => K (Value.tuple ⟨[(Value.slice r.1.a r.1.len r.1.cap), r.2.1]⟩) r.2.2
  | _ => none

theorem wire_Seal_armOk {R : Type} (k : Nat) : ArmOk Try.prog 43 (wire_Seal_arm (R := R) k) := by
  intro vs m K r h
  unfold wire_Seal_arm at h
  split at h
  · obtain ⟨r, h1, h2⟩ := Option.bind_eq_some_iff.1 h; exact ⟨_, _, h2, fun K' => by simp only [wire_Seal_arm, h1, Option.bind_some], wire_Seal_ok h1⟩
  · cases h

end Go.Proofs.Ytchonnaoojpdoaa
