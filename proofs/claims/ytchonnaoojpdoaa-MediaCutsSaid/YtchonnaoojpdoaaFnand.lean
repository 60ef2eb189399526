/- The program's functions as plain Lean functions over a clean memory, each held against the program by the kernel. Written by mx.py. -/
import Derived.Test.YtchonnaoojpdoaaF0
import Derived.Test.YtchonnaoojpdoaaFsyncatomic
set_option linter.unusedVariables false
set_option maxRecDepth 100000
namespace Go.Proofs.Ytchonnaoojpdoaa
open Go.Mx

/-! ### nand_Chip_at -/
def nand_Chip_at (k : Nat) (p0 : Option Addr) (p1 : Int) (p2 : Int) (m : Mem) : Option ((Option Addr) × Value × Mem) :=
  bif decide (p1 < 0) then (
  some (none, (Value.iface ty_api_Code (Value.int .i64 1)), m)) else (
  bif decide (p1 ≥ 96) then (
  some (none, (Value.iface ty_api_Code (Value.int .i64 1)), m)) else (
  bif decide (p2 < 0) then (
  some (none, (Value.iface ty_api_Code (Value.int .i64 1)), m)) else (
  bif decide (p2 ≥ 4) then (
  some (none, (Value.iface ty_api_Code (Value.int .i64 1)), m)) else (
  (p0).bind fun a1 =>
  bif inRange (IntKind.wrap .i64 (Int.tdiv p1 8)) 12 then (
  bif inRange (Int.tmod p1 8) 8 then (
  bif inRange p2 4 then (
  some ((some (plus (plus (plus (plus (plus a1 0) (Int.toNat (IntKind.wrap .i64 (Int.tdiv p1 8)) * 4164)) 0) (Int.toNat (Int.tmod p1 8) * 520)) (Int.toNat p2 * 130))), Value.nilIface, m)) else none) else none) else none))))

def nand_Chip_at_call {R : Type} (k : Nat) : Fun R := callNil

theorem nand_Chip_at_callOk {R : Type} (k : Nat) : CallOk Try.prog (nand_Chip_at_call (R := R) k) := callOk_nil

def nand_Chip_at_loop (k : Nat) : Nat → List Value → Mem → (Nat → List Value → Mem → Option ((Option Addr) × Value × Mem)) → Option ((Option Addr) × Value × Mem) := fun _ _ _ _ => none

def nand_Chip_at_C (k : Nat) : Ctx ((Option Addr) × Value × Mem) := ⟨tt, nand_Chip_at_call k, nand_Chip_at_loop k, [], []⟩

def nand_Chip_at_dec : Value → Mem → Option ((Option Addr) × Value × Mem) := fun v m => match v with
  | .tuple ⟨[.pointer q0, q1]⟩ => some (q0, q1, m)
  | _ => none

theorem nand_Chip_at_eq (k : Nat) (p0 : Option Addr) (p1 : Int) (p2 : Int) (m : Mem) : fnX (nand_Chip_at_C k) Try.f25 [(Value.pointer p0), (Value.int .i64 p1), (Value.int .i64 p2)] m nand_Chip_at_dec = nand_Chip_at k p0 p1 p2 m := by kernel_rfl

theorem nand_Chip_at_ok {k : Nat} {p0 : Option Addr} {p1 : Int} {p2 : Int} {m : Mem} {r : ((Option Addr) × Value × Mem)} (h : nand_Chip_at k p0 p1 p2 m = some r) : CallP Try.prog 25 [(Value.pointer p0), (Value.int .i64 p1), (Value.int .i64 p2)] m fun v m' => v = (Value.tuple ⟨[(Value.pointer r.1), r.2.1]⟩) ∧ m' = r.2.2 := by
  refine (fn_sound (C := nand_Chip_at_C k) (c := body Try.f25) tOk mixed (nand_Chip_at_callOk k) Try.func25 (by kernel_rfl) (by kernel_rfl) (by kernel_rfl) (by kernel_rfl) ?_ ?_ (Eq.trans (nand_Chip_at_eq k p0 p1 p2 m) h)).mono ?_
  · intro p hp; rw [show loopsOf 0 (body Try.f25) = [] by kernel_rfl] at hp; cases hp
  · intro p hp; rw [show rangesOf 0 (body Try.f25) = [] by kernel_rfl] at hp; cases hp
  · intro v m' hp
    unfold nand_Chip_at_dec at hp
    split at hp
    · simp only [Option.some.injEq] at hp; subst hp; exact ⟨rfl, rfl⟩
    · cases hp

def nand_Chip_at_arm {R : Type} (k : Nat) : Arm R := fun vs m K => match vs with
  | [.pointer p0, .int .i64 p1, .int .i64 p2] => (nand_Chip_at k p0 p1 p2 m).bind fun r => K (Value.tuple ⟨[(Value.pointer r.1), r.2.1]⟩) r.2.2
  | _ => none

theorem nand_Chip_at_armOk {R : Type} (k : Nat) : ArmOk Try.prog 25 (nand_Chip_at_arm (R := R) k) := by
  intro vs m K r h
  unfold nand_Chip_at_arm at h
  split at h
  · obtain ⟨r, h1, h2⟩ := Option.bind_eq_some_iff.1 h; exact ⟨_, _, h2, fun K' => by simp only [nand_Chip_at_arm, h1, Option.bind_some], nand_Chip_at_ok h1⟩
  · cases h

/-! ### nand_Chip_Read -/
def nand_Chip_Read_l0_b (k : Nat) (nx : Int → Addr → Option Addr → Nat → Nat → Int → Mem → Option (Sl × Value × Mem)) (kx2 : Option Addr → Nat → Nat → Mem → Option (Sl × Value × Mem)) (x1 : Int) (x8 : Addr) (x9a : Option Addr) (x9n : Nat) (x9c : Nat) (x36 : Int) (m : Mem) : Option (Sl × Value × Mem) :=
  bif decide (x36 < 4) then (
  bif inRange (Int.tmod x1 8) 8 then (
  bif inRange x36 4 then (
  (rdSl m (sliceK.clear (some (plus (plus (plus (plus x8 0) (Int.toNat (Int.tmod x1 8) * 520)) (Int.toNat x36 * 130)) 0)) true) 64 1).bind fun l8 =>
  (appM 1 1 m x9a x9n x9c 64 l8).bind fun r9 =>
  nx x1 x8 r9.1.a r9.1.len r9.1.cap (IntKind.wrap .i64 (x36 + 1)) r9.2) else none) else none) else (
  kx2 x9a x9n x9c m)

def nand_Chip_Read_l0 (k : Nat) (kx2 : Option Addr → Nat → Nat → Mem → Option (Sl × Value × Mem)) : Nat → Int → Addr → Option Addr → Nat → Nat → Int → Mem → Option (Sl × Value × Mem)
  | 0, _, _, _, _, _, _, _ => none
  | n + 1, x1, x8, x9a, x9n, x9c, x36, m => nand_Chip_Read_l0_b k (fun x1 x8 x9a x9n x9c x36 m => nand_Chip_Read_l0 k kx2 n x1 x8 x9a x9n x9c x36 m) kx2 x1 x8 x9a x9n x9c x36 m
termination_by structural x => x

theorem nand_Chip_Read_l0_rule (k : Nat) (kx2 : Option Addr → Nat → Nat → Mem → Option (Sl × Value × Mem)) {P : (Sl × Value × Mem) → Prop} (I : Nat → Int → Addr → Option Addr → Nat → Nat → Int → Mem → Prop)
    (step : ∀ d (nx : Int → Addr → Option Addr → Nat → Nat → Int → Mem → Option (Sl × Value × Mem)) (x1 : Int) (x8 : Addr) (x9a : Option Addr) (x9n : Nat) (x9c : Nat) (x36 : Int) (m : Mem), I d x1 x8 x9a x9n x9c x36 m → (∀ d' (x1 : Int) (x8 : Addr) (x9a : Option Addr) (x9n : Nat) (x9c : Nat) (x36 : Int) (m : Mem), d' < d → I d' x1 x8 x9a x9n x9c x36 m → Ok (nx x1 x8 x9a x9n x9c x36 m) P) → Ok (nand_Chip_Read_l0_b k nx kx2 x1 x8 x9a x9n x9c x36 m) P) :
    ∀ n d (x1 : Int) (x8 : Addr) (x9a : Option Addr) (x9n : Nat) (x9c : Nat) (x36 : Int) (m : Mem), d < n → I d x1 x8 x9a x9n x9c x36 m → Ok (nand_Chip_Read_l0 k kx2 n x1 x8 x9a x9n x9c x36 m) P
  | 0, d, x1, x8, x9a, x9n, x9c, x36, m, h, _ => absurd h (Nat.not_lt_zero _)
  | n + 1, d, x1, x8, x9a, x9n, x9c, x36, m, h, hI => step d _ x1 x8 x9a x9n x9c x36 m hI fun d' x1 x8 x9a x9n x9c x36 m h' hI' => nand_Chip_Read_l0_rule k kx2 I step n d' x1 x8 x9a x9n x9c x36 m (by omega) hI'

def nand_Chip_Read (k : Nat) (p0 : Option Addr) (p1 : Int) (m : Mem) : Option (Sl × Value × Mem) :=
  (nand_Chip_at k p0 p1 0 m).bind fun r1 =>
  (isNil r1.2.1).bind fun b2 =>
  bif !b2 then (
  some ((⟨none, 0, 0⟩ : Sl), r1.2.1, r1.2.2)) else (
  (p0).bind fun a3 =>
  (ldBool r1.2.2 (plus a3 49968)).bind fun t4 =>
  bif t4 then (
  some ((⟨none, 0, 0⟩ : Sl), (Value.iface ty_api_Code (Value.int .i64 7)), r1.2.2)) else (
  (p0).bind fun a5 =>
  bif inRange (IntKind.wrap .i64 (Int.tdiv p1 8)) 12 then (
  (sync_atomic_Int64_Add k (some (plus (plus (plus a5 0) (Int.toNat (IntKind.wrap .i64 (Int.tdiv p1 8)) * 4164)) 4160)) 1 r1.2.2).bind fun r6 =>
  let m7 : Mem := r6.2 ++ [.live (repl (Int.toNat 256) [.int .u8 0])]
  nand_Chip_Read_l0 k (fun y9a y9n y9c m10 => 
  some ((⟨y9a, y9n, y9c⟩ : Sl), Value.nilIface, m10)) k p1 (plus (plus a5 0) (Int.toNat (IntKind.wrap .i64 (Int.tdiv p1 8)) * 4164)) (some ⟨List.length r6.2, 0, Option.none⟩) (Int.toNat 0) (Int.toNat 256) 0 m7) else none))

def nand_Chip_Read_call {R : Type} (k : Nat) : Fun R := callCons 25 (nand_Chip_at_arm k) (callCons 28 (sync_atomic_Int64_Add_arm k) (callNil))

theorem nand_Chip_Read_callOk {R : Type} (k : Nat) : CallOk Try.prog (nand_Chip_Read_call (R := R) k) := callOk_cons (nand_Chip_at_armOk k) (callOk_cons (sync_atomic_Int64_Add_armOk k) (callOk_nil))

def nand_Chip_Read_l0_L (k : Nat) (K : Nat → List Value → Mem → Option (Sl × Value × Mem)) (n : Nat) (vs : List Value) (m : Mem) : Option (Sl × Value × Mem) := match vs with
  | [.int .i64 x1, .pointer (some x8), .slice x9a x9n x9c, .int .i64 x36] => nand_Chip_Read_l0 k (fun y9a y9n y9c m => K 2 [(Value.slice y9a y9n y9c)] m) n x1 x8 x9a x9n x9c x36 m
  | _ => none

def nand_Chip_Read_loop (k : Nat) : Nat → List Value → Mem → (Nat → List Value → Mem → Option (Sl × Value × Mem)) → Option (Sl × Value × Mem) := fun cur vs m K => match cur with
  | 0 => nand_Chip_Read_l0_L k K k vs m
  | _ => none

def nand_Chip_Read_C (k : Nat) : Ctx (Sl × Value × Mem) := ⟨tt, nand_Chip_Read_call k, nand_Chip_Read_loop k, [(0, [1, 8, 9, 36])], [(2, [9])]⟩

noncomputable def nand_Chip_Read_l0_c : Code := ((loopsOf 0 (body Try.f27)).map (·.2)).getD 0 .skip

theorem nand_Chip_Read_loops : loopsOf 0 (body Try.f27) = [(0, nand_Chip_Read_l0_c)] := by kernel_rfl

theorem nand_Chip_Read_l0_ok (k : Nat) : LoopOk (nand_Chip_Read_C k) 0 nand_Chip_Read_l0_c := by
  refine ⟨[1, 8, 9, 36], by kernel_rfl, fun K r => ⟨nand_Chip_Read_l0_L k K, fun vs m h => ⟨k, h⟩, ?_⟩⟩
  intro n vs m h
  unfold nand_Chip_Read_l0_L at h
  split at h
  · cases n with
    | zero => cases h
    | succ n => exact ⟨n, rfl, Eq.trans (by kernel_rfl) h⟩
  · cases h

def nand_Chip_Read_dec : Value → Mem → Option (Sl × Value × Mem) := fun v m => match v with
  | .tuple ⟨[.slice q0a q0n q0c, q1]⟩ => some ((⟨q0a, q0n, q0c⟩ : Sl), q1, m)
  | _ => none

theorem nand_Chip_Read_eq (k : Nat) (p0 : Option Addr) (p1 : Int) (m : Mem) : fnX (nand_Chip_Read_C k) Try.f27 [(Value.pointer p0), (Value.int .i64 p1)] m nand_Chip_Read_dec = nand_Chip_Read k p0 p1 m := by kernel_rfl

theorem nand_Chip_Read_ok {k : Nat} {p0 : Option Addr} {p1 : Int} {m : Mem} {r : (Sl × Value × Mem)} (h : nand_Chip_Read k p0 p1 m = some r) : CallP Try.prog 27 [(Value.pointer p0), (Value.int .i64 p1)] m fun v m' => v = (Value.tuple ⟨[(Value.slice r.1.a r.1.len r.1.cap), r.2.1]⟩) ∧ m' = r.2.2 := by
  refine (fn_sound (C := nand_Chip_Read_C k) (c := body Try.f27) tOk mixed (nand_Chip_Read_callOk k) Try.func27 (by kernel_rfl) (by kernel_rfl) (by kernel_rfl) (by kernel_rfl) ?_ ?_ (Eq.trans (nand_Chip_Read_eq k p0 p1 m) h)).mono ?_
  · intro p hp
    rw [nand_Chip_Read_loops] at hp
    simp only [List.mem_cons, List.not_mem_nil, or_false] at hp
    rcases hp with rfl
    · exact nand_Chip_Read_l0_ok k
  · intro p hp; rw [show rangesOf 0 (body Try.f27) = [] by kernel_rfl] at hp; cases hp
  · intro v m' hp
    unfold nand_Chip_Read_dec at hp
    split at hp
    · simp only [Option.some.injEq] at hp; subst hp; exact ⟨rfl, rfl⟩
    · cases hp

def nand_Chip_Read_arm {R : Type} (k : Nat) : Arm R := fun vs m K => match vs with
  | [.pointer p0, .int .i64 p1] => (nand_Chip_Read k p0 p1 m).bind fun r => K (Value.tuple ⟨[(Value.slice r.1.a r.1.len r.1.cap), r.2.1]⟩) r.2.2
  | _ => none

theorem nand_Chip_Read_armOk {R : Type} (k : Nat) : ArmOk Try.prog 27 (nand_Chip_Read_arm (R := R) k) := by
  intro vs m K r h
  unfold nand_Chip_Read_arm at h
  split at h
  · obtain ⟨r, h1, h2⟩ := Option.bind_eq_some_iff.1 h; exact ⟨_, _, h2, fun K' => by simp only [nand_Chip_Read_arm, h1, Option.bind_some], nand_Chip_Read_ok h1⟩
  · cases h

/-! ### nand_Chip_step -/
def nand_Chip_step_j1 (k : Nat) (p0 : Option Addr) (mj : Mem) : Option (Value × Mem) :=
  (p0).bind fun a1 =>
  (ldInt .i64 mj (plus a1 49971)).bind fun t2 =>
  (p0).bind fun a3 =>
  (st mj (plus a3 49971) (Value.int .i64 (IntKind.wrap .i64 (t2 + 1)))).bind fun m4 =>
  some (Value.nilIface, m4)

def nand_Chip_step (k : Nat) (p0 : Option Addr) (m : Mem) : Option (Value × Mem) :=
  (p0).bind fun a5 =>
  (ldBool m (plus a5 49969)).bind fun t6 =>
  bif t6 then (
  (p0).bind fun a7 =>
  (ldInt .i64 m (plus a7 49970)).bind fun t8 =>
  bif t8 == 0 then (
  (p0).bind fun a9 =>
  (st m (plus a9 49968) (Value.bool true)).bind fun m10 =>
  some ((Value.iface ty_api_Code (Value.int .i64 7)), m10)) else (
  (p0).bind fun a11 =>
  (ldInt .i64 m (plus a11 49970)).bind fun t12 =>
  (p0).bind fun a13 =>
  (st m (plus a13 49970) (Value.int .i64 (IntKind.wrap .i64 (t12 - 1)))).bind fun m14 =>
  nand_Chip_step_j1 k p0 m14)) else (
  nand_Chip_step_j1 k p0 m)

def nand_Chip_step_call {R : Type} (k : Nat) : Fun R := callNil

theorem nand_Chip_step_callOk {R : Type} (k : Nat) : CallOk Try.prog (nand_Chip_step_call (R := R) k) := callOk_nil

def nand_Chip_step_loop (k : Nat) : Nat → List Value → Mem → (Nat → List Value → Mem → Option (Value × Mem)) → Option (Value × Mem) := fun _ _ _ _ => none

def nand_Chip_step_C (k : Nat) : Ctx (Value × Mem) := ⟨tt, nand_Chip_step_call k, nand_Chip_step_loop k, [], []⟩

def nand_Chip_step_dec : Value → Mem → Option (Value × Mem) := fun v m => match v with
  | q0 => some (q0, m)

theorem nand_Chip_step_eq (k : Nat) (p0 : Option Addr) (m : Mem) : fnX (nand_Chip_step_C k) Try.f46 [(Value.pointer p0)] m nand_Chip_step_dec = nand_Chip_step k p0 m := by kernel_rfl

theorem nand_Chip_step_ok {k : Nat} {p0 : Option Addr} {m : Mem} {r : (Value × Mem)} (h : nand_Chip_step k p0 m = some r) : CallP Try.prog 46 [(Value.pointer p0)] m fun v m' => v = r.1 ∧ m' = r.2 := by
  refine (fn_sound (C := nand_Chip_step_C k) (c := body Try.f46) tOk mixed (nand_Chip_step_callOk k) Try.func46 (by kernel_rfl) (by kernel_rfl) (by kernel_rfl) (by kernel_rfl) ?_ ?_ (Eq.trans (nand_Chip_step_eq k p0 m) h)).mono ?_
  · intro p hp; rw [show loopsOf 0 (body Try.f46) = [] by kernel_rfl] at hp; cases hp
  · intro p hp; rw [show rangesOf 0 (body Try.f46) = [] by kernel_rfl] at hp; cases hp
  · intro v m' hp
    simp only [nand_Chip_step_dec, Option.some.injEq] at hp; subst hp; exact ⟨rfl, rfl⟩

def nand_Chip_step_arm {R : Type} (k : Nat) : Arm R := fun vs m K => match vs with
  | [.pointer p0] => (nand_Chip_step k p0 m).bind fun r => K r.1 r.2
  | _ => none

theorem nand_Chip_step_armOk {R : Type} (k : Nat) : ArmOk Try.prog 46 (nand_Chip_step_arm (R := R) k) := by
  intro vs m K r h
  unfold nand_Chip_step_arm at h
  split at h
  · obtain ⟨r, h1, h2⟩ := Option.bind_eq_some_iff.1 h; exact ⟨_, _, h2, fun K' => by simp only [nand_Chip_step_arm, h1, Option.bind_some], nand_Chip_step_ok h1⟩
  · cases h

/-! ### nand_Chip_Write -/
def nand_Chip_Write_j1 (k : Nat) (p1 : Int) (p3a : Option Addr) (p3n : Nat) (r1 : (Option Addr) × Value × Mem) (a9 : Addr) (mj : Mem) : Option (Value × Mem) :=
  (ldBool mj (plus (plus (plus a9 0) (Int.toNat (IntKind.wrap .i64 (Int.tdiv p1 8)) * 4164)) 4161)).bind fun t10 =>
  bif t10 then (
  some ((Value.iface ty_api_Code (Value.int .i64 8)), mj)) else (
  (r1.1).bind fun a11 =>
  (rdSl mj p3a (min p3n 64) 1).bind fun l12 =>
  (oper.stSl mj (sliceK.clear (some (plus a11 0)) true) l12).bind fun m13 =>
  (r1.1).bind fun a14 =>
  (ldCells m13 (plus a14 0) 64).bind fun t15 =>
  (r1.1).bind fun a16 =>
  bif Nat.beq (List.length t15) 64 then (
  (stCells m13 (plus a16 64) t15).bind fun m17 =>
  (r1.1).bind fun a18 =>
  (st m17 (plus a18 128) (Value.bool true)).bind fun m19 =>
  (r1.1).bind fun a20 =>
  (st m19 (plus a20 129) (Value.int .i64 0)).bind fun m21 =>
  some (Value.nilIface, m21)) else none)

def nand_Chip_Write (k : Nat) (p0 : Option Addr) (p1 : Int) (p2 : Int) (p3a : Option Addr) (p3n : Nat) (p3c : Nat) (m : Mem) : Option (Value × Mem) :=
  (nand_Chip_at k p0 p1 p2 m).bind fun r1 =>
  (isNil r1.2.1).bind fun b2 =>
  bif !b2 then (
  some (r1.2.1, r1.2.2)) else (
  bif ((p3n : Nat) : Int) != 64 then (
  some ((Value.iface ty_api_Code (Value.int .i64 1)), r1.2.2)) else (
  (p0).bind fun a3 =>
  (ldBool r1.2.2 (plus a3 49968)).bind fun t4 =>
  bif t4 then (
  some ((Value.iface ty_api_Code (Value.int .i64 7)), r1.2.2)) else (
  (r1.1).bind fun a5 =>
  (ldBool r1.2.2 (plus a5 128)).bind fun t6 =>
  bif t6 then (
  some ((Value.iface ty_api_Code (Value.int .i64 9)), r1.2.2)) else (
  (nand_Chip_step k p0 r1.2.2).bind fun r7 =>
  (isNil r7.1).bind fun b8 =>
  bif !b8 then (
  some (r7.1, r7.2)) else (
  (p0).bind fun a9 =>
  bif inRange (IntKind.wrap .i64 (Int.tdiv p1 8)) 12 then (
  (ldInt .i64 r7.2 (plus (plus (plus a9 0) (Int.toNat (IntKind.wrap .i64 (Int.tdiv p1 8)) * 4164)) 4162)).bind fun t22 =>
  bif decide (t22 > 0) then (
  (ldInt .i64 r7.2 (plus (plus (plus a9 0) (Int.toNat (IntKind.wrap .i64 (Int.tdiv p1 8)) * 4164)) 4162)).bind fun t23 =>
  (st r7.2 (plus (plus (plus a9 0) (Int.toNat (IntKind.wrap .i64 (Int.tdiv p1 8)) * 4164)) 4162) (Value.int .i64 (IntKind.wrap .i64 (t23 - 1)))).bind fun m24 =>
  (ldBool m24 (plus (plus (plus a9 0) (Int.toNat (IntKind.wrap .i64 (Int.tdiv p1 8)) * 4164)) 4161)).bind fun t25 =>
  bif t25 then (
  (st m24 (plus (plus (plus a9 0) (Int.toNat (IntKind.wrap .i64 (Int.tdiv p1 8)) * 4164)) 4161) (Value.bool true)).bind fun m26 =>
  nand_Chip_Write_j1 k p1 p3a p3n r1 a9 m26) else (
  (ldInt .i64 m24 (plus (plus (plus a9 0) (Int.toNat (IntKind.wrap .i64 (Int.tdiv p1 8)) * 4164)) 4162)).bind fun t27 =>
  (st m24 (plus (plus (plus a9 0) (Int.toNat (IntKind.wrap .i64 (Int.tdiv p1 8)) * 4164)) 4161) (Value.bool (t27 == 0))).bind fun m28 =>
  nand_Chip_Write_j1 k p1 p3a p3n r1 a9 m28)) else (
  nand_Chip_Write_j1 k p1 p3a p3n r1 a9 r7.2)) else none)))))

def nand_Chip_Write_call {R : Type} (k : Nat) : Fun R := callCons 25 (nand_Chip_at_arm k) (callCons 46 (nand_Chip_step_arm k) (callNil))

theorem nand_Chip_Write_callOk {R : Type} (k : Nat) : CallOk Try.prog (nand_Chip_Write_call (R := R) k) := callOk_cons (nand_Chip_at_armOk k) (callOk_cons (nand_Chip_step_armOk k) (callOk_nil))

def nand_Chip_Write_loop (k : Nat) : Nat → List Value → Mem → (Nat → List Value → Mem → Option (Value × Mem)) → Option (Value × Mem) := fun _ _ _ _ => none

def nand_Chip_Write_C (k : Nat) : Ctx (Value × Mem) := ⟨tt, nand_Chip_Write_call k, nand_Chip_Write_loop k, [], []⟩

def nand_Chip_Write_dec : Value → Mem → Option (Value × Mem) := fun v m => match v with
  | q0 => some (q0, m)

theorem nand_Chip_Write_eq (k : Nat) (p0 : Option Addr) (p1 : Int) (p2 : Int) (p3a : Option Addr) (p3n : Nat) (p3c : Nat) (m : Mem) : fnX (nand_Chip_Write_C k) Try.f23 [(Value.pointer p0), (Value.int .i64 p1), (Value.int .i64 p2), (Value.slice p3a p3n p3c)] m nand_Chip_Write_dec = nand_Chip_Write k p0 p1 p2 p3a p3n p3c m := by kernel_rfl

theorem nand_Chip_Write_ok {k : Nat} {p0 : Option Addr} {p1 : Int} {p2 : Int} {p3a : Option Addr} {p3n : Nat} {p3c : Nat} {m : Mem} {r : (Value × Mem)} (h : nand_Chip_Write k p0 p1 p2 p3a p3n p3c m = some r) : CallP Try.prog 23 [(Value.pointer p0), (Value.int .i64 p1), (Value.int .i64 p2), (Value.slice p3a p3n p3c)] m fun v m' => v = r.1 ∧ m' = r.2 := by
  refine (fn_sound (C := nand_Chip_Write_C k) (c := body Try.f23) tOk mixed (nand_Chip_Write_callOk k) Try.func23 (by kernel_rfl) (by kernel_rfl) (by kernel_rfl) (by kernel_rfl) ?_ ?_ (Eq.trans (nand_Chip_Write_eq k p0 p1 p2 p3a p3n p3c m) h)).mono ?_
  · intro p hp; rw [show loopsOf 0 (body Try.f23) = [] by kernel_rfl] at hp; cases hp
  · intro p hp; rw [show rangesOf 0 (body Try.f23) = [] by kernel_rfl] at hp; cases hp
  · intro v m' hp
    simp only [nand_Chip_Write_dec, Option.some.injEq] at hp; subst hp; exact ⟨rfl, rfl⟩

def nand_Chip_Write_arm {R : Type} (k : Nat) : Arm R := fun vs m K => match vs with
  | [.pointer p0, .int .i64 p1, .int .i64 p2, .slice p3a p3n p3c] => (nand_Chip_Write k p0 p1 p2 p3a p3n p3c m).bind fun r => K r.1 r.2
  | _ => none

theorem nand_Chip_Write_armOk {R : Type} (k : Nat) : ArmOk Try.prog 23 (nand_Chip_Write_arm (R := R) k) := by
  intro vs m K r h
  unfold nand_Chip_Write_arm at h
  split at h
  · obtain ⟨r, h1, h2⟩ := Option.bind_eq_some_iff.1 h; exact ⟨_, _, h2, fun K' => by simp only [nand_Chip_Write_arm, h1, Option.bind_some], nand_Chip_Write_ok h1⟩
  · cases h

/-! ### nand_chunk_damage -/
def nand_chunk_damage_j1 (k : Nat) (x0 : Option Addr) (x9 : List Value) (x10 : Int) (nx : Option Addr → Int → List Value → Int → Mem → Option (Int × Mem)) (x3_ : Int) (mj : Mem) : Option (Int × Mem) :=
  nx x0 x3_ x9 (IntKind.wrap .i64 (x10 + 1)) mj

def nand_chunk_damage_l0_b (k : Nat) (nx : Option Addr → Int → List Value → Int → Mem → Option (Int × Mem)) (kx2 : Int → Mem → Option (Int × Mem)) (x0 : Option Addr) (x3 : Int) (x9 : List Value) (x10 : Int) (m : Mem) : Option (Int × Mem) :=
  bif decide (x10 < 64) then (
  bif inRange x10 64 then (
  (cInt .u8 x9 (Int.toNat x10 * 1)).bind fun t3 =>
  (x0).bind fun a4 =>
  bif inRange x10 64 then (
  (ldInt .u8 m (plus (plus a4 64) (Int.toNat x10 * 1))).bind fun t5 =>
  bif t3 != t5 then (
  nand_chunk_damage_j1 k x0 x9 x10 nx (IntKind.wrap .i64 (x3 + 1)) m) else (
  nand_chunk_damage_j1 k x0 x9 x10 nx x3 m)) else none) else none) else (
  kx2 x3 m)

def nand_chunk_damage_l0 (k : Nat) (kx2 : Int → Mem → Option (Int × Mem)) : Nat → Option Addr → Int → List Value → Int → Mem → Option (Int × Mem)
  | 0, _, _, _, _, _ => none
  | n + 1, x0, x3, x9, x10, m => nand_chunk_damage_l0_b k (fun x0 x3 x9 x10 m => nand_chunk_damage_l0 k kx2 n x0 x3 x9 x10 m) kx2 x0 x3 x9 x10 m
termination_by structural x => x

theorem nand_chunk_damage_l0_rule (k : Nat) (kx2 : Int → Mem → Option (Int × Mem)) {P : (Int × Mem) → Prop} (I : Nat → Option Addr → Int → List Value → Int → Mem → Prop)
    (step : ∀ d (nx : Option Addr → Int → List Value → Int → Mem → Option (Int × Mem)) (x0 : Option Addr) (x3 : Int) (x9 : List Value) (x10 : Int) (m : Mem), I d x0 x3 x9 x10 m → (∀ d' (x0 : Option Addr) (x3 : Int) (x9 : List Value) (x10 : Int) (m : Mem), d' < d → I d' x0 x3 x9 x10 m → Ok (nx x0 x3 x9 x10 m) P) → Ok (nand_chunk_damage_l0_b k nx kx2 x0 x3 x9 x10 m) P) :
    ∀ n d (x0 : Option Addr) (x3 : Int) (x9 : List Value) (x10 : Int) (m : Mem), d < n → I d x0 x3 x9 x10 m → Ok (nand_chunk_damage_l0 k kx2 n x0 x3 x9 x10 m) P
  | 0, d, x0, x3, x9, x10, m, h, _ => absurd h (Nat.not_lt_zero _)
  | n + 1, d, x0, x3, x9, x10, m, h, hI => step d _ x0 x3 x9 x10 m hI fun d' x0 x3 x9 x10 m h' hI' => nand_chunk_damage_l0_rule k kx2 I step n d' x0 x3 x9 x10 m (by omega) hI'

def nand_chunk_damage (k : Nat) (p0 : Option Addr) (m : Mem) : Option (Int × Mem) :=
  (p0).bind fun a1 =>
  (ldCells m (plus a1 0) 64).bind fun t2 =>
  nand_chunk_damage_l0 k (fun y3 m6 => 
  some (y3, m6)) k p0 0 t2 0 m

def nand_chunk_damage_call {R : Type} (k : Nat) : Fun R := callNil

theorem nand_chunk_damage_callOk {R : Type} (k : Nat) : CallOk Try.prog (nand_chunk_damage_call (R := R) k) := callOk_nil

def nand_chunk_damage_l0_L (k : Nat) (K : Nat → List Value → Mem → Option (Int × Mem)) (n : Nat) (vs : List Value) (m : Mem) : Option (Int × Mem) := match vs with
  | [.pointer x0, .int .i64 x3, .agg ⟨x9⟩, .int .i64 x10] => nand_chunk_damage_l0 k (fun y3 m => K 2 [(Value.int .i64 y3)] m) n x0 x3 x9 x10 m
  | _ => none

def nand_chunk_damage_loop (k : Nat) : Nat → List Value → Mem → (Nat → List Value → Mem → Option (Int × Mem)) → Option (Int × Mem) := fun cur vs m K => match cur with
  | 0 => nand_chunk_damage_l0_L k K k vs m
  | _ => none

def nand_chunk_damage_C (k : Nat) : Ctx (Int × Mem) := ⟨tt, nand_chunk_damage_call k, nand_chunk_damage_loop k, [(0, [0, 3, 9, 10])], [(2, [3])]⟩

noncomputable def nand_chunk_damage_l0_c : Code := ((loopsOf 0 (body Try.f26)).map (·.2)).getD 0 .skip

theorem nand_chunk_damage_loops : loopsOf 0 (body Try.f26) = [(0, nand_chunk_damage_l0_c)] := by kernel_rfl

theorem nand_chunk_damage_l0_ok (k : Nat) : LoopOk (nand_chunk_damage_C k) 0 nand_chunk_damage_l0_c := by
  refine ⟨[0, 3, 9, 10], by kernel_rfl, fun K r => ⟨nand_chunk_damage_l0_L k K, fun vs m h => ⟨k, h⟩, ?_⟩⟩
  intro n vs m h
  unfold nand_chunk_damage_l0_L at h
  split at h
  · cases n with
    | zero => cases h
    | succ n => exact ⟨n, rfl, Eq.trans (by kernel_rfl) h⟩
  · cases h

def nand_chunk_damage_dec : Value → Mem → Option (Int × Mem) := fun v m => match v with
  | .int .i64 q0 => some (q0, m)
  | _ => none

theorem nand_chunk_damage_eq (k : Nat) (p0 : Option Addr) (m : Mem) : fnX (nand_chunk_damage_C k) Try.f26 [(Value.pointer p0)] m nand_chunk_damage_dec = nand_chunk_damage k p0 m := by kernel_rfl

theorem nand_chunk_damage_ok {k : Nat} {p0 : Option Addr} {m : Mem} {r : (Int × Mem)} (h : nand_chunk_damage k p0 m = some r) : CallP Try.prog 26 [(Value.pointer p0)] m fun v m' => v = (Value.int .i64 r.1) ∧ m' = r.2 := by
  refine (fn_sound (C := nand_chunk_damage_C k) (c := body Try.f26) tOk mixed (nand_chunk_damage_callOk k) Try.func26 (by kernel_rfl) (by kernel_rfl) (by kernel_rfl) (by kernel_rfl) ?_ ?_ (Eq.trans (nand_chunk_damage_eq k p0 m) h)).mono ?_
  · intro p hp
    rw [nand_chunk_damage_loops] at hp
    simp only [List.mem_cons, List.not_mem_nil, or_false] at hp
    rcases hp with rfl
    · exact nand_chunk_damage_l0_ok k
  · intro p hp; rw [show rangesOf 0 (body Try.f26) = [] by kernel_rfl] at hp; cases hp
  · intro v m' hp
    unfold nand_chunk_damage_dec at hp
    split at hp
    · simp only [Option.some.injEq] at hp; subst hp; exact ⟨rfl, rfl⟩
    · cases hp

def nand_chunk_damage_arm {R : Type} (k : Nat) : Arm R := fun vs m K => match vs with
  | [.pointer p0] => (nand_chunk_damage k p0 m).bind fun r => K (Value.int .i64 r.1) r.2
  | _ => none

theorem nand_chunk_damage_armOk {R : Type} (k : Nat) : ArmOk Try.prog 26 (nand_chunk_damage_arm (R := R) k) := by
  intro vs m K r h
  unfold nand_chunk_damage_arm at h
  split at h
  · obtain ⟨r, h1, h2⟩ := Option.bind_eq_some_iff.1 h; exact ⟨_, _, h2, fun K' => by simp only [nand_chunk_damage_arm, h1, Option.bind_some], nand_chunk_damage_ok h1⟩
  · cases h

/-! ### nand_Chip_Flip -/
def nand_Chip_Flip (k : Nat) (p0 : Option Addr) (p1 : Int) (p2 : Int) (m : Mem) : Option (Value × Mem) :=
  bif decide (p2 < 0) then (
  some ((Value.iface ty_api_Code (Value.int .i64 1)), m)) else (
  bif decide (p2 ≥ 2048) then (
  some ((Value.iface ty_api_Code (Value.int .i64 1)), m)) else (
  (nand_Chip_at k p0 p1 (IntKind.wrap .i64 (Int.tdiv (IntKind.wrap .i64 (Int.tdiv p2 8)) 64)) m).bind fun r1 =>
  (isNil r1.2.1).bind fun b2 =>
  bif !b2 then (
  some (r1.2.1, r1.2.2)) else (
  (r1.1).bind fun a3 =>
  bif inRange (Int.tmod (IntKind.wrap .i64 (Int.tdiv p2 8)) 64) 64 then (
  (ldInt .u8 r1.2.2 (plus (plus a3 0) (Int.toNat (Int.tmod (IntKind.wrap .i64 (Int.tdiv p2 8)) 64) * 1))).bind fun t4 =>
  bif decide ((Int.tmod p2 8) < 0) then none else (
  (r1.1).bind fun a5 =>
  bif inRange (Int.tmod (IntKind.wrap .i64 (Int.tdiv p2 8)) 64) 64 then (
  (st r1.2.2 (plus (plus a5 0) (Int.toNat (Int.tmod (IntKind.wrap .i64 (Int.tdiv p2 8)) 64) * 1)) (Value.int .u8 (bitI .xor .u8 t4 (shlI .u8 1 (Int.tmod p2 8))))).bind fun m6 =>
  (r1.1).bind fun a7 =>
  (ldInt .i64 m6 (plus a7 129)).bind fun t8 =>
  (nand_chunk_damage k r1.1 m6).bind fun r9 =>
  (r1.1).bind fun a10 =>
  (st r9.2 (plus a10 129) (Value.int .i64 (maxI t8 r9.1))).bind fun m11 =>
  (ldInt .i64 r9.2 (plus a7 129)).bind fun t12 =>
  bif t12 == t8 then (
  some (Value.nilIface, m11)) else none) else none)) else none)))

def nand_Chip_Flip_call {R : Type} (k : Nat) : Fun R := callCons 25 (nand_Chip_at_arm k) (callCons 26 (nand_chunk_damage_arm k) (callNil))

theorem nand_Chip_Flip_callOk {R : Type} (k : Nat) : CallOk Try.prog (nand_Chip_Flip_call (R := R) k) := callOk_cons (nand_Chip_at_armOk k) (callOk_cons (nand_chunk_damage_armOk k) (callOk_nil))

def nand_Chip_Flip_loop (k : Nat) : Nat → List Value → Mem → (Nat → List Value → Mem → Option (Value × Mem)) → Option (Value × Mem) := fun _ _ _ _ => none

def nand_Chip_Flip_C (k : Nat) : Ctx (Value × Mem) := ⟨tt, nand_Chip_Flip_call k, nand_Chip_Flip_loop k, [], []⟩

def nand_Chip_Flip_dec : Value → Mem → Option (Value × Mem) := fun v m => match v with
  | q0 => some (q0, m)

theorem nand_Chip_Flip_eq (k : Nat) (p0 : Option Addr) (p1 : Int) (p2 : Int) (m : Mem) : fnX (nand_Chip_Flip_C k) Try.f9 [(Value.pointer p0), (Value.int .i64 p1), (Value.int .i64 p2)] m nand_Chip_Flip_dec = nand_Chip_Flip k p0 p1 p2 m := by kernel_rfl

theorem nand_Chip_Flip_ok {k : Nat} {p0 : Option Addr} {p1 : Int} {p2 : Int} {m : Mem} {r : (Value × Mem)} (h : nand_Chip_Flip k p0 p1 p2 m = some r) : CallP Try.prog 9 [(Value.pointer p0), (Value.int .i64 p1), (Value.int .i64 p2)] m fun v m' => v = r.1 ∧ m' = r.2 := by
  refine (fn_sound (C := nand_Chip_Flip_C k) (c := body Try.f9) tOk mixed (nand_Chip_Flip_callOk k) Try.func9 (by kernel_rfl) (by kernel_rfl) (by kernel_rfl) (by kernel_rfl) ?_ ?_ (Eq.trans (nand_Chip_Flip_eq k p0 p1 p2 m) h)).mono ?_
  · intro p hp; rw [show loopsOf 0 (body Try.f9) = [] by kernel_rfl] at hp; cases hp
  · intro p hp; rw [show rangesOf 0 (body Try.f9) = [] by kernel_rfl] at hp; cases hp
  · intro v m' hp
    simp only [nand_Chip_Flip_dec, Option.some.injEq] at hp; subst hp; exact ⟨rfl, rfl⟩

def nand_Chip_Flip_arm {R : Type} (k : Nat) : Arm R := fun vs m K => match vs with
  | [.pointer p0, .int .i64 p1, .int .i64 p2] => (nand_Chip_Flip k p0 p1 p2 m).bind fun r => K r.1 r.2
  | _ => none

theorem nand_Chip_Flip_armOk {R : Type} (k : Nat) : ArmOk Try.prog 9 (nand_Chip_Flip_arm (R := R) k) := by
  intro vs m K r h
  unfold nand_Chip_Flip_arm at h
  split at h
  · obtain ⟨r, h1, h2⟩ := Option.bind_eq_some_iff.1 h; exact ⟨_, _, h2, fun K' => by simp only [nand_Chip_Flip_arm, h1, Option.bind_some], nand_Chip_Flip_ok h1⟩
  · cases h

/-! ### nand_block_clear -/
def nand_block_clear_l0_b (k : Nat) (nx : Option Addr → Addr → Int → Mem → Option Mem) (kx2 : Option Addr → Addr → Mem → Option Mem) (x0 : Option Addr) (x2 : Addr) (x6 : Int) (m : Mem) : Option Mem :=
  bif decide (x6 < 64) then (
  bif inRange x6 64 then (
  (st m (plus (plus x2 0) (Int.toNat x6 * 1)) (Value.int .u8 255)).bind fun m2 =>
  nx x0 x2 (IntKind.wrap .i64 (x6 + 1)) m2) else none) else (
  kx2 x0 x2 m)

def nand_block_clear_l0 (k : Nat) (kx2 : Option Addr → Addr → Mem → Option Mem) : Nat → Option Addr → Addr → Int → Mem → Option Mem
  | 0, _, _, _, _ => none
  | n + 1, x0, x2, x6, m => nand_block_clear_l0_b k (fun x0 x2 x6 m => nand_block_clear_l0 k kx2 n x0 x2 x6 m) kx2 x0 x2 x6 m
termination_by structural x => x

theorem nand_block_clear_l0_rule (k : Nat) (kx2 : Option Addr → Addr → Mem → Option Mem) {P : Mem → Prop} (I : Nat → Option Addr → Addr → Int → Mem → Prop)
    (step : ∀ d (nx : Option Addr → Addr → Int → Mem → Option Mem) (x0 : Option Addr) (x2 : Addr) (x6 : Int) (m : Mem), I d x0 x2 x6 m → (∀ d' (x0 : Option Addr) (x2 : Addr) (x6 : Int) (m : Mem), d' < d → I d' x0 x2 x6 m → Ok (nx x0 x2 x6 m) P) → Ok (nand_block_clear_l0_b k nx kx2 x0 x2 x6 m) P) :
    ∀ n d (x0 : Option Addr) (x2 : Addr) (x6 : Int) (m : Mem), d < n → I d x0 x2 x6 m → Ok (nand_block_clear_l0 k kx2 n x0 x2 x6 m) P
  | 0, d, x0, x2, x6, m, h, _ => absurd h (Nat.not_lt_zero _)
  | n + 1, d, x0, x2, x6, m, h, hI => step d _ x0 x2 x6 m hI fun d' x0 x2 x6 m h' hI' => nand_block_clear_l0_rule k kx2 I step n d' x0 x2 x6 m (by omega) hI'

def nand_block_clear_l4_b (k : Nat) (nx : Option Addr → Addr → Int → Int → Int → Mem → Option Mem) (kx6 : Option Addr → Addr → Int → Mem → Option Mem) (x0 : Option Addr) (x2 : Addr) (x4 : Int) (x16 : Int) (x19 : Int) (m : Mem) : Option Mem :=
  bif decide (x19 < 4) then (
  (ldCells m x2 130).bind fun t6 =>
  (x0).bind fun a7 =>
  bif inRange x4 8 then (
  bif inRange x19 4 then (
  bif Nat.beq (List.length t6) 130 then (
  (stCells m (plus (plus (plus a7 0) (Int.toNat x4 * 520)) (Int.toNat x19 * 130)) t6).bind fun m8 =>
  nx x0 x2 x4 x16 (IntKind.wrap .i64 (x19 + 1)) m8) else none) else none) else none) else (
  kx6 x0 x2 x16 m)

def nand_block_clear_l4 (k : Nat) (kx6 : Option Addr → Addr → Int → Mem → Option Mem) : Nat → Option Addr → Addr → Int → Int → Int → Mem → Option Mem
  | 0, _, _, _, _, _, _ => none
  | n + 1, x0, x2, x4, x16, x19, m => nand_block_clear_l4_b k (fun x0 x2 x4 x16 x19 m => nand_block_clear_l4 k kx6 n x0 x2 x4 x16 x19 m) kx6 x0 x2 x4 x16 x19 m
termination_by structural x => x

theorem nand_block_clear_l4_rule (k : Nat) (kx6 : Option Addr → Addr → Int → Mem → Option Mem) {P : Mem → Prop} (I : Nat → Option Addr → Addr → Int → Int → Int → Mem → Prop)
    (step : ∀ d (nx : Option Addr → Addr → Int → Int → Int → Mem → Option Mem) (x0 : Option Addr) (x2 : Addr) (x4 : Int) (x16 : Int) (x19 : Int) (m : Mem), I d x0 x2 x4 x16 x19 m → (∀ d' (x0 : Option Addr) (x2 : Addr) (x4 : Int) (x16 : Int) (x19 : Int) (m : Mem), d' < d → I d' x0 x2 x4 x16 x19 m → Ok (nx x0 x2 x4 x16 x19 m) P) → Ok (nand_block_clear_l4_b k nx kx6 x0 x2 x4 x16 x19 m) P) :
    ∀ n d (x0 : Option Addr) (x2 : Addr) (x4 : Int) (x16 : Int) (x19 : Int) (m : Mem), d < n → I d x0 x2 x4 x16 x19 m → Ok (nand_block_clear_l4 k kx6 n x0 x2 x4 x16 x19 m) P
  | 0, d, x0, x2, x4, x16, x19, m, h, _ => absurd h (Nat.not_lt_zero _)
  | n + 1, d, x0, x2, x4, x16, x19, m, h, hI => step d _ x0 x2 x4 x16 x19 m hI fun d' x0 x2 x4 x16 x19 m h' hI' => nand_block_clear_l4_rule k kx6 I step n d' x0 x2 x4 x16 x19 m (by omega) hI'

def nand_block_clear_l2_b (k : Nat) (nx : Option Addr → Addr → Int → Mem → Option Mem) (kx4 : Option Addr → Mem → Option Mem) (x0 : Option Addr) (x2 : Addr) (x16 : Int) (m : Mem) : Option Mem :=
  bif decide (x16 < 8) then (
  nand_block_clear_l4 k (fun y0 y2 y16 m9 => 
  nx y0 y2 (IntKind.wrap .i64 (y16 + 1)) m9) k x0 x2 x16 x16 0 m) else (
  kx4 x0 m)

def nand_block_clear_l2 (k : Nat) (kx4 : Option Addr → Mem → Option Mem) : Nat → Option Addr → Addr → Int → Mem → Option Mem
  | 0, _, _, _, _ => none
  | n + 1, x0, x2, x16, m => nand_block_clear_l2_b k (fun x0 x2 x16 m => nand_block_clear_l2 k kx4 n x0 x2 x16 m) kx4 x0 x2 x16 m
termination_by structural x => x

theorem nand_block_clear_l2_rule (k : Nat) (kx4 : Option Addr → Mem → Option Mem) {P : Mem → Prop} (I : Nat → Option Addr → Addr → Int → Mem → Prop)
    (step : ∀ d (nx : Option Addr → Addr → Int → Mem → Option Mem) (x0 : Option Addr) (x2 : Addr) (x16 : Int) (m : Mem), I d x0 x2 x16 m → (∀ d' (x0 : Option Addr) (x2 : Addr) (x16 : Int) (m : Mem), d' < d → I d' x0 x2 x16 m → Ok (nx x0 x2 x16 m) P) → Ok (nand_block_clear_l2_b k nx kx4 x0 x2 x16 m) P) :
    ∀ n d (x0 : Option Addr) (x2 : Addr) (x16 : Int) (m : Mem), d < n → I d x0 x2 x16 m → Ok (nand_block_clear_l2 k kx4 n x0 x2 x16 m) P
  | 0, d, x0, x2, x16, m, h, _ => absurd h (Nat.not_lt_zero _)
  | n + 1, d, x0, x2, x16, m, h, hI => step d _ x0 x2 x16 m hI fun d' x0 x2 x16 m h' hI' => nand_block_clear_l2_rule k kx4 I step n d' x0 x2 x16 m (by omega) hI'

def nand_block_clear (k : Nat) (p0 : Option Addr) (m : Mem) : Option Mem :=
  let m1 : Mem := m ++ [.live ((repl 64 [.int .u8 0]) ++ (repl 64 [.int .u8 0]) ++ [.bool false] ++ [.int .i64 0])]
  nand_block_clear_l0 k (fun y0 y2 m3 => 
  (ldCells m3 (plus y2 0) 64).bind fun t4 =>
  bif Nat.beq (List.length t4) 64 then (
  (stCells m3 (plus y2 64) t4).bind fun m5 =>
  nand_block_clear_l2 k (fun y0 m10 => 
  (y0).bind fun a11 =>
  (sync_atomic_Int64_Store k (some (plus a11 4160)) 0 m10).bind fun r12 =>
  some (r12)) k y0 y2 0 m5) else none) k p0 ⟨List.length m, 0, Option.none⟩ 0 m1

def nand_block_clear_call {R : Type} (k : Nat) : Fun R := callCons 51 (sync_atomic_Int64_Store_arm k) (callNil)

theorem nand_block_clear_callOk {R : Type} (k : Nat) : CallOk Try.prog (nand_block_clear_call (R := R) k) := callOk_cons (sync_atomic_Int64_Store_armOk k) (callOk_nil)

def nand_block_clear_l0_L (k : Nat) (K : Nat → List Value → Mem → Option Mem) (n : Nat) (vs : List Value) (m : Mem) : Option Mem := match vs with
  | [.pointer x0, .pointer (some x2), .int .i64 x6] => nand_block_clear_l0 k (fun y0 y2 m => K 2 [(Value.pointer y0), (Value.pointer (some y2))] m) n x0 x2 x6 m
  | _ => none

def nand_block_clear_l2_L (k : Nat) (K : Nat → List Value → Mem → Option Mem) (n : Nat) (vs : List Value) (m : Mem) : Option Mem := match vs with
  | [.pointer x0, .pointer (some x2), .int .i64 x16] => nand_block_clear_l2 k (fun y0 m => K 4 [(Value.pointer y0)] m) n x0 x2 x16 m
  | _ => none

def nand_block_clear_l4_L (k : Nat) (K : Nat → List Value → Mem → Option Mem) (n : Nat) (vs : List Value) (m : Mem) : Option Mem := match vs with
  | [.pointer x0, .pointer (some x2), .int .i64 x4, .int .i64 x16, .int .i64 x19] => nand_block_clear_l4 k (fun y0 y2 y16 m => K 6 [(Value.pointer y0), (Value.pointer (some y2)), (Value.int .i64 y16)] m) n x0 x2 x4 x16 x19 m
  | _ => none

def nand_block_clear_loop (k : Nat) : Nat → List Value → Mem → (Nat → List Value → Mem → Option Mem) → Option Mem := fun cur vs m K => match cur with
  | 0 => nand_block_clear_l0_L k K k vs m
  | 2 => nand_block_clear_l2_L k K k vs m
  | 4 => nand_block_clear_l4_L k K k vs m
  | _ => none

def nand_block_clear_C (k : Nat) : Ctx Mem := ⟨tt, nand_block_clear_call k, nand_block_clear_loop k, [(0, [0, 2, 6]), (2, [0, 2, 16]), (4, [0, 2, 4, 16, 19])], [(2, [0, 2]), (4, [0]), (6, [0, 2, 16])]⟩

noncomputable def nand_block_clear_l0_c : Code := ((loopsOf 0 (body Try.f33)).map (·.2)).getD 0 .skip

noncomputable def nand_block_clear_l2_c : Code := ((loopsOf 0 (body Try.f33)).map (·.2)).getD 1 .skip

noncomputable def nand_block_clear_l4_c : Code := ((loopsOf 0 (body Try.f33)).map (·.2)).getD 2 .skip

theorem nand_block_clear_loops : loopsOf 0 (body Try.f33) = [(0, nand_block_clear_l0_c), (2, nand_block_clear_l2_c), (4, nand_block_clear_l4_c)] := by kernel_rfl

theorem nand_block_clear_l0_ok (k : Nat) : LoopOk (nand_block_clear_C k) 0 nand_block_clear_l0_c := by
  refine ⟨[0, 2, 6], by kernel_rfl, fun K r => ⟨nand_block_clear_l0_L k K, fun vs m h => ⟨k, h⟩, ?_⟩⟩
  intro n vs m h
  unfold nand_block_clear_l0_L at h
  split at h
  · cases n with
    | zero => cases h
    | succ n => exact ⟨n, rfl, Eq.trans (by kernel_rfl) h⟩
  · cases h

theorem nand_block_clear_l2_ok (k : Nat) : LoopOk (nand_block_clear_C k) 2 nand_block_clear_l2_c := by
  refine ⟨[0, 2, 16], by kernel_rfl, fun K r => ⟨nand_block_clear_l2_L k K, fun vs m h => ⟨k, h⟩, ?_⟩⟩
  intro n vs m h
  unfold nand_block_clear_l2_L at h
  split at h
  · cases n with
    | zero => cases h
    | succ n => exact ⟨n, rfl, Eq.trans (by kernel_rfl) h⟩
  · cases h

theorem nand_block_clear_l4_ok (k : Nat) : LoopOk (nand_block_clear_C k) 4 nand_block_clear_l4_c := by
  refine ⟨[0, 2, 4, 16, 19], by kernel_rfl, fun K r => ⟨nand_block_clear_l4_L k K, fun vs m h => ⟨k, h⟩, ?_⟩⟩
  intro n vs m h
  unfold nand_block_clear_l4_L at h
  split at h
  · cases n with
    | zero => cases h
    | succ n => exact ⟨n, rfl, Eq.trans (by kernel_rfl) h⟩
  · cases h

def nand_block_clear_dec : Value → Mem → Option Mem := fun v m => match v with
  | .tuple ⟨[]⟩ => some (m)
  | _ => none

theorem nand_block_clear_eq (k : Nat) (p0 : Option Addr) (m : Mem) : fnX (nand_block_clear_C k) Try.f33 [(Value.pointer p0)] m nand_block_clear_dec = nand_block_clear k p0 m := by kernel_rfl

theorem nand_block_clear_ok {k : Nat} {p0 : Option Addr} {m : Mem} {r : Mem} (h : nand_block_clear k p0 m = some r) : CallP Try.prog 33 [(Value.pointer p0)] m fun v m' => v = (Value.tuple ⟨[]⟩) ∧ m' = r := by
  refine (fn_sound (C := nand_block_clear_C k) (c := body Try.f33) tOk mixed (nand_block_clear_callOk k) Try.func33 (by kernel_rfl) (by kernel_rfl) (by kernel_rfl) (by kernel_rfl) ?_ ?_ (Eq.trans (nand_block_clear_eq k p0 m) h)).mono ?_
  · intro p hp
    rw [nand_block_clear_loops] at hp
    simp only [List.mem_cons, List.not_mem_nil, or_false] at hp
    rcases hp with rfl | rfl | rfl
    · exact nand_block_clear_l0_ok k
    · exact nand_block_clear_l2_ok k
    · exact nand_block_clear_l4_ok k
  · intro p hp; rw [show rangesOf 0 (body Try.f33) = [] by kernel_rfl] at hp; cases hp
  · intro v m' hp
    unfold nand_block_clear_dec at hp
    split at hp
    · simp only [Option.some.injEq] at hp; subst hp; exact ⟨rfl, rfl⟩
    · cases hp

def nand_block_clear_arm {R : Type} (k : Nat) : Arm R := fun vs m K => match vs with
  | [.pointer p0] => (nand_block_clear k p0 m).bind fun r => K (Value.tuple ⟨[]⟩) r
  | _ => none

theorem nand_block_clear_armOk {R : Type} (k : Nat) : ArmOk Try.prog 33 (nand_block_clear_arm (R := R) k) := by
  intro vs m K r h
  unfold nand_block_clear_arm at h
  split at h
  · obtain ⟨r, h1, h2⟩ := Option.bind_eq_some_iff.1 h; exact ⟨_, _, h2, fun K' => by simp only [nand_block_clear_arm, h1, Option.bind_some], nand_block_clear_ok h1⟩
  · cases h

/-! ### nand_New -/
def nand_New_l0_b (k : Nat) (nx : Addr → Int → Mem → Option ((Option Addr) × Mem)) (kx2 : Addr → Mem → Option ((Option Addr) × Mem)) (x1 : Addr) (x5 : Int) (m : Mem) : Option ((Option Addr) × Mem) :=
  bif decide (x5 < 12) then (
  bif inRange x5 12 then (
  (nand_block_clear k (some (plus (plus x1 0) (Int.toNat x5 * 4164))) m).bind fun r2 =>
  nx x1 (IntKind.wrap .i64 (x5 + 1)) r2) else none) else (
  kx2 x1 m)

def nand_New_l0 (k : Nat) (kx2 : Addr → Mem → Option ((Option Addr) × Mem)) : Nat → Addr → Int → Mem → Option ((Option Addr) × Mem)
  | 0, _, _, _ => none
  | n + 1, x1, x5, m => nand_New_l0_b k (fun x1 x5 m => nand_New_l0 k kx2 n x1 x5 m) kx2 x1 x5 m
termination_by structural x => x

theorem nand_New_l0_rule (k : Nat) (kx2 : Addr → Mem → Option ((Option Addr) × Mem)) {P : ((Option Addr) × Mem) → Prop} (I : Nat → Addr → Int → Mem → Prop)
    (step : ∀ d (nx : Addr → Int → Mem → Option ((Option Addr) × Mem)) (x1 : Addr) (x5 : Int) (m : Mem), I d x1 x5 m → (∀ d' (x1 : Addr) (x5 : Int) (m : Mem), d' < d → I d' x1 x5 m → Ok (nx x1 x5 m) P) → Ok (nand_New_l0_b k nx kx2 x1 x5 m) P) :
    ∀ n d (x1 : Addr) (x5 : Int) (m : Mem), d < n → I d x1 x5 m → Ok (nand_New_l0 k kx2 n x1 x5 m) P
  | 0, d, x1, x5, m, h, _ => absurd h (Nat.not_lt_zero _)
  | n + 1, d, x1, x5, m, h, hI => step d _ x1 x5 m hI fun d' x1 x5 m h' hI' => nand_New_l0_rule k kx2 I step n d' x1 x5 m (by omega) hI'

def nand_New (k : Nat) (m : Mem) : Option ((Option Addr) × Mem) :=
  bif Nat.beq (List.length ((tt ty_nand_Chip).zero)) 49972 then (
  let m1 : Mem := m ++ [.live ((tt ty_nand_Chip).zero)]
  nand_New_l0 k (fun y1 m3 => 
  some ((some y1), m3)) k ⟨List.length m, 0, Option.none⟩ 0 m1) else none

def nand_New_call {R : Type} (k : Nat) : Fun R := callCons 33 (nand_block_clear_arm k) (callNil)

theorem nand_New_callOk {R : Type} (k : Nat) : CallOk Try.prog (nand_New_call (R := R) k) := callOk_cons (nand_block_clear_armOk k) (callOk_nil)

def nand_New_l0_L (k : Nat) (K : Nat → List Value → Mem → Option ((Option Addr) × Mem)) (n : Nat) (vs : List Value) (m : Mem) : Option ((Option Addr) × Mem) := match vs with
  | [.pointer (some x1), .int .i64 x5] => nand_New_l0 k (fun y1 m => K 2 [(Value.pointer (some y1))] m) n x1 x5 m
  | _ => none

def nand_New_loop (k : Nat) : Nat → List Value → Mem → (Nat → List Value → Mem → Option ((Option Addr) × Mem)) → Option ((Option Addr) × Mem) := fun cur vs m K => match cur with
  | 0 => nand_New_l0_L k K k vs m
  | _ => none

def nand_New_C (k : Nat) : Ctx ((Option Addr) × Mem) := ⟨tt, nand_New_call k, nand_New_loop k, [(0, [1, 5])], [(2, [1])]⟩

noncomputable def nand_New_l0_c : Code := ((loopsOf 0 (body Try.f17)).map (·.2)).getD 0 .skip

theorem nand_New_loops : loopsOf 0 (body Try.f17) = [(0, nand_New_l0_c)] := by kernel_rfl

theorem nand_New_l0_ok (k : Nat) : LoopOk (nand_New_C k) 0 nand_New_l0_c := by
  refine ⟨[1, 5], by kernel_rfl, fun K r => ⟨nand_New_l0_L k K, fun vs m h => ⟨k, h⟩, ?_⟩⟩
  intro n vs m h
  unfold nand_New_l0_L at h
  split at h
  · cases n with
    | zero => cases h
    | succ n => exact ⟨n, rfl, Eq.trans (by kernel_rfl) h⟩
  · cases h

def nand_New_dec : Value → Mem → Option ((Option Addr) × Mem) := fun v m => match v with
  | .pointer q0 => some (q0, m)
  | _ => none

theorem nand_New_eq (k : Nat) (m : Mem) : fnX (nand_New_C k) Try.f17 [] m nand_New_dec = nand_New k  m := by kernel_rfl

theorem nand_New_ok {k : Nat} {m : Mem} {r : ((Option Addr) × Mem)} (h : nand_New k  m = some r) : CallP Try.prog 17 [] m fun v m' => v = (Value.pointer r.1) ∧ m' = r.2 := by
  refine (fn_sound (C := nand_New_C k) (c := body Try.f17) tOk mixed (nand_New_callOk k) Try.func17 (by kernel_rfl) (by kernel_rfl) (by kernel_rfl) (by kernel_rfl) ?_ ?_ (Eq.trans (nand_New_eq k  m) h)).mono ?_
  · intro p hp
    rw [nand_New_loops] at hp
    simp only [List.mem_cons, List.not_mem_nil, or_false] at hp
    rcases hp with rfl
    · exact nand_New_l0_ok k
  · intro p hp; rw [show rangesOf 0 (body Try.f17) = [] by kernel_rfl] at hp; cases hp
  · intro v m' hp
    unfold nand_New_dec at hp
    split at hp
    · simp only [Option.some.injEq] at hp; subst hp; exact ⟨rfl, rfl⟩
    · cases hp

def nand_New_arm {R : Type} (k : Nat) : Arm R := fun vs m K => match vs with
  | [] => (nand_New k  m).bind fun r => K (Value.pointer r.1) r.2
  | _ => none

theorem nand_New_armOk {R : Type} (k : Nat) : ArmOk Try.prog 17 (nand_New_arm (R := R) k) := by
  intro vs m K r h
  unfold nand_New_arm at h
  split at h
  · obtain ⟨r, h1, h2⟩ := Option.bind_eq_some_iff.1 h; exact ⟨_, _, h2, fun K' => by simp only [nand_New_arm, h1, Option.bind_some], nand_New_ok h1⟩
  · cases h

/-! ### nand_Chip_Damage -/
def nand_Chip_Damage (k : Nat) (p0 : Option Addr) (p1 : Int) (p2 : Int) (m : Mem) : Option (Int × Int × Value × Mem) :=
  (nand_Chip_at k p0 p1 p2 m).bind fun r1 =>
  (isNil r1.2.1).bind fun b2 =>
  bif !b2 then (
  some (0, 0, r1.2.1, r1.2.2)) else (
  (nand_chunk_damage k r1.1 r1.2.2).bind fun r3 =>
  (r1.1).bind fun a4 =>
  (ldInt .i64 r3.2 (plus a4 129)).bind fun t5 =>
  (ldInt .i64 r1.2.2 (plus a4 129)).bind fun t6 =>
  bif t6 == t5 then (
  some (r3.1, t5, Value.nilIface, r3.2)) else none)

def nand_Chip_Damage_call {R : Type} (k : Nat) : Fun R := callCons 25 (nand_Chip_at_arm k) (callCons 26 (nand_chunk_damage_arm k) (callNil))

theorem nand_Chip_Damage_callOk {R : Type} (k : Nat) : CallOk Try.prog (nand_Chip_Damage_call (R := R) k) := callOk_cons (nand_Chip_at_armOk k) (callOk_cons (nand_chunk_damage_armOk k) (callOk_nil))

def nand_Chip_Damage_loop (k : Nat) : Nat → List Value → Mem → (Nat → List Value → Mem → Option (Int × Int × Value × Mem)) → Option (Int × Int × Value × Mem) := fun _ _ _ _ => none

def nand_Chip_Damage_C (k : Nat) : Ctx (Int × Int × Value × Mem) := ⟨tt, nand_Chip_Damage_call k, nand_Chip_Damage_loop k, [], []⟩

def nand_Chip_Damage_dec : Value → Mem → Option (Int × Int × Value × Mem) := fun v m => match v with
  | .tuple ⟨[.int .i64 q0, .int .i64 q1, q2]⟩ => some (q0, q1, q2, m)
  | _ => none

theorem nand_Chip_Damage_eq (k : Nat) (p0 : Option Addr) (p1 : Int) (p2 : Int) (m : Mem) : fnX (nand_Chip_Damage_C k) Try.f11 [(Value.pointer p0), (Value.int .i64 p1), (Value.int .i64 p2)] m nand_Chip_Damage_dec = nand_Chip_Damage k p0 p1 p2 m := by kernel_rfl

theorem nand_Chip_Damage_ok {k : Nat} {p0 : Option Addr} {p1 : Int} {p2 : Int} {m : Mem} {r : (Int × Int × Value × Mem)} (h : nand_Chip_Damage k p0 p1 p2 m = some r) : CallP Try.prog 11 [(Value.pointer p0), (Value.int .i64 p1), (Value.int .i64 p2)] m fun v m' => v = (Value.tuple ⟨[(Value.int .i64 r.1), (Value.int .i64 r.2.1), r.2.2.1]⟩) ∧ m' = r.2.2.2 := by
  refine (fn_sound (C := nand_Chip_Damage_C k) (c := body Try.f11) tOk mixed (nand_Chip_Damage_callOk k) Try.func11 (by kernel_rfl) (by kernel_rfl) (by kernel_rfl) (by kernel_rfl) ?_ ?_ (Eq.trans (nand_Chip_Damage_eq k p0 p1 p2 m) h)).mono ?_
  · intro p hp; rw [show loopsOf 0 (body Try.f11) = [] by kernel_rfl] at hp; cases hp
  · intro p hp; rw [show rangesOf 0 (body Try.f11) = [] by kernel_rfl] at hp; cases hp
  · intro v m' hp
    unfold nand_Chip_Damage_dec at hp
    split at hp
    · simp only [Option.some.injEq] at hp; subst hp; exact ⟨rfl, rfl⟩
    · cases hp

def nand_Chip_Damage_arm {R : Type} (k : Nat) : Arm R := fun vs m K => match vs with
  | [.pointer p0, .int .i64 p1, .int .i64 p2] => (nand_Chip_Damage k p0 p1 p2 m).bind fun r => K (Value.tuple ⟨[(Value.int .i64 r.1), (Value.int .i64 r.2.1), r.2.2.1]⟩) r.2.2.2
  | _ => none

theorem nand_Chip_Damage_armOk {R : Type} (k : Nat) : ArmOk Try.prog 11 (nand_Chip_Damage_arm (R := R) k) := by
  intro vs m K r h
  unfold nand_Chip_Damage_arm at h
  split at h
  · obtain ⟨r, h1, h2⟩ := Option.bind_eq_some_iff.1 h; exact ⟨_, _, h2, fun K' => by simp only [nand_Chip_Damage_arm, h1, Option.bind_some], nand_Chip_Damage_ok h1⟩
  · cases h

/-! ### nand_Chip_Cut -/
def nand_Chip_Cut_j1 (k : Nat) (mj : Mem) : Option (Value × Mem) :=
  some (Value.nilIface, mj)

def nand_Chip_Cut (k : Nat) (p0 : Option Addr) (p1 : Int) (m : Mem) : Option (Value × Mem) :=
  bif decide (p1 < 0) then (
  some ((Value.iface ty_api_Code (Value.int .i64 1)), m)) else (
  (p0).bind fun a1 =>
  (ldBool m (plus a1 49968)).bind fun t2 =>
  bif !t2 then (
  (p0).bind fun a3 =>
  (st m (plus a3 49969) (Value.bool true)).bind fun m4 =>
  (p0).bind fun a5 =>
  (st m4 (plus a5 49970) (Value.int .i64 p1)).bind fun m6 =>
  nand_Chip_Cut_j1 k  m6) else (
  nand_Chip_Cut_j1 k  m))

def nand_Chip_Cut_call {R : Type} (k : Nat) : Fun R := callNil

theorem nand_Chip_Cut_callOk {R : Type} (k : Nat) : CallOk Try.prog (nand_Chip_Cut_call (R := R) k) := callOk_nil

def nand_Chip_Cut_loop (k : Nat) : Nat → List Value → Mem → (Nat → List Value → Mem → Option (Value × Mem)) → Option (Value × Mem) := fun _ _ _ _ => none

def nand_Chip_Cut_C (k : Nat) : Ctx (Value × Mem) := ⟨tt, nand_Chip_Cut_call k, nand_Chip_Cut_loop k, [], []⟩

def nand_Chip_Cut_dec : Value → Mem → Option (Value × Mem) := fun v m => match v with
  | q0 => some (q0, m)

theorem nand_Chip_Cut_eq (k : Nat) (p0 : Option Addr) (p1 : Int) (m : Mem) : fnX (nand_Chip_Cut_C k) Try.f14 [(Value.pointer p0), (Value.int .i64 p1)] m nand_Chip_Cut_dec = nand_Chip_Cut k p0 p1 m := by kernel_rfl

theorem nand_Chip_Cut_ok {k : Nat} {p0 : Option Addr} {p1 : Int} {m : Mem} {r : (Value × Mem)} (h : nand_Chip_Cut k p0 p1 m = some r) : CallP Try.prog 14 [(Value.pointer p0), (Value.int .i64 p1)] m fun v m' => v = r.1 ∧ m' = r.2 := by
  refine (fn_sound (C := nand_Chip_Cut_C k) (c := body Try.f14) tOk mixed (nand_Chip_Cut_callOk k) Try.func14 (by kernel_rfl) (by kernel_rfl) (by kernel_rfl) (by kernel_rfl) ?_ ?_ (Eq.trans (nand_Chip_Cut_eq k p0 p1 m) h)).mono ?_
  · intro p hp; rw [show loopsOf 0 (body Try.f14) = [] by kernel_rfl] at hp; cases hp
  · intro p hp; rw [show rangesOf 0 (body Try.f14) = [] by kernel_rfl] at hp; cases hp
  · intro v m' hp
    simp only [nand_Chip_Cut_dec, Option.some.injEq] at hp; subst hp; exact ⟨rfl, rfl⟩

def nand_Chip_Cut_arm {R : Type} (k : Nat) : Arm R := fun vs m K => match vs with
  | [.pointer p0, .int .i64 p1] => (nand_Chip_Cut k p0 p1 m).bind fun r => K r.1 r.2
  | _ => none

theorem nand_Chip_Cut_armOk {R : Type} (k : Nat) : ArmOk Try.prog 14 (nand_Chip_Cut_arm (R := R) k) := by
  intro vs m K r h
  unfold nand_Chip_Cut_arm at h
  split at h
  · obtain ⟨r, h1, h2⟩ := Option.bind_eq_some_iff.1 h; exact ⟨_, _, h2, fun K' => by simp only [nand_Chip_Cut_arm, h1, Option.bind_some], nand_Chip_Cut_ok h1⟩
  · cases h

/-! ### nand_Chip_Power -/
def nand_Chip_Power (k : Nat) (p0 : Option Addr) (m : Mem) : Option Mem :=
  (p0).bind fun a1 =>
  (st m (plus a1 49968) (Value.bool false)).bind fun m2 =>
  (p0).bind fun a3 =>
  (st m2 (plus a3 49969) (Value.bool false)).bind fun m4 =>
  (p0).bind fun a5 =>
  (st m4 (plus a5 49970) (Value.int .i64 0)).bind fun m6 =>
  some (m6)

def nand_Chip_Power_call {R : Type} (k : Nat) : Fun R := callNil

theorem nand_Chip_Power_callOk {R : Type} (k : Nat) : CallOk Try.prog (nand_Chip_Power_call (R := R) k) := callOk_nil

def nand_Chip_Power_loop (k : Nat) : Nat → List Value → Mem → (Nat → List Value → Mem → Option Mem) → Option Mem := fun _ _ _ _ => none

def nand_Chip_Power_C (k : Nat) : Ctx Mem := ⟨tt, nand_Chip_Power_call k, nand_Chip_Power_loop k, [], []⟩

def nand_Chip_Power_dec : Value → Mem → Option Mem := fun v m => match v with
  | .tuple ⟨[]⟩ => some (m)
  | _ => none

theorem nand_Chip_Power_eq (k : Nat) (p0 : Option Addr) (m : Mem) : fnX (nand_Chip_Power_C k) Try.f15 [(Value.pointer p0)] m nand_Chip_Power_dec = nand_Chip_Power k p0 m := by kernel_rfl

theorem nand_Chip_Power_ok {k : Nat} {p0 : Option Addr} {m : Mem} {r : Mem} (h : nand_Chip_Power k p0 m = some r) : CallP Try.prog 15 [(Value.pointer p0)] m fun v m' => v = (Value.tuple ⟨[]⟩) ∧ m' = r := by
  refine (fn_sound (C := nand_Chip_Power_C k) (c := body Try.f15) tOk mixed (nand_Chip_Power_callOk k) Try.func15 (by kernel_rfl) (by kernel_rfl) (by kernel_rfl) (by kernel_rfl) ?_ ?_ (Eq.trans (nand_Chip_Power_eq k p0 m) h)).mono ?_
  · intro p hp; rw [show loopsOf 0 (body Try.f15) = [] by kernel_rfl] at hp; cases hp
  · intro p hp; rw [show rangesOf 0 (body Try.f15) = [] by kernel_rfl] at hp; cases hp
  · intro v m' hp
    unfold nand_Chip_Power_dec at hp
    split at hp
    · simp only [Option.some.injEq] at hp; subst hp; exact ⟨rfl, rfl⟩
    · cases hp

def nand_Chip_Power_arm {R : Type} (k : Nat) : Arm R := fun vs m K => match vs with
  | [.pointer p0] => (nand_Chip_Power k p0 m).bind fun r => K (Value.tuple ⟨[]⟩) r
  | _ => none

theorem nand_Chip_Power_armOk {R : Type} (k : Nat) : ArmOk Try.prog 15 (nand_Chip_Power_arm (R := R) k) := by
  intro vs m K r h
  unfold nand_Chip_Power_arm at h
  split at h
  · obtain ⟨r, h1, h2⟩ := Option.bind_eq_some_iff.1 h; exact ⟨_, _, h2, fun K' => by simp only [nand_Chip_Power_arm, h1, Option.bind_some], nand_Chip_Power_ok h1⟩
  · cases h

/-! ### nand_Chip_Truth -/
def nand_Chip_Truth (k : Nat) (p0 : Option Addr) (p1 : Int) (p2 : Int) (m : Mem) : Option (Sl × Bool × Value × Mem) :=
  (nand_Chip_at k p0 p1 p2 m).bind fun r1 =>
  (isNil r1.2.1).bind fun b2 =>
  bif !b2 then (
  some ((⟨none, 0, 0⟩ : Sl), false, r1.2.1, r1.2.2)) else (
  (r1.1).bind fun a3 =>
  (rdSl r1.2.2 (sliceK.clear (some (plus a3 64)) true) 64 1).bind fun l4 =>
  (appM 1 1 r1.2.2 none 0 0 64 l4).bind fun r5 =>
  (r1.1).bind fun a6 =>
  (ldBool r5.2 (plus a6 128)).bind fun t7 =>
  (ldBool r1.2.2 (plus a6 128)).bind fun t8 =>
  bif t8 == t7 then (
  some ((⟨r5.1.a, r5.1.len, r5.1.cap⟩ : Sl), t7, Value.nilIface, r5.2)) else none)

def nand_Chip_Truth_call {R : Type} (k : Nat) : Fun R := callCons 25 (nand_Chip_at_arm k) (callNil)

theorem nand_Chip_Truth_callOk {R : Type} (k : Nat) : CallOk Try.prog (nand_Chip_Truth_call (R := R) k) := callOk_cons (nand_Chip_at_armOk k) (callOk_nil)

def nand_Chip_Truth_loop (k : Nat) : Nat → List Value → Mem → (Nat → List Value → Mem → Option (Sl × Bool × Value × Mem)) → Option (Sl × Bool × Value × Mem) := fun _ _ _ _ => none

def nand_Chip_Truth_C (k : Nat) : Ctx (Sl × Bool × Value × Mem) := ⟨tt, nand_Chip_Truth_call k, nand_Chip_Truth_loop k, [], []⟩

def nand_Chip_Truth_dec : Value → Mem → Option (Sl × Bool × Value × Mem) := fun v m => match v with
  | .tuple ⟨[.slice q0a q0n q0c, .bool q1, q2]⟩ => some ((⟨q0a, q0n, q0c⟩ : Sl), q1, q2, m)
  | _ => none

theorem nand_Chip_Truth_eq (k : Nat) (p0 : Option Addr) (p1 : Int) (p2 : Int) (m : Mem) : fnX (nand_Chip_Truth_C k) Try.f16 [(Value.pointer p0), (Value.int .i64 p1), (Value.int .i64 p2)] m nand_Chip_Truth_dec = nand_Chip_Truth k p0 p1 p2 m := by kernel_rfl

theorem nand_Chip_Truth_ok {k : Nat} {p0 : Option Addr} {p1 : Int} {p2 : Int} {m : Mem} {r : (Sl × Bool × Value × Mem)} (h : nand_Chip_Truth k p0 p1 p2 m = some r) : CallP Try.prog 16 [(Value.pointer p0), (Value.int .i64 p1), (Value.int .i64 p2)] m fun v m' => v = (Value.tuple ⟨[(Value.slice r.1.a r.1.len r.1.cap), (Value.bool r.2.1), r.2.2.1]⟩) ∧ m' = r.2.2.2 := by
  refine (fn_sound (C := nand_Chip_Truth_C k) (c := body Try.f16) tOk mixed (nand_Chip_Truth_callOk k) Try.func16 (by kernel_rfl) (by kernel_rfl) (by kernel_rfl) (by kernel_rfl) ?_ ?_ (Eq.trans (nand_Chip_Truth_eq k p0 p1 p2 m) h)).mono ?_
  · intro p hp; rw [show loopsOf 0 (body Try.f16) = [] by kernel_rfl] at hp; cases hp
  · intro p hp; rw [show rangesOf 0 (body Try.f16) = [] by kernel_rfl] at hp; cases hp
  · intro v m' hp
    unfold nand_Chip_Truth_dec at hp
    split at hp
    · simp only [Option.some.injEq] at hp; subst hp; exact ⟨rfl, rfl⟩
    · cases hp

def nand_Chip_Truth_arm {R : Type} (k : Nat) : Arm R := fun vs m K => match vs with
  | [.pointer p0, .int .i64 p1, .int .i64 p2] => (nand_Chip_Truth k p0 p1 p2 m).bind fun r => K (Value.tuple ⟨[(Value.slice r.1.a r.1.len r.1.cap), (Value.bool r.2.1), r.2.2.1]⟩) r.2.2.2
  | _ => none

theorem nand_Chip_Truth_armOk {R : Type} (k : Nat) : ArmOk Try.prog 16 (nand_Chip_Truth_arm (R := R) k) := by
  intro vs m K r h
  unfold nand_Chip_Truth_arm at h
  split at h
  · obtain ⟨r, h1, h2⟩ := Option.bind_eq_some_iff.1 h; exact ⟨_, _, h2, fun K' => by simp only [nand_Chip_Truth_arm, h1, Option.bind_some], nand_Chip_Truth_ok h1⟩
  · cases h

end Go.Proofs.Ytchonnaoojpdoaa
