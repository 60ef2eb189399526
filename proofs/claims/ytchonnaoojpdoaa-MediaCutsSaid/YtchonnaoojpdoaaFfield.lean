/- The program's functions as plain Lean functions over a clean memory, each held against the program by the kernel. Written by mx.py. -/
import Derived.Test.YtchonnaoojpdoaaF0
import Derived.Test.YtchonnaoojpdoaaOnceSlow
set_option linter.unusedVariables false
set_option maxRecDepth 100000
namespace Go.Proofs.Ytchonnaoojpdoaa
open Go.Mx

/-! ### field_Field_make -/
def field_Field_make_j1 (k : Nat) (x0 : Option Addr) (x4 : Int) (nx : Option Addr → Int → Int → Mem → Option Mem) (x2_ : Int) (mj : Mem) : Option Mem :=
  nx x0 x2_ (IntKind.wrap .i64 (x4 + 1)) mj

def field_Field_make_l0_b (k : Nat) (nx : Option Addr → Int → Int → Mem → Option Mem) (kx2 : Mem → Option Mem) (x0 : Option Addr) (x2 : Int) (x4 : Int) (m : Mem) : Option Mem :=
  bif decide (x4 < 255) then (
  (x0).bind fun a1 =>
  bif inRange x4 510 then (
  (st m (plus (plus a1 3) (Int.toNat x4 * 1)) (Value.int .u8 (IntKind.wrap .u8 x2))).bind fun m2 =>
  (x0).bind fun a3 =>
  bif inRange (IntKind.wrap .i64 (x4 + 255)) 510 then (
  (st m2 (plus (plus a3 3) (Int.toNat (IntKind.wrap .i64 (x4 + 255)) * 1)) (Value.int .u8 (IntKind.wrap .u8 x2))).bind fun m4 =>
  (x0).bind fun a5 =>
  bif inRange x2 256 then (
  (st m4 (plus (plus a5 513) (Int.toNat x2 * 1)) (Value.int .i64 x4)).bind fun m6 =>
  bif decide ((shlI .i64 x2 1) > 255) then (
  field_Field_make_j1 k x0 x4 nx (bitI .xor .i64 (shlI .i64 x2 1) 285) m6) else (
  field_Field_make_j1 k x0 x4 nx (shlI .i64 x2 1) m6)) else none) else none) else none) else (
  kx2  m)

def field_Field_make_l0 (k : Nat) (kx2 : Mem → Option Mem) : Nat → Option Addr → Int → Int → Mem → Option Mem
  | 0, _, _, _, _ => none
  | n + 1, x0, x2, x4, m => field_Field_make_l0_b k (fun x0 x2 x4 m => field_Field_make_l0 k kx2 n x0 x2 x4 m) kx2 x0 x2 x4 m
termination_by structural x => x

theorem field_Field_make_l0_rule (k : Nat) (kx2 : Mem → Option Mem) {P : Mem → Prop} (I : Nat → Option Addr → Int → Int → Mem → Prop)
    (step : ∀ d (nx : Option Addr → Int → Int → Mem → Option Mem) (x0 : Option Addr) (x2 : Int) (x4 : Int) (m : Mem), I d x0 x2 x4 m → (∀ d' (x0 : Option Addr) (x2 : Int) (x4 : Int) (m : Mem), d' < d → I d' x0 x2 x4 m → Ok (nx x0 x2 x4 m) P) → Ok (field_Field_make_l0_b k nx kx2 x0 x2 x4 m) P) :
    ∀ n d (x0 : Option Addr) (x2 : Int) (x4 : Int) (m : Mem), d < n → I d x0 x2 x4 m → Ok (field_Field_make_l0 k kx2 n x0 x2 x4 m) P
  | 0, d, x0, x2, x4, m, h, _ => absurd h (Nat.not_lt_zero _)
  | n + 1, d, x0, x2, x4, m, h, hI => step d _ x0 x2 x4 m hI fun d' x0 x2 x4 m h' hI' => field_Field_make_l0_rule k kx2 I step n d' x0 x2 x4 m (by omega) hI'

def field_Field_make (k : Nat) (p0 : Option Addr) (m : Mem) : Option Mem :=
  field_Field_make_l0 k (fun m7 => 
  some (m7)) k p0 1 0 m

def field_Field_make_call {R : Type} (k : Nat) : Fun R := callNil

theorem field_Field_make_callOk {R : Type} (k : Nat) : CallOk Try.prog (field_Field_make_call (R := R) k) := callOk_nil

def field_Field_make_l0_L (k : Nat) (K : Nat → List Value → Mem → Option Mem) (n : Nat) (vs : List Value) (m : Mem) : Option Mem := match vs with
  | [.pointer x0, .int .i64 x2, .int .i64 x4] => field_Field_make_l0 k (fun m => K 2 [] m) n x0 x2 x4 m
  | _ => none

def field_Field_make_loop (k : Nat) : Nat → List Value → Mem → (Nat → List Value → Mem → Option Mem) → Option Mem := fun cur vs m K => match cur with
  | 0 => field_Field_make_l0_L k K k vs m
  | _ => none

def field_Field_make_C (k : Nat) : Ctx Mem := ⟨tt, field_Field_make_call k, field_Field_make_loop k, [(0, [0, 2, 4])], [(2, [])]⟩

noncomputable def field_Field_make_l0_c : Code := ((loopsOf 0 (body Try.f68)).map (·.2)).getD 0 .skip

theorem field_Field_make_loops : loopsOf 0 (body Try.f68) = [(0, field_Field_make_l0_c)] := by kernel_rfl

theorem field_Field_make_l0_ok (k : Nat) : LoopOk (field_Field_make_C k) 0 field_Field_make_l0_c := by
  refine ⟨[0, 2, 4], by kernel_rfl, fun K r => ⟨field_Field_make_l0_L k K, fun vs m h => ⟨k, h⟩, ?_⟩⟩
  intro n vs m h
  unfold field_Field_make_l0_L at h
  split at h
  · cases n with
    | zero => cases h
    | succ n => exact ⟨n, rfl, Eq.trans (by kernel_rfl) h⟩
  · cases h

def field_Field_make_dec : Value → Mem → Option Mem := fun v m => match v with
  | .tuple ⟨[]⟩ => some (m)
  | _ => none

theorem field_Field_make_eq (k : Nat) (p0 : Option Addr) (m : Mem) : fnX (field_Field_make_C k) Try.f68 [(Value.pointer p0)] m field_Field_make_dec = field_Field_make k p0 m := by kernel_rfl

theorem field_Field_make_ok {k : Nat} {p0 : Option Addr} {m : Mem} {r : Mem} (h : field_Field_make k p0 m = some r) : CallP Try.prog 68 [(Value.pointer p0)] m fun v m' => v = (Value.tuple ⟨[]⟩) ∧ m' = r := by
  refine (fn_sound (C := field_Field_make_C k) (c := body Try.f68) tOk mixed (field_Field_make_callOk k) Try.func68 (by kernel_rfl) (by kernel_rfl) (by kernel_rfl) (by kernel_rfl) ?_ ?_ (Eq.trans (field_Field_make_eq k p0 m) h)).mono ?_
  · intro p hp
    rw [field_Field_make_loops] at hp
    simp only [List.mem_cons, List.not_mem_nil, or_false] at hp
    rcases hp with rfl
    · exact field_Field_make_l0_ok k
  · intro p hp; rw [show rangesOf 0 (body Try.f68) = [] by kernel_rfl] at hp; cases hp
  · intro v m' hp
    unfold field_Field_make_dec at hp
    split at hp
    · simp only [Option.some.injEq] at hp; subst hp; exact ⟨rfl, rfl⟩
    · cases hp

def field_Field_make_arm {R : Type} (k : Nat) : Arm R := fun vs m K => match vs with
  | [.pointer p0] => (field_Field_make k p0 m).bind fun r => K (Value.tuple ⟨[]⟩) r
  | _ => none

theorem field_Field_make_armOk {R : Type} (k : Nat) : ArmOk Try.prog 68 (field_Field_make_arm (R := R) k) := by
  intro vs m K r h
  unfold field_Field_make_arm at h
  split at h
  · obtain ⟨r, h1, h2⟩ := Option.bind_eq_some_iff.1 h; exact ⟨_, _, h2, fun K' => by simp only [field_Field_make_arm, h1, Option.bind_some], field_Field_make_ok h1⟩
  · cases h

/-! ### sync_Once_Do -/
def sync_Once_Do (k : Nat) (p0 : Option Addr) (p1 : Value) (m : Mem) : Option Mem := match p1 with
  | .func (.func 68) ⟨[.pointer (some p)]⟩ ⟨[]⟩ => onceDo p0 (field_Field_make k (some p)) m
  | _ => none

theorem sync_Once_Do_ok {k : Nat} {p0 : Option Addr} {p1 : Value} {m : Mem} {r : Mem} (h : sync_Once_Do k p0 p1 m = some r) : CallP Try.prog 67 [(Value.pointer p0), p1] m fun v m' => v = (Value.tuple ⟨[]⟩) ∧ m' = r := by
  unfold sync_Once_Do at h
  split at h
  · exact once_ok (fun m r h => field_Field_make_ok h) h
  · cases h

def sync_Once_Do_arm {R : Type} (k : Nat) : Arm R := fun vs m K => match vs with
  | [.pointer p0, p1] => (sync_Once_Do k p0 p1 m).bind fun r => K (Value.tuple ⟨[]⟩) r
  | _ => none

theorem sync_Once_Do_armOk {R : Type} (k : Nat) : ArmOk Try.prog 67 (sync_Once_Do_arm (R := R) k) := by
  intro vs m K r h
  unfold sync_Once_Do_arm at h
  split at h
  · obtain ⟨r, h1, h2⟩ := Option.bind_eq_some_iff.1 h; exact ⟨_, _, h2, fun K' => by simp only [sync_Once_Do_arm, h1, Option.bind_some], sync_Once_Do_ok h1⟩
  · cases h

/-! ### field_Field_Exp -/
def field_Field_Exp (k : Nat) (p0 : Option Addr) (p1 : Int) (m : Mem) : Option (Int × Mem) :=
  (p0).bind fun a1 =>
  (sync_Once_Do k (some (plus a1 0)) (Value.func (Fn.func 68) ⟨[(Value.pointer p0)]⟩ ⟨[]⟩) m).bind fun r2 =>
  (p0).bind fun a3 =>
  bif inRange (IntKind.wrap .i64 ((Int.tmod p1 255) + 255)) 510 then (
  (ldInt .u8 r2 (plus (plus a3 3) (Int.toNat (IntKind.wrap .i64 ((Int.tmod p1 255) + 255)) * 1))).bind fun t4 =>
  some (t4, r2)) else none

def field_Field_Exp_call {R : Type} (k : Nat) : Fun R := callCons 67 (sync_Once_Do_arm k) (callNil)

theorem field_Field_Exp_callOk {R : Type} (k : Nat) : CallOk Try.prog (field_Field_Exp_call (R := R) k) := callOk_cons (sync_Once_Do_armOk k) (callOk_nil)

def field_Field_Exp_loop (k : Nat) : Nat → List Value → Mem → (Nat → List Value → Mem → Option (Int × Mem)) → Option (Int × Mem) := fun _ _ _ _ => none

def field_Field_Exp_C (k : Nat) : Ctx (Int × Mem) := ⟨tt, field_Field_Exp_call k, field_Field_Exp_loop k, [], []⟩

def field_Field_Exp_dec : Value → Mem → Option (Int × Mem) := fun v m => match v with
  | .int .u8 q0 => some (q0, m)
  | _ => none

theorem field_Field_Exp_eq (k : Nat) (p0 : Option Addr) (p1 : Int) (m : Mem) : fnX (field_Field_Exp_C k) Try.f65 [(Value.pointer p0), (Value.int .i64 p1)] m field_Field_Exp_dec = field_Field_Exp k p0 p1 m := by kernel_rfl

theorem field_Field_Exp_ok {k : Nat} {p0 : Option Addr} {p1 : Int} {m : Mem} {r : (Int × Mem)} (h : field_Field_Exp k p0 p1 m = some r) : CallP Try.prog 65 [(Value.pointer p0), (Value.int .i64 p1)] m fun v m' => v = (Value.int .u8 r.1) ∧ m' = r.2 := by
  refine (fn_sound (C := field_Field_Exp_C k) (c := body Try.f65) tOk mixed (field_Field_Exp_callOk k) Try.func65 (by kernel_rfl) (by kernel_rfl) (by kernel_rfl) (by kernel_rfl) ?_ ?_ (Eq.trans (field_Field_Exp_eq k p0 p1 m) h)).mono ?_
  · intro p hp; rw [show loopsOf 0 (body Try.f65) = [] by kernel_rfl] at hp; cases hp
  · intro p hp; rw [show rangesOf 0 (body Try.f65) = [] by kernel_rfl] at hp; cases hp
  · intro v m' hp
    unfold field_Field_Exp_dec at hp
    split at hp
    · simp only [Option.some.injEq] at hp; subst hp; exact ⟨rfl, rfl⟩
    · cases hp

def field_Field_Exp_arm {R : Type} (k : Nat) : Arm R := fun vs m K => match vs with
  | [.pointer p0, .int .i64 p1] => (field_Field_Exp k p0 p1 m).bind fun r => K (Value.int .u8 r.1) r.2
  | _ => none

theorem field_Field_Exp_armOk {R : Type} (k : Nat) : ArmOk Try.prog 65 (field_Field_Exp_arm (R := R) k) := by
  intro vs m K r h
  unfold field_Field_Exp_arm at h
  split at h
  · obtain ⟨r, h1, h2⟩ := Option.bind_eq_some_iff.1 h; exact ⟨_, _, h2, fun K' => by simp only [field_Field_Exp_arm, h1, Option.bind_some], field_Field_Exp_ok h1⟩
  · cases h

/-! ### field_Field_Mul -/
def field_Field_Mul (k : Nat) (p0 : Option Addr) (p1 : Int) (p2 : Int) (m : Mem) : Option (Int × Mem) :=
  bif p1 == 0 then (
  some (0, m)) else (
  bif p2 == 0 then (
  some (0, m)) else (
  (p0).bind fun a1 =>
  (sync_Once_Do k (some (plus a1 0)) (Value.func (Fn.func 68) ⟨[(Value.pointer p0)]⟩ ⟨[]⟩) m).bind fun r2 =>
  (p0).bind fun a3 =>
  bif inRange p1 256 then (
  (ldInt .i64 r2 (plus (plus a3 513) (Int.toNat p1 * 1))).bind fun t4 =>
  (p0).bind fun a5 =>
  bif inRange p2 256 then (
  (ldInt .i64 r2 (plus (plus a5 513) (Int.toNat p2 * 1))).bind fun t6 =>
  (p0).bind fun a7 =>
  bif inRange (IntKind.wrap .i64 (t4 + t6)) 510 then (
  (ldInt .u8 r2 (plus (plus a7 3) (Int.toNat (IntKind.wrap .i64 (t4 + t6)) * 1))).bind fun t8 =>
  some (t8, r2)) else none) else none) else none))

def field_Field_Mul_call {R : Type} (k : Nat) : Fun R := callCons 67 (sync_Once_Do_arm k) (callNil)

theorem field_Field_Mul_callOk {R : Type} (k : Nat) : CallOk Try.prog (field_Field_Mul_call (R := R) k) := callOk_cons (sync_Once_Do_armOk k) (callOk_nil)

def field_Field_Mul_loop (k : Nat) : Nat → List Value → Mem → (Nat → List Value → Mem → Option (Int × Mem)) → Option (Int × Mem) := fun _ _ _ _ => none

def field_Field_Mul_C (k : Nat) : Ctx (Int × Mem) := ⟨tt, field_Field_Mul_call k, field_Field_Mul_loop k, [], []⟩

def field_Field_Mul_dec : Value → Mem → Option (Int × Mem) := fun v m => match v with
  | .int .u8 q0 => some (q0, m)
  | _ => none

theorem field_Field_Mul_eq (k : Nat) (p0 : Option Addr) (p1 : Int) (p2 : Int) (m : Mem) : fnX (field_Field_Mul_C k) Try.f57 [(Value.pointer p0), (Value.int .u8 p1), (Value.int .u8 p2)] m field_Field_Mul_dec = field_Field_Mul k p0 p1 p2 m := by kernel_rfl

theorem field_Field_Mul_ok {k : Nat} {p0 : Option Addr} {p1 : Int} {p2 : Int} {m : Mem} {r : (Int × Mem)} (h : field_Field_Mul k p0 p1 p2 m = some r) : CallP Try.prog 57 [(Value.pointer p0), (Value.int .u8 p1), (Value.int .u8 p2)] m fun v m' => v = (Value.int .u8 r.1) ∧ m' = r.2 := by
  refine (fn_sound (C := field_Field_Mul_C k) (c := body Try.f57) tOk mixed (field_Field_Mul_callOk k) Try.func57 (by kernel_rfl) (by kernel_rfl) (by kernel_rfl) (by kernel_rfl) ?_ ?_ (Eq.trans (field_Field_Mul_eq k p0 p1 p2 m) h)).mono ?_
  · intro p hp; rw [show loopsOf 0 (body Try.f57) = [] by kernel_rfl] at hp; cases hp
  · intro p hp; rw [show rangesOf 0 (body Try.f57) = [] by kernel_rfl] at hp; cases hp
  · intro v m' hp
    unfold field_Field_Mul_dec at hp
    split at hp
    · simp only [Option.some.injEq] at hp; subst hp; exact ⟨rfl, rfl⟩
    · cases hp

def field_Field_Mul_arm {R : Type} (k : Nat) : Arm R := fun vs m K => match vs with
  | [.pointer p0, .int .u8 p1, .int .u8 p2] => (field_Field_Mul k p0 p1 p2 m).bind fun r => K (Value.int .u8 r.1) r.2
  | _ => none

theorem field_Field_Mul_armOk {R : Type} (k : Nat) : ArmOk Try.prog 57 (field_Field_Mul_arm (R := R) k) := by
  intro vs m K r h
  unfold field_Field_Mul_arm at h
  split at h
  · obtain ⟨r, h1, h2⟩ := Option.bind_eq_some_iff.1 h; exact ⟨_, _, h2, fun K' => by simp only [field_Field_Mul_arm, h1, Option.bind_some], field_Field_Mul_ok h1⟩
  · cases h

/-! ### field_Field_Eval -/
def field_Field_Eval_l0_b (k : Nat) (nx : Option Addr → Int → Int → Option Addr → Nat → Nat → Int → Int → Mem → Option (Int × Mem)) (kx2 : Int → Mem → Option (Int × Mem)) (x0 : Option Addr) (x2 : Int) (x7 : Int) (x10a : Option Addr) (x10n : Nat) (x10c : Nat) (x11 : Int) (x12 : Int) (m : Mem) : Option (Int × Mem) :=
  bif decide (x12 < x11) then (
  bif inRange x12 x10n then (
  (x10a).bind fun a1 =>
  (ldInt .u8 m (plus a1 (Int.toNat x12 * 1))).bind fun t2 =>
  (field_Field_Mul k x0 x7 x2 m).bind fun r3 =>
  nx x0 x2 (bitI .xor .u8 r3.1 t2) x10a x10n x10c x11 (IntKind.wrap .i64 (x12 + 1)) r3.2) else none) else (
  kx2 x7 m)

def field_Field_Eval_l0 (k : Nat) (kx2 : Int → Mem → Option (Int × Mem)) : Nat → Option Addr → Int → Int → Option Addr → Nat → Nat → Int → Int → Mem → Option (Int × Mem)
  | 0, _, _, _, _, _, _, _, _, _ => none
  | n + 1, x0, x2, x7, x10a, x10n, x10c, x11, x12, m => field_Field_Eval_l0_b k (fun x0 x2 x7 x10a x10n x10c x11 x12 m => field_Field_Eval_l0 k kx2 n x0 x2 x7 x10a x10n x10c x11 x12 m) kx2 x0 x2 x7 x10a x10n x10c x11 x12 m
termination_by structural x => x

theorem field_Field_Eval_l0_rule (k : Nat) (kx2 : Int → Mem → Option (Int × Mem)) {P : (Int × Mem) → Prop} (I : Nat → Option Addr → Int → Int → Option Addr → Nat → Nat → Int → Int → Mem → Prop)
    (step : ∀ d (nx : Option Addr → Int → Int → Option Addr → Nat → Nat → Int → Int → Mem → Option (Int × Mem)) (x0 : Option Addr) (x2 : Int) (x7 : Int) (x10a : Option Addr) (x10n : Nat) (x10c : Nat) (x11 : Int) (x12 : Int) (m : Mem), I d x0 x2 x7 x10a x10n x10c x11 x12 m → (∀ d' (x0 : Option Addr) (x2 : Int) (x7 : Int) (x10a : Option Addr) (x10n : Nat) (x10c : Nat) (x11 : Int) (x12 : Int) (m : Mem), d' < d → I d' x0 x2 x7 x10a x10n x10c x11 x12 m → Ok (nx x0 x2 x7 x10a x10n x10c x11 x12 m) P) → Ok (field_Field_Eval_l0_b k nx kx2 x0 x2 x7 x10a x10n x10c x11 x12 m) P) :
    ∀ n d (x0 : Option Addr) (x2 : Int) (x7 : Int) (x10a : Option Addr) (x10n : Nat) (x10c : Nat) (x11 : Int) (x12 : Int) (m : Mem), d < n → I d x0 x2 x7 x10a x10n x10c x11 x12 m → Ok (field_Field_Eval_l0 k kx2 n x0 x2 x7 x10a x10n x10c x11 x12 m) P
  | 0, d, x0, x2, x7, x10a, x10n, x10c, x11, x12, m, h, _ => absurd h (Nat.not_lt_zero _)
  | n + 1, d, x0, x2, x7, x10a, x10n, x10c, x11, x12, m, h, hI => step d _ x0 x2 x7 x10a x10n x10c x11 x12 m hI fun d' x0 x2 x7 x10a x10n x10c x11 x12 m h' hI' => field_Field_Eval_l0_rule k kx2 I step n d' x0 x2 x7 x10a x10n x10c x11 x12 m (by omega) hI'

def field_Field_Eval (k : Nat) (p0 : Option Addr) (p1a : Option Addr) (p1n : Nat) (p1c : Nat) (p2 : Int) (m : Mem) : Option (Int × Mem) :=
  field_Field_Eval_l0 k (fun y7 m4 => 
  some (y7, m4)) k p0 p2 0 p1a p1n p1c ((p1n : Nat) : Int) 0 m

def field_Field_Eval_call {R : Type} (k : Nat) : Fun R := callCons 57 (field_Field_Mul_arm k) (callNil)

theorem field_Field_Eval_callOk {R : Type} (k : Nat) : CallOk Try.prog (field_Field_Eval_call (R := R) k) := callOk_cons (field_Field_Mul_armOk k) (callOk_nil)

def field_Field_Eval_l0_L (k : Nat) (K : Nat → List Value → Mem → Option (Int × Mem)) (n : Nat) (vs : List Value) (m : Mem) : Option (Int × Mem) := match vs with
  | [.pointer x0, .int .u8 x2, .int .u8 x7, .slice x10a x10n x10c, .int .i64 x11, .int .i64 x12] => field_Field_Eval_l0 k (fun y7 m => K 2 [(Value.int .u8 y7)] m) n x0 x2 x7 x10a x10n x10c x11 x12 m
  | _ => none

def field_Field_Eval_loop (k : Nat) : Nat → List Value → Mem → (Nat → List Value → Mem → Option (Int × Mem)) → Option (Int × Mem) := fun cur vs m K => match cur with
  | 0 => field_Field_Eval_l0_L k K k vs m
  | _ => none

def field_Field_Eval_C (k : Nat) : Ctx (Int × Mem) := ⟨tt, field_Field_Eval_call k, field_Field_Eval_loop k, [(0, [0, 2, 7, 10, 11, 12])], [(2, [7])]⟩

noncomputable def field_Field_Eval_l0_c : Code := ((loopsOf 0 (body Try.f69)).map (·.2)).getD 0 .skip

theorem field_Field_Eval_loops : loopsOf 0 (body Try.f69) = [(0, field_Field_Eval_l0_c)] := by kernel_rfl

theorem field_Field_Eval_l0_ok (k : Nat) : LoopOk (field_Field_Eval_C k) 0 field_Field_Eval_l0_c := by
  refine ⟨[0, 2, 7, 10, 11, 12], by kernel_rfl, fun K r => ⟨field_Field_Eval_l0_L k K, fun vs m h => ⟨k, h⟩, ?_⟩⟩
  intro n vs m h
  unfold field_Field_Eval_l0_L at h
  split at h
  · cases n with
    | zero => cases h
    | succ n => exact ⟨n, rfl, Eq.trans (by kernel_rfl) h⟩
  · cases h

def field_Field_Eval_dec : Value → Mem → Option (Int × Mem) := fun v m => match v with
  | .int .u8 q0 => some (q0, m)
  | _ => none

theorem field_Field_Eval_eq (k : Nat) (p0 : Option Addr) (p1a : Option Addr) (p1n : Nat) (p1c : Nat) (p2 : Int) (m : Mem) : fnX (field_Field_Eval_C k) Try.f69 [(Value.pointer p0), (Value.slice p1a p1n p1c), (Value.int .u8 p2)] m field_Field_Eval_dec = field_Field_Eval k p0 p1a p1n p1c p2 m := by kernel_rfl

theorem field_Field_Eval_ok {k : Nat} {p0 : Option Addr} {p1a : Option Addr} {p1n : Nat} {p1c : Nat} {p2 : Int} {m : Mem} {r : (Int × Mem)} (h : field_Field_Eval k p0 p1a p1n p1c p2 m = some r) : CallP Try.prog 69 [(Value.pointer p0), (Value.slice p1a p1n p1c), (Value.int .u8 p2)] m fun v m' => v = (Value.int .u8 r.1) ∧ m' = r.2 := by
  refine (fn_sound (C := field_Field_Eval_C k) (c := body Try.f69) tOk mixed (field_Field_Eval_callOk k) Try.func69 (by kernel_rfl) (by kernel_rfl) (by kernel_rfl) (by kernel_rfl) ?_ ?_ (Eq.trans (field_Field_Eval_eq k p0 p1a p1n p1c p2 m) h)).mono ?_
  · intro p hp
    rw [field_Field_Eval_loops] at hp
    simp only [List.mem_cons, List.not_mem_nil, or_false] at hp
    rcases hp with rfl
    · exact field_Field_Eval_l0_ok k
  · intro p hp; rw [show rangesOf 0 (body Try.f69) = [] by kernel_rfl] at hp; cases hp
  · intro v m' hp
    unfold field_Field_Eval_dec at hp
    split at hp
    · simp only [Option.some.injEq] at hp; subst hp; exact ⟨rfl, rfl⟩
    · cases hp

def field_Field_Eval_arm {R : Type} (k : Nat) : Arm R := fun vs m K => match vs with
  | [.pointer p0, .slice p1a p1n p1c, .int .u8 p2] => (field_Field_Eval k p0 p1a p1n p1c p2 m).bind fun r => K (Value.int .u8 r.1) r.2
  | _ => none

theorem field_Field_Eval_armOk {R : Type} (k : Nat) : ArmOk Try.prog 69 (field_Field_Eval_arm (R := R) k) := by
  intro vs m K r h
  unfold field_Field_Eval_arm at h
  split at h
  · obtain ⟨r, h1, h2⟩ := Option.bind_eq_some_iff.1 h; exact ⟨_, _, h2, fun K' => by simp only [field_Field_Eval_arm, h1, Option.bind_some], field_Field_Eval_ok h1⟩
  · cases h

/-! ### field_Field_Inv -/
def field_Field_Inv (k : Nat) (p0 : Option Addr) (p1 : Int) (m : Mem) : Option (Int × Value × Mem) :=
  bif p1 == 0 then (
  some (0, (Value.iface ty_api_Code (Value.int .i64 4)), m)) else (
  (p0).bind fun a1 =>
  (sync_Once_Do k (some (plus a1 0)) (Value.func (Fn.func 68) ⟨[(Value.pointer p0)]⟩ ⟨[]⟩) m).bind fun r2 =>
  (p0).bind fun a3 =>
  bif inRange p1 256 then (
  (ldInt .i64 r2 (plus (plus a3 513) (Int.toNat p1 * 1))).bind fun t4 =>
  (p0).bind fun a5 =>
  bif inRange (IntKind.wrap .i64 (255 - t4)) 510 then (
  (ldInt .u8 r2 (plus (plus a5 3) (Int.toNat (IntKind.wrap .i64 (255 - t4)) * 1))).bind fun t6 =>
  some (t6, Value.nilIface, r2)) else none) else none)

def field_Field_Inv_call {R : Type} (k : Nat) : Fun R := callCons 67 (sync_Once_Do_arm k) (callNil)

theorem field_Field_Inv_callOk {R : Type} (k : Nat) : CallOk Try.prog (field_Field_Inv_call (R := R) k) := callOk_cons (sync_Once_Do_armOk k) (callOk_nil)

def field_Field_Inv_loop (k : Nat) : Nat → List Value → Mem → (Nat → List Value → Mem → Option (Int × Value × Mem)) → Option (Int × Value × Mem) := fun _ _ _ _ => none

def field_Field_Inv_C (k : Nat) : Ctx (Int × Value × Mem) := ⟨tt, field_Field_Inv_call k, field_Field_Inv_loop k, [], []⟩

def field_Field_Inv_dec : Value → Mem → Option (Int × Value × Mem) := fun v m => match v with
  | .tuple ⟨[.int .u8 q0, q1]⟩ => some (q0, q1, m)
  | _ => none

theorem field_Field_Inv_eq (k : Nat) (p0 : Option Addr) (p1 : Int) (m : Mem) : fnX (field_Field_Inv_C k) Try.f75 [(Value.pointer p0), (Value.int .u8 p1)] m field_Field_Inv_dec = field_Field_Inv k p0 p1 m := by kernel_rfl

theorem field_Field_Inv_ok {k : Nat} {p0 : Option Addr} {p1 : Int} {m : Mem} {r : (Int × Value × Mem)} (h : field_Field_Inv k p0 p1 m = some r) : CallP Try.prog 75 [(Value.pointer p0), (Value.int .u8 p1)] m fun v m' => v = (Value.tuple ⟨[(Value.int .u8 r.1), r.2.1]⟩) ∧ m' = r.2.2 := by
  refine (fn_sound (C := field_Field_Inv_C k) (c := body Try.f75) tOk mixed (field_Field_Inv_callOk k) Try.func75 (by kernel_rfl) (by kernel_rfl) (by kernel_rfl) (by kernel_rfl) ?_ ?_ (Eq.trans (field_Field_Inv_eq k p0 p1 m) h)).mono ?_
  · intro p hp; rw [show loopsOf 0 (body Try.f75) = [] by kernel_rfl] at hp; cases hp
  · intro p hp; rw [show rangesOf 0 (body Try.f75) = [] by kernel_rfl] at hp; cases hp
  · intro v m' hp
    unfold field_Field_Inv_dec at hp
    split at hp
    · simp only [Option.some.injEq] at hp; subst hp; exact ⟨rfl, rfl⟩
    · cases hp

def field_Field_Inv_arm {R : Type} (k : Nat) : Arm R := fun vs m K => match vs with
  | [.pointer p0, .int .u8 p1] => (field_Field_Inv k p0 p1 m).bind fun r => K (Value.tuple ⟨[(Value.int .u8 r.1), r.2.1]⟩) r.2.2
  | _ => none

theorem field_Field_Inv_armOk {R : Type} (k : Nat) : ArmOk Try.prog 75 (field_Field_Inv_arm (R := R) k) := by
  intro vs m K r h
  unfold field_Field_Inv_arm at h
  split at h
  · obtain ⟨r, h1, h2⟩ := Option.bind_eq_some_iff.1 h; exact ⟨_, _, h2, fun K' => by simp only [field_Field_Inv_arm, h1, Option.bind_some], field_Field_Inv_ok h1⟩
  · cases h

/-! ### field_Field_Div -/
def field_Field_Div (k : Nat) (p0 : Option Addr) (p1 : Int) (p2 : Int) (m : Mem) : Option (Int × Value × Mem) :=
  (field_Field_Inv k p0 p2 m).bind fun r1 =>
  (isNil r1.2.1).bind fun b2 =>
  bif !b2 then (
  some (0, r1.2.1, r1.2.2)) else (
  (field_Field_Mul k p0 p1 r1.1 r1.2.2).bind fun r3 =>
  some (r3.1, Value.nilIface, r3.2))

def field_Field_Div_call {R : Type} (k : Nat) : Fun R := callCons 57 (field_Field_Mul_arm k) (callCons 75 (field_Field_Inv_arm k) (callNil))

theorem field_Field_Div_callOk {R : Type} (k : Nat) : CallOk Try.prog (field_Field_Div_call (R := R) k) := callOk_cons (field_Field_Mul_armOk k) (callOk_cons (field_Field_Inv_armOk k) (callOk_nil))

def field_Field_Div_loop (k : Nat) : Nat → List Value → Mem → (Nat → List Value → Mem → Option (Int × Value × Mem)) → Option (Int × Value × Mem) := fun _ _ _ _ => none

def field_Field_Div_C (k : Nat) : Ctx (Int × Value × Mem) := ⟨tt, field_Field_Div_call k, field_Field_Div_loop k, [], []⟩

def field_Field_Div_dec : Value → Mem → Option (Int × Value × Mem) := fun v m => match v with
  | .tuple ⟨[.int .u8 q0, q1]⟩ => some (q0, q1, m)
  | _ => none

theorem field_Field_Div_eq (k : Nat) (p0 : Option Addr) (p1 : Int) (p2 : Int) (m : Mem) : fnX (field_Field_Div_C k) Try.f70 [(Value.pointer p0), (Value.int .u8 p1), (Value.int .u8 p2)] m field_Field_Div_dec = field_Field_Div k p0 p1 p2 m := by kernel_rfl

theorem field_Field_Div_ok {k : Nat} {p0 : Option Addr} {p1 : Int} {p2 : Int} {m : Mem} {r : (Int × Value × Mem)} (h : field_Field_Div k p0 p1 p2 m = some r) : CallP Try.prog 70 [(Value.pointer p0), (Value.int .u8 p1), (Value.int .u8 p2)] m fun v m' => v = (Value.tuple ⟨[(Value.int .u8 r.1), r.2.1]⟩) ∧ m' = r.2.2 := by
  refine (fn_sound (C := field_Field_Div_C k) (c := body Try.f70) tOk mixed (field_Field_Div_callOk k) Try.func70 (by kernel_rfl) (by kernel_rfl) (by kernel_rfl) (by kernel_rfl) ?_ ?_ (Eq.trans (field_Field_Div_eq k p0 p1 p2 m) h)).mono ?_
  · intro p hp; rw [show loopsOf 0 (body Try.f70) = [] by kernel_rfl] at hp; cases hp
  · intro p hp; rw [show rangesOf 0 (body Try.f70) = [] by kernel_rfl] at hp; cases hp
  · intro v m' hp
    unfold field_Field_Div_dec at hp
    split at hp
    · simp only [Option.some.injEq] at hp; subst hp; exact ⟨rfl, rfl⟩
    · cases hp

def field_Field_Div_arm {R : Type} (k : Nat) : Arm R := fun vs m K => match vs with
  | [.pointer p0, .int .u8 p1, .int .u8 p2] => (field_Field_Div k p0 p1 p2 m).bind fun r => K (Value.tuple ⟨[(Value.int .u8 r.1), r.2.1]⟩) r.2.2
  | _ => none

theorem field_Field_Div_armOk {R : Type} (k : Nat) : ArmOk Try.prog 70 (field_Field_Div_arm (R := R) k) := by
  intro vs m K r h
  unfold field_Field_Div_arm at h
  split at h
  · obtain ⟨r, h1, h2⟩ := Option.bind_eq_some_iff.1 h; exact ⟨_, _, h2, fun K' => by simp only [field_Field_Div_arm, h1, Option.bind_some], field_Field_Div_ok h1⟩
  · cases h

/-! ### field_Field_Log -/
def field_Field_Log (k : Nat) (p0 : Option Addr) (p1 : Int) (m : Mem) : Option (Int × Value × Mem) :=
  bif p1 == 0 then (
  some (0, (Value.iface ty_api_Code (Value.int .i64 4)), m)) else (
  (p0).bind fun a1 =>
  (sync_Once_Do k (some (plus a1 0)) (Value.func (Fn.func 68) ⟨[(Value.pointer p0)]⟩ ⟨[]⟩) m).bind fun r2 =>
  (p0).bind fun a3 =>
  bif inRange p1 256 then (
  (ldInt .i64 r2 (plus (plus a3 513) (Int.toNat p1 * 1))).bind fun t4 =>
  some (t4, Value.nilIface, r2)) else none)

def field_Field_Log_call {R : Type} (k : Nat) : Fun R := callCons 67 (sync_Once_Do_arm k) (callNil)

theorem field_Field_Log_callOk {R : Type} (k : Nat) : CallOk Try.prog (field_Field_Log_call (R := R) k) := callOk_cons (sync_Once_Do_armOk k) (callOk_nil)

def field_Field_Log_loop (k : Nat) : Nat → List Value → Mem → (Nat → List Value → Mem → Option (Int × Value × Mem)) → Option (Int × Value × Mem) := fun _ _ _ _ => none

def field_Field_Log_C (k : Nat) : Ctx (Int × Value × Mem) := ⟨tt, field_Field_Log_call k, field_Field_Log_loop k, [], []⟩

def field_Field_Log_dec : Value → Mem → Option (Int × Value × Mem) := fun v m => match v with
  | .tuple ⟨[.int .i64 q0, q1]⟩ => some (q0, q1, m)
  | _ => none

theorem field_Field_Log_eq (k : Nat) (p0 : Option Addr) (p1 : Int) (m : Mem) : fnX (field_Field_Log_C k) Try.f71 [(Value.pointer p0), (Value.int .u8 p1)] m field_Field_Log_dec = field_Field_Log k p0 p1 m := by kernel_rfl

theorem field_Field_Log_ok {k : Nat} {p0 : Option Addr} {p1 : Int} {m : Mem} {r : (Int × Value × Mem)} (h : field_Field_Log k p0 p1 m = some r) : CallP Try.prog 71 [(Value.pointer p0), (Value.int .u8 p1)] m fun v m' => v = (Value.tuple ⟨[(Value.int .i64 r.1), r.2.1]⟩) ∧ m' = r.2.2 := by
  refine (fn_sound (C := field_Field_Log_C k) (c := body Try.f71) tOk mixed (field_Field_Log_callOk k) Try.func71 (by kernel_rfl) (by kernel_rfl) (by kernel_rfl) (by kernel_rfl) ?_ ?_ (Eq.trans (field_Field_Log_eq k p0 p1 m) h)).mono ?_
  · intro p hp; rw [show loopsOf 0 (body Try.f71) = [] by kernel_rfl] at hp; cases hp
  · intro p hp; rw [show rangesOf 0 (body Try.f71) = [] by kernel_rfl] at hp; cases hp
  · intro v m' hp
    unfold field_Field_Log_dec at hp
    split at hp
    · simp only [Option.some.injEq] at hp; subst hp; exact ⟨rfl, rfl⟩
    · cases hp

def field_Field_Log_arm {R : Type} (k : Nat) : Arm R := fun vs m K => match vs with
  | [.pointer p0, .int .u8 p1] => (field_Field_Log k p0 p1 m).bind fun r => K (Value.tuple ⟨[(Value.int .i64 r.1), r.2.1]⟩) r.2.2
  | _ => none

theorem field_Field_Log_armOk {R : Type} (k : Nat) : ArmOk Try.prog 71 (field_Field_Log_arm (R := R) k) := by
  intro vs m K r h
  unfold field_Field_Log_arm at h
  split at h
  · obtain ⟨r, h1, h2⟩ := Option.bind_eq_some_iff.1 h; exact ⟨_, _, h2, fun K' => by simp only [field_Field_Log_arm, h1, Option.bind_some], field_Field_Log_ok h1⟩
  · cases h

/-! ### field_New -/
def field_New (k : Nat) (m : Mem) : Option ((Option Addr) × Mem) :=
  bif Nat.beq (List.length ((tt ty_field_Field).zero)) 769 then (
  let m1 : Mem := m ++ [.live ((tt ty_field_Field).zero)]
  some ((some ⟨List.length m, 0, Option.none⟩), m1)) else none

def field_New_call {R : Type} (k : Nat) : Fun R := callNil

theorem field_New_callOk {R : Type} (k : Nat) : CallOk Try.prog (field_New_call (R := R) k) := callOk_nil

def field_New_loop (k : Nat) : Nat → List Value → Mem → (Nat → List Value → Mem → Option ((Option Addr) × Mem)) → Option ((Option Addr) × Mem) := fun _ _ _ _ => none

def field_New_C (k : Nat) : Ctx ((Option Addr) × Mem) := ⟨tt, field_New_call k, field_New_loop k, [], []⟩

def field_New_dec : Value → Mem → Option ((Option Addr) × Mem) := fun v m => match v with
  | .pointer q0 => some (q0, m)
  | _ => none

theorem field_New_eq (k : Nat) (m : Mem) : fnX (field_New_C k) Try.f63 [] m field_New_dec = field_New k  m := by kernel_rfl

theorem field_New_ok {k : Nat} {m : Mem} {r : ((Option Addr) × Mem)} (h : field_New k  m = some r) : CallP Try.prog 63 [] m fun v m' => v = (Value.pointer r.1) ∧ m' = r.2 := by
  refine (fn_sound (C := field_New_C k) (c := body Try.f63) tOk mixed (field_New_callOk k) Try.func63 (by kernel_rfl) (by kernel_rfl) (by kernel_rfl) (by kernel_rfl) ?_ ?_ (Eq.trans (field_New_eq k  m) h)).mono ?_
  · intro p hp; rw [show loopsOf 0 (body Try.f63) = [] by kernel_rfl] at hp; cases hp
  · intro p hp; rw [show rangesOf 0 (body Try.f63) = [] by kernel_rfl] at hp; cases hp
  · intro v m' hp
    unfold field_New_dec at hp
    split at hp
    · simp only [Option.some.injEq] at hp; subst hp; exact ⟨rfl, rfl⟩
    · cases hp

def field_New_arm {R : Type} (k : Nat) : Arm R := fun vs m K => match vs with
  | [] => (field_New k  m).bind fun r => K (Value.pointer r.1) r.2
  | _ => none

theorem field_New_armOk {R : Type} (k : Nat) : ArmOk Try.prog 63 (field_New_arm (R := R) k) := by
  intro vs m K r h
  unfold field_New_arm at h
  split at h
  · obtain ⟨r, h1, h2⟩ := Option.bind_eq_some_iff.1 h; exact ⟨_, _, h2, fun K' => by simp only [field_New_arm, h1, Option.bind_some], field_New_ok h1⟩
  · cases h

/-! ### field_Field_Times -/
def field_Field_Times_l2_b (k : Nat) (nx : Option Addr → Option Addr → Nat → Nat → Option Addr → Nat → Nat → Int → Int → Option Addr → Nat → Nat → Int → Int → Option Addr → Nat → Nat → Int → Int → Mem → Option (Sl × Mem)) (kx4 : Option Addr → Option Addr → Nat → Nat → Option Addr → Nat → Nat → Option Addr → Nat → Nat → Int → Int → Mem → Option (Sl × Mem)) (x0 : Option Addr) (x2a : Option Addr) (x2n : Nat) (x2c : Nat) (x7a : Option Addr) (x7n : Nat) (x7c : Nat) (x8 : Int) (x9 : Int) (x27a : Option Addr) (x27n : Nat) (x27c : Nat) (x28 : Int) (x29 : Int) (x34a : Option Addr) (x34n : Nat) (x34c : Nat) (x35 : Int) (x36 : Int) (m : Mem) : Option (Sl × Mem) :=
  bif decide (x36 < x35) then (
  bif inRange x36 x34n then (
  (x34a).bind fun a4 =>
  (ldInt .u8 m (plus a4 (Int.toNat x36 * 1))).bind fun t5 =>
  bif inRange (IntKind.wrap .i64 (x8 + x36)) x7n then (
  (x7a).bind fun a6 =>
  (ldInt .u8 m (plus a6 (Int.toNat (IntKind.wrap .i64 (x8 + x36)) * 1))).bind fun t7 =>
  (field_Field_Mul k x0 x9 t5 m).bind fun r8 =>
  bif inRange (IntKind.wrap .i64 (x8 + x36)) x7n then (
  (x7a).bind fun a9 =>
  (st r8.2 (plus a9 (Int.toNat (IntKind.wrap .i64 (x8 + x36)) * 1)) (Value.int .u8 (bitI .xor .u8 t7 r8.1))).bind fun m10 =>
  (ldInt .u8 r8.2 (plus a6 (Int.toNat (IntKind.wrap .i64 (x8 + x36)) * 1))).bind fun t11 =>
  bif t11 == t7 then (
  nx x0 x2a x2n x2c x7a x7n x7c x8 x9 x27a x27n x27c x28 x29 x34a x34n x34c x35 (IntKind.wrap .i64 (x36 + 1)) m10) else none) else none) else none) else none) else (
  kx4 x0 x2a x2n x2c x7a x7n x7c x27a x27n x27c x28 x29 m)

def field_Field_Times_l2 (k : Nat) (kx4 : Option Addr → Option Addr → Nat → Nat → Option Addr → Nat → Nat → Option Addr → Nat → Nat → Int → Int → Mem → Option (Sl × Mem)) : Nat → Option Addr → Option Addr → Nat → Nat → Option Addr → Nat → Nat → Int → Int → Option Addr → Nat → Nat → Int → Int → Option Addr → Nat → Nat → Int → Int → Mem → Option (Sl × Mem)
  | 0, _, _, _, _, _, _, _, _, _, _, _, _, _, _, _, _, _, _, _, _ => none
  | n + 1, x0, x2a, x2n, x2c, x7a, x7n, x7c, x8, x9, x27a, x27n, x27c, x28, x29, x34a, x34n, x34c, x35, x36, m => field_Field_Times_l2_b k (fun x0 x2a x2n x2c x7a x7n x7c x8 x9 x27a x27n x27c x28 x29 x34a x34n x34c x35 x36 m => field_Field_Times_l2 k kx4 n x0 x2a x2n x2c x7a x7n x7c x8 x9 x27a x27n x27c x28 x29 x34a x34n x34c x35 x36 m) kx4 x0 x2a x2n x2c x7a x7n x7c x8 x9 x27a x27n x27c x28 x29 x34a x34n x34c x35 x36 m
termination_by structural x => x

theorem field_Field_Times_l2_rule (k : Nat) (kx4 : Option Addr → Option Addr → Nat → Nat → Option Addr → Nat → Nat → Option Addr → Nat → Nat → Int → Int → Mem → Option (Sl × Mem)) {P : (Sl × Mem) → Prop} (I : Nat → Option Addr → Option Addr → Nat → Nat → Option Addr → Nat → Nat → Int → Int → Option Addr → Nat → Nat → Int → Int → Option Addr → Nat → Nat → Int → Int → Mem → Prop)
    (step : ∀ d (nx : Option Addr → Option Addr → Nat → Nat → Option Addr → Nat → Nat → Int → Int → Option Addr → Nat → Nat → Int → Int → Option Addr → Nat → Nat → Int → Int → Mem → Option (Sl × Mem)) (x0 : Option Addr) (x2a : Option Addr) (x2n : Nat) (x2c : Nat) (x7a : Option Addr) (x7n : Nat) (x7c : Nat) (x8 : Int) (x9 : Int) (x27a : Option Addr) (x27n : Nat) (x27c : Nat) (x28 : Int) (x29 : Int) (x34a : Option Addr) (x34n : Nat) (x34c : Nat) (x35 : Int) (x36 : Int) (m : Mem), I d x0 x2a x2n x2c x7a x7n x7c x8 x9 x27a x27n x27c x28 x29 x34a x34n x34c x35 x36 m → (∀ d' (x0 : Option Addr) (x2a : Option Addr) (x2n : Nat) (x2c : Nat) (x7a : Option Addr) (x7n : Nat) (x7c : Nat) (x8 : Int) (x9 : Int) (x27a : Option Addr) (x27n : Nat) (x27c : Nat) (x28 : Int) (x29 : Int) (x34a : Option Addr) (x34n : Nat) (x34c : Nat) (x35 : Int) (x36 : Int) (m : Mem), d' < d → I d' x0 x2a x2n x2c x7a x7n x7c x8 x9 x27a x27n x27c x28 x29 x34a x34n x34c x35 x36 m → Ok (nx x0 x2a x2n x2c x7a x7n x7c x8 x9 x27a x27n x27c x28 x29 x34a x34n x34c x35 x36 m) P) → Ok (field_Field_Times_l2_b k nx kx4 x0 x2a x2n x2c x7a x7n x7c x8 x9 x27a x27n x27c x28 x29 x34a x34n x34c x35 x36 m) P) :
    ∀ n d (x0 : Option Addr) (x2a : Option Addr) (x2n : Nat) (x2c : Nat) (x7a : Option Addr) (x7n : Nat) (x7c : Nat) (x8 : Int) (x9 : Int) (x27a : Option Addr) (x27n : Nat) (x27c : Nat) (x28 : Int) (x29 : Int) (x34a : Option Addr) (x34n : Nat) (x34c : Nat) (x35 : Int) (x36 : Int) (m : Mem), d < n → I d x0 x2a x2n x2c x7a x7n x7c x8 x9 x27a x27n x27c x28 x29 x34a x34n x34c x35 x36 m → Ok (field_Field_Times_l2 k kx4 n x0 x2a x2n x2c x7a x7n x7c x8 x9 x27a x27n x27c x28 x29 x34a x34n x34c x35 x36 m) P
  | 0, d, x0, x2a, x2n, x2c, x7a, x7n, x7c, x8, x9, x27a, x27n, x27c, x28, x29, x34a, x34n, x34c, x35, x36, m, h, _ => absurd h (Nat.not_lt_zero _)
  | n + 1, d, x0, x2a, x2n, x2c, x7a, x7n, x7c, x8, x9, x27a, x27n, x27c, x28, x29, x34a, x34n, x34c, x35, x36, m, h, hI => step d _ x0 x2a x2n x2c x7a x7n x7c x8 x9 x27a x27n x27c x28 x29 x34a x34n x34c x35 x36 m hI fun d' x0 x2a x2n x2c x7a x7n x7c x8 x9 x27a x27n x27c x28 x29 x34a x34n x34c x35 x36 m h' hI' => field_Field_Times_l2_rule k kx4 I step n d' x0 x2a x2n x2c x7a x7n x7c x8 x9 x27a x27n x27c x28 x29 x34a x34n x34c x35 x36 m (by omega) hI'

def field_Field_Times_l0_b (k : Nat) (nx : Option Addr → Option Addr → Nat → Nat → Option Addr → Nat → Nat → Option Addr → Nat → Nat → Int → Int → Mem → Option (Sl × Mem)) (kx2 : Option Addr → Nat → Nat → Mem → Option (Sl × Mem)) (x0 : Option Addr) (x2a : Option Addr) (x2n : Nat) (x2c : Nat) (x7a : Option Addr) (x7n : Nat) (x7c : Nat) (x27a : Option Addr) (x27n : Nat) (x27c : Nat) (x28 : Int) (x29 : Int) (m : Mem) : Option (Sl × Mem) :=
  bif decide (x29 < x28) then (
  bif inRange x29 x27n then (
  (x27a).bind fun a2 =>
  (ldInt .u8 m (plus a2 (Int.toNat x29 * 1))).bind fun t3 =>
  field_Field_Times_l2 k (fun y0 y2a y2n y2c y7a y7n y7c y27a y27n y27c y28 y29 m12 => 
  nx y0 y2a y2n y2c y7a y7n y7c y27a y27n y27c y28 (IntKind.wrap .i64 (y29 + 1)) m12) k x0 x2a x2n x2c x7a x7n x7c x29 t3 x27a x27n x27c x28 x29 x2a x2n x2c ((x2n : Nat) : Int) 0 m) else none) else (
  kx2 x7a x7n x7c m)

def field_Field_Times_l0 (k : Nat) (kx2 : Option Addr → Nat → Nat → Mem → Option (Sl × Mem)) : Nat → Option Addr → Option Addr → Nat → Nat → Option Addr → Nat → Nat → Option Addr → Nat → Nat → Int → Int → Mem → Option (Sl × Mem)
  | 0, _, _, _, _, _, _, _, _, _, _, _, _, _ => none
  | n + 1, x0, x2a, x2n, x2c, x7a, x7n, x7c, x27a, x27n, x27c, x28, x29, m => field_Field_Times_l0_b k (fun x0 x2a x2n x2c x7a x7n x7c x27a x27n x27c x28 x29 m => field_Field_Times_l0 k kx2 n x0 x2a x2n x2c x7a x7n x7c x27a x27n x27c x28 x29 m) kx2 x0 x2a x2n x2c x7a x7n x7c x27a x27n x27c x28 x29 m
termination_by structural x => x

theorem field_Field_Times_l0_rule (k : Nat) (kx2 : Option Addr → Nat → Nat → Mem → Option (Sl × Mem)) {P : (Sl × Mem) → Prop} (I : Nat → Option Addr → Option Addr → Nat → Nat → Option Addr → Nat → Nat → Option Addr → Nat → Nat → Int → Int → Mem → Prop)
    (step : ∀ d (nx : Option Addr → Option Addr → Nat → Nat → Option Addr → Nat → Nat → Option Addr → Nat → Nat → Int → Int → Mem → Option (Sl × Mem)) (x0 : Option Addr) (x2a : Option Addr) (x2n : Nat) (x2c : Nat) (x7a : Option Addr) (x7n : Nat) (x7c : Nat) (x27a : Option Addr) (x27n : Nat) (x27c : Nat) (x28 : Int) (x29 : Int) (m : Mem), I d x0 x2a x2n x2c x7a x7n x7c x27a x27n x27c x28 x29 m → (∀ d' (x0 : Option Addr) (x2a : Option Addr) (x2n : Nat) (x2c : Nat) (x7a : Option Addr) (x7n : Nat) (x7c : Nat) (x27a : Option Addr) (x27n : Nat) (x27c : Nat) (x28 : Int) (x29 : Int) (m : Mem), d' < d → I d' x0 x2a x2n x2c x7a x7n x7c x27a x27n x27c x28 x29 m → Ok (nx x0 x2a x2n x2c x7a x7n x7c x27a x27n x27c x28 x29 m) P) → Ok (field_Field_Times_l0_b k nx kx2 x0 x2a x2n x2c x7a x7n x7c x27a x27n x27c x28 x29 m) P) :
    ∀ n d (x0 : Option Addr) (x2a : Option Addr) (x2n : Nat) (x2c : Nat) (x7a : Option Addr) (x7n : Nat) (x7c : Nat) (x27a : Option Addr) (x27n : Nat) (x27c : Nat) (x28 : Int) (x29 : Int) (m : Mem), d < n → I d x0 x2a x2n x2c x7a x7n x7c x27a x27n x27c x28 x29 m → Ok (field_Field_Times_l0 k kx2 n x0 x2a x2n x2c x7a x7n x7c x27a x27n x27c x28 x29 m) P
  | 0, d, x0, x2a, x2n, x2c, x7a, x7n, x7c, x27a, x27n, x27c, x28, x29, m, h, _ => absurd h (Nat.not_lt_zero _)
  | n + 1, d, x0, x2a, x2n, x2c, x7a, x7n, x7c, x27a, x27n, x27c, x28, x29, m, h, hI => step d _ x0 x2a x2n x2c x7a x7n x7c x27a x27n x27c x28 x29 m hI fun d' x0 x2a x2n x2c x7a x7n x7c x27a x27n x27c x28 x29 m h' hI' => field_Field_Times_l0_rule k kx2 I step n d' x0 x2a x2n x2c x7a x7n x7c x27a x27n x27c x28 x29 m (by omega) hI'

def field_Field_Times (k : Nat) (p0 : Option Addr) (p1a : Option Addr) (p1n : Nat) (p1c : Nat) (p2a : Option Addr) (p2n : Nat) (p2c : Nat) (m : Mem) : Option (Sl × Mem) :=
  bif ((p1n : Nat) : Int) == 0 then (
  some ((⟨none, 0, 0⟩ : Sl), m)) else (
  bif ((p2n : Nat) : Int) == 0 then (
  some ((⟨none, 0, 0⟩ : Sl), m)) else (
  bif decide (0 ≤ IntKind.wrap .i64 ((IntKind.wrap .i64 (((p1n : Nat) : Int) + ((p2n : Nat) : Int))) - 1)) && decide (IntKind.wrap .i64 ((IntKind.wrap .i64 (((p1n : Nat) : Int) + ((p2n : Nat) : Int))) - 1) ≤ IntKind.wrap .i64 ((IntKind.wrap .i64 (((p1n : Nat) : Int) + ((p2n : Nat) : Int))) - 1)) && decide ((IntKind.wrap .i64 ((IntKind.wrap .i64 (((p1n : Nat) : Int) + ((p2n : Nat) : Int))) - 1)) * (((tt 5).bytes : Nat) : Int) ≤ ((most : Nat) : Int)) && decide (IntKind.wrap .i64 ((IntKind.wrap .i64 (((p1n : Nat) : Int) + ((p2n : Nat) : Int))) - 1) ≤ ((most : Nat) : Int)) then (
  let m1 : Mem := m ++ [.live (repl (Int.toNat (IntKind.wrap .i64 ((IntKind.wrap .i64 (((p1n : Nat) : Int) + ((p2n : Nat) : Int))) - 1))) [.int .u8 0])]
  field_Field_Times_l0 k (fun y7a y7n y7c m13 => 
  some ((⟨y7a, y7n, y7c⟩ : Sl), m13)) k p0 p2a p2n p2c (some ⟨List.length m, 0, Option.none⟩) (Int.toNat (IntKind.wrap .i64 ((IntKind.wrap .i64 (((p1n : Nat) : Int) + ((p2n : Nat) : Int))) - 1))) (Int.toNat (IntKind.wrap .i64 ((IntKind.wrap .i64 (((p1n : Nat) : Int) + ((p2n : Nat) : Int))) - 1))) p1a p1n p1c ((p1n : Nat) : Int) 0 m1) else none))

def field_Field_Times_call {R : Type} (k : Nat) : Fun R := callCons 57 (field_Field_Mul_arm k) (callNil)

theorem field_Field_Times_callOk {R : Type} (k : Nat) : CallOk Try.prog (field_Field_Times_call (R := R) k) := callOk_cons (field_Field_Mul_armOk k) (callOk_nil)

def field_Field_Times_l0_L (k : Nat) (K : Nat → List Value → Mem → Option (Sl × Mem)) (n : Nat) (vs : List Value) (m : Mem) : Option (Sl × Mem) := match vs with
  | [.pointer x0, .slice x2a x2n x2c, .slice x7a x7n x7c, .slice x27a x27n x27c, .int .i64 x28, .int .i64 x29] => field_Field_Times_l0 k (fun y7a y7n y7c m => K 2 [(Value.slice y7a y7n y7c)] m) n x0 x2a x2n x2c x7a x7n x7c x27a x27n x27c x28 x29 m
  | _ => none

def field_Field_Times_l2_L (k : Nat) (K : Nat → List Value → Mem → Option (Sl × Mem)) (n : Nat) (vs : List Value) (m : Mem) : Option (Sl × Mem) := match vs with
  | [.pointer x0, .slice x2a x2n x2c, .slice x7a x7n x7c, .int .i64 x8, .int .u8 x9, .slice x27a x27n x27c, .int .i64 x28, .int .i64 x29, .slice x34a x34n x34c, .int .i64 x35, .int .i64 x36] => field_Field_Times_l2 k (fun y0 y2a y2n y2c y7a y7n y7c y27a y27n y27c y28 y29 m => K 4 [(Value.pointer y0), (Value.slice y2a y2n y2c), (Value.slice y7a y7n y7c), (Value.slice y27a y27n y27c), (Value.int .i64 y28), (Value.int .i64 y29)] m) n x0 x2a x2n x2c x7a x7n x7c x8 x9 x27a x27n x27c x28 x29 x34a x34n x34c x35 x36 m
  | _ => none

def field_Field_Times_loop (k : Nat) : Nat → List Value → Mem → (Nat → List Value → Mem → Option (Sl × Mem)) → Option (Sl × Mem) := fun cur vs m K => match cur with
  | 0 => field_Field_Times_l0_L k K k vs m
  | 2 => field_Field_Times_l2_L k K k vs m
  | _ => none

def field_Field_Times_C (k : Nat) : Ctx (Sl × Mem) := ⟨tt, field_Field_Times_call k, field_Field_Times_loop k, [(0, [0, 2, 7, 27, 28, 29]), (2, [0, 2, 7, 8, 9, 27, 28, 29, 34, 35, 36])], [(2, [7]), (4, [0, 2, 7, 27, 28, 29])]⟩

noncomputable def field_Field_Times_l0_c : Code := ((loopsOf 0 (body Try.f64)).map (·.2)).getD 0 .skip

noncomputable def field_Field_Times_l2_c : Code := ((loopsOf 0 (body Try.f64)).map (·.2)).getD 1 .skip

theorem field_Field_Times_loops : loopsOf 0 (body Try.f64) = [(0, field_Field_Times_l0_c), (2, field_Field_Times_l2_c)] := by kernel_rfl

theorem field_Field_Times_l0_ok (k : Nat) : LoopOk (field_Field_Times_C k) 0 field_Field_Times_l0_c := by
  refine ⟨[0, 2, 7, 27, 28, 29], by kernel_rfl, fun K r => ⟨field_Field_Times_l0_L k K, fun vs m h => ⟨k, h⟩, ?_⟩⟩
  intro n vs m h
  unfold field_Field_Times_l0_L at h
  split at h
  · cases n with
    | zero => cases h
    | succ n => exact ⟨n, rfl, Eq.trans (by kernel_rfl) h⟩
  · cases h

theorem field_Field_Times_l2_ok (k : Nat) : LoopOk (field_Field_Times_C k) 2 field_Field_Times_l2_c := by
  refine ⟨[0, 2, 7, 8, 9, 27, 28, 29, 34, 35, 36], by kernel_rfl, fun K r => ⟨field_Field_Times_l2_L k K, fun vs m h => ⟨k, h⟩, ?_⟩⟩
  intro n vs m h
  unfold field_Field_Times_l2_L at h
  split at h
  · cases n with
    | zero => cases h
    | succ n => exact ⟨n, rfl, Eq.trans (by kernel_rfl) h⟩
  · cases h

def field_Field_Times_dec : Value → Mem → Option (Sl × Mem) := fun v m => match v with
  | .slice q0a q0n q0c => some ((⟨q0a, q0n, q0c⟩ : Sl), m)
  | _ => none

theorem field_Field_Times_eq (k : Nat) (p0 : Option Addr) (p1a : Option Addr) (p1n : Nat) (p1c : Nat) (p2a : Option Addr) (p2n : Nat) (p2c : Nat) (m : Mem) : fnX (field_Field_Times_C k) Try.f64 [(Value.pointer p0), (Value.slice p1a p1n p1c), (Value.slice p2a p2n p2c)] m field_Field_Times_dec = field_Field_Times k p0 p1a p1n p1c p2a p2n p2c m := by kernel_rfl

theorem field_Field_Times_ok {k : Nat} {p0 : Option Addr} {p1a : Option Addr} {p1n : Nat} {p1c : Nat} {p2a : Option Addr} {p2n : Nat} {p2c : Nat} {m : Mem} {r : (Sl × Mem)} (h : field_Field_Times k p0 p1a p1n p1c p2a p2n p2c m = some r) : CallP Try.prog 64 [(Value.pointer p0), (Value.slice p1a p1n p1c), (Value.slice p2a p2n p2c)] m fun v m' => v = (Value.slice r.1.a r.1.len r.1.cap) ∧ m' = r.2 := by
  refine (fn_sound (C := field_Field_Times_C k) (c := body Try.f64) tOk mixed (field_Field_Times_callOk k) Try.func64 (by kernel_rfl) (by kernel_rfl) (by kernel_rfl) (by kernel_rfl) ?_ ?_ (Eq.trans (field_Field_Times_eq k p0 p1a p1n p1c p2a p2n p2c m) h)).mono ?_
  · intro p hp
    rw [field_Field_Times_loops] at hp
    simp only [List.mem_cons, List.not_mem_nil, or_false] at hp
    rcases hp with rfl | rfl
    · exact field_Field_Times_l0_ok k
    · exact field_Field_Times_l2_ok k
  · intro p hp; rw [show rangesOf 0 (body Try.f64) = [] by kernel_rfl] at hp; cases hp
  · intro v m' hp
    unfold field_Field_Times_dec at hp
    split at hp
    · simp only [Option.some.injEq] at hp; subst hp; exact ⟨rfl, rfl⟩
    · cases hp

def field_Field_Times_arm {R : Type} (k : Nat) : Arm R := fun vs m K => match vs with
  | [.pointer p0, .slice p1a p1n p1c, .slice p2a p2n p2c] => (field_Field_Times k p0 p1a p1n p1c p2a p2n p2c m).bind fun r => K (Value.slice r.1.a r.1.len r.1.cap) r.2
  | _ => none

theorem field_Field_Times_armOk {R : Type} (k : Nat) : ArmOk Try.prog 64 (field_Field_Times_arm (R := R) k) := by
  intro vs m K r h
  unfold field_Field_Times_arm at h
  split at h
  · obtain ⟨r, h1, h2⟩ := Option.bind_eq_some_iff.1 h; exact ⟨_, _, h2, fun K' => by simp only [field_Field_Times_arm, h1, Option.bind_some], field_Field_Times_ok h1⟩
  · cases h

end Go.Proofs.Ytchonnaoojpdoaa
