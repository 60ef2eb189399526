/- The program's functions as plain Lean functions over a clean memory, each held against the program by the kernel. Written by mx.py. -/
import Derived.Test.YtmfmoanjecjeeaaF0
import Derived.Test.YtmfmoanjecjeeaaFframe
import Derived.Test.YtmfmoanjecjeeaaFpatinaref01
set_option linter.unusedVariables false
set_option maxRecDepth 100000
namespace Go.Proofs.Ytmfmoanjecjeeaa
open Go.Mx

/-! ### patinalaw06_shown -/
def patinalaw06_shown (k : Nat) (m : Mem) : Option (Bool × Mem) :=
  (frame_New k  m).bind fun r1 =>
  bif Option.isNone r1.1 then (
  some (false, r1.2)) else (
  let m2 : Mem := r1.2 ++ [.live (repl (Int.toNat 174) [.int .u8 0])]
  let m3 : Mem := m2 ++ [.live (repl (Int.toNat 50) [.int .u8 0])]
  (frame_Frame_Lay k r1.1 (some ⟨List.length r1.2, 0, Option.none⟩) (Int.toNat 174) (Int.toNat 174) (some ⟨List.length m2, 0, Option.none⟩) (Int.toNat 50) (Int.toNat 50) m3).bind fun r4 =>
  let m5 : Mem := r4.2.2 ++ [.live (repl (Int.toNat 173) [.int .u8 0])]
  let m6 : Mem := m5 ++ [.live (repl (Int.toNat 50) [.int .u8 0])]
  (frame_Frame_Lay k r1.1 (some ⟨List.length r4.2.2, 0, Option.none⟩) (Int.toNat 173) (Int.toNat 173) (some ⟨List.length m5, 0, Option.none⟩) (Int.toNat 50) (Int.toNat 50) m6).bind fun r7 =>
  (isNil r4.2.1).bind fun b8 =>
  bif !b8 then (
  some (false, r7.2.2)) else (
  bif ((r4.1.len : Nat) : Int) != 4 then (
  some (false, r7.2.2)) else (
  let m9 : Mem := r7.2.2 ++ [.live (repl (Int.toNat 256) [.int .u8 0])]
  bif inRange 70 (Int.toNat 256) then (
  ((some ⟨List.length r7.2.2, 0, Option.none⟩)).bind fun a10 =>
  (st m9 (plus a10 (Int.toNat 70 * 1)) (Value.int .u8 1)).bind fun m11 =>
  (frame_Frame_Data k r1.1 (some ⟨List.length r7.2.2, 0, Option.none⟩) (Int.toNat 256) (Int.toNat 256) m11).bind fun r12 =>
  (frame_Frame_Body k r1.1 (some ⟨List.length r7.2.2, 0, Option.none⟩) (Int.toNat 256) (Int.toNat 256) r12.2.2.2).bind fun r13 =>
  let m14 : Mem := r13.2.2.2 ++ [.live (repl (Int.toNat 174) [.int .u8 0])]
  (patinaref01_Same k r12.1.a r12.1.len r12.1.cap (some ⟨List.length r13.2.2.2, 0, Option.none⟩) (Int.toNat 174) (Int.toNat 174) m14).bind fun r15 =>
  bif r15.1 then (
  bif r12.2.1 == 1 then (
  (isNil r12.2.2.1).bind fun b16 =>
  bif b16 then (
  (ifEq tt r7.2.1 (Value.iface ty_api_Code (Value.int .i64 1))).bind fun b17 =>
  bif b17 then (
  (ifEq tt r13.2.2.1 (Value.iface ty_api_Code (Value.int .i64 6))).bind fun b18 =>
  some (b18, r15.2)) else (
  some (false, r15.2))) else (
  some (false, r15.2))) else (
  some (false, r15.2))) else (
  some (false, r15.2))) else none)))

def patinalaw06_shown_call {R : Type} (k : Nat) : Fun R := callCons 8 (frame_New_arm k) (callCons 10 (frame_Frame_Lay_arm k) (callCons 15 (patinaref01_Same_arm k) (callCons 18 (frame_Frame_Data_arm k) (callCons 19 (frame_Frame_Body_arm k) (callNil)))))

theorem patinalaw06_shown_callOk {R : Type} (k : Nat) : CallOk Try.prog (patinalaw06_shown_call (R := R) k) := callOk_cons (frame_New_armOk k) (callOk_cons (frame_Frame_Lay_armOk k) (callOk_cons (patinaref01_Same_armOk k) (callOk_cons (frame_Frame_Data_armOk k) (callOk_cons (frame_Frame_Body_armOk k) (callOk_nil)))))

def patinalaw06_shown_loop (k : Nat) : Nat → List Value → Mem → (Nat → List Value → Mem → Option (Bool × Mem)) → Option (Bool × Mem) := fun _ _ _ _ => none

def patinalaw06_shown_C (k : Nat) : Ctx (Bool × Mem) := ⟨tt, patinalaw06_shown_call k, patinalaw06_shown_loop k, [], []⟩

def patinalaw06_shown_dec : Value → Mem → Option (Bool × Mem) := fun v m => match v with
  | .bool q0 => some (q0, m)
  | _ => none

theorem patinalaw06_shown_eq (k : Nat) (m : Mem) : fnX (patinalaw06_shown_C k) Try.f7 [] m patinalaw06_shown_dec = patinalaw06_shown k  m := by kernel_rfl

theorem patinalaw06_shown_ok {k : Nat} {m : Mem} {r : (Bool × Mem)} (h : patinalaw06_shown k  m = some r) : CallP Try.prog 7 [] m fun v m' => v = (Value.bool r.1) ∧ m' = r.2 := by
  refine (fn_sound (C := patinalaw06_shown_C k) (c := body Try.f7) tOk mixed (patinalaw06_shown_callOk k) Try.func7 (by kernel_rfl) (by kernel_rfl) (by kernel_rfl) (by kernel_rfl) ?_ ?_ (Eq.trans (patinalaw06_shown_eq k  m) h)).mono ?_
  · intro p hp; rw [show loopsOf 0 (body Try.f7) = [] by kernel_rfl] at hp; cases hp
  · intro p hp; rw [show rangesOf 0 (body Try.f7) = [] by kernel_rfl] at hp; cases hp
  · intro v m' hp
    unfold patinalaw06_shown_dec at hp
    split at hp
    · simp only [Option.some.injEq] at hp; subst hp; exact ⟨rfl, rfl⟩
    · cases hp

def patinalaw06_shown_arm {R : Type} (k : Nat) : Arm R := fun vs m K => match vs with
  | [] => (patinalaw06_shown k  m).bind fun r => K (Value.bool r.1) r.2
  | _ => none

theorem patinalaw06_shown_armOk {R : Type} (k : Nat) : ArmOk Try.prog 7 (patinalaw06_shown_arm (R := R) k) := by
  intro vs m K r h
  unfold patinalaw06_shown_arm at h
  split at h
  · obtain ⟨r, h1, h2⟩ := Option.bind_eq_some_iff.1 h; exact ⟨_, _, h2, fun K' => by simp only [patinalaw06_shown_arm, h1, Option.bind_some], patinalaw06_shown_ok h1⟩
  · cases h

/-! ### patinalaw06_fill -/
def patinalaw06_fill_l0_b (k : Nat) (nx : Option Addr → Nat → Nat → Int → Option Addr → Nat → Nat → Int → Mem → Option (Sl × Mem)) (kx2 : Option Addr → Nat → Nat → Mem → Option (Sl × Mem)) (x0a : Option Addr) (x0n : Nat) (x0c : Nat) (x1 : Int) (x5a : Option Addr) (x5n : Nat) (x5c : Nat) (x6 : Int) (m : Mem) : Option (Sl × Mem) :=
  bif decide (x6 < x1) then (
  bif decide (x6 < ((x0n : Nat) : Int)) then (
  bif inRange x6 x0n then (
  (x0a).bind fun a2 =>
  (ldInt .u8 m (plus a2 (Int.toNat x6 * 1))).bind fun t3 =>
  bif inRange x6 x5n then (
  (x5a).bind fun a4 =>
  (st m (plus a4 (Int.toNat x6 * 1)) (Value.int .u8 t3)).bind fun m5 =>
  nx x0a x0n x0c x1 x5a x5n x5c (IntKind.wrap .i64 (x6 + 1)) m5) else none) else none) else (
  kx2 x5a x5n x5c m)) else (
  kx2 x5a x5n x5c m)

def patinalaw06_fill_l0 (k : Nat) (kx2 : Option Addr → Nat → Nat → Mem → Option (Sl × Mem)) : Nat → Option Addr → Nat → Nat → Int → Option Addr → Nat → Nat → Int → Mem → Option (Sl × Mem)
  | 0, _, _, _, _, _, _, _, _, _ => none
  | n + 1, x0a, x0n, x0c, x1, x5a, x5n, x5c, x6, m => patinalaw06_fill_l0_b k (fun x0a x0n x0c x1 x5a x5n x5c x6 m => patinalaw06_fill_l0 k kx2 n x0a x0n x0c x1 x5a x5n x5c x6 m) kx2 x0a x0n x0c x1 x5a x5n x5c x6 m
termination_by structural x => x

theorem patinalaw06_fill_l0_rule (k : Nat) (kx2 : Option Addr → Nat → Nat → Mem → Option (Sl × Mem)) {P : (Sl × Mem) → Prop} (I : Nat → Option Addr → Nat → Nat → Int → Option Addr → Nat → Nat → Int → Mem → Prop)
    (step : ∀ d (nx : Option Addr → Nat → Nat → Int → Option Addr → Nat → Nat → Int → Mem → Option (Sl × Mem)) (x0a : Option Addr) (x0n : Nat) (x0c : Nat) (x1 : Int) (x5a : Option Addr) (x5n : Nat) (x5c : Nat) (x6 : Int) (m : Mem), I d x0a x0n x0c x1 x5a x5n x5c x6 m → (∀ d' (x0a : Option Addr) (x0n : Nat) (x0c : Nat) (x1 : Int) (x5a : Option Addr) (x5n : Nat) (x5c : Nat) (x6 : Int) (m : Mem), d' < d → I d' x0a x0n x0c x1 x5a x5n x5c x6 m → Ok (nx x0a x0n x0c x1 x5a x5n x5c x6 m) P) → Ok (patinalaw06_fill_l0_b k nx kx2 x0a x0n x0c x1 x5a x5n x5c x6 m) P) :
    ∀ n d (x0a : Option Addr) (x0n : Nat) (x0c : Nat) (x1 : Int) (x5a : Option Addr) (x5n : Nat) (x5c : Nat) (x6 : Int) (m : Mem), d < n → I d x0a x0n x0c x1 x5a x5n x5c x6 m → Ok (patinalaw06_fill_l0 k kx2 n x0a x0n x0c x1 x5a x5n x5c x6 m) P
  | 0, d, x0a, x0n, x0c, x1, x5a, x5n, x5c, x6, m, h, _ => absurd h (Nat.not_lt_zero _)
  | n + 1, d, x0a, x0n, x0c, x1, x5a, x5n, x5c, x6, m, h, hI => step d _ x0a x0n x0c x1 x5a x5n x5c x6 m hI fun d' x0a x0n x0c x1 x5a x5n x5c x6 m h' hI' => patinalaw06_fill_l0_rule k kx2 I step n d' x0a x0n x0c x1 x5a x5n x5c x6 m (by omega) hI'

def patinalaw06_fill (k : Nat) (p0a : Option Addr) (p0n : Nat) (p0c : Nat) (p1 : Int) (m : Mem) : Option (Sl × Mem) :=
  bif decide (0 ≤ p1) && decide (p1 ≤ p1) && decide (p1 * (((tt 5).bytes : Nat) : Int) ≤ ((most : Nat) : Int)) && decide (p1 ≤ ((most : Nat) : Int)) then (
  let m1 : Mem := m ++ [.live (repl (Int.toNat p1) [.int .u8 0])]
  patinalaw06_fill_l0 k (fun y5a y5n y5c m6 => 
  some ((⟨y5a, y5n, y5c⟩ : Sl), m6)) k p0a p0n p0c p1 (some ⟨List.length m, 0, Option.none⟩) (Int.toNat p1) (Int.toNat p1) 0 m1) else none

def patinalaw06_fill_call {R : Type} (k : Nat) : Fun R := callNil

theorem patinalaw06_fill_callOk {R : Type} (k : Nat) : CallOk Try.prog (patinalaw06_fill_call (R := R) k) := callOk_nil

def patinalaw06_fill_l0_L (k : Nat) (K : Nat → List Value → Mem → Option (Sl × Mem)) (n : Nat) (vs : List Value) (m : Mem) : Option (Sl × Mem) := match vs with
  | [.slice x0a x0n x0c, .int .i64 x1, .slice x5a x5n x5c, .int .i64 x6] => patinalaw06_fill_l0 k (fun y5a y5n y5c m => K 2 [(Value.slice y5a y5n y5c)] m) n x0a x0n x0c x1 x5a x5n x5c x6 m
  | _ => none

def patinalaw06_fill_loop (k : Nat) : Nat → List Value → Mem → (Nat → List Value → Mem → Option (Sl × Mem)) → Option (Sl × Mem) := fun cur vs m K => match cur with
  | 0 => patinalaw06_fill_l0_L k K k vs m
  | _ => none

def patinalaw06_fill_C (k : Nat) : Ctx (Sl × Mem) := ⟨tt, patinalaw06_fill_call k, patinalaw06_fill_loop k, [(0, [0, 1, 5, 6])], [(2, [5])]⟩

noncomputable def patinalaw06_fill_l0_c : Code := ((loopsOf 0 (body Try.f24)).map (·.2)).getD 0 .skip

theorem patinalaw06_fill_loops : loopsOf 0 (body Try.f24) = [(0, patinalaw06_fill_l0_c)] := by kernel_rfl

theorem patinalaw06_fill_l0_ok (k : Nat) : LoopOk (patinalaw06_fill_C k) 0 patinalaw06_fill_l0_c := by
  refine ⟨[0, 1, 5, 6], by kernel_rfl, fun K r => ⟨patinalaw06_fill_l0_L k K, fun vs m h => ⟨k, h⟩, ?_⟩⟩
  intro n vs m h
  unfold patinalaw06_fill_l0_L at h
  split at h
  · cases n with
    | zero => cases h
    | succ n => exact ⟨n, rfl, Eq.trans (by kernel_rfl) h⟩
  · cases h

def patinalaw06_fill_dec : Value → Mem → Option (Sl × Mem) := fun v m => match v with
  | .slice q0a q0n q0c => some ((⟨q0a, q0n, q0c⟩ : Sl), m)
  | _ => none

theorem patinalaw06_fill_eq (k : Nat) (p0a : Option Addr) (p0n : Nat) (p0c : Nat) (p1 : Int) (m : Mem) : fnX (patinalaw06_fill_C k) Try.f24 [(Value.slice p0a p0n p0c), (Value.int .i64 p1)] m patinalaw06_fill_dec = patinalaw06_fill k p0a p0n p0c p1 m := by kernel_rfl

theorem patinalaw06_fill_ok {k : Nat} {p0a : Option Addr} {p0n : Nat} {p0c : Nat} {p1 : Int} {m : Mem} {r : (Sl × Mem)} (h : patinalaw06_fill k p0a p0n p0c p1 m = some r) : CallP Try.prog 24 [(Value.slice p0a p0n p0c), (Value.int .i64 p1)] m fun v m' => v = (Value.slice r.1.a r.1.len r.1.cap) ∧ m' = r.2 := by
  refine (fn_sound (C := patinalaw06_fill_C k) (c := body Try.f24) tOk mixed (patinalaw06_fill_callOk k) Try.func24 (by kernel_rfl) (by kernel_rfl) (by kernel_rfl) (by kernel_rfl) ?_ ?_ (Eq.trans (patinalaw06_fill_eq k p0a p0n p0c p1 m) h)).mono ?_
  · intro p hp
    rw [patinalaw06_fill_loops] at hp
    simp only [List.mem_cons, List.not_mem_nil, or_false] at hp
    rcases hp with rfl
    · exact patinalaw06_fill_l0_ok k
  · intro p hp; rw [show rangesOf 0 (body Try.f24) = [] by kernel_rfl] at hp; cases hp
  · intro v m' hp
    unfold patinalaw06_fill_dec at hp
    split at hp
    · simp only [Option.some.injEq] at hp; subst hp; exact ⟨rfl, rfl⟩
    · cases hp

def patinalaw06_fill_arm {R : Type} (k : Nat) : Arm R := fun vs m K => match vs with
  | [.slice p0a p0n p0c, .int .i64 p1] => (patinalaw06_fill k p0a p0n p0c p1 m).bind fun r => K (Value.slice r.1.a r.1.len r.1.cap) r.2
  | _ => none

theorem patinalaw06_fill_armOk {R : Type} (k : Nat) : ArmOk Try.prog 24 (patinalaw06_fill_arm (R := R) k) := by
  intro vs m K r h
  unfold patinalaw06_fill_arm at h
  split at h
  · obtain ⟨r, h1, h2⟩ := Option.bind_eq_some_iff.1 h; exact ⟨_, _, h2, fun K' => by simp only [patinalaw06_fill_arm, h1, Option.bind_some], patinalaw06_fill_ok h1⟩
  · cases h

/-! ### patinalaw06_pick -/
def patinalaw06_pick_j1 (k : Nat) (p1 : Int) (x0_ : Int) (mj : Mem) : Option (Int × Mem) :=
  bif isZero p1 then none else (
  some (Int.tmod x0_ p1, mj))

def patinalaw06_pick (k : Nat) (p0 : Int) (p1 : Int) (m : Mem) : Option (Int × Mem) :=
  bif decide (p0 < 0) then (
  patinalaw06_pick_j1 k p1 (IntKind.wrap .i64 (0 - (IntKind.wrap .i64 (p0 + 1)))) m) else (
  patinalaw06_pick_j1 k p1 p0 m)

def patinalaw06_pick_call {R : Type} (k : Nat) : Fun R := callNil

theorem patinalaw06_pick_callOk {R : Type} (k : Nat) : CallOk Try.prog (patinalaw06_pick_call (R := R) k) := callOk_nil

def patinalaw06_pick_loop (k : Nat) : Nat → List Value → Mem → (Nat → List Value → Mem → Option (Int × Mem)) → Option (Int × Mem) := fun _ _ _ _ => none

def patinalaw06_pick_C (k : Nat) : Ctx (Int × Mem) := ⟨tt, patinalaw06_pick_call k, patinalaw06_pick_loop k, [], []⟩

def patinalaw06_pick_dec : Value → Mem → Option (Int × Mem) := fun v m => match v with
  | .int .i64 q0 => some (q0, m)
  | _ => none

theorem patinalaw06_pick_eq (k : Nat) (p0 : Int) (p1 : Int) (m : Mem) : fnX (patinalaw06_pick_C k) Try.f25 [(Value.int .i64 p0), (Value.int .i64 p1)] m patinalaw06_pick_dec = patinalaw06_pick k p0 p1 m := by kernel_rfl

theorem patinalaw06_pick_ok {k : Nat} {p0 : Int} {p1 : Int} {m : Mem} {r : (Int × Mem)} (h : patinalaw06_pick k p0 p1 m = some r) : CallP Try.prog 25 [(Value.int .i64 p0), (Value.int .i64 p1)] m fun v m' => v = (Value.int .i64 r.1) ∧ m' = r.2 := by
  refine (fn_sound (C := patinalaw06_pick_C k) (c := body Try.f25) tOk mixed (patinalaw06_pick_callOk k) Try.func25 (by kernel_rfl) (by kernel_rfl) (by kernel_rfl) (by kernel_rfl) ?_ ?_ (Eq.trans (patinalaw06_pick_eq k p0 p1 m) h)).mono ?_
  · intro p hp; rw [show loopsOf 0 (body Try.f25) = [] by kernel_rfl] at hp; cases hp
  · intro p hp; rw [show rangesOf 0 (body Try.f25) = [] by kernel_rfl] at hp; cases hp
  · intro v m' hp
    unfold patinalaw06_pick_dec at hp
    split at hp
    · simp only [Option.some.injEq] at hp; subst hp; exact ⟨rfl, rfl⟩
    · cases hp

def patinalaw06_pick_arm {R : Type} (k : Nat) : Arm R := fun vs m K => match vs with
  | [.int .i64 p0, .int .i64 p1] => (patinalaw06_pick k p0 p1 m).bind fun r => K (Value.int .i64 r.1) r.2
  | _ => none

theorem patinalaw06_pick_armOk {R : Type} (k : Nat) : ArmOk Try.prog 25 (patinalaw06_pick_arm (R := R) k) := by
  intro vs m K r h
  unfold patinalaw06_pick_arm at h
  split at h
  · obtain ⟨r, h1, h2⟩ := Option.bind_eq_some_iff.1 h; exact ⟨_, _, h2, fun K' => by simp only [patinalaw06_pick_arm, h1, Option.bind_some], patinalaw06_pick_ok h1⟩
  · cases h

end Go.Proofs.Ytmfmoanjecjeeaa
