/- The program's functions as plain Lean functions over a clean memory, each held against the program by the kernel. Written by mx.py. -/
import Derived.Test.YtmfmoanjecjeeaaF0
import Derived.Test.YtmfmoanjecjeeaaFframe
import Derived.Test.YtmfmoanjecjeeaaFpatinalaw06
set_option linter.unusedVariables false
set_option maxRecDepth 100000
namespace Go.Proofs.Ytmfmoanjecjeeaa
open Go.Mx

/-! ### patinalaw06_FrameBlank -/
def patinalaw06_FrameBlank_l0_b (k : Nat) (nx : Option Addr → Nat → Nat → Bool → Option Addr → Option Addr → Nat → Nat → Int → Mem → Option (Bool × Mem)) (kx2 : Option Addr → Nat → Nat → Bool → Option Addr → Option Addr → Nat → Nat → Mem → Option (Bool × Mem)) (x1a : Option Addr) (x1n : Nat) (x1c : Nat) (x5 : Bool) (x6 : Option Addr) (x7a : Option Addr) (x7n : Nat) (x7c : Nat) (x8 : Int) (m : Mem) : Option (Bool × Mem) :=
  bif decide (x8 < 256) then (
  bif inRange x8 x7n then (
  (x7a).bind fun a4 =>
  (st m (plus a4 (Int.toNat x8 * 1)) (Value.int .u8 255)).bind fun m5 =>
  nx x1a x1n x1c x5 x6 x7a x7n x7c (IntKind.wrap .i64 (x8 + 1)) m5) else none) else (
  kx2 x1a x1n x1c x5 x6 x7a x7n x7c m)

def patinalaw06_FrameBlank_l0 (k : Nat) (kx2 : Option Addr → Nat → Nat → Bool → Option Addr → Option Addr → Nat → Nat → Mem → Option (Bool × Mem)) : Nat → Option Addr → Nat → Nat → Bool → Option Addr → Option Addr → Nat → Nat → Int → Mem → Option (Bool × Mem)
  | 0, _, _, _, _, _, _, _, _, _, _ => none
  | n + 1, x1a, x1n, x1c, x5, x6, x7a, x7n, x7c, x8, m => patinalaw06_FrameBlank_l0_b k (fun x1a x1n x1c x5 x6 x7a x7n x7c x8 m => patinalaw06_FrameBlank_l0 k kx2 n x1a x1n x1c x5 x6 x7a x7n x7c x8 m) kx2 x1a x1n x1c x5 x6 x7a x7n x7c x8 m
termination_by structural x => x

theorem patinalaw06_FrameBlank_l0_rule (k : Nat) (kx2 : Option Addr → Nat → Nat → Bool → Option Addr → Option Addr → Nat → Nat → Mem → Option (Bool × Mem)) {P : (Bool × Mem) → Prop} (I : Nat → Option Addr → Nat → Nat → Bool → Option Addr → Option Addr → Nat → Nat → Int → Mem → Prop)
    (step : ∀ d (nx : Option Addr → Nat → Nat → Bool → Option Addr → Option Addr → Nat → Nat → Int → Mem → Option (Bool × Mem)) (x1a : Option Addr) (x1n : Nat) (x1c : Nat) (x5 : Bool) (x6 : Option Addr) (x7a : Option Addr) (x7n : Nat) (x7c : Nat) (x8 : Int) (m : Mem), I d x1a x1n x1c x5 x6 x7a x7n x7c x8 m → (∀ d' (x1a : Option Addr) (x1n : Nat) (x1c : Nat) (x5 : Bool) (x6 : Option Addr) (x7a : Option Addr) (x7n : Nat) (x7c : Nat) (x8 : Int) (m : Mem), d' < d → I d' x1a x1n x1c x5 x6 x7a x7n x7c x8 m → Ok (nx x1a x1n x1c x5 x6 x7a x7n x7c x8 m) P) → Ok (patinalaw06_FrameBlank_l0_b k nx kx2 x1a x1n x1c x5 x6 x7a x7n x7c x8 m) P) :
    ∀ n d (x1a : Option Addr) (x1n : Nat) (x1c : Nat) (x5 : Bool) (x6 : Option Addr) (x7a : Option Addr) (x7n : Nat) (x7c : Nat) (x8 : Int) (m : Mem), d < n → I d x1a x1n x1c x5 x6 x7a x7n x7c x8 m → Ok (patinalaw06_FrameBlank_l0 k kx2 n x1a x1n x1c x5 x6 x7a x7n x7c x8 m) P
  | 0, d, x1a, x1n, x1c, x5, x6, x7a, x7n, x7c, x8, m, h, _ => absurd h (Nat.not_lt_zero _)
  | n + 1, d, x1a, x1n, x1c, x5, x6, x7a, x7n, x7c, x8, m, h, hI => step d _ x1a x1n x1c x5 x6 x7a x7n x7c x8 m hI fun d' x1a x1n x1c x5 x6 x7a x7n x7c x8 m h' hI' => patinalaw06_FrameBlank_l0_rule k kx2 I step n d' x1a x1n x1c x5 x6 x7a x7n x7c x8 m (by omega) hI'

def patinalaw06_FrameBlank_l2_b (k : Nat) (nx : Option Addr → Nat → Nat → Bool → Option Addr → Option Addr → Nat → Nat → Int → Mem → Option (Bool × Mem)) (kx4 : Bool → Option Addr → Option Addr → Nat → Nat → Mem → Option (Bool × Mem)) (x1a : Option Addr) (x1n : Nat) (x1c : Nat) (x5 : Bool) (x6 : Option Addr) (x7a : Option Addr) (x7n : Nat) (x7c : Nat) (x9 : Int) (m : Mem) : Option (Bool × Mem) :=
  bif decide (x9 < ((x1n : Nat) : Int)) then (
  bif decide (x9 < 4) then (
  bif inRange x9 x1n then (
  (x1a).bind fun a7 =>
  (ldInt .i64 m (plus (plus a7 (Int.toNat x9 * 2)) 0)).bind fun t8 =>
  (patinalaw06_pick k t8 64 m).bind fun r9 =>
  bif inRange x9 x1n then (
  (x1a).bind fun a10 =>
  (ldInt .u8 r9.2 (plus (plus a10 (Int.toNat x9 * 2)) 1)).bind fun t11 =>
  bif inRange (IntKind.wrap .i64 (192 + r9.1)) x7n then (
  (x7a).bind fun a12 =>
  (st r9.2 (plus a12 (Int.toNat (IntKind.wrap .i64 (192 + r9.1)) * 1)) (Value.int .u8 t11)).bind fun m13 =>
  nx x1a x1n x1c x5 x6 x7a x7n x7c (IntKind.wrap .i64 (x9 + 1)) m13) else none) else none) else none) else (
  kx4 x5 x6 x7a x7n x7c m)) else (
  kx4 x5 x6 x7a x7n x7c m)

def patinalaw06_FrameBlank_l2 (k : Nat) (kx4 : Bool → Option Addr → Option Addr → Nat → Nat → Mem → Option (Bool × Mem)) : Nat → Option Addr → Nat → Nat → Bool → Option Addr → Option Addr → Nat → Nat → Int → Mem → Option (Bool × Mem)
  | 0, _, _, _, _, _, _, _, _, _, _ => none
  | n + 1, x1a, x1n, x1c, x5, x6, x7a, x7n, x7c, x9, m => patinalaw06_FrameBlank_l2_b k (fun x1a x1n x1c x5 x6 x7a x7n x7c x9 m => patinalaw06_FrameBlank_l2 k kx4 n x1a x1n x1c x5 x6 x7a x7n x7c x9 m) kx4 x1a x1n x1c x5 x6 x7a x7n x7c x9 m
termination_by structural x => x

theorem patinalaw06_FrameBlank_l2_rule (k : Nat) (kx4 : Bool → Option Addr → Option Addr → Nat → Nat → Mem → Option (Bool × Mem)) {P : (Bool × Mem) → Prop} (I : Nat → Option Addr → Nat → Nat → Bool → Option Addr → Option Addr → Nat → Nat → Int → Mem → Prop)
    (step : ∀ d (nx : Option Addr → Nat → Nat → Bool → Option Addr → Option Addr → Nat → Nat → Int → Mem → Option (Bool × Mem)) (x1a : Option Addr) (x1n : Nat) (x1c : Nat) (x5 : Bool) (x6 : Option Addr) (x7a : Option Addr) (x7n : Nat) (x7c : Nat) (x9 : Int) (m : Mem), I d x1a x1n x1c x5 x6 x7a x7n x7c x9 m → (∀ d' (x1a : Option Addr) (x1n : Nat) (x1c : Nat) (x5 : Bool) (x6 : Option Addr) (x7a : Option Addr) (x7n : Nat) (x7c : Nat) (x9 : Int) (m : Mem), d' < d → I d' x1a x1n x1c x5 x6 x7a x7n x7c x9 m → Ok (nx x1a x1n x1c x5 x6 x7a x7n x7c x9 m) P) → Ok (patinalaw06_FrameBlank_l2_b k nx kx4 x1a x1n x1c x5 x6 x7a x7n x7c x9 m) P) :
    ∀ n d (x1a : Option Addr) (x1n : Nat) (x1c : Nat) (x5 : Bool) (x6 : Option Addr) (x7a : Option Addr) (x7n : Nat) (x7c : Nat) (x9 : Int) (m : Mem), d < n → I d x1a x1n x1c x5 x6 x7a x7n x7c x9 m → Ok (patinalaw06_FrameBlank_l2 k kx4 n x1a x1n x1c x5 x6 x7a x7n x7c x9 m) P
  | 0, d, x1a, x1n, x1c, x5, x6, x7a, x7n, x7c, x9, m, h, _ => absurd h (Nat.not_lt_zero _)
  | n + 1, d, x1a, x1n, x1c, x5, x6, x7a, x7n, x7c, x9, m, h, hI => step d _ x1a x1n x1c x5 x6 x7a x7n x7c x9 m hI fun d' x1a x1n x1c x5 x6 x7a x7n x7c x9 m h' hI' => patinalaw06_FrameBlank_l2_rule k kx4 I step n d' x1a x1n x1c x5 x6 x7a x7n x7c x9 m (by omega) hI'

def patinalaw06_FrameBlank (k : Nat) (p0a : Option Addr) (p0n : Nat) (p0c : Nat) (p1a : Option Addr) (p1n : Nat) (p1c : Nat) (m : Mem) : Option (Bool × Mem) :=
  (patinalaw06_shown k  m).bind fun r1 =>
  (frame_New k  r1.2).bind fun r2 =>
  bif Option.isNone r2.1 then (
  some (false, r2.2)) else (
  (patinalaw06_fill k p0a p0n p0c 256 r2.2).bind fun r3 =>
  patinalaw06_FrameBlank_l0 k (fun y1a y1n y1c y5 y6 y7a y7n y7c m6 => 
  patinalaw06_FrameBlank_l2 k (fun y5 y6 y7a y7n y7c m14 => 
  (frame_Frame_Body k y6 y7a y7n y7c m14).bind fun r15 =>
  bif y5 then (
  bif ((r15.1.len : Nat) : Int) == 0 then (
  bif r15.2.1 == 0 then (
  (ifEq tt r15.2.2.1 (Value.iface ty_api_Code (Value.int .i64 5))).bind fun b16 =>
  bif b16 then (
  some (true, r15.2.2.2)) else (
  (ifEq tt r15.2.2.1 (Value.iface ty_api_Code (Value.int .i64 6))).bind fun b17 =>
  some (b17, r15.2.2.2))) else (
  some (false, r15.2.2.2))) else (
  some (false, r15.2.2.2))) else (
  some (false, r15.2.2.2))) k y1a y1n y1c y5 y6 y7a y7n y7c 0 m6) k p1a p1n p1c r1.1 r2.1 r3.1.a r3.1.len r3.1.cap 192 r3.2)

def patinalaw06_FrameBlank_call {R : Type} (k : Nat) : Fun R := callCons 7 (patinalaw06_shown_arm k) (callCons 8 (frame_New_arm k) (callCons 19 (frame_Frame_Body_arm k) (callCons 24 (patinalaw06_fill_arm k) (callCons 25 (patinalaw06_pick_arm k) (callNil)))))

theorem patinalaw06_FrameBlank_callOk {R : Type} (k : Nat) : CallOk Try.prog (patinalaw06_FrameBlank_call (R := R) k) := callOk_cons (patinalaw06_shown_armOk k) (callOk_cons (frame_New_armOk k) (callOk_cons (frame_Frame_Body_armOk k) (callOk_cons (patinalaw06_fill_armOk k) (callOk_cons (patinalaw06_pick_armOk k) (callOk_nil)))))

def patinalaw06_FrameBlank_l0_L (k : Nat) (K : Nat → List Value → Mem → Option (Bool × Mem)) (n : Nat) (vs : List Value) (m : Mem) : Option (Bool × Mem) := match vs with
  | [.slice x1a x1n x1c, .bool x5, .pointer x6, .slice x7a x7n x7c, .int .i64 x8] => patinalaw06_FrameBlank_l0 k (fun y1a y1n y1c y5 y6 y7a y7n y7c m => K 2 [(Value.slice y1a y1n y1c), (Value.bool y5), (Value.pointer y6), (Value.slice y7a y7n y7c)] m) n x1a x1n x1c x5 x6 x7a x7n x7c x8 m
  | _ => none

def patinalaw06_FrameBlank_l2_L (k : Nat) (K : Nat → List Value → Mem → Option (Bool × Mem)) (n : Nat) (vs : List Value) (m : Mem) : Option (Bool × Mem) := match vs with
  | [.slice x1a x1n x1c, .bool x5, .pointer x6, .slice x7a x7n x7c, .int .i64 x9] => patinalaw06_FrameBlank_l2 k (fun y5 y6 y7a y7n y7c m => K 4 [(Value.bool y5), (Value.pointer y6), (Value.slice y7a y7n y7c)] m) n x1a x1n x1c x5 x6 x7a x7n x7c x9 m
  | _ => none

def patinalaw06_FrameBlank_loop (k : Nat) : Nat → List Value → Mem → (Nat → List Value → Mem → Option (Bool × Mem)) → Option (Bool × Mem) := fun cur vs m K => match cur with
  | 0 => patinalaw06_FrameBlank_l0_L k K k vs m
  | 2 => patinalaw06_FrameBlank_l2_L k K k vs m
  | _ => none

def patinalaw06_FrameBlank_C (k : Nat) : Ctx (Bool × Mem) := ⟨tt, patinalaw06_FrameBlank_call k, patinalaw06_FrameBlank_loop k, [(0, [1, 5, 6, 7, 8]), (2, [1, 5, 6, 7, 9])], [(2, [1, 5, 6, 7]), (4, [5, 6, 7])]⟩

noncomputable def patinalaw06_FrameBlank_l0_c : Code := ((loopsOf 0 (body Try.f6)).map (·.2)).getD 0 .skip

noncomputable def patinalaw06_FrameBlank_l2_c : Code := ((loopsOf 0 (body Try.f6)).map (·.2)).getD 1 .skip

theorem patinalaw06_FrameBlank_loops : loopsOf 0 (body Try.f6) = [(0, patinalaw06_FrameBlank_l0_c), (2, patinalaw06_FrameBlank_l2_c)] := by kernel_rfl

theorem patinalaw06_FrameBlank_l0_ok (k : Nat) : LoopOk (patinalaw06_FrameBlank_C k) 0 patinalaw06_FrameBlank_l0_c := by
  refine ⟨[1, 5, 6, 7, 8], by kernel_rfl, fun K r => ⟨patinalaw06_FrameBlank_l0_L k K, fun vs m h => ⟨k, h⟩, ?_⟩⟩
  intro n vs m h
  unfold patinalaw06_FrameBlank_l0_L at h
  split at h
  · cases n with
    | zero => cases h
    | succ n => exact ⟨n, rfl, Eq.trans (by kernel_rfl) h⟩
  · cases h

theorem patinalaw06_FrameBlank_l2_ok (k : Nat) : LoopOk (patinalaw06_FrameBlank_C k) 2 patinalaw06_FrameBlank_l2_c := by
  refine ⟨[1, 5, 6, 7, 9], by kernel_rfl, fun K r => ⟨patinalaw06_FrameBlank_l2_L k K, fun vs m h => ⟨k, h⟩, ?_⟩⟩
  intro n vs m h
  unfold patinalaw06_FrameBlank_l2_L at h
  split at h
  · cases n with
    | zero => cases h
    | succ n => exact ⟨n, rfl, Eq.trans (by kernel_rfl) h⟩
  · cases h

def patinalaw06_FrameBlank_dec : Value → Mem → Option (Bool × Mem) := fun v m => match v with
  | .bool q0 => some (q0, m)
  | _ => none

theorem patinalaw06_FrameBlank_eq (k : Nat) (p0a : Option Addr) (p0n : Nat) (p0c : Nat) (p1a : Option Addr) (p1n : Nat) (p1c : Nat) (m : Mem) : fnX (patinalaw06_FrameBlank_C k) Try.f6 [(Value.slice p0a p0n p0c), (Value.slice p1a p1n p1c)] m patinalaw06_FrameBlank_dec = patinalaw06_FrameBlank k p0a p0n p0c p1a p1n p1c m := by kernel_rfl

theorem patinalaw06_FrameBlank_ok {k : Nat} {p0a : Option Addr} {p0n : Nat} {p0c : Nat} {p1a : Option Addr} {p1n : Nat} {p1c : Nat} {m : Mem} {r : (Bool × Mem)} (h : patinalaw06_FrameBlank k p0a p0n p0c p1a p1n p1c m = some r) : CallP Try.prog 6 [(Value.slice p0a p0n p0c), (Value.slice p1a p1n p1c)] m fun v m' => v = (Value.bool r.1) ∧ m' = r.2 := by
  refine (fn_sound (C := patinalaw06_FrameBlank_C k) (c := body Try.f6) tOk mixed (patinalaw06_FrameBlank_callOk k) Try.func6 (by kernel_rfl) (by kernel_rfl) (by kernel_rfl) (by kernel_rfl) ?_ ?_ (Eq.trans (patinalaw06_FrameBlank_eq k p0a p0n p0c p1a p1n p1c m) h)).mono ?_
  · intro p hp
    rw [patinalaw06_FrameBlank_loops] at hp
    simp only [List.mem_cons, List.not_mem_nil, or_false] at hp
    rcases hp with rfl | rfl
    · exact patinalaw06_FrameBlank_l0_ok k
    · exact patinalaw06_FrameBlank_l2_ok k
  · intro p hp; rw [show rangesOf 0 (body Try.f6) = [] by kernel_rfl] at hp; cases hp
  · intro v m' hp
    unfold patinalaw06_FrameBlank_dec at hp
    split at hp
    · simp only [Option.some.injEq] at hp; subst hp; exact ⟨rfl, rfl⟩
    · cases hp

def patinalaw06_FrameBlank_arm {R : Type} (k : Nat) : Arm R := fun vs m K => match vs with
  | [.slice p0a p0n p0c, .slice p1a p1n p1c] => (patinalaw06_FrameBlank k p0a p0n p0c p1a p1n p1c m).bind fun r => K (Value.bool r.1) r.2
  | _ => none

theorem patinalaw06_FrameBlank_armOk {R : Type} (k : Nat) : ArmOk Try.prog 6 (patinalaw06_FrameBlank_arm (R := R) k) := by
  intro vs m K r h
  unfold patinalaw06_FrameBlank_arm at h
  split at h
  · obtain ⟨r, h1, h2⟩ := Option.bind_eq_some_iff.1 h; exact ⟨_, _, h2, fun K' => by simp only [patinalaw06_FrameBlank_arm, h1, Option.bind_some], patinalaw06_FrameBlank_ok h1⟩
  · cases h

end Go.Proofs.Ytmfmoanjecjeeaa
