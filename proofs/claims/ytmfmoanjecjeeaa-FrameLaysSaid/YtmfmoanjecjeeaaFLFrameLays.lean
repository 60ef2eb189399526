/- The program's functions as plain Lean functions over a clean memory, each held against the program by the kernel. Written by mx.py. -/
import Derived.Test.YtmfmoanjecjeeaaF0
import Derived.Test.YtmfmoanjecjeeaaFframe
import Derived.Test.YtmfmoanjecjeeaaFpatinalaw06
import Derived.Test.YtmfmoanjecjeeaaFpatinaref01
import Derived.Test.YtmfmoanjecjeeaaFpatinaref06
set_option linter.unusedVariables false
set_option maxRecDepth 100000
namespace Go.Proofs.Ytmfmoanjecjeeaa
open Go.Mx

/-! ### patinalaw06_FrameLays -/
def patinalaw06_FrameLays_l0_b (k : Nat) (nx : Bool → Option Addr → Option Addr → Option Addr → Nat → Nat → Bool → Option Addr → Nat → Nat → Int → Mem → Option (Bool × Mem)) (kx0 : Bool → Mem → Option (Bool × Mem)) (kx2 : Bool → Option Addr → Option Addr → Option Addr → Nat → Nat → Bool → Mem → Option (Bool × Mem)) (x5 : Bool) (x7 : Option Addr) (x8 : Option Addr) (x9a : Option Addr) (x9n : Nat) (x9c : Nat) (x11 : Bool) (x12a : Option Addr) (x12n : Nat) (x12c : Nat) (x14 : Int) (m : Mem) : Option (Bool × Mem) :=
  bif decide (x14 < 4) then (
  bif inRange x14 x9n then (
  (x9a).bind fun a15 =>
  (ldSl m (plus a15 (Int.toNat x14 * 1))).bind fun t16 =>
  bif inRange x14 x12n then (
  (x12a).bind fun a17 =>
  (ldSl m (plus a17 (Int.toNat x14 * 1))).bind fun t18 =>
  (patinaref01_Same k t16.a t16.len t16.cap t18.a t18.len t18.cap m).bind fun r19 =>
  bif !r19.1 then (
  kx0 false r19.2) else (
  nx x5 x7 x8 x9a x9n x9c x11 x12a x12n x12c (IntKind.wrap .i64 (x14 + 1)) r19.2)) else none) else none) else (
  kx2 x5 x7 x8 x9a x9n x9c x11 m)

def patinalaw06_FrameLays_l0 (k : Nat) (kx0 : Bool → Mem → Option (Bool × Mem)) (kx2 : Bool → Option Addr → Option Addr → Option Addr → Nat → Nat → Bool → Mem → Option (Bool × Mem)) : Nat → Bool → Option Addr → Option Addr → Option Addr → Nat → Nat → Bool → Option Addr → Nat → Nat → Int → Mem → Option (Bool × Mem)
  | 0, _, _, _, _, _, _, _, _, _, _, _, _ => none
  | n + 1, x5, x7, x8, x9a, x9n, x9c, x11, x12a, x12n, x12c, x14, m => patinalaw06_FrameLays_l0_b k (fun x5 x7 x8 x9a x9n x9c x11 x12a x12n x12c x14 m => patinalaw06_FrameLays_l0 k kx0 kx2 n x5 x7 x8 x9a x9n x9c x11 x12a x12n x12c x14 m) kx0 kx2 x5 x7 x8 x9a x9n x9c x11 x12a x12n x12c x14 m
termination_by structural x => x

theorem patinalaw06_FrameLays_l0_rule (k : Nat) (kx0 : Bool → Mem → Option (Bool × Mem)) (kx2 : Bool → Option Addr → Option Addr → Option Addr → Nat → Nat → Bool → Mem → Option (Bool × Mem)) {P : (Bool × Mem) → Prop} (I : Nat → Bool → Option Addr → Option Addr → Option Addr → Nat → Nat → Bool → Option Addr → Nat → Nat → Int → Mem → Prop)
    (step : ∀ d (nx : Bool → Option Addr → Option Addr → Option Addr → Nat → Nat → Bool → Option Addr → Nat → Nat → Int → Mem → Option (Bool × Mem)) (x5 : Bool) (x7 : Option Addr) (x8 : Option Addr) (x9a : Option Addr) (x9n : Nat) (x9c : Nat) (x11 : Bool) (x12a : Option Addr) (x12n : Nat) (x12c : Nat) (x14 : Int) (m : Mem), I d x5 x7 x8 x9a x9n x9c x11 x12a x12n x12c x14 m → (∀ d' (x5 : Bool) (x7 : Option Addr) (x8 : Option Addr) (x9a : Option Addr) (x9n : Nat) (x9c : Nat) (x11 : Bool) (x12a : Option Addr) (x12n : Nat) (x12c : Nat) (x14 : Int) (m : Mem), d' < d → I d' x5 x7 x8 x9a x9n x9c x11 x12a x12n x12c x14 m → Ok (nx x5 x7 x8 x9a x9n x9c x11 x12a x12n x12c x14 m) P) → Ok (patinalaw06_FrameLays_l0_b k nx kx0 kx2 x5 x7 x8 x9a x9n x9c x11 x12a x12n x12c x14 m) P) :
    ∀ n d (x5 : Bool) (x7 : Option Addr) (x8 : Option Addr) (x9a : Option Addr) (x9n : Nat) (x9c : Nat) (x11 : Bool) (x12a : Option Addr) (x12n : Nat) (x12c : Nat) (x14 : Int) (m : Mem), d < n → I d x5 x7 x8 x9a x9n x9c x11 x12a x12n x12c x14 m → Ok (patinalaw06_FrameLays_l0 k kx0 kx2 n x5 x7 x8 x9a x9n x9c x11 x12a x12n x12c x14 m) P
  | 0, d, x5, x7, x8, x9a, x9n, x9c, x11, x12a, x12n, x12c, x14, m, h, _ => absurd h (Nat.not_lt_zero _)
  | n + 1, d, x5, x7, x8, x9a, x9n, x9c, x11, x12a, x12n, x12c, x14, m, h, hI => step d _ x5 x7 x8 x9a x9n x9c x11 x12a x12n x12c x14 m hI fun d' x5 x7 x8 x9a x9n x9c x11 x12a x12n x12c x14 m h' hI' => patinalaw06_FrameLays_l0_rule k kx0 kx2 I step n d' x5 x7 x8 x9a x9n x9c x11 x12a x12n x12c x14 m (by omega) hI'

def patinalaw06_FrameLays (k : Nat) (p0a : Option Addr) (p0n : Nat) (p0c : Nat) (p1a : Option Addr) (p1n : Nat) (p1c : Nat) (m : Mem) : Option (Bool × Mem) :=
  (patinalaw06_shown k  m).bind fun r1 =>
  (frame_New k  r1.2).bind fun r2 =>
  bif Option.isNone r2.1 then (
  some (false, r2.2)) else (
  (patinaref01_Lend k p0a p0n p0c r2.2).bind fun r3 =>
  (patinaref01_Lend k p1a p1n p1c r3.2).bind fun r4 =>
  (patinaref01_Lent_Bytes k r3.1 r4.2).bind fun r5 =>
  (patinaref01_Lent_Bytes k r4.1 r5.2).bind fun r6 =>
  (frame_Frame_Lay k r2.1 r5.1.a r5.1.len r5.1.cap r6.1.a r6.1.len r6.1.cap r6.2).bind fun r7 =>
  (patinaref01_Lent_Kept k r3.1 r7.2.2).bind fun r8 =>
  bif r8.1 then (
  (patinaref01_Lent_Kept k r4.1 r8.2).bind fun r9 =>
  (patinaref01_Lent_Turn k r3.1 r9.2).bind fun r10 =>
  (patinaref01_Lent_Turn k r4.1 r10).bind fun r11 =>
  (patinaref06_Lay k p0a p0n p0c p1a p1n p1c r11).bind fun r12 =>
  bif !r12.2.1 then (
  bif r1.1 then (
  bif r9.1 then (
  (ifEq tt r7.2.1 (Value.iface ty_api_Code (Value.int .i64 1))).bind fun b13 =>
  bif b13 then (
  some (((r7.1.len : Nat) : Int) == 0, r12.2.2)) else (
  some (false, r12.2.2))) else (
  some (false, r12.2.2))) else (
  some (false, r12.2.2))) else (
  (isNil r7.2.1).bind fun b14 =>
  bif !b14 then (
  some (false, r12.2.2)) else (
  bif ((r7.1.len : Nat) : Int) != 4 then (
  some (false, r12.2.2)) else (
  patinalaw06_FrameLays_l0 k (fun y4 m20 => 
  some (y4, m20)) (fun y5 y7 y8 y9a y9n y9c y11 m21 => 
  (patinaref01_Apart k y9a y9n y9c m21).bind fun r22 =>
  (patinaref01_Lent_Kept k y7 r22.2).bind fun r23 =>
  bif r23.1 then (
  (patinaref01_Lent_Kept k y8 r23.2).bind fun r24 =>
  bif y5 then (
  bif y11 then (
  bif r22.1 then (
  some (r24.1, r24.2)) else (
  some (false, r24.2))) else (
  some (false, r24.2))) else (
  some (false, r24.2))) else (
  bif y5 then (
  bif y11 then (
  bif r22.1 then (
  some (false, r23.2)) else (
  some (false, r23.2))) else (
  some (false, r23.2))) else (
  some (false, r23.2)))) k r1.1 r3.1 r4.1 r7.1.a r7.1.len r7.1.cap r9.1 r12.1.a r12.1.len r12.1.cap 0 r12.2.2)))) else (
  (patinaref01_Lent_Turn k r3.1 r8.2).bind fun r25 =>
  (patinaref01_Lent_Turn k r4.1 r25).bind fun r26 =>
  (patinaref06_Lay k p0a p0n p0c p1a p1n p1c r26).bind fun r27 =>
  bif !r27.2.1 then (
  bif r1.1 then (
  some (false, r27.2.2)) else (
  some (false, r27.2.2))) else (
  (isNil r7.2.1).bind fun b28 =>
  bif !b28 then (
  some (false, r27.2.2)) else (
  bif ((r7.1.len : Nat) : Int) != 4 then (
  some (false, r27.2.2)) else (
  patinalaw06_FrameLays_l0 k (fun y4 m29 => 
  some (y4, m29)) (fun y5 y7 y8 y9a y9n y9c y11 m30 => 
  (patinaref01_Apart k y9a y9n y9c m30).bind fun r31 =>
  (patinaref01_Lent_Kept k y7 r31.2).bind fun r32 =>
  bif r32.1 then (
  (patinaref01_Lent_Kept k y8 r32.2).bind fun r33 =>
  bif y5 then (
  bif y11 then (
  bif r31.1 then (
  some (r33.1, r33.2)) else (
  some (false, r33.2))) else (
  some (false, r33.2))) else (
  some (false, r33.2))) else (
  bif y5 then (
  bif y11 then (
  bif r31.1 then (
  some (false, r32.2)) else (
  some (false, r32.2))) else (
  some (false, r32.2))) else (
  some (false, r32.2)))) k r1.1 r3.1 r4.1 r7.1.a r7.1.len r7.1.cap false r27.1.a r27.1.len r27.1.cap 0 r27.2.2)))))

def patinalaw06_FrameLays_call {R : Type} (k : Nat) : Fun R := callCons 7 (patinalaw06_shown_arm k) (callCons 8 (frame_New_arm k) (callCons 9 (patinaref01_Lend_arm k) (callCons 10 (frame_Frame_Lay_arm k) (callCons 11 (patinaref01_Lent_Bytes_arm k) (callCons 12 (patinaref01_Lent_Kept_arm k) (callCons 13 (patinaref01_Lent_Turn_arm k) (callCons 14 (patinaref06_Lay_arm k) (callCons 15 (patinaref01_Same_arm k) (callCons 16 (patinaref01_Apart_arm k) (callNil))))))))))

theorem patinalaw06_FrameLays_callOk {R : Type} (k : Nat) : CallOk Try.prog (patinalaw06_FrameLays_call (R := R) k) := callOk_cons (patinalaw06_shown_armOk k) (callOk_cons (frame_New_armOk k) (callOk_cons (patinaref01_Lend_armOk k) (callOk_cons (frame_Frame_Lay_armOk k) (callOk_cons (patinaref01_Lent_Bytes_armOk k) (callOk_cons (patinaref01_Lent_Kept_armOk k) (callOk_cons (patinaref01_Lent_Turn_armOk k) (callOk_cons (patinaref06_Lay_armOk k) (callOk_cons (patinaref01_Same_armOk k) (callOk_cons (patinaref01_Apart_armOk k) (callOk_nil))))))))))

def patinalaw06_FrameLays_l0_L (k : Nat) (K : Nat → List Value → Mem → Option (Bool × Mem)) (n : Nat) (vs : List Value) (m : Mem) : Option (Bool × Mem) := match vs with
  | [.bool x5, .pointer x7, .pointer x8, .slice x9a x9n x9c, .bool x11, .slice x12a x12n x12c, .int .i64 x14] => patinalaw06_FrameLays_l0 k (fun y4 m => K 0 [(Value.bool y4)] m) (fun y5 y7 y8 y9a y9n y9c y11 m => K 2 [(Value.bool y5), (Value.pointer y7), (Value.pointer y8), (Value.slice y9a y9n y9c), (Value.bool y11)] m) n x5 x7 x8 x9a x9n x9c x11 x12a x12n x12c x14 m
  | _ => none

def patinalaw06_FrameLays_loop (k : Nat) : Nat → List Value → Mem → (Nat → List Value → Mem → Option (Bool × Mem)) → Option (Bool × Mem) := fun cur vs m K => match cur with
  | 0 => patinalaw06_FrameLays_l0_L k K k vs m
  | _ => none

def patinalaw06_FrameLays_C (k : Nat) : Ctx (Bool × Mem) := ⟨tt, patinalaw06_FrameLays_call k, patinalaw06_FrameLays_loop k, [(0, [5, 7, 8, 9, 11, 12, 14])], [(0, [4]), (2, [5, 7, 8, 9, 11])]⟩

noncomputable def patinalaw06_FrameLays_l0_c : Code := ((loopsOf 0 (body Try.f3)).map (·.2)).getD 0 .skip

theorem patinalaw06_FrameLays_loops : loopsOf 0 (body Try.f3) = [(0, patinalaw06_FrameLays_l0_c)] := by kernel_rfl

theorem patinalaw06_FrameLays_l0_ok (k : Nat) : LoopOk (patinalaw06_FrameLays_C k) 0 patinalaw06_FrameLays_l0_c := by
  refine ⟨[5, 7, 8, 9, 11, 12, 14], by kernel_rfl, fun K r => ⟨patinalaw06_FrameLays_l0_L k K, fun vs m h => ⟨k, h⟩, ?_⟩⟩
  intro n vs m h
  unfold patinalaw06_FrameLays_l0_L at h
  split at h
  · cases n with
    | zero => cases h
    | succ n => exact ⟨n, rfl, Eq.trans (by kernel_rfl) h⟩
  · cases h

def patinalaw06_FrameLays_dec : Value → Mem → Option (Bool × Mem) := fun v m => match v with
  | .bool q0 => some (q0, m)
  | _ => none

theorem patinalaw06_FrameLays_eq (k : Nat) (p0a : Option Addr) (p0n : Nat) (p0c : Nat) (p1a : Option Addr) (p1n : Nat) (p1c : Nat) (m : Mem) : fnX (patinalaw06_FrameLays_C k) Try.f3 [(Value.slice p0a p0n p0c), (Value.slice p1a p1n p1c)] m patinalaw06_FrameLays_dec = patinalaw06_FrameLays k p0a p0n p0c p1a p1n p1c m := by kernel_rfl

theorem patinalaw06_FrameLays_ok {k : Nat} {p0a : Option Addr} {p0n : Nat} {p0c : Nat} {p1a : Option Addr} {p1n : Nat} {p1c : Nat} {m : Mem} {r : (Bool × Mem)} (h : patinalaw06_FrameLays k p0a p0n p0c p1a p1n p1c m = some r) : CallP Try.prog 3 [(Value.slice p0a p0n p0c), (Value.slice p1a p1n p1c)] m fun v m' => v = (Value.bool r.1) ∧ m' = r.2 := by
  refine (fn_sound (C := patinalaw06_FrameLays_C k) (c := body Try.f3) tOk mixed (patinalaw06_FrameLays_callOk k) Try.func3 (by kernel_rfl) (by kernel_rfl) (by kernel_rfl) (by kernel_rfl) ?_ ?_ (Eq.trans (patinalaw06_FrameLays_eq k p0a p0n p0c p1a p1n p1c m) h)).mono ?_
  · intro p hp
    rw [patinalaw06_FrameLays_loops] at hp
    simp only [List.mem_cons, List.not_mem_nil, or_false] at hp
    rcases hp with rfl
    · exact patinalaw06_FrameLays_l0_ok k
  · intro p hp; rw [show rangesOf 0 (body Try.f3) = [] by kernel_rfl] at hp; cases hp
  · intro v m' hp
    unfold patinalaw06_FrameLays_dec at hp
    split at hp
    · simp only [Option.some.injEq] at hp; subst hp; exact ⟨rfl, rfl⟩
    · cases hp

def patinalaw06_FrameLays_arm {R : Type} (k : Nat) : Arm R := fun vs m K => match vs with
  | [.slice p0a p0n p0c, .slice p1a p1n p1c] => (patinalaw06_FrameLays k p0a p0n p0c p1a p1n p1c m).bind fun r => K (Value.bool r.1) r.2
  | _ => none

theorem patinalaw06_FrameLays_armOk {R : Type} (k : Nat) : ArmOk Try.prog 3 (patinalaw06_FrameLays_arm (R := R) k) := by
  intro vs m K r h
  unfold patinalaw06_FrameLays_arm at h
  split at h
  · obtain ⟨r, h1, h2⟩ := Option.bind_eq_some_iff.1 h; exact ⟨_, _, h2, fun K' => by simp only [patinalaw06_FrameLays_arm, h1, Option.bind_some], patinalaw06_FrameLays_ok h1⟩
  · cases h

end Go.Proofs.Ytmfmoanjecjeeaa
