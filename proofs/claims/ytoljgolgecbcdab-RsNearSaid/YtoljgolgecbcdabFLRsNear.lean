/- The program's functions as plain Lean functions over a clean memory, each held against the program by the kernel. Written by mx.py. -/
import Derived.Test.YtoljgolgecbcdabF0
import Derived.Test.YtoljgolgecbcdabFpatinalaw02
import Derived.Test.YtoljgolgecbcdabFpatinaref02
import Derived.Test.YtoljgolgecbcdabFrs
set_option linter.unusedVariables false
set_option maxRecDepth 100000
namespace Go.Proofs.Ytoljgolgecbcdab
open Go.Mx

/-! ### patinalaw02_RsNear -/
def patinalaw02_RsNear_l0_b (k : Nat) (nx : Option Addr → Nat → Nat → Option Addr → Nat → Nat → Bool → Option Addr → Option Addr → Nat → Nat → Int → Mem → Option (Bool × Mem)) (kx2 : Option Addr → Nat → Nat → Bool → Option Addr → Option Addr → Nat → Nat → Mem → Option (Bool × Mem)) (x0a : Option Addr) (x0n : Nat) (x0c : Nat) (x1a : Option Addr) (x1n : Nat) (x1c : Nat) (x5 : Bool) (x6 : Option Addr) (x7a : Option Addr) (x7n : Nat) (x7c : Nat) (x8 : Int) (m : Mem) : Option (Bool × Mem) :=
  bif decide (x8 < ((x7n : Nat) : Int)) then (
  bif decide (x8 < ((x0n : Nat) : Int)) then (
  bif inRange x8 x0n then (
  (x0a).bind fun a4 =>
  (ldInt .u8 m (plus a4 (Int.toNat x8 * 1))).bind fun t5 =>
  bif inRange x8 x7n then (
  (x7a).bind fun a6 =>
  (st m (plus a6 (Int.toNat x8 * 1)) (Value.int .u8 t5)).bind fun m7 =>
  nx x0a x0n x0c x1a x1n x1c x5 x6 x7a x7n x7c (IntKind.wrap .i64 (x8 + 1)) m7) else none) else none) else (
  kx2 x1a x1n x1c x5 x6 x7a x7n x7c m)) else (
  kx2 x1a x1n x1c x5 x6 x7a x7n x7c m)

def patinalaw02_RsNear_l0 (k : Nat) (kx2 : Option Addr → Nat → Nat → Bool → Option Addr → Option Addr → Nat → Nat → Mem → Option (Bool × Mem)) : Nat → Option Addr → Nat → Nat → Option Addr → Nat → Nat → Bool → Option Addr → Option Addr → Nat → Nat → Int → Mem → Option (Bool × Mem)
  | 0, _, _, _, _, _, _, _, _, _, _, _, _, _ => none
  | n + 1, x0a, x0n, x0c, x1a, x1n, x1c, x5, x6, x7a, x7n, x7c, x8, m => patinalaw02_RsNear_l0_b k (fun x0a x0n x0c x1a x1n x1c x5 x6 x7a x7n x7c x8 m => patinalaw02_RsNear_l0 k kx2 n x0a x0n x0c x1a x1n x1c x5 x6 x7a x7n x7c x8 m) kx2 x0a x0n x0c x1a x1n x1c x5 x6 x7a x7n x7c x8 m

theorem patinalaw02_RsNear_l0_rule (k : Nat) (kx2 : Option Addr → Nat → Nat → Bool → Option Addr → Option Addr → Nat → Nat → Mem → Option (Bool × Mem)) {P : (Bool × Mem) → Prop} (I : Nat → Option Addr → Nat → Nat → Option Addr → Nat → Nat → Bool → Option Addr → Option Addr → Nat → Nat → Int → Mem → Prop)
    (step : ∀ d (nx : Option Addr → Nat → Nat → Option Addr → Nat → Nat → Bool → Option Addr → Option Addr → Nat → Nat → Int → Mem → Option (Bool × Mem)) (x0a : Option Addr) (x0n : Nat) (x0c : Nat) (x1a : Option Addr) (x1n : Nat) (x1c : Nat) (x5 : Bool) (x6 : Option Addr) (x7a : Option Addr) (x7n : Nat) (x7c : Nat) (x8 : Int) (m : Mem), I d x0a x0n x0c x1a x1n x1c x5 x6 x7a x7n x7c x8 m → (∀ d' (x0a : Option Addr) (x0n : Nat) (x0c : Nat) (x1a : Option Addr) (x1n : Nat) (x1c : Nat) (x5 : Bool) (x6 : Option Addr) (x7a : Option Addr) (x7n : Nat) (x7c : Nat) (x8 : Int) (m : Mem), d' < d → I d' x0a x0n x0c x1a x1n x1c x5 x6 x7a x7n x7c x8 m → Ok (nx x0a x0n x0c x1a x1n x1c x5 x6 x7a x7n x7c x8 m) P) → Ok (patinalaw02_RsNear_l0_b k nx kx2 x0a x0n x0c x1a x1n x1c x5 x6 x7a x7n x7c x8 m) P) :
    ∀ n d (x0a : Option Addr) (x0n : Nat) (x0c : Nat) (x1a : Option Addr) (x1n : Nat) (x1c : Nat) (x5 : Bool) (x6 : Option Addr) (x7a : Option Addr) (x7n : Nat) (x7c : Nat) (x8 : Int) (m : Mem), d < n → I d x0a x0n x0c x1a x1n x1c x5 x6 x7a x7n x7c x8 m → Ok (patinalaw02_RsNear_l0 k kx2 n x0a x0n x0c x1a x1n x1c x5 x6 x7a x7n x7c x8 m) P
  | 0, d, x0a, x0n, x0c, x1a, x1n, x1c, x5, x6, x7a, x7n, x7c, x8, m, h, _ => absurd h (Nat.not_lt_zero _)
  | n + 1, d, x0a, x0n, x0c, x1a, x1n, x1c, x5, x6, x7a, x7n, x7c, x8, m, h, hI => step d _ x0a x0n x0c x1a x1n x1c x5 x6 x7a x7n x7c x8 m hI fun d' x0a x0n x0c x1a x1n x1c x5 x6 x7a x7n x7c x8 m h' hI' => patinalaw02_RsNear_l0_rule k kx2 I step n d' x0a x0n x0c x1a x1n x1c x5 x6 x7a x7n x7c x8 m (by omega) hI'

def patinalaw02_RsNear (k : Nat) (p0a : Option Addr) (p0n : Nat) (p0c : Nat) (p1a : Option Addr) (p1n : Nat) (p1c : Nat) (m : Mem) : Option (Bool × Mem) :=
  (patinalaw02_shown k  m).bind fun r1 =>
  (rs_New k  r1.2).bind fun r2 =>
  bif Option.isNone r2.1 then (
  some (false, r2.2)) else (
  let m3 : Mem := r2.2 ++ [.live (repl (Int.toNat 64) [.int .u8 0])]
  patinalaw02_RsNear_l0 k (fun y1a y1n y1c y5 y6 y7a y7n y7c m8 => 
  (rs_Codec_Decode k y6 y7a y7n y7c m8).bind fun r9 =>
  (isNil r9.2.2.1).bind fun b10 =>
  bif b10 then (
  (rs_Codec_Encode k y6 r9.1.a r9.1.len r9.1.cap r9.2.2.2).bind fun r11 =>
  bif y5 then (
  (isNil r11.2.1).bind fun b12 =>
  bif b12 then (
  bif ((r11.1.len : Nat) : Int) == 64 then (
  bif decide (r9.2.1 ≥ 0) then (
  bif decide (r9.2.1 ≤ 2) then (
  (patinaref02_Apart k r11.1.a r11.1.len r11.1.cap y7a y7n y7c r11.2.2).bind fun r13 =>
  some (r13.1 == r9.2.1, r13.2)) else (
  some (false, r11.2.2))) else (
  some (false, r11.2.2))) else (
  some (false, r11.2.2))) else (
  some (false, r11.2.2))) else (
  some (false, r11.2.2))) else (
  (patinalaw02_message k y1a y1n y1c r9.2.2.2).bind fun r14 =>
  (rs_Codec_Encode k y6 r14.1.a r14.1.len r14.1.cap r14.2).bind fun r15 =>
  bif inUpto 58 y7c then (
  (rs_Codec_Encode k y6 (sliceK.clear y7a false) (Int.toNat 58) y7c r15.2.2).bind fun r16 =>
  bif y5 then (
  (ifEq tt r9.2.2.1 (Value.iface ty_api_Code (Value.int .i64 5))).bind fun b17 =>
  bif b17 then (
  (isNil r15.2.1).bind fun b18 =>
  bif b18 then (
  (isNil r16.2.1).bind fun b19 =>
  bif b19 then (
  bif ((r15.1.len : Nat) : Int) == 64 then (
  bif ((r16.1.len : Nat) : Int) == 64 then (
  (patinaref02_Apart k r15.1.a r15.1.len r15.1.cap y7a y7n y7c r16.2.2).bind fun r20 =>
  bif decide (r20.1 > 2) then (
  (patinaref02_Apart k r16.1.a r16.1.len r16.1.cap y7a y7n y7c r20.2).bind fun r21 =>
  some (decide (r21.1 > 2), r21.2)) else (
  some (false, r20.2))) else (
  some (false, r16.2.2))) else (
  some (false, r16.2.2))) else (
  some (false, r16.2.2))) else (
  some (false, r16.2.2))) else (
  some (false, r16.2.2))) else (
  some (false, r16.2.2))) else none)) k p0a p0n p0c p1a p1n p1c r1.1 r2.1 (some ⟨List.length r2.2, 0, Option.none⟩) (Int.toNat 64) (Int.toNat 64) 0 m3)

def patinalaw02_RsNear_call {R : Type} (k : Nat) : Fun R := callCons 8 (patinalaw02_shown_arm k) (callCons 9 (rs_New_arm k) (callCons 10 (rs_Codec_Decode_arm k) (callCons 11 (rs_Codec_Encode_arm k) (callCons 12 (patinaref02_Apart_arm k) (callCons 13 (patinalaw02_message_arm k) (callNil))))))

theorem patinalaw02_RsNear_callOk {R : Type} (k : Nat) : CallOk Try.prog (patinalaw02_RsNear_call (R := R) k) := callOk_cons (patinalaw02_shown_armOk k) (callOk_cons (rs_New_armOk k) (callOk_cons (rs_Codec_Decode_armOk k) (callOk_cons (rs_Codec_Encode_armOk k) (callOk_cons (patinaref02_Apart_armOk k) (callOk_cons (patinalaw02_message_armOk k) (callOk_nil))))))

def patinalaw02_RsNear_l0_L (k : Nat) (K : Nat → List Value → Mem → Option (Bool × Mem)) (n : Nat) (vs : List Value) (m : Mem) : Option (Bool × Mem) := match vs with
  | [.slice x0a x0n x0c, .slice x1a x1n x1c, .bool x5, .pointer x6, .slice x7a x7n x7c, .int .i64 x8] => patinalaw02_RsNear_l0 k (fun y1a y1n y1c y5 y6 y7a y7n y7c m => K 2 [(Value.slice y1a y1n y1c), (Value.bool y5), (Value.pointer y6), (Value.slice y7a y7n y7c)] m) n x0a x0n x0c x1a x1n x1c x5 x6 x7a x7n x7c x8 m
  | _ => none

def patinalaw02_RsNear_loop (k : Nat) : Nat → List Value → Mem → (Nat → List Value → Mem → Option (Bool × Mem)) → Option (Bool × Mem) := fun cur vs m K => match cur with
  | 0 => patinalaw02_RsNear_l0_L k K k vs m
  | _ => none

def patinalaw02_RsNear_C (k : Nat) : Ctx (Bool × Mem) := ⟨tt, patinalaw02_RsNear_call k, patinalaw02_RsNear_loop k, [(0, [0, 1, 5, 6, 7, 8])], [(2, [1, 5, 6, 7])]⟩

noncomputable def patinalaw02_RsNear_l0_c : Code := ((loopsOf 0 (body Try.f3)).map (·.2)).getD 0 .skip

theorem patinalaw02_RsNear_loops : loopsOf 0 (body Try.f3) = [(0, patinalaw02_RsNear_l0_c)] := by kernel_rfl

theorem patinalaw02_RsNear_l0_ok (k : Nat) : LoopOk (patinalaw02_RsNear_C k) 0 patinalaw02_RsNear_l0_c := by
  refine ⟨[0, 1, 5, 6, 7, 8], by kernel_rfl, fun K r => ⟨patinalaw02_RsNear_l0_L k K, fun vs m h => ⟨k, h⟩, ?_⟩⟩
  intro n vs m h
  unfold patinalaw02_RsNear_l0_L at h
  split at h
  · cases n with
    | zero => cases h
    | succ n => exact ⟨n, rfl, Eq.trans (by kernel_rfl) h⟩
  · cases h

def patinalaw02_RsNear_dec : Value → Mem → Option (Bool × Mem) := fun v m => match v with
  | .bool q0 => some (q0, m)
  | _ => none

theorem patinalaw02_RsNear_eq (k : Nat) (p0a : Option Addr) (p0n : Nat) (p0c : Nat) (p1a : Option Addr) (p1n : Nat) (p1c : Nat) (m : Mem) : fnX (patinalaw02_RsNear_C k) Try.f3 [(Value.slice p0a p0n p0c), (Value.slice p1a p1n p1c)] m patinalaw02_RsNear_dec = patinalaw02_RsNear k p0a p0n p0c p1a p1n p1c m := by kernel_rfl

theorem patinalaw02_RsNear_ok {k : Nat} {p0a : Option Addr} {p0n : Nat} {p0c : Nat} {p1a : Option Addr} {p1n : Nat} {p1c : Nat} {m : Mem} {r : (Bool × Mem)} (h : patinalaw02_RsNear k p0a p0n p0c p1a p1n p1c m = some r) : CallP Try.prog 3 [(Value.slice p0a p0n p0c), (Value.slice p1a p1n p1c)] m fun v m' => v = (Value.bool r.1) ∧ m' = r.2 := by
  refine (fn_sound (C := patinalaw02_RsNear_C k) (c := body Try.f3) tOk mixed (patinalaw02_RsNear_callOk k) Try.func3 (by kernel_rfl) (by kernel_rfl) (by kernel_rfl) (by kernel_rfl) ?_ (Eq.trans (patinalaw02_RsNear_eq k p0a p0n p0c p1a p1n p1c m) h)).mono ?_
  · intro p hp
    rw [patinalaw02_RsNear_loops] at hp
    simp only [List.mem_cons, List.not_mem_nil, or_false] at hp
    rcases hp with rfl
    · exact patinalaw02_RsNear_l0_ok k
  · intro v m' hp
    unfold patinalaw02_RsNear_dec at hp
    split at hp
    · simp only [Option.some.injEq] at hp; subst hp; exact ⟨rfl, rfl⟩
    · cases hp

def patinalaw02_RsNear_arm {R : Type} (k : Nat) : Arm R := fun vs m K => match vs with
  | [.slice p0a p0n p0c, .slice p1a p1n p1c] => (patinalaw02_RsNear k p0a p0n p0c p1a p1n p1c m).bind fun r => K (Value.bool r.1) r.2
  | _ => none

theorem patinalaw02_RsNear_armOk {R : Type} (k : Nat) : ArmOk Try.prog 3 (patinalaw02_RsNear_arm (R := R) k) := by
  intro vs m K r h
  unfold patinalaw02_RsNear_arm at h
  split at h
  · obtain ⟨r, h1, h2⟩ := Option.bind_eq_some_iff.1 h; exact ⟨_, _, h2, fun K' => by simp only [patinalaw02_RsNear_arm, h1, Option.bind_some], patinalaw02_RsNear_ok h1⟩
  · cases h

end Go.Proofs.Ytoljgolgecbcdab
