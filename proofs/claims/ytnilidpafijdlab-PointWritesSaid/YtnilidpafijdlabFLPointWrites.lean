/- The program's functions as plain Lean functions over a clean memory, each held against the program by the kernel. Written by mx.py. -/
import Derived.Test.YtnilidpafijdlabF0
import Derived.Test.YtnilidpafijdlabFpatinalaw00
import Derived.Test.YtnilidpafijdlabFpatinalaw09
import Derived.Test.YtnilidpafijdlabFpatinaref09
import Derived.Test.YtnilidpafijdlabFpoint
set_option linter.unusedVariables false
set_option maxRecDepth 100000
namespace Go.Proofs.Ytnilidpafijdlab
open Go.Mx

/-! ### patinalaw09_PointWrites -/
def patinalaw09_PointWrites_l0_b (k : Nat) (nx : Addr → Bool → Option Addr → Nat → Nat → Option Addr → Nat → Nat → Int → Int → Mem → Option (Bool × Mem)) (kx2 : Addr → Bool → Option Addr → Nat → Nat → Int → Mem → Option (Bool × Mem)) (x1 : Addr) (x3 : Bool) (x4a : Option Addr) (x4n : Nat) (x4c : Nat) (x6a : Option Addr) (x6n : Nat) (x6c : Nat) (x7 : Int) (x9 : Int) (m : Mem) : Option (Bool × Mem) :=
  bif decide (x9 < ((x4n : Nat) : Int)) then (
  bif inRange x9 x4n then (
  (x4a).bind fun a9 =>
  (st m (plus a9 (Int.toNat x9 * 1)) (Value.int .u8 165)).bind fun m10 =>
  nx x1 x3 x4a x4n x4c x6a x6n x6c x7 (IntKind.wrap .i64 (x9 + 1)) m10) else none) else (
  kx2 x1 x3 x6a x6n x6c x7 m)

def patinalaw09_PointWrites_l0 (k : Nat) (kx2 : Addr → Bool → Option Addr → Nat → Nat → Int → Mem → Option (Bool × Mem)) : Nat → Addr → Bool → Option Addr → Nat → Nat → Option Addr → Nat → Nat → Int → Int → Mem → Option (Bool × Mem)
  | 0, _, _, _, _, _, _, _, _, _, _, _ => none
  | n + 1, x1, x3, x4a, x4n, x4c, x6a, x6n, x6c, x7, x9, m => patinalaw09_PointWrites_l0_b k (fun x1 x3 x4a x4n x4c x6a x6n x6c x7 x9 m => patinalaw09_PointWrites_l0 k kx2 n x1 x3 x4a x4n x4c x6a x6n x6c x7 x9 m) kx2 x1 x3 x4a x4n x4c x6a x6n x6c x7 x9 m

theorem patinalaw09_PointWrites_l0_rule (k : Nat) (kx2 : Addr → Bool → Option Addr → Nat → Nat → Int → Mem → Option (Bool × Mem)) {P : (Bool × Mem) → Prop} (I : Nat → Addr → Bool → Option Addr → Nat → Nat → Option Addr → Nat → Nat → Int → Int → Mem → Prop)
    (step : ∀ d (nx : Addr → Bool → Option Addr → Nat → Nat → Option Addr → Nat → Nat → Int → Int → Mem → Option (Bool × Mem)) (x1 : Addr) (x3 : Bool) (x4a : Option Addr) (x4n : Nat) (x4c : Nat) (x6a : Option Addr) (x6n : Nat) (x6c : Nat) (x7 : Int) (x9 : Int) (m : Mem), I d x1 x3 x4a x4n x4c x6a x6n x6c x7 x9 m → (∀ d' (x1 : Addr) (x3 : Bool) (x4a : Option Addr) (x4n : Nat) (x4c : Nat) (x6a : Option Addr) (x6n : Nat) (x6c : Nat) (x7 : Int) (x9 : Int) (m : Mem), d' < d → I d' x1 x3 x4a x4n x4c x6a x6n x6c x7 x9 m → Ok (nx x1 x3 x4a x4n x4c x6a x6n x6c x7 x9 m) P) → Ok (patinalaw09_PointWrites_l0_b k nx kx2 x1 x3 x4a x4n x4c x6a x6n x6c x7 x9 m) P) :
    ∀ n d (x1 : Addr) (x3 : Bool) (x4a : Option Addr) (x4n : Nat) (x4c : Nat) (x6a : Option Addr) (x6n : Nat) (x6c : Nat) (x7 : Int) (x9 : Int) (m : Mem), d < n → I d x1 x3 x4a x4n x4c x6a x6n x6c x7 x9 m → Ok (patinalaw09_PointWrites_l0 k kx2 n x1 x3 x4a x4n x4c x6a x6n x6c x7 x9 m) P
  | 0, d, x1, x3, x4a, x4n, x4c, x6a, x6n, x6c, x7, x9, m, h, _ => absurd h (Nat.not_lt_zero _)
  | n + 1, d, x1, x3, x4a, x4n, x4c, x6a, x6n, x6c, x7, x9, m, h, hI => step d _ x1 x3 x4a x4n x4c x6a x6n x6c x7 x9 m hI fun d' x1 x3 x4a x4n x4c x6a x6n x6c x7 x9 m h' hI' => patinalaw09_PointWrites_l0_rule k kx2 I step n d' x1 x3 x4a x4n x4c x6a x6n x6c x7 x9 m (by omega) hI'

def patinalaw09_PointWrites (k : Nat) (p0 : List Value) (m : Mem) : Option (Bool × Mem) :=
  bif Nat.beq (List.length p0) 62 then (
  let m1 : Mem := m ++ [.live p0]
  (patinalaw09_up k  m1).bind fun r2 =>
  (ldCells r2.2 ⟨List.length m, 0, Option.none⟩ 62).bind fun t3 =>
  (point_Write k t3 r2.2).bind fun r4 =>
  (ldCells r4.2.2 ⟨List.length m, 0, Option.none⟩ 62).bind fun t5 =>
  (patinaref09_Write k t5 r4.2.2).bind fun r6 =>
  (patinaref09_Same k r4.1.a r4.1.len r4.1.cap r6.1.a r6.1.len r6.1.cap r6.2.2).bind fun r7 =>
  bif !r7.1 then (
  some (false, r7.2)) else (
  (patinalaw00_Code k r4.2.1 r7.2).bind fun r8 =>
  bif r8.1 != r6.2.1 then (
  some (false, r8.2)) else (
  patinalaw09_PointWrites_l0 k (fun y1 y3 y6a y6n y6c y7 m11 => 
  (ldCells m11 y1 62).bind fun t12 =>
  (point_Write k t12 m11).bind fun r13 =>
  (patinaref09_Same k r13.1.a r13.1.len r13.1.cap y6a y6n y6c r13.2.2).bind fun r14 =>
  bif y3 then (
  bif r14.1 then (
  (patinalaw00_Code k r13.2.1 r14.2).bind fun r15 =>
  some (r15.1 == y7, r15.2)) else (
  some (false, r14.2))) else (
  some (false, r14.2))) k ⟨List.length m, 0, Option.none⟩ r2.1 r4.1.a r4.1.len r4.1.cap r6.1.a r6.1.len r6.1.cap r6.2.1 0 r8.2))) else none

def patinalaw09_PointWrites_call {R : Type} (k : Nat) : Fun R := callCons 9 (patinalaw09_up_arm k) (callCons 10 (point_Write_arm k) (callCons 11 (patinaref09_Write_arm k) (callCons 12 (patinaref09_Same_arm k) (callCons 13 (patinalaw00_Code_arm k) (callNil)))))

theorem patinalaw09_PointWrites_callOk {R : Type} (k : Nat) : CallOk Try.prog (patinalaw09_PointWrites_call (R := R) k) := callOk_cons (patinalaw09_up_armOk k) (callOk_cons (point_Write_armOk k) (callOk_cons (patinaref09_Write_armOk k) (callOk_cons (patinaref09_Same_armOk k) (callOk_cons (patinalaw00_Code_armOk k) (callOk_nil)))))

def patinalaw09_PointWrites_l0_L (k : Nat) (K : Nat → List Value → Mem → Option (Bool × Mem)) (n : Nat) (vs : List Value) (m : Mem) : Option (Bool × Mem) := match vs with
  | [.pointer (some x1), .bool x3, .slice x4a x4n x4c, .slice x6a x6n x6c, .int .i64 x7, .int .i64 x9] => patinalaw09_PointWrites_l0 k (fun y1 y3 y6a y6n y6c y7 m => K 2 [(Value.pointer (some y1)), (Value.bool y3), (Value.slice y6a y6n y6c), (Value.int .i64 y7)] m) n x1 x3 x4a x4n x4c x6a x6n x6c x7 x9 m
  | _ => none

def patinalaw09_PointWrites_loop (k : Nat) : Nat → List Value → Mem → (Nat → List Value → Mem → Option (Bool × Mem)) → Option (Bool × Mem) := fun cur vs m K => match cur with
  | 0 => patinalaw09_PointWrites_l0_L k K k vs m
  | _ => none

def patinalaw09_PointWrites_C (k : Nat) : Ctx (Bool × Mem) := ⟨tt, patinalaw09_PointWrites_call k, patinalaw09_PointWrites_loop k, [(0, [1, 3, 4, 6, 7, 9])], [(2, [1, 3, 6, 7])]⟩

noncomputable def patinalaw09_PointWrites_l0_c : Code := ((loopsOf 0 (body Try.f3)).map (·.2)).getD 0 .skip

theorem patinalaw09_PointWrites_loops : loopsOf 0 (body Try.f3) = [(0, patinalaw09_PointWrites_l0_c)] := by kernel_rfl

theorem patinalaw09_PointWrites_l0_ok (k : Nat) : LoopOk (patinalaw09_PointWrites_C k) 0 patinalaw09_PointWrites_l0_c := by
  refine ⟨[1, 3, 4, 6, 7, 9], by kernel_rfl, fun K r => ⟨patinalaw09_PointWrites_l0_L k K, fun vs m h => ⟨k, h⟩, ?_⟩⟩
  intro n vs m h
  unfold patinalaw09_PointWrites_l0_L at h
  split at h
  · cases n with
    | zero => cases h
    | succ n => exact ⟨n, rfl, Eq.trans (by kernel_rfl) h⟩
  · cases h

def patinalaw09_PointWrites_dec : Value → Mem → Option (Bool × Mem) := fun v m => match v with
  | .bool q0 => some (q0, m)
  | _ => none

theorem patinalaw09_PointWrites_eq (k : Nat) (p0 : List Value) (m : Mem) : fnX (patinalaw09_PointWrites_C k) Try.f3 [(Value.agg ⟨p0⟩)] m patinalaw09_PointWrites_dec = patinalaw09_PointWrites k p0 m := by kernel_rfl

theorem patinalaw09_PointWrites_ok {k : Nat} {p0 : List Value} {m : Mem} {r : (Bool × Mem)} (h : patinalaw09_PointWrites k p0 m = some r) : CallP Try.prog 3 [(Value.agg ⟨p0⟩)] m fun v m' => v = (Value.bool r.1) ∧ m' = r.2 := by
  refine (fn_sound (C := patinalaw09_PointWrites_C k) (c := body Try.f3) tOk mixed (patinalaw09_PointWrites_callOk k) Try.func3 (by kernel_rfl) (by kernel_rfl) (by kernel_rfl) (by kernel_rfl) ?_ (Eq.trans (patinalaw09_PointWrites_eq k p0 m) h)).mono ?_
  · intro p hp
    rw [patinalaw09_PointWrites_loops] at hp
    simp only [List.mem_cons, List.not_mem_nil, or_false] at hp
    rcases hp with rfl
    · exact patinalaw09_PointWrites_l0_ok k
  · intro v m' hp
    unfold patinalaw09_PointWrites_dec at hp
    split at hp
    · simp only [Option.some.injEq] at hp; subst hp; exact ⟨rfl, rfl⟩
    · cases hp

def patinalaw09_PointWrites_arm {R : Type} (k : Nat) : Arm R := fun vs m K => match vs with
  | [.agg ⟨p0⟩] => (patinalaw09_PointWrites k p0 m).bind fun r => K (Value.bool r.1) r.2
  | _ => none

theorem patinalaw09_PointWrites_armOk {R : Type} (k : Nat) : ArmOk Try.prog 3 (patinalaw09_PointWrites_arm (R := R) k) := by
  intro vs m K r h
  unfold patinalaw09_PointWrites_arm at h
  split at h
  · obtain ⟨r, h1, h2⟩ := Option.bind_eq_some_iff.1 h; exact ⟨_, _, h2, fun K' => by simp only [patinalaw09_PointWrites_arm, h1, Option.bind_some], patinalaw09_PointWrites_ok h1⟩
  · cases h

end Go.Proofs.Ytnilidpafijdlab
