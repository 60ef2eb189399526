/- The program's functions as plain Lean functions over a clean memory, each held against the program by the kernel. Written by mx.py. -/
import Derived.Test.YtnilidpafijdlacF0
import Derived.Test.YtnilidpafijdlacFpatinalaw12
import Derived.Test.YtnilidpafijdlacFpatinaref12
import Derived.Test.YtnilidpafijdlacFpmap
set_option linter.unusedVariables false
set_option maxRecDepth 100000
namespace Go.Proofs.Ytnilidpafijdlac
open Go.Mx

/-! ### patinalaw12_PmapPlays -/
def patinalaw12_PmapPlays_l0_b (k : Nat) (nx : Option Addr → Nat → Nat → Option Addr → Option Addr → Int → Mem → Option (Bool × Mem)) (kx0 : Bool → Mem → Option (Bool × Mem)) (kx2 : Option Addr → Option Addr → Mem → Option (Bool × Mem)) (x0a : Option Addr) (x0n : Nat) (x0c : Nat) (x4 : Option Addr) (x5 : Option Addr) (x6 : Int) (m : Mem) : Option (Bool × Mem) :=
  bif decide (x6 < ((x0n : Nat) : Int)) then (
  bif inRange x6 x0n then (
  (x0a).bind fun a4 =>
  (ldCells m (plus a4 (Int.toNat x6 * 3)) 3).bind fun t5 =>
  (patinalaw12_step k x4 x5 t5 m).bind fun r6 =>
  bif !r6.1 then (
  kx0 false r6.2) else (
  nx x0a x0n x0c x4 x5 (IntKind.wrap .i64 (x6 + 1)) r6.2)) else none) else (
  kx2 x4 x5 m)

def patinalaw12_PmapPlays_l0 (k : Nat) (kx0 : Bool → Mem → Option (Bool × Mem)) (kx2 : Option Addr → Option Addr → Mem → Option (Bool × Mem)) : Nat → Option Addr → Nat → Nat → Option Addr → Option Addr → Int → Mem → Option (Bool × Mem)
  | 0, _, _, _, _, _, _, _ => none
  | n + 1, x0a, x0n, x0c, x4, x5, x6, m => patinalaw12_PmapPlays_l0_b k (fun x0a x0n x0c x4 x5 x6 m => patinalaw12_PmapPlays_l0 k kx0 kx2 n x0a x0n x0c x4 x5 x6 m) kx0 kx2 x0a x0n x0c x4 x5 x6 m

theorem patinalaw12_PmapPlays_l0_rule (k : Nat) (kx0 : Bool → Mem → Option (Bool × Mem)) (kx2 : Option Addr → Option Addr → Mem → Option (Bool × Mem)) {P : (Bool × Mem) → Prop} (I : Nat → Option Addr → Nat → Nat → Option Addr → Option Addr → Int → Mem → Prop)
    (step : ∀ d (nx : Option Addr → Nat → Nat → Option Addr → Option Addr → Int → Mem → Option (Bool × Mem)) (x0a : Option Addr) (x0n : Nat) (x0c : Nat) (x4 : Option Addr) (x5 : Option Addr) (x6 : Int) (m : Mem), I d x0a x0n x0c x4 x5 x6 m → (∀ d' (x0a : Option Addr) (x0n : Nat) (x0c : Nat) (x4 : Option Addr) (x5 : Option Addr) (x6 : Int) (m : Mem), d' < d → I d' x0a x0n x0c x4 x5 x6 m → Ok (nx x0a x0n x0c x4 x5 x6 m) P) → Ok (patinalaw12_PmapPlays_l0_b k nx kx0 kx2 x0a x0n x0c x4 x5 x6 m) P) :
    ∀ n d (x0a : Option Addr) (x0n : Nat) (x0c : Nat) (x4 : Option Addr) (x5 : Option Addr) (x6 : Int) (m : Mem), d < n → I d x0a x0n x0c x4 x5 x6 m → Ok (patinalaw12_PmapPlays_l0 k kx0 kx2 n x0a x0n x0c x4 x5 x6 m) P
  | 0, d, x0a, x0n, x0c, x4, x5, x6, m, h, _ => absurd h (Nat.not_lt_zero _)
  | n + 1, d, x0a, x0n, x0c, x4, x5, x6, m, h, hI => step d _ x0a x0n x0c x4 x5 x6 m hI fun d' x0a x0n x0c x4 x5 x6 m h' hI' => patinalaw12_PmapPlays_l0_rule k kx0 kx2 I step n d' x0a x0n x0c x4 x5 x6 m (by omega) hI'

def patinalaw12_PmapPlays (k : Nat) (p0a : Option Addr) (p0n : Nat) (p0c : Nat) (m : Mem) : Option (Bool × Mem) :=
  (patinalaw12_up k  m).bind fun r1 =>
  (pmap_New k  r1.2).bind fun r2 =>
  (patinaref12_New k  r2.2).bind fun r3 =>
  bif !r1.1 then (
  some (false, r3.2)) else (
  bif Option.isNone r2.1 then (
  some (false, r3.2)) else (
  patinalaw12_PmapPlays_l0 k (fun y2 m7 => 
  some (y2, m7)) (fun y4 y5 m8 => 
  (patinalaw12_stands k y4 y5 m8).bind fun r9 =>
  some (r9.1, r9.2)) k p0a p0n p0c r2.1 r3.1 0 r3.2))

def patinalaw12_PmapPlays_call {R : Type} (k : Nat) : Fun R := fun f args m K => match f, args with
  | 31, [] => (patinalaw12_up k  m).bind fun r => K (Value.bool r.1) r.2
  | 32, [] => (pmap_New k  m).bind fun r => K (Value.pointer r.1) r.2
  | 33, [] => (patinaref12_New k  m).bind fun r => K (Value.pointer r.1) r.2
  | 34, [.pointer p0, .pointer p1, .agg ⟨p2⟩] => (patinalaw12_step k p0 p1 p2 m).bind fun r => K (Value.bool r.1) r.2
  | 35, [.pointer p0, .pointer p1] => (patinalaw12_stands k p0 p1 m).bind fun r => K (Value.bool r.1) r.2
  | _, _ => none

theorem patinalaw12_PmapPlays_callOk {R : Type} (k : Nat) : CallOk Try.prog (patinalaw12_PmapPlays_call (R := R) k) := by
  intro f vs m K r h
  unfold patinalaw12_PmapPlays_call at h
  split at h
  · obtain ⟨r, h1, h2⟩ := Option.bind_eq_some_iff.1 h; exact ⟨_, _, h2, fun K' => by simp only [patinalaw12_PmapPlays_call, h1, Option.bind_some], patinalaw12_up_ok h1⟩
  · obtain ⟨r, h1, h2⟩ := Option.bind_eq_some_iff.1 h; exact ⟨_, _, h2, fun K' => by simp only [patinalaw12_PmapPlays_call, h1, Option.bind_some], pmap_New_ok h1⟩
  · obtain ⟨r, h1, h2⟩ := Option.bind_eq_some_iff.1 h; exact ⟨_, _, h2, fun K' => by simp only [patinalaw12_PmapPlays_call, h1, Option.bind_some], patinaref12_New_ok h1⟩
  · obtain ⟨r, h1, h2⟩ := Option.bind_eq_some_iff.1 h; exact ⟨_, _, h2, fun K' => by simp only [patinalaw12_PmapPlays_call, h1, Option.bind_some], patinalaw12_step_ok h1⟩
  · obtain ⟨r, h1, h2⟩ := Option.bind_eq_some_iff.1 h; exact ⟨_, _, h2, fun K' => by simp only [patinalaw12_PmapPlays_call, h1, Option.bind_some], patinalaw12_stands_ok h1⟩
  · cases h

def patinalaw12_PmapPlays_l0_L (k : Nat) (K : Nat → List Value → Mem → Option (Bool × Mem)) (n : Nat) (vs : List Value) (m : Mem) : Option (Bool × Mem) := match vs with
  | [.slice x0a x0n x0c, .pointer x4, .pointer x5, .int .i64 x6] => patinalaw12_PmapPlays_l0 k (fun y2 m => K 0 [(Value.bool y2)] m) (fun y4 y5 m => K 2 [(Value.pointer y4), (Value.pointer y5)] m) n x0a x0n x0c x4 x5 x6 m
  | _ => none

def patinalaw12_PmapPlays_loop (k : Nat) : Nat → List Value → Mem → (Nat → List Value → Mem → Option (Bool × Mem)) → Option (Bool × Mem) := fun cur vs m K => match cur with
  | 0 => patinalaw12_PmapPlays_l0_L k K k vs m
  | _ => none

def patinalaw12_PmapPlays_C (k : Nat) : Ctx (Bool × Mem) := ⟨tt, patinalaw12_PmapPlays_call k, patinalaw12_PmapPlays_loop k, [(0, [0, 4, 5, 6])], [(0, [2]), (2, [4, 5])]⟩

noncomputable def patinalaw12_PmapPlays_l0_c : Code := ((loopsOf 0 (body Try.f7)).map (·.2)).getD 0 .skip

theorem patinalaw12_PmapPlays_loops : loopsOf 0 (body Try.f7) = [(0, patinalaw12_PmapPlays_l0_c)] := by kernel_rfl

theorem patinalaw12_PmapPlays_l0_ok (k : Nat) : LoopOk (patinalaw12_PmapPlays_C k) 0 patinalaw12_PmapPlays_l0_c := by
  refine ⟨[0, 4, 5, 6], by kernel_rfl, fun K r => ⟨patinalaw12_PmapPlays_l0_L k K, fun vs m h => ⟨k, h⟩, ?_⟩⟩
  intro n vs m h
  unfold patinalaw12_PmapPlays_l0_L at h
  split at h
  · cases n with
    | zero => cases h
    | succ n => exact ⟨n, rfl, Eq.trans (by kernel_rfl) h⟩
  · cases h

def patinalaw12_PmapPlays_dec : Value → Mem → Option (Bool × Mem) := fun v m => match v with
  | .bool q0 => some (q0, m)
  | _ => none

theorem patinalaw12_PmapPlays_eq (k : Nat) (p0a : Option Addr) (p0n : Nat) (p0c : Nat) (m : Mem) : fnX (patinalaw12_PmapPlays_C k) Try.f7 [(Value.slice p0a p0n p0c)] m patinalaw12_PmapPlays_dec = patinalaw12_PmapPlays k p0a p0n p0c m := by kernel_rfl

theorem patinalaw12_PmapPlays_ok {k : Nat} {p0a : Option Addr} {p0n : Nat} {p0c : Nat} {m : Mem} {r : (Bool × Mem)} (h : patinalaw12_PmapPlays k p0a p0n p0c m = some r) : CallP Try.prog 7 [(Value.slice p0a p0n p0c)] m fun v m' => v = (Value.bool r.1) ∧ m' = r.2 := by
  refine (fn_sound (C := patinalaw12_PmapPlays_C k) (c := body Try.f7) tOk mixed (patinalaw12_PmapPlays_callOk k) Try.func7 (by kernel_rfl) (by kernel_rfl) (by kernel_rfl) (by kernel_rfl) ?_ (Eq.trans (patinalaw12_PmapPlays_eq k p0a p0n p0c m) h)).mono ?_
  · intro p hp
    rw [patinalaw12_PmapPlays_loops] at hp
    simp only [List.mem_cons, List.not_mem_nil, or_false] at hp
    rcases hp with rfl
    · exact patinalaw12_PmapPlays_l0_ok k
  · intro v m' hp
    unfold patinalaw12_PmapPlays_dec at hp
    split at hp
    · simp only [Option.some.injEq] at hp; subst hp; exact ⟨rfl, rfl⟩
    · cases hp

end Go.Proofs.Ytnilidpafijdlac
