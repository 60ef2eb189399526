/- The program's functions as plain Lean functions over a clean memory, each held against the program by the kernel. Written by mx.py. -/
import Derived.Test.YtchonnaoojpdoaaF0
import Derived.Test.YtchonnaoojpdoaaFbytes
import Derived.Test.YtchonnaoojpdoaaFframe
import Derived.Test.YtchonnaoojpdoaaFnand
import Derived.Test.YtchonnaoojpdoaaFsyncatomic
import Derived.Test.YtchonnaoojpdoaaFtag
set_option linter.unusedVariables false
set_option maxRecDepth 100000
namespace Go.Proofs.Ytchonnaoojpdoaa
open Go.Mx

/-! ### media_Media_Read -/
def media_Media_Read_j1 (k : Nat) (x0 : Option Addr) (x1 : Int) (x4 : Addr) (x6a : Option Addr) (x6n : Nat) (x6c : Nat) (x8 : Addr) (x36 : Int) (nx : Option Addr → Int → Addr → Option Addr → Nat → Nat → Addr → Int → Mem → Option ((List Value) × Value × Mem)) (mj : Mem) : Option ((List Value) × Value × Mem) :=
  nx x0 x1 x4 x6a x6n x6c x8 (IntKind.wrap .i64 (x36 + 1)) mj

def media_Media_Read_l0_b (k : Nat) (nx : Option Addr → Int → Addr → Option Addr → Nat → Nat → Addr → Int → Mem → Option ((List Value) × Value × Mem)) (kx2 : Option Addr → Int → Addr → Option Addr → Nat → Nat → Addr → Mem → Option ((List Value) × Value × Mem)) (x0 : Option Addr) (x1 : Int) (x4 : Addr) (x6a : Option Addr) (x6n : Nat) (x6c : Nat) (x8 : Addr) (x36 : Int) (m : Mem) : Option ((List Value) × Value × Mem) :=
  bif decide (x36 < 4) then (
  (x0).bind fun a11 =>
  (ldPtr m (plus a11 1)).bind fun t12 =>
  (frame_Frame_Message k t12 x6a x6n x6c x36 m).bind fun r13 =>
  (isNil r13.2.2.1).bind fun b14 =>
  bif b14 then (
  (ldInt .i64 r13.2.2.2 (plus x8 8)).bind fun t15 =>
  (st r13.2.2.2 (plus x8 8) (Value.int .i64 (maxI t15 r13.2.1))).bind fun m16 =>
  media_Media_Read_j1 k x0 x1 x4 x6a x6n x6c x8 x36 nx m16) else (
  media_Media_Read_j1 k x0 x1 x4 x6a x6n x6c x8 x36 nx r13.2.2.2)) else (
  kx2 x0 x1 x4 x6a x6n x6c x8 m)

def media_Media_Read_l0 (k : Nat) (kx2 : Option Addr → Int → Addr → Option Addr → Nat → Nat → Addr → Mem → Option ((List Value) × Value × Mem)) : Nat → Option Addr → Int → Addr → Option Addr → Nat → Nat → Addr → Int → Mem → Option ((List Value) × Value × Mem)
  | 0, _, _, _, _, _, _, _, _, _ => none
  | n + 1, x0, x1, x4, x6a, x6n, x6c, x8, x36, m => media_Media_Read_l0_b k (fun x0 x1 x4 x6a x6n x6c x8 x36 m => media_Media_Read_l0 k kx2 n x0 x1 x4 x6a x6n x6c x8 x36 m) kx2 x0 x1 x4 x6a x6n x6c x8 x36 m
termination_by structural x => x

theorem media_Media_Read_l0_rule (k : Nat) (kx2 : Option Addr → Int → Addr → Option Addr → Nat → Nat → Addr → Mem → Option ((List Value) × Value × Mem)) {P : ((List Value) × Value × Mem) → Prop} (I : Nat → Option Addr → Int → Addr → Option Addr → Nat → Nat → Addr → Int → Mem → Prop)
    (step : ∀ d (nx : Option Addr → Int → Addr → Option Addr → Nat → Nat → Addr → Int → Mem → Option ((List Value) × Value × Mem)) (x0 : Option Addr) (x1 : Int) (x4 : Addr) (x6a : Option Addr) (x6n : Nat) (x6c : Nat) (x8 : Addr) (x36 : Int) (m : Mem), I d x0 x1 x4 x6a x6n x6c x8 x36 m → (∀ d' (x0 : Option Addr) (x1 : Int) (x4 : Addr) (x6a : Option Addr) (x6n : Nat) (x6c : Nat) (x8 : Addr) (x36 : Int) (m : Mem), d' < d → I d' x0 x1 x4 x6a x6n x6c x8 x36 m → Ok (nx x0 x1 x4 x6a x6n x6c x8 x36 m) P) → Ok (media_Media_Read_l0_b k nx kx2 x0 x1 x4 x6a x6n x6c x8 x36 m) P) :
    ∀ n d (x0 : Option Addr) (x1 : Int) (x4 : Addr) (x6a : Option Addr) (x6n : Nat) (x6c : Nat) (x8 : Addr) (x36 : Int) (m : Mem), d < n → I d x0 x1 x4 x6a x6n x6c x8 x36 m → Ok (media_Media_Read_l0 k kx2 n x0 x1 x4 x6a x6n x6c x8 x36 m) P
  | 0, d, x0, x1, x4, x6a, x6n, x6c, x8, x36, m, h, _ => absurd h (Nat.not_lt_zero _)
  | n + 1, d, x0, x1, x4, x6a, x6n, x6c, x8, x36, m, h, hI => step d _ x0 x1 x4 x6a x6n x6c x8 x36 m hI fun d' x0 x1 x4 x6a x6n x6c x8 x36 m h' hI' => media_Media_Read_l0_rule k kx2 I step n d' x0 x1 x4 x6a x6n x6c x8 x36 m (by omega) hI'

def media_Media_Read_j2 (k : Nat) (y4 : Addr) (y8 : Addr) (mj : Mem) : Option ((List Value) × Value × Mem) :=
  (ldCells mj y8 9).bind fun t40 =>
  bif Nat.beq (List.length t40) 9 then (
  (stCells mj y4 t40).bind fun m41 =>
  (ldCells m41 y4 9).bind fun t42 =>
  some (t42, Value.nilIface, m41)) else none

def media_Media_Read (k : Nat) (p0 : Option Addr) (p1 : Int) (m : Mem) : Option ((List Value) × Value × Mem) :=
  let m1 : Mem := m ++ [.live [.bool false, .int .i64 0, .int .i64 0, .int .i64 0, .int .i64 0, .bool false, .bool false, .slice none 0 0, .int .i64 0]]
  (p0).bind fun a2 =>
  (ldPtr m1 (plus a2 0)).bind fun t3 =>
  (nand_Chip_Read k t3 p1 m1).bind fun r4 =>
  (isNil r4.2.1).bind fun b5 =>
  bif !b5 then (
  (stCells r4.2.2 ⟨List.length m, 0, Option.none⟩ [.bool false, .int .i64 0, .int .i64 0, .int .i64 0, .int .i64 0, .bool false, .bool false, .slice none 0 0, .int .i64 0]).bind fun m6 =>
  (ldCells m6 ⟨List.length m, 0, Option.none⟩ 9).bind fun t7 =>
  some (t7, r4.2.1, m6)) else (
  (p0).bind fun a8 =>
  (sync_atomic_Int64_Add k (some (plus a8 2)) 1 r4.2.2).bind fun r9 =>
  let m10 : Mem := r9.2 ++ [.live [.bool false, .int .i64 0, .int .i64 0, .int .i64 0, .int .i64 0, .bool false, .bool false, .slice none 0 0, .int .i64 0]]
  media_Media_Read_l0 k (fun y0 y1 y4 y6a y6n y6c y8 m17 => 
  (y0).bind fun a18 =>
  (ldPtr m17 (plus a18 1)).bind fun t19 =>
  (frame_Frame_Body k t19 y6a y6n y6c m17).bind fun r20 =>
  (isNil r20.2.2.1).bind fun b21 =>
  bif !b21 then (
  (ldCells r20.2.2.2 y8 9).bind fun t22 =>
  bif Nat.beq (List.length t22) 9 then (
  (stCells r20.2.2.2 y4 t22).bind fun m23 =>
  (ldCells m23 y4 9).bind fun t24 =>
  some (t24, Value.nilIface, m23)) else none) else (
  (tag_Decode k r20.1.a r20.1.len r20.1.cap r20.2.2.2).bind fun r25 =>
  let m26 : Mem := r25.2.2 ++ [.live [.int .i64 0, .int .i64 0, .int .i64 0, .int .i64 0, .bool false]]
  bif Nat.beq (List.length r25.1) 5 then (
  (stCells m26 ⟨List.length r25.2.2, 0, Option.none⟩ r25.1).bind fun m27 =>
  (isNil r25.2.1).bind fun b28 =>
  bif !b28 then (
  (ldCells m27 y8 9).bind fun t29 =>
  bif Nat.beq (List.length t29) 9 then (
  (stCells m27 y4 t29).bind fun m30 =>
  (ldCells m30 y4 9).bind fun t31 =>
  some (t31, Value.nilIface, m30)) else none) else (
  (ldInt .i64 m27 (plus ⟨List.length r25.2.2, 0, Option.none⟩ 0)).bind fun t32 =>
  bif t32 != y1 then (
  (ldCells m27 y8 9).bind fun t33 =>
  bif Nat.beq (List.length t33) 9 then (
  (stCells m27 y4 t33).bind fun m34 =>
  (ldCells m34 y4 9).bind fun t35 =>
  some (t35, Value.nilIface, m34)) else none) else (
  (ldCells m27 ⟨List.length r25.2.2, 0, Option.none⟩ 5).bind fun t36 =>
  (st m27 (plus y8 0) (Value.bool true)).bind fun m37 =>
  bif Nat.beq (List.length t36) 5 then (
  (stCells m37 (plus y8 1) t36).bind fun m38 =>
  (ldCells m37 ⟨List.length r25.2.2, 0, Option.none⟩ 5).bind fun t39 =>
  bif veqs t39 t36 then (
  (y0).bind fun a43 =>
  (ldPtr m38 (plus a43 1)).bind fun t44 =>
  (frame_Frame_Data k t44 y6a y6n y6c m38).bind fun r45 =>
  (isNil r45.2.2.1).bind fun b46 =>
  bif b46 then (
  (st r45.2.2.2 (plus y8 6) (Value.bool true)).bind fun m47 =>
  (st m47 (plus y8 7) (Value.slice r45.1.a r45.1.len r45.1.cap)).bind fun m48 =>
  media_Media_Read_j2 k y4 y8 m48) else (
  media_Media_Read_j2 k y4 y8 r45.2.2.2)) else none) else none))) else none)) k p0 p1 ⟨List.length m, 0, Option.none⟩ r4.1.a r4.1.len r4.1.cap ⟨List.length r9.2, 0, Option.none⟩ 0 m10)

def media_Media_Read_call {R : Type} (k : Nat) : Fun R := callCons 27 (nand_Chip_Read_arm k) (callCons 28 (sync_atomic_Int64_Add_arm k) (callCons 29 (frame_Frame_Message_arm k) (callCons 30 (frame_Frame_Body_arm k) (callCons 31 (tag_Decode_arm k) (callCons 32 (frame_Frame_Data_arm k) (callNil))))))

theorem media_Media_Read_callOk {R : Type} (k : Nat) : CallOk Try.prog (media_Media_Read_call (R := R) k) := callOk_cons (nand_Chip_Read_armOk k) (callOk_cons (sync_atomic_Int64_Add_armOk k) (callOk_cons (frame_Frame_Message_armOk k) (callOk_cons (frame_Frame_Body_armOk k) (callOk_cons (tag_Decode_armOk k) (callOk_cons (frame_Frame_Data_armOk k) (callOk_nil))))))

def media_Media_Read_l0_L (k : Nat) (K : Nat → List Value → Mem → Option ((List Value) × Value × Mem)) (n : Nat) (vs : List Value) (m : Mem) : Option ((List Value) × Value × Mem) := match vs with
  | [.pointer x0, .int .i64 x1, .pointer (some x4), .slice x6a x6n x6c, .pointer (some x8), .int .i64 x36] => media_Media_Read_l0 k (fun y0 y1 y4 y6a y6n y6c y8 m => K 2 [(Value.pointer y0), (Value.int .i64 y1), (Value.pointer (some y4)), (Value.slice y6a y6n y6c), (Value.pointer (some y8))] m) n x0 x1 x4 x6a x6n x6c x8 x36 m
  | _ => none

def media_Media_Read_loop (k : Nat) : Nat → List Value → Mem → (Nat → List Value → Mem → Option ((List Value) × Value × Mem)) → Option ((List Value) × Value × Mem) := fun cur vs m K => match cur with
  | 0 => media_Media_Read_l0_L k K k vs m
  | _ => none

def media_Media_Read_C (k : Nat) : Ctx ((List Value) × Value × Mem) := ⟨tt, media_Media_Read_call k, media_Media_Read_loop k, [(0, [0, 1, 4, 6, 8, 36])], [(2, [0, 1, 4, 6, 8])]⟩

noncomputable def media_Media_Read_l0_c : Code := ((loopsOf 0 (body Try.f12)).map (·.2)).getD 0 .skip

theorem media_Media_Read_loops : loopsOf 0 (body Try.f12) = [(0, media_Media_Read_l0_c)] := by kernel_rfl

theorem media_Media_Read_l0_ok (k : Nat) : LoopOk (media_Media_Read_C k) 0 media_Media_Read_l0_c := by
  refine ⟨[0, 1, 4, 6, 8, 36], by kernel_rfl, fun K r => ⟨media_Media_Read_l0_L k K, fun vs m h => ⟨k, h⟩, ?_⟩⟩
  intro n vs m h
  unfold media_Media_Read_l0_L at h
  split at h
  · cases n with
    | zero => cases h
    | succ n => exact ⟨n, rfl, Eq.trans (by kernel_rfl) h⟩
  · cases h

def media_Media_Read_dec : Value → Mem → Option ((List Value) × Value × Mem) := fun v m => match v with
  | .tuple ⟨[.agg ⟨q0⟩, q1]⟩ => some (q0, q1, m)
  | _ => none

theorem media_Media_Read_eq (k : Nat) (p0 : Option Addr) (p1 : Int) (m : Mem) : fnX (media_Media_Read_C k) Try.f12 [(Value.pointer p0), (Value.int .i64 p1)] m media_Media_Read_dec = media_Media_Read k p0 p1 m := by kernel_rfl

theorem media_Media_Read_ok {k : Nat} {p0 : Option Addr} {p1 : Int} {m : Mem} {r : ((List Value) × Value × Mem)} (h : media_Media_Read k p0 p1 m = some r) : CallP Try.prog 12 [(Value.pointer p0), (Value.int .i64 p1)] m fun v m' => v = (Value.tuple ⟨[(Value.agg ⟨r.1⟩), r.2.1]⟩) ∧ m' = r.2.2 := by
  refine (fn_sound (C := media_Media_Read_C k) (c := body Try.f12) tOk mixed (media_Media_Read_callOk k) Try.func12 (by kernel_rfl) (by kernel_rfl) (by kernel_rfl) (by kernel_rfl) ?_ ?_ (Eq.trans (media_Media_Read_eq k p0 p1 m) h)).mono ?_
  · intro p hp
    rw [media_Media_Read_loops] at hp
    simp only [List.mem_cons, List.not_mem_nil, or_false] at hp
    rcases hp with rfl
    · exact media_Media_Read_l0_ok k
  · intro p hp; rw [show rangesOf 0 (body Try.f12) = [] by kernel_rfl] at hp; cases hp
  · intro v m' hp
    unfold media_Media_Read_dec at hp
    split at hp
    · simp only [Option.some.injEq] at hp; subst hp; exact ⟨rfl, rfl⟩
    · cases hp

def media_Media_Read_arm {R : Type} (k : Nat) : Arm R := fun vs m K => match vs with
  | [.pointer p0, .int .i64 p1] => (media_Media_Read k p0 p1 m).bind fun r => K (Value.tuple ⟨[(Value.agg ⟨r.1⟩), r.2.1]⟩) r.2.2
  | _ => none

theorem media_Media_Read_armOk {R : Type} (k : Nat) : ArmOk Try.prog 12 (media_Media_Read_arm (R := R) k) := by
  intro vs m K r h
  unfold media_Media_Read_arm at h
  split at h
  · obtain ⟨r, h1, h2⟩ := Option.bind_eq_some_iff.1 h; exact ⟨_, _, h2, fun K' => by simp only [media_Media_Read_arm, h1, Option.bind_some], media_Media_Read_ok h1⟩
  · cases h

/-! ### media_Media_Program -/
def media_Media_Program_l0_b (k : Nat) (nx : Option Addr → Int → Option Addr → Nat → Nat → Addr → Option Addr → Nat → Nat → Int → Int → Mem → Option (Value × Mem)) (kx0 : Value → Mem → Option (Value × Mem)) (kx2 : Option Addr → Int → Option Addr → Nat → Nat → Addr → Mem → Option (Value × Mem)) (x0 : Option Addr) (x1 : Int) (x3a : Option Addr) (x3n : Nat) (x3c : Nat) (x6 : Addr) (x42a : Option Addr) (x42n : Nat) (x42c : Nat) (x43 : Int) (x44 : Int) (m : Mem) : Option (Value × Mem) :=
  bif decide (x44 < x43) then (
  bif inRange x44 x42n then (
  (x42a).bind fun a10 =>
  (ldSl m (plus a10 (Int.toNat x44 * 1))).bind fun t11 =>
  (x0).bind fun a12 =>
  (ldPtr m (plus a12 0)).bind fun t13 =>
  (nand_Chip_Write k t13 x1 x44 t11.a t11.len t11.cap m).bind fun r14 =>
  (isNil r14.1).bind fun b15 =>
  bif !b15 then (
  kx0 r14.1 r14.2) else (
  nx x0 x1 x3a x3n x3c x6 x42a x42n x42c x43 (IntKind.wrap .i64 (x44 + 1)) r14.2)) else none) else (
  kx2 x0 x1 x3a x3n x3c x6 m)

def media_Media_Program_l0 (k : Nat) (kx0 : Value → Mem → Option (Value × Mem)) (kx2 : Option Addr → Int → Option Addr → Nat → Nat → Addr → Mem → Option (Value × Mem)) : Nat → Option Addr → Int → Option Addr → Nat → Nat → Addr → Option Addr → Nat → Nat → Int → Int → Mem → Option (Value × Mem)
  | 0, _, _, _, _, _, _, _, _, _, _, _, _ => none
  | n + 1, x0, x1, x3a, x3n, x3c, x6, x42a, x42n, x42c, x43, x44, m => media_Media_Program_l0_b k (fun x0 x1 x3a x3n x3c x6 x42a x42n x42c x43 x44 m => media_Media_Program_l0 k kx0 kx2 n x0 x1 x3a x3n x3c x6 x42a x42n x42c x43 x44 m) kx0 kx2 x0 x1 x3a x3n x3c x6 x42a x42n x42c x43 x44 m
termination_by structural x => x

theorem media_Media_Program_l0_rule (k : Nat) (kx0 : Value → Mem → Option (Value × Mem)) (kx2 : Option Addr → Int → Option Addr → Nat → Nat → Addr → Mem → Option (Value × Mem)) {P : (Value × Mem) → Prop} (I : Nat → Option Addr → Int → Option Addr → Nat → Nat → Addr → Option Addr → Nat → Nat → Int → Int → Mem → Prop)
    (step : ∀ d (nx : Option Addr → Int → Option Addr → Nat → Nat → Addr → Option Addr → Nat → Nat → Int → Int → Mem → Option (Value × Mem)) (x0 : Option Addr) (x1 : Int) (x3a : Option Addr) (x3n : Nat) (x3c : Nat) (x6 : Addr) (x42a : Option Addr) (x42n : Nat) (x42c : Nat) (x43 : Int) (x44 : Int) (m : Mem), I d x0 x1 x3a x3n x3c x6 x42a x42n x42c x43 x44 m → (∀ d' (x0 : Option Addr) (x1 : Int) (x3a : Option Addr) (x3n : Nat) (x3c : Nat) (x6 : Addr) (x42a : Option Addr) (x42n : Nat) (x42c : Nat) (x43 : Int) (x44 : Int) (m : Mem), d' < d → I d' x0 x1 x3a x3n x3c x6 x42a x42n x42c x43 x44 m → Ok (nx x0 x1 x3a x3n x3c x6 x42a x42n x42c x43 x44 m) P) → Ok (media_Media_Program_l0_b k nx kx0 kx2 x0 x1 x3a x3n x3c x6 x42a x42n x42c x43 x44 m) P) :
    ∀ n d (x0 : Option Addr) (x1 : Int) (x3a : Option Addr) (x3n : Nat) (x3c : Nat) (x6 : Addr) (x42a : Option Addr) (x42n : Nat) (x42c : Nat) (x43 : Int) (x44 : Int) (m : Mem), d < n → I d x0 x1 x3a x3n x3c x6 x42a x42n x42c x43 x44 m → Ok (media_Media_Program_l0 k kx0 kx2 n x0 x1 x3a x3n x3c x6 x42a x42n x42c x43 x44 m) P
  | 0, d, x0, x1, x3a, x3n, x3c, x6, x42a, x42n, x42c, x43, x44, m, h, _ => absurd h (Nat.not_lt_zero _)
  | n + 1, d, x0, x1, x3a, x3n, x3c, x6, x42a, x42n, x42c, x43, x44, m, h, hI => step d _ x0 x1 x3a x3n x3c x6 x42a x42n x42c x43 x44 m hI fun d' x0 x1 x3a x3n x3c x6 x42a x42n x42c x43 x44 m h' hI' => media_Media_Program_l0_rule k kx0 kx2 I step n d' x0 x1 x3a x3n x3c x6 x42a x42n x42c x43 x44 m (by omega) hI'

def media_Media_Program (k : Nat) (p0 : Option Addr) (p1 : Int) (p2 : List Value) (p3a : Option Addr) (p3n : Nat) (p3c : Nat) (m : Mem) : Option (Value × Mem) :=
  bif Nat.beq (List.length p2) 5 then (
  let m1 : Mem := m ++ [.live p2]
  (ldCells m1 ⟨List.length m, 0, Option.none⟩ 5).bind fun t2 =>
  (tag_Encode k t2 m1).bind fun r3 =>
  (isNil r3.2.1).bind fun b4 =>
  bif !b4 then (
  some (r3.2.1, r3.2.2)) else (
  (ldInt .i64 r3.2.2 (plus ⟨List.length m, 0, Option.none⟩ 0)).bind fun t5 =>
  bif t5 != p1 then (
  some ((Value.iface ty_api_Code (Value.int .i64 1)), r3.2.2)) else (
  (p0).bind fun a6 =>
  (ldPtr r3.2.2 (plus a6 1)).bind fun t7 =>
  (frame_Frame_Lay k t7 p3a p3n p3c r3.1.a r3.1.len r3.1.cap r3.2.2).bind fun r8 =>
  (isNil r8.2.1).bind fun b9 =>
  bif !b9 then (
  some (r8.2.1, r8.2.2)) else (
  media_Media_Program_l0 k (fun y8 m16 => 
  some (y8, m16)) (fun y0 y1 y3a y3n y3c y6 m17 => 
  (media_Media_Read k y0 y1 m17).bind fun r18 =>
  let m19 : Mem := r18.2.2 ++ [.live [.bool false, .int .i64 0, .int .i64 0, .int .i64 0, .int .i64 0, .bool false, .bool false, .slice none 0 0, .int .i64 0]]
  bif Nat.beq (List.length r18.1) 9 then (
  (stCells m19 ⟨List.length r18.2.2, 0, Option.none⟩ r18.1).bind fun m20 =>
  (isNil r18.2.1).bind fun b21 =>
  bif !b21 then (
  some (r18.2.1, m20)) else (
  (ldBool m20 (plus ⟨List.length r18.2.2, 0, Option.none⟩ 6)).bind fun t22 =>
  bif !t22 then (
  some ((Value.iface ty_api_Code (Value.int .i64 8)), m20)) else (
  (ldCells m20 (plus ⟨List.length r18.2.2, 0, Option.none⟩ 1) 5).bind fun t23 =>
  (ldCells m20 y6 5).bind fun t24 =>
  (cellsEq (eqK tt 23) t23 t24).bind fun b25 =>
  bif !b25 then (
  some ((Value.iface ty_api_Code (Value.int .i64 8)), m20)) else (
  (ldSl m20 (plus ⟨List.length r18.2.2, 0, Option.none⟩ 7)).bind fun t26 =>
  (bytes_Equal k t26.a t26.len t26.cap y3a y3n y3c m20).bind fun r27 =>
  bif !r27.1 then (
  some ((Value.iface ty_api_Code (Value.int .i64 8)), r27.2)) else (
  some (Value.nilIface, r27.2)))))) else none) k p0 p1 p3a p3n p3c ⟨List.length m, 0, Option.none⟩ r8.1.a r8.1.len r8.1.cap ((r8.1.len : Nat) : Int) 0 r8.2.2)))) else none

def media_Media_Program_call {R : Type} (k : Nat) : Fun R := callCons 12 (media_Media_Read_arm k) (callCons 21 (tag_Encode_arm k) (callCons 22 (frame_Frame_Lay_arm k) (callCons 23 (nand_Chip_Write_arm k) (callCons 24 (bytes_Equal_arm k) (callNil)))))

theorem media_Media_Program_callOk {R : Type} (k : Nat) : CallOk Try.prog (media_Media_Program_call (R := R) k) := callOk_cons (media_Media_Read_armOk k) (callOk_cons (tag_Encode_armOk k) (callOk_cons (frame_Frame_Lay_armOk k) (callOk_cons (nand_Chip_Write_armOk k) (callOk_cons (bytes_Equal_armOk k) (callOk_nil)))))

def media_Media_Program_l0_L (k : Nat) (K : Nat → List Value → Mem → Option (Value × Mem)) (n : Nat) (vs : List Value) (m : Mem) : Option (Value × Mem) := match vs with
  | [.pointer x0, .int .i64 x1, .slice x3a x3n x3c, .pointer (some x6), .slice x42a x42n x42c, .int .i64 x43, .int .i64 x44] => media_Media_Program_l0 k (fun y8 m => K 0 [y8] m) (fun y0 y1 y3a y3n y3c y6 m => K 2 [(Value.pointer y0), (Value.int .i64 y1), (Value.slice y3a y3n y3c), (Value.pointer (some y6))] m) n x0 x1 x3a x3n x3c x6 x42a x42n x42c x43 x44 m
  | _ => none

def media_Media_Program_loop (k : Nat) : Nat → List Value → Mem → (Nat → List Value → Mem → Option (Value × Mem)) → Option (Value × Mem) := fun cur vs m K => match cur with
  | 0 => media_Media_Program_l0_L k K k vs m
  | _ => none

def media_Media_Program_C (k : Nat) : Ctx (Value × Mem) := ⟨tt, media_Media_Program_call k, media_Media_Program_loop k, [(0, [0, 1, 3, 6, 42, 43, 44])], [(0, [8]), (2, [0, 1, 3, 6])]⟩

noncomputable def media_Media_Program_l0_c : Code := ((loopsOf 0 (body Try.f8)).map (·.2)).getD 0 .skip

theorem media_Media_Program_loops : loopsOf 0 (body Try.f8) = [(0, media_Media_Program_l0_c)] := by kernel_rfl

theorem media_Media_Program_l0_ok (k : Nat) : LoopOk (media_Media_Program_C k) 0 media_Media_Program_l0_c := by
  refine ⟨[0, 1, 3, 6, 42, 43, 44], by kernel_rfl, fun K r => ⟨media_Media_Program_l0_L k K, fun vs m h => ⟨k, h⟩, ?_⟩⟩
  intro n vs m h
  unfold media_Media_Program_l0_L at h
  split at h
  · cases n with
    | zero => cases h
    | succ n => exact ⟨n, rfl, Eq.trans (by kernel_rfl) h⟩
  · cases h

def media_Media_Program_dec : Value → Mem → Option (Value × Mem) := fun v m => match v with
  | q0 => some (q0, m)

theorem media_Media_Program_eq (k : Nat) (p0 : Option Addr) (p1 : Int) (p2 : List Value) (p3a : Option Addr) (p3n : Nat) (p3c : Nat) (m : Mem) : fnX (media_Media_Program_C k) Try.f8 [(Value.pointer p0), (Value.int .i64 p1), (Value.agg ⟨p2⟩), (Value.slice p3a p3n p3c)] m media_Media_Program_dec = media_Media_Program k p0 p1 p2 p3a p3n p3c m := by kernel_rfl

theorem media_Media_Program_ok {k : Nat} {p0 : Option Addr} {p1 : Int} {p2 : List Value} {p3a : Option Addr} {p3n : Nat} {p3c : Nat} {m : Mem} {r : (Value × Mem)} (h : media_Media_Program k p0 p1 p2 p3a p3n p3c m = some r) : CallP Try.prog 8 [(Value.pointer p0), (Value.int .i64 p1), (Value.agg ⟨p2⟩), (Value.slice p3a p3n p3c)] m fun v m' => v = r.1 ∧ m' = r.2 := by
  refine (fn_sound (C := media_Media_Program_C k) (c := body Try.f8) tOk mixed (media_Media_Program_callOk k) Try.func8 (by kernel_rfl) (by kernel_rfl) (by kernel_rfl) (by kernel_rfl) ?_ ?_ (Eq.trans (media_Media_Program_eq k p0 p1 p2 p3a p3n p3c m) h)).mono ?_
  · intro p hp
    rw [media_Media_Program_loops] at hp
    simp only [List.mem_cons, List.not_mem_nil, or_false] at hp
    rcases hp with rfl
    · exact media_Media_Program_l0_ok k
  · intro p hp; rw [show rangesOf 0 (body Try.f8) = [] by kernel_rfl] at hp; cases hp
  · intro v m' hp
    simp only [media_Media_Program_dec, Option.some.injEq] at hp; subst hp; exact ⟨rfl, rfl⟩

def media_Media_Program_arm {R : Type} (k : Nat) : Arm R := fun vs m K => match vs with
  | [.pointer p0, .int .i64 p1, .agg ⟨p2⟩, .slice p3a p3n p3c] => (media_Media_Program k p0 p1 p2 p3a p3n p3c m).bind fun r => K r.1 r.2
  | _ => none

theorem media_Media_Program_armOk {R : Type} (k : Nat) : ArmOk Try.prog 8 (media_Media_Program_arm (R := R) k) := by
  intro vs m K r h
  unfold media_Media_Program_arm at h
  split at h
  · obtain ⟨r, h1, h2⟩ := Option.bind_eq_some_iff.1 h; exact ⟨_, _, h2, fun K' => by simp only [media_Media_Program_arm, h1, Option.bind_some], media_Media_Program_ok h1⟩
  · cases h

/-! ### media_New -/
def media_New (k : Nat) (p0 : Option Addr) (m : Mem) : Option ((Option Addr) × Mem) :=
  (frame_New k  m).bind fun r1 =>
  let m2 : Mem := r1.2 ++ [.live [(Value.pointer p0), (Value.pointer r1.1), .int .i64 0]]
  some ((some ⟨List.length r1.2, 0, Option.none⟩), m2)

def media_New_call {R : Type} (k : Nat) : Fun R := callCons 34 (frame_New_arm k) (callNil)

theorem media_New_callOk {R : Type} (k : Nat) : CallOk Try.prog (media_New_call (R := R) k) := callOk_cons (frame_New_armOk k) (callOk_nil)

def media_New_loop (k : Nat) : Nat → List Value → Mem → (Nat → List Value → Mem → Option ((Option Addr) × Mem)) → Option ((Option Addr) × Mem) := fun _ _ _ _ => none

def media_New_C (k : Nat) : Ctx ((Option Addr) × Mem) := ⟨tt, media_New_call k, media_New_loop k, [], []⟩

def media_New_dec : Value → Mem → Option ((Option Addr) × Mem) := fun v m => match v with
  | .pointer q0 => some (q0, m)
  | _ => none

theorem media_New_eq (k : Nat) (p0 : Option Addr) (m : Mem) : fnX (media_New_C k) Try.f18 [(Value.pointer p0)] m media_New_dec = media_New k p0 m := by kernel_rfl

theorem media_New_ok {k : Nat} {p0 : Option Addr} {m : Mem} {r : ((Option Addr) × Mem)} (h : media_New k p0 m = some r) : CallP Try.prog 18 [(Value.pointer p0)] m fun v m' => v = (Value.pointer r.1) ∧ m' = r.2 := by
  refine (fn_sound (C := media_New_C k) (c := body Try.f18) tOk mixed (media_New_callOk k) Try.func18 (by kernel_rfl) (by kernel_rfl) (by kernel_rfl) (by kernel_rfl) ?_ ?_ (Eq.trans (media_New_eq k p0 m) h)).mono ?_
  · intro p hp; rw [show loopsOf 0 (body Try.f18) = [] by kernel_rfl] at hp; cases hp
  · intro p hp; rw [show rangesOf 0 (body Try.f18) = [] by kernel_rfl] at hp; cases hp
  · intro v m' hp
    unfold media_New_dec at hp
    split at hp
    · simp only [Option.some.injEq] at hp; subst hp; exact ⟨rfl, rfl⟩
    · cases hp

def media_New_arm {R : Type} (k : Nat) : Arm R := fun vs m K => match vs with
  | [.pointer p0] => (media_New k p0 m).bind fun r => K (Value.pointer r.1) r.2
  | _ => none

theorem media_New_armOk {R : Type} (k : Nat) : ArmOk Try.prog 18 (media_New_arm (R := R) k) := by
  intro vs m K r h
  unfold media_New_arm at h
  split at h
  · obtain ⟨r, h1, h2⟩ := Option.bind_eq_some_iff.1 h; exact ⟨_, _, h2, fun K' => by simp only [media_New_arm, h1, Option.bind_some], media_New_ok h1⟩
  · cases h

/-! ### media_Media_Reads -/
def media_Media_Reads (k : Nat) (p0 : Option Addr) (m : Mem) : Option (Int × Mem) :=
  (p0).bind fun a1 =>
  (sync_atomic_Int64_Load k (some (plus a1 2)) m).bind fun r2 =>
  some (r2.1, r2.2)

def media_Media_Reads_call {R : Type} (k : Nat) : Fun R := callCons 35 (sync_atomic_Int64_Load_arm k) (callNil)

theorem media_Media_Reads_callOk {R : Type} (k : Nat) : CallOk Try.prog (media_Media_Reads_call (R := R) k) := callOk_cons (sync_atomic_Int64_Load_armOk k) (callOk_nil)

def media_Media_Reads_loop (k : Nat) : Nat → List Value → Mem → (Nat → List Value → Mem → Option (Int × Mem)) → Option (Int × Mem) := fun _ _ _ _ => none

def media_Media_Reads_C (k : Nat) : Ctx (Int × Mem) := ⟨tt, media_Media_Reads_call k, media_Media_Reads_loop k, [], []⟩

def media_Media_Reads_dec : Value → Mem → Option (Int × Mem) := fun v m => match v with
  | .int .i64 q0 => some (q0, m)
  | _ => none

theorem media_Media_Reads_eq (k : Nat) (p0 : Option Addr) (m : Mem) : fnX (media_Media_Reads_C k) Try.f19 [(Value.pointer p0)] m media_Media_Reads_dec = media_Media_Reads k p0 m := by kernel_rfl

theorem media_Media_Reads_ok {k : Nat} {p0 : Option Addr} {m : Mem} {r : (Int × Mem)} (h : media_Media_Reads k p0 m = some r) : CallP Try.prog 19 [(Value.pointer p0)] m fun v m' => v = (Value.int .i64 r.1) ∧ m' = r.2 := by
  refine (fn_sound (C := media_Media_Reads_C k) (c := body Try.f19) tOk mixed (media_Media_Reads_callOk k) Try.func19 (by kernel_rfl) (by kernel_rfl) (by kernel_rfl) (by kernel_rfl) ?_ ?_ (Eq.trans (media_Media_Reads_eq k p0 m) h)).mono ?_
  · intro p hp; rw [show loopsOf 0 (body Try.f19) = [] by kernel_rfl] at hp; cases hp
  · intro p hp; rw [show rangesOf 0 (body Try.f19) = [] by kernel_rfl] at hp; cases hp
  · intro v m' hp
    unfold media_Media_Reads_dec at hp
    split at hp
    · simp only [Option.some.injEq] at hp; subst hp; exact ⟨rfl, rfl⟩
    · cases hp

def media_Media_Reads_arm {R : Type} (k : Nat) : Arm R := fun vs m K => match vs with
  | [.pointer p0] => (media_Media_Reads k p0 m).bind fun r => K (Value.int .i64 r.1) r.2
  | _ => none

theorem media_Media_Reads_armOk {R : Type} (k : Nat) : ArmOk Try.prog 19 (media_Media_Reads_arm (R := R) k) := by
  intro vs m K r h
  unfold media_Media_Reads_arm at h
  split at h
  · obtain ⟨r, h1, h2⟩ := Option.bind_eq_some_iff.1 h; exact ⟨_, _, h2, fun K' => by simp only [media_Media_Reads_arm, h1, Option.bind_some], media_Media_Reads_ok h1⟩
  · cases h

end Go.Proofs.Ytchonnaoojpdoaa
