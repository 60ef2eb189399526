import Derived.Test.YtchonnaoojpdoaaGreatF1
import Derived.Test.YtchonnaoojpdoaaGreatOnceSlow
set_option linter.unusedVariables false
set_option linter.defProp false
set_option maxRecDepth 100000
namespace Go.Proofs.YtchonnaoojpdoaaGreat
open Go.Mx
def field_New (k:Nat) (m:Mem):Option ((OA) × Mem) :=
 bif Nat.beq (List.length ((tt ty_field_Field).zero)) 769 then (
 let m1:Mem:=m ++ [.live ((tt ty_field_Field).zero)]
 some ((some ⟨List.length m,0,none⟩),m1)) else none
def field_New_U (k:Nat) (vs:List Value) (m:Mem):Option ((OA) × Mem):=match vs with
 | [] => field_New k  m
 | _ => none
theorem field_New_ok (k:Nat):FOk Tryz.prog 99 Sh2 (field_New_U k):=by
 intro vs m r h;unfold field_New_U at h;split at h
 ·exact ok0 (cN) Tryz.func99 (by kernel_rfl) (Eq.trans (by kernel_rfl) h)
 ·cases h
def field_Field_make_j1 (k:Nat) (x0:OA) (x4:Int) (nx:OA → Int → Int → Mem → Option Mem) (x2_:Int) (mj:Mem):Option Mem :=
 nx x0 x2_ (IntKind.wrap .i64 (x4 + 1)) mj
def field_Field_make_l0_b (k:Nat) (nx:OA → Int → Int → Mem → Option Mem) (kx2:Mem → Option Mem) (x0:OA) (x2:Int) (x4:Int) (m:Mem):Option Mem :=
 bif decide (x4 < 255) then (
 (x0).bind fun a1 =>
 bif inRange x4 510 then (
 (st m (plus (plus a1 3) (Int.toNat x4 * 1)) (Value.int .u8 (IntKind.wrap .u8 x2))).bind fun m2 =>
 (x0).bind fun a3 =>
 bif inRange (IntKind.wrap .i64 (x4 + 255)) 510 then (
 (st m2 (plus (plus a3 3) (Int.toNat (IntKind.wrap .i64 (x4 + 255)) * 1)) (Value.int .u8 (IntKind.wrap .u8 x2))).bind fun m4 =>
 (x0).bind fun a5 =>
 bif inRange x2 256 then (
 (st m4 (plus (plus a5 513) (Int.toNat x2 * 1)) (Value.int .i64 x4)).bind fun m6 =>
 bif decide ((shlI .i64 x2 1) > 255) then (
 field_Field_make_j1 k x0 x4 nx (bitI .xor .i64 (shlI .i64 x2 1) 285) m6) else (
 field_Field_make_j1 k x0 x4 nx (shlI .i64 x2 1) m6)) else none) else none) else none) else (
 kx2  m)
def field_Field_make_l0 (k:Nat) kx2:=it4 fun nx => field_Field_make_l0_b k nx kx2
def field_Field_make_l0_rule (k:Nat) kx2 {P}:=it4_rule (P:=P) (f:=fun nx => field_Field_make_l0_b k nx kx2)
def field_Field_make (k:Nat) (p0:OA) (m:Mem):Option Mem :=
 field_Field_make_l0 k (fun m7 =>
 some (m7)) k p0 1 0 m
def field_Field_make_cs (k:Nat):Cs Tryz.prog:=cN
def field_Field_make_l0_L (k:Nat) (K:KT Mem) (n:Nat) (vs:List Value) (m:Mem):Option Mem:=match vs with
 | [.pointer x0,.int .i64 x2,.int .i64 x4] => field_Field_make_l0 k (fun m => K 2 [] m) n x0 x2 x4 m
 | _ => none
def field_Field_make_C (k:Nat):Ctx Mem:=⟨tt,(field_Field_make_cs k).call,lpOf [(0,fun K => field_Field_make_l0_L k K k)],[(0,[0,2,4])],[(2,[])]⟩
theorem field_Field_make_l0_ok (k:Nat):LoopOk (field_Field_make_C k) 0 (lpc Tryz.f116 0):=lpOk (k:=k) [0,2,4] (field_Field_make_l0_L k) (by kernel_rfl) (fun _ _ _ => rfl) fun K n vs m r h => by
 unfold field_Field_make_l0_L at h;split at h
 ·cases n
  ·cases h
  ·exact ⟨_,rfl,Eq.trans (by kernel_rfl) h⟩
 ·cases h
def field_Field_make_U (k:Nat) (vs:List Value) (m:Mem):Option Mem:=match vs with
 | [.pointer p0] => field_Field_make k p0 m
 | _ => none
theorem field_Field_make_ok (k:Nat):FOk Tryz.prog 116 Sh1 (field_Field_make_U k):=by
 intro vs m r h;unfold field_Field_make_U at h;split at h
 ·exact fnOk (C:=field_Field_make_C k) (field_Field_make_cs k) tOk mixed rfl Tryz.func116 (by kernel_rfl) (lps (cs:=[0]) (by kernel_rfl) ⟨field_Field_make_l0_ok k,trivial⟩) (noRanges (by kernel_rfl)) (Eq.trans (by kernel_rfl) h)
 ·cases h
def sync_Once_Do (k:Nat) (p0:OA) (p1:Value) (m:Mem):Option Mem:=match p1 with
 | .func (.func 116) ⟨[.pointer (some p)]⟩ ⟨[]⟩ => onceDo p0 (field_Field_make k (some p)) m
 | _ => none
def sync_Once_Do_U (k:Nat) (vs:List Value) (m:Mem):Option Mem:=match vs with
 | [.pointer p0,p1] => sync_Once_Do k p0 p1 m
 | _ => none
theorem sync_Once_Do_ok (k:Nat):FOk Tryz.prog 115 Sh1 (sync_Once_Do_U k):=by
 intro vs m r h;unfold sync_Once_Do_U at h;split at h
 ·unfold sync_Once_Do at h;split at h
  ·exact once_ok (fun m r h => field_Field_make_ok k [.pointer (some _)] _ _ h) h
  ·cases h
 ·cases h
def field_Field_Mul (k:Nat) (p0:OA) (p1:Int) (p2:Int) (m:Mem):Option (Int × Mem) :=
 bif p1 == 0 then (
 some (0,m)) else (
 bif p2 == 0 then (
 some (0,m)) else (
 (p0).bind fun a1 =>
 (sync_Once_Do k (some (plus a1 0)) (Value.func (Fn.func 116) ⟨[(Value.pointer p0)]⟩ ⟨[]⟩) m).bind fun r2 =>
 (p0).bind fun a3 =>
 bif inRange p1 256 then (
 (ldInt .i64 r2 (plus (plus a3 513) (Int.toNat p1 * 1))).bind fun t4 =>
 (p0).bind fun a5 =>
 bif inRange p2 256 then (
 (ldInt .i64 r2 (plus (plus a5 513) (Int.toNat p2 * 1))).bind fun t6 =>
 (p0).bind fun a7 =>
 bif inRange (IntKind.wrap .i64 (t4 + t6)) 510 then (
 (ldInt .u8 r2 (plus (plus a7 3) (Int.toNat (IntKind.wrap .i64 (t4 + t6)) * 1))).bind fun t8 =>
 some (t8,r2)) else none) else none) else none))
def field_Field_Mul_U (k:Nat) (vs:List Value) (m:Mem):Option (Int × Mem):=match vs with
 | [.pointer p0,.int .u8 p1,.int .u8 p2] => field_Field_Mul k p0 p1 p2 m
 | _ => none
theorem field_Field_Mul_ok (k:Nat):FOk Tryz.prog 108 Sh3 (field_Field_Mul_U k):=by
 intro vs m r h;unfold field_Field_Mul_U at h;split at h
 ·exact ok0 (cC (sync_Once_Do_ok k) <| cN) Tryz.func108 (by kernel_rfl) (Eq.trans (by kernel_rfl) h)
 ·cases h
def field_Field_Times_l2_b (k:Nat) (nx:OA → OA → Nat → Nat → OA → Nat → Nat → Int → Int → OA → Nat → Nat → Int → Int → OA → Nat → Nat → Int → Int → Mem → Option (Sl × Mem)) (kx4:OA → OA → Nat → Nat → OA → Nat → Nat → OA → Nat → Nat → Int → Int → Mem → Option (Sl × Mem)) (x0:OA) (x2a:OA) (x2n:Nat) (x2c:Nat) (x7a:OA) (x7n:Nat) (x7c:Nat) (x8:Int) (x9:Int) (x27a:OA) (x27n:Nat) (x27c:Nat) (x28:Int) (x29:Int) (x34a:OA) (x34n:Nat) (x34c:Nat) (x35:Int) (x36:Int) (m:Mem):Option (Sl × Mem) :=
 bif decide (x36 < x35) then (
 bif inRange x36 x34n then (
 (x34a).bind fun a4 =>
 (ldInt .u8 m (plus a4 (Int.toNat x36 * 1))).bind fun t5 =>
 bif inRange (IntKind.wrap .i64 (x8 + x36)) x7n then (
 (x7a).bind fun a6 =>
 (ldInt .u8 m (plus a6 (Int.toNat (IntKind.wrap .i64 (x8 + x36)) * 1))).bind fun t7 =>
 (field_Field_Mul k x0 x9 t5 m).bind fun r8 =>
 bif inRange (IntKind.wrap .i64 (x8 + x36)) x7n then (
 (x7a).bind fun a9 =>
 (st r8.2 (plus a9 (Int.toNat (IntKind.wrap .i64 (x8 + x36)) * 1)) (Value.int .u8 (bitI .xor .u8 t7 r8.1))).bind fun m10 =>
 (ldInt .u8 r8.2 (plus a6 (Int.toNat (IntKind.wrap .i64 (x8 + x36)) * 1))).bind fun t11 =>
 bif t11 == t7 then (
 nx x0 x2a x2n x2c x7a x7n x7c x8 x9 x27a x27n x27c x28 x29 x34a x34n x34c x35 (IntKind.wrap .i64 (x36 + 1)) m10) else none) else none) else none) else none) else (
 kx4 x0 x2a x2n x2c x7a x7n x7c x27a x27n x27c x28 x29 m)
def field_Field_Times_l2 (k:Nat) kx4:=it20 fun nx => field_Field_Times_l2_b k nx kx4
def field_Field_Times_l2_rule (k:Nat) kx4 {P}:=it20_rule (P:=P) (f:=fun nx => field_Field_Times_l2_b k nx kx4)
def field_Field_Times_l0_b (k:Nat) (nx:OA → OA → Nat → Nat → OA → Nat → Nat → OA → Nat → Nat → Int → Int → Mem → Option (Sl × Mem)) (kx2:OA → Nat → Nat → Mem → Option (Sl × Mem)) (x0:OA) (x2a:OA) (x2n:Nat) (x2c:Nat) (x7a:OA) (x7n:Nat) (x7c:Nat) (x27a:OA) (x27n:Nat) (x27c:Nat) (x28:Int) (x29:Int) (m:Mem):Option (Sl × Mem) :=
 bif decide (x29 < x28) then (
 bif inRange x29 x27n then (
 (x27a).bind fun a2 =>
 (ldInt .u8 m (plus a2 (Int.toNat x29 * 1))).bind fun t3 =>
 field_Field_Times_l2 k (fun y0 y2a y2n y2c y7a y7n y7c y27a y27n y27c y28 y29 m12 =>
 nx y0 y2a y2n y2c y7a y7n y7c y27a y27n y27c y28 (IntKind.wrap .i64 (y29 + 1)) m12) k x0 x2a x2n x2c x7a x7n x7c x29 t3 x27a x27n x27c x28 x29 x2a x2n x2c ((x2n:Nat):Int) 0 m) else none) else (
 kx2 x7a x7n x7c m)
def field_Field_Times_l0 (k:Nat) kx2:=it13 fun nx => field_Field_Times_l0_b k nx kx2
def field_Field_Times_l0_rule (k:Nat) kx2 {P}:=it13_rule (P:=P) (f:=fun nx => field_Field_Times_l0_b k nx kx2)
def field_Field_Times (k:Nat) (p0:OA) (p1a:OA) (p1n:Nat) (p1c:Nat) (p2a:OA) (p2n:Nat) (p2c:Nat) (m:Mem):Option (Sl × Mem) :=
 bif ((p1n:Nat):Int) == 0 then (
 some ((⟨none,0,0⟩:Sl),m)) else (
 bif ((p2n:Nat):Int) == 0 then (
 some ((⟨none,0,0⟩:Sl),m)) else (
 bif decide (0 ≤ IntKind.wrap .i64 ((IntKind.wrap .i64 (((p1n:Nat):Int) + ((p2n:Nat):Int))) - 1)) && decide (IntKind.wrap .i64 ((IntKind.wrap .i64 (((p1n:Nat):Int) + ((p2n:Nat):Int))) - 1) ≤ IntKind.wrap .i64 ((IntKind.wrap .i64 (((p1n:Nat):Int) + ((p2n:Nat):Int))) - 1)) && decide ((IntKind.wrap .i64 ((IntKind.wrap .i64 (((p1n:Nat):Int) + ((p2n:Nat):Int))) - 1)) * (((tt 5).bytes:Nat):Int) ≤ ((most:Nat):Int)) && decide (IntKind.wrap .i64 ((IntKind.wrap .i64 (((p1n:Nat):Int) + ((p2n:Nat):Int))) - 1) ≤ ((most:Nat):Int)) then (
 let m1:Mem:=m ++ [.live (repl (Int.toNat (IntKind.wrap .i64 ((IntKind.wrap .i64 (((p1n:Nat):Int) + ((p2n:Nat):Int))) - 1))) [.int .u8 0])]
 field_Field_Times_l0 k (fun y7a y7n y7c m13 =>
 some ((⟨y7a,y7n,y7c⟩:Sl),m13)) k p0 p2a p2n p2c (some ⟨List.length m,0,none⟩) (Int.toNat (IntKind.wrap .i64 ((IntKind.wrap .i64 (((p1n:Nat):Int) + ((p2n:Nat):Int))) - 1))) (Int.toNat (IntKind.wrap .i64 ((IntKind.wrap .i64 (((p1n:Nat):Int) + ((p2n:Nat):Int))) - 1))) p1a p1n p1c ((p1n:Nat):Int) 0 m1) else none))
def field_Field_Times_cs (k:Nat):Cs Tryz.prog:=cC (field_Field_Mul_ok k) <| cN
def field_Field_Times_l0_L (k:Nat) (K:KT (Sl × Mem)) (n:Nat) (vs:List Value) (m:Mem):Option (Sl × Mem):=match vs with
 | [.pointer x0,.slice x2a x2n x2c,.slice x7a x7n x7c,.slice x27a x27n x27c,.int .i64 x28,.int .i64 x29] => field_Field_Times_l0 k (fun y7a y7n y7c m => K 2 [(Value.slice y7a y7n y7c)] m) n x0 x2a x2n x2c x7a x7n x7c x27a x27n x27c x28 x29 m
 | _ => none
def field_Field_Times_l2_L (k:Nat) (K:KT (Sl × Mem)) (n:Nat) (vs:List Value) (m:Mem):Option (Sl × Mem):=match vs with
 | [.pointer x0,.slice x2a x2n x2c,.slice x7a x7n x7c,.int .i64 x8,.int .u8 x9,.slice x27a x27n x27c,.int .i64 x28,.int .i64 x29,.slice x34a x34n x34c,.int .i64 x35,.int .i64 x36] => field_Field_Times_l2 k (fun y0 y2a y2n y2c y7a y7n y7c y27a y27n y27c y28 y29 m => K 4 [(Value.pointer y0),(Value.slice y2a y2n y2c),(Value.slice y7a y7n y7c),(Value.slice y27a y27n y27c),(Value.int .i64 y28),(Value.int .i64 y29)] m) n x0 x2a x2n x2c x7a x7n x7c x8 x9 x27a x27n x27c x28 x29 x34a x34n x34c x35 x36 m
 | _ => none
def field_Field_Times_C (k:Nat):Ctx (Sl × Mem):=⟨tt,(field_Field_Times_cs k).call,lpOf [(0,fun K => field_Field_Times_l0_L k K k),(2,fun K => field_Field_Times_l2_L k K k)],[(0,[0,2,7,27,28,29]),(2,[0,2,7,8,9,27,28,29,34,35,36])],[(2,[7]),(4,[0,2,7,27,28,29])]⟩
theorem field_Field_Times_l0_ok (k:Nat):LoopOk (field_Field_Times_C k) 0 (lpc Tryz.f100 0):=lpOk (k:=k) [0,2,7,27,28,29] (field_Field_Times_l0_L k) (by kernel_rfl) (fun _ _ _ => rfl) fun K n vs m r h => by
 unfold field_Field_Times_l0_L at h;split at h
 ·cases n
  ·cases h
  ·exact ⟨_,rfl,Eq.trans (by kernel_rfl) h⟩
 ·cases h
theorem field_Field_Times_l2_ok (k:Nat):LoopOk (field_Field_Times_C k) 2 (lpc Tryz.f100 1):=lpOk (k:=k) [0,2,7,8,9,27,28,29,34,35,36] (field_Field_Times_l2_L k) (by kernel_rfl) (fun _ _ _ => rfl) fun K n vs m r h => by
 unfold field_Field_Times_l2_L at h;split at h
 ·cases n
  ·cases h
  ·exact ⟨_,rfl,Eq.trans (by kernel_rfl) h⟩
 ·cases h
def field_Field_Times_U (k:Nat) (vs:List Value) (m:Mem):Option (Sl × Mem):=match vs with
 | [.pointer p0,.slice p1a p1n p1c,.slice p2a p2n p2c] => field_Field_Times k p0 p1a p1n p1c p2a p2n p2c m
 | _ => none
theorem field_Field_Times_ok (k:Nat):FOk Tryz.prog 100 Sh4 (field_Field_Times_U k):=by
 intro vs m r h;unfold field_Field_Times_U at h;split at h
 ·exact fnOk (C:=field_Field_Times_C k) (field_Field_Times_cs k) tOk mixed rfl Tryz.func100 (by kernel_rfl) (lps (cs:=[0,2]) (by kernel_rfl) ⟨field_Field_Times_l0_ok k,field_Field_Times_l2_ok k,trivial⟩) (noRanges (by kernel_rfl)) (Eq.trans (by kernel_rfl) h)
 ·cases h
def field_Field_Exp (k:Nat) (p0:OA) (p1:Int) (m:Mem):Option (Int × Mem) :=
 (p0).bind fun a1 =>
 (sync_Once_Do k (some (plus a1 0)) (Value.func (Fn.func 116) ⟨[(Value.pointer p0)]⟩ ⟨[]⟩) m).bind fun r2 =>
 (p0).bind fun a3 =>
 bif inRange (IntKind.wrap .i64 ((Int.tmod p1 255) + 255)) 510 then (
 (ldInt .u8 r2 (plus (plus a3 3) (Int.toNat (IntKind.wrap .i64 ((Int.tmod p1 255) + 255)) * 1))).bind fun t4 =>
 some (t4,r2)) else none
def field_Field_Exp_U (k:Nat) (vs:List Value) (m:Mem):Option (Int × Mem):=match vs with
 | [.pointer p0,.int .i64 p1] => field_Field_Exp k p0 p1 m
 | _ => none
theorem field_Field_Exp_ok (k:Nat):FOk Tryz.prog 101 Sh3 (field_Field_Exp_U k):=by
 intro vs m r h;unfold field_Field_Exp_U at h;split at h
 ·exact ok0 (cC (sync_Once_Do_ok k) <| cN) Tryz.func101 (by kernel_rfl) (Eq.trans (by kernel_rfl) h)
 ·cases h
def field_Field_Eval_l0_b (k:Nat) (nx:OA → Int → Int → OA → Nat → Nat → Int → Int → Mem → Option (Int × Mem)) (kx2:Int → Mem → Option (Int × Mem)) (x0:OA) (x2:Int) (x7:Int) (x10a:OA) (x10n:Nat) (x10c:Nat) (x11:Int) (x12:Int) (m:Mem):Option (Int × Mem) :=
 bif decide (x12 < x11) then (
 bif inRange x12 x10n then (
 (x10a).bind fun a1 =>
 (ldInt .u8 m (plus a1 (Int.toNat x12 * 1))).bind fun t2 =>
 (field_Field_Mul k x0 x7 x2 m).bind fun r3 =>
 nx x0 x2 (bitI .xor .u8 r3.1 t2) x10a x10n x10c x11 (IntKind.wrap .i64 (x12 + 1)) r3.2) else none) else (
 kx2 x7 m)
def field_Field_Eval_l0 (k:Nat) kx2:=it9 fun nx => field_Field_Eval_l0_b k nx kx2
def field_Field_Eval_l0_rule (k:Nat) kx2 {P}:=it9_rule (P:=P) (f:=fun nx => field_Field_Eval_l0_b k nx kx2)
def field_Field_Eval (k:Nat) (p0:OA) (p1a:OA) (p1n:Nat) (p1c:Nat) (p2:Int) (m:Mem):Option (Int × Mem) :=
 field_Field_Eval_l0 k (fun y7 m4 =>
 some (y7,m4)) k p0 p2 0 p1a p1n p1c ((p1n:Nat):Int) 0 m
def field_Field_Eval_cs (k:Nat):Cs Tryz.prog:=cC (field_Field_Mul_ok k) <| cN
def field_Field_Eval_l0_L (k:Nat) (K:KT (Int × Mem)) (n:Nat) (vs:List Value) (m:Mem):Option (Int × Mem):=match vs with
 | [.pointer x0,.int .u8 x2,.int .u8 x7,.slice x10a x10n x10c,.int .i64 x11,.int .i64 x12] => field_Field_Eval_l0 k (fun y7 m => K 2 [(Value.int .u8 y7)] m) n x0 x2 x7 x10a x10n x10c x11 x12 m
 | _ => none
def field_Field_Eval_C (k:Nat):Ctx (Int × Mem):=⟨tt,(field_Field_Eval_cs k).call,lpOf [(0,fun K => field_Field_Eval_l0_L k K k)],[(0,[0,2,7,10,11,12])],[(2,[7])]⟩
theorem field_Field_Eval_l0_ok (k:Nat):LoopOk (field_Field_Eval_C k) 0 (lpc Tryz.f117 0):=lpOk (k:=k) [0,2,7,10,11,12] (field_Field_Eval_l0_L k) (by kernel_rfl) (fun _ _ _ => rfl) fun K n vs m r h => by
 unfold field_Field_Eval_l0_L at h;split at h
 ·cases n
  ·cases h
  ·exact ⟨_,rfl,Eq.trans (by kernel_rfl) h⟩
 ·cases h
def field_Field_Eval_U (k:Nat) (vs:List Value) (m:Mem):Option (Int × Mem):=match vs with
 | [.pointer p0,.slice p1a p1n p1c,.int .u8 p2] => field_Field_Eval k p0 p1a p1n p1c p2 m
 | _ => none
theorem field_Field_Eval_ok (k:Nat):FOk Tryz.prog 117 Sh3 (field_Field_Eval_U k):=by
 intro vs m r h;unfold field_Field_Eval_U at h;split at h
 ·exact fnOk (C:=field_Field_Eval_C k) (field_Field_Eval_cs k) tOk mixed rfl Tryz.func117 (by kernel_rfl) (lps (cs:=[0]) (by kernel_rfl) ⟨field_Field_Eval_l0_ok k,trivial⟩) (noRanges (by kernel_rfl)) (Eq.trans (by kernel_rfl) h)
 ·cases h
def field_Field_Inv (k:Nat) (p0:OA) (p1:Int) (m:Mem):Option (Int × Value × Mem) :=
 bif p1 == 0 then (
 some (0,(Value.iface ty_api_Code (Value.int .i64 4)),m)) else (
 (p0).bind fun a1 =>
 (sync_Once_Do k (some (plus a1 0)) (Value.func (Fn.func 116) ⟨[(Value.pointer p0)]⟩ ⟨[]⟩) m).bind fun r2 =>
 (p0).bind fun a3 =>
 bif inRange p1 256 then (
 (ldInt .i64 r2 (plus (plus a3 513) (Int.toNat p1 * 1))).bind fun t4 =>
 (p0).bind fun a5 =>
 bif inRange (IntKind.wrap .i64 (255 - t4)) 510 then (
 (ldInt .u8 r2 (plus (plus a5 3) (Int.toNat (IntKind.wrap .i64 (255 - t4)) * 1))).bind fun t6 =>
 some (t6,Value.nilIface,r2)) else none) else none)
def field_Field_Inv_U (k:Nat) (vs:List Value) (m:Mem):Option (Int × Value × Mem):=match vs with
 | [.pointer p0,.int .u8 p1] => field_Field_Inv k p0 p1 m
 | _ => none
theorem field_Field_Inv_ok (k:Nat):FOk Tryz.prog 130 Sh8 (field_Field_Inv_U k):=by
 intro vs m r h;unfold field_Field_Inv_U at h;split at h
 ·exact ok0 (cC (sync_Once_Do_ok k) <| cN) Tryz.func130 (by kernel_rfl) (Eq.trans (by kernel_rfl) h)
 ·cases h
def field_Field_Div (k:Nat) (p0:OA) (p1:Int) (p2:Int) (m:Mem):Option (Int × Value × Mem) :=
 (field_Field_Inv k p0 p2 m).bind fun r1 =>
 (isNil r1.2.1).bind fun b2 =>
 bif !b2 then (
 some (0,r1.2.1,r1.2.2)) else (
 (field_Field_Mul k p0 p1 r1.1 r1.2.2).bind fun r3 =>
 some (r3.1,Value.nilIface,r3.2))
def field_Field_Div_U (k:Nat) (vs:List Value) (m:Mem):Option (Int × Value × Mem):=match vs with
 | [.pointer p0,.int .u8 p1,.int .u8 p2] => field_Field_Div k p0 p1 p2 m
 | _ => none
theorem field_Field_Div_ok (k:Nat):FOk Tryz.prog 118 Sh8 (field_Field_Div_U k):=by
 intro vs m r h;unfold field_Field_Div_U at h;split at h
 ·exact ok0 (cC (field_Field_Mul_ok k) <| cC (field_Field_Inv_ok k) <| cN) Tryz.func118 (by kernel_rfl) (Eq.trans (by kernel_rfl) h)
 ·cases h
def field_Field_Log (k:Nat) (p0:OA) (p1:Int) (m:Mem):Option (Int × Value × Mem) :=
 bif p1 == 0 then (
 some (0,(Value.iface ty_api_Code (Value.int .i64 4)),m)) else (
 (p0).bind fun a1 =>
 (sync_Once_Do k (some (plus a1 0)) (Value.func (Fn.func 116) ⟨[(Value.pointer p0)]⟩ ⟨[]⟩) m).bind fun r2 =>
 (p0).bind fun a3 =>
 bif inRange p1 256 then (
 (ldInt .i64 r2 (plus (plus a3 513) (Int.toNat p1 * 1))).bind fun t4 =>
 some (t4,Value.nilIface,r2)) else none)
def field_Field_Log_U (k:Nat) (vs:List Value) (m:Mem):Option (Int × Value × Mem):=match vs with
 | [.pointer p0,.int .u8 p1] => field_Field_Log k p0 p1 m
 | _ => none
theorem field_Field_Log_ok (k:Nat):FOk Tryz.prog 119 Sh9 (field_Field_Log_U k):=by
 intro vs m r h;unfold field_Field_Log_U at h;split at h
 ·exact ok0 (cC (sync_Once_Do_ok k) <| cN) Tryz.func119 (by kernel_rfl) (Eq.trans (by kernel_rfl) h)
 ·cases h
end Go.Proofs.YtchonnaoojpdoaaGreat
