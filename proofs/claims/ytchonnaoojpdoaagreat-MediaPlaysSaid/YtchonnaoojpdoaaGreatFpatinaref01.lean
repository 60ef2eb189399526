import Derived.Test.YtchonnaoojpdoaaGreatF1
set_option linter.unusedVariables false
set_option linter.defProp false
set_option maxRecDepth 100000
namespace Go.Proofs.YtchonnaoojpdoaaGreat
open Go.Mx
def patinaref01_Lend_l0_b (k:Nat) (nx:Addr → Int → Mem → Option ((OA) × Mem)) (kx2:Addr → Mem → Option ((OA) × Mem)) (x3:Addr) (x4:Int) (m:Mem):Option ((OA) × Mem) :=
 bif decide (x4 < 5) then (
 (ldSl m (plus x3 0)).bind fun t6 =>
 let m7:Mem:=m ++ [.live [(Value.int .u8 (IntKind.wrap .u8 (IntKind.wrap .i64 (70 + x4))))]]
 (rdSl m7 (some ⟨List.length m,0,none⟩) 1 1).bind fun l8 =>
 (appM 1 1 m7 t6.a t6.len t6.cap 1 l8).bind fun r9 =>
 (st r9.2 (plus x3 0) (Value.slice r9.1.a r9.1.len r9.1.cap)).bind fun m10 =>
 nx x3 (IntKind.wrap .i64 (x4 + 1)) m10) else (
 kx2 x3 m)
def patinaref01_Lend_l0 (k:Nat) kx2:=it3 fun nx => patinaref01_Lend_l0_b k nx kx2
def patinaref01_Lend_l0_rule (k:Nat) kx2 {P}:=it3_rule (P:=P) (f:=fun nx => patinaref01_Lend_l0_b k nx kx2)
def patinaref01_Lend (k:Nat) (p0a:OA) (p0n:Nat) (p0c:Nat) (m:Mem):Option ((OA) × Mem) :=
 let m1:Mem:=m ++ [.live [.slice none 0 0,.slice none 0 0,(Value.int .i64 ((p0n:Nat):Int))]]
 (ldSl m1 (plus ⟨List.length m,0,none⟩ 0)).bind fun t2 =>
 (rdSl m1 p0a p0n 1).bind fun l3 =>
 (appM 1 1 m1 t2.a t2.len t2.cap p0n l3).bind fun r4 =>
 (st r4.2 (plus ⟨List.length m,0,none⟩ 0) (Value.slice r4.1.a r4.1.len r4.1.cap)).bind fun m5 =>
 patinaref01_Lend_l0 k (fun y3 m11 =>
 (ldSl m11 (plus y3 1)).bind fun t12 =>
 (ldSl m11 (plus y3 0)).bind fun t13 =>
 (rdSl m11 t13.a t13.len 1).bind fun l14 =>
 (appM 1 1 m11 t12.a t12.len t12.cap t13.len l14).bind fun r15 =>
 (st r15.2 (plus y3 1) (Value.slice r15.1.a r15.1.len r15.1.cap)).bind fun m16 =>
 some ((some y3),m16)) k ⟨List.length m,0,none⟩ 0 m5
def patinaref01_Lend_cs (k:Nat):Cs Tryz.prog:=cN
def patinaref01_Lend_l0_L (k:Nat) (K:KT ((OA) × Mem)) (n:Nat) (vs:List Value) (m:Mem):Option ((OA) × Mem):=match vs with
 | [.pointer (some x3),.int .i64 x4] => patinaref01_Lend_l0 k (fun y3 m => K 2 [(Value.pointer (some y3))] m) n x3 x4 m
 | _ => none
def patinaref01_Lend_C (k:Nat):Ctx ((OA) × Mem):=⟨tt,(patinaref01_Lend_cs k).call,lpOf [(0,fun K => patinaref01_Lend_l0_L k K k)],[(0,[3,4])],[(2,[3])]⟩
theorem patinaref01_Lend_l0_ok (k:Nat):LoopOk (patinaref01_Lend_C k) 0 (lpc Tryz.f23 0):=lpOk (k:=k) [3,4] (patinaref01_Lend_l0_L k) (by kernel_rfl) (fun _ _ _ => rfl) fun K n vs m r h => by
 unfold patinaref01_Lend_l0_L at h;split at h
 ·cases n
  ·cases h
  ·exact ⟨_,rfl,Eq.trans (by kernel_rfl) h⟩
 ·cases h
def patinaref01_Lend_U (k:Nat) (vs:List Value) (m:Mem):Option ((OA) × Mem):=match vs with
 | [.slice p0a p0n p0c] => patinaref01_Lend k p0a p0n p0c m
 | _ => none
theorem patinaref01_Lend_ok (k:Nat):FOk Tryz.prog 23 Sh2 (patinaref01_Lend_U k):=by
 intro vs m r h;unfold patinaref01_Lend_U at h;split at h
 ·exact fnOk (C:=patinaref01_Lend_C k) (patinaref01_Lend_cs k) tOk mixed rfl Tryz.func23 (by kernel_rfl) (lps (cs:=[0]) (by kernel_rfl) ⟨patinaref01_Lend_l0_ok k,trivial⟩) (noRanges (by kernel_rfl)) (Eq.trans (by kernel_rfl) h)
 ·cases h
def patinaref01_Lent_Bytes (k:Nat) (p0:OA) (m:Mem):Option (Sl × Mem) :=
 (p0).bind fun a1 =>
 (ldSl m (plus a1 0)).bind fun t2 =>
 (p0).bind fun a3 =>
 (ldInt .i64 m (plus a3 2)).bind fun t4 =>
 bif inUpto t4 t2.cap then (
 some ((⟨(sliceK.clear t2.a false),(Int.toNat t4),t2.cap⟩:Sl),m)) else none
def patinaref01_Lent_Bytes_U (k:Nat) (vs:List Value) (m:Mem):Option (Sl × Mem):=match vs with
 | [.pointer p0] => patinaref01_Lent_Bytes k p0 m
 | _ => none
theorem patinaref01_Lent_Bytes_ok (k:Nat):FOk Tryz.prog 24 Sh4 (patinaref01_Lent_Bytes_U k):=by
 intro vs m r h;unfold patinaref01_Lent_Bytes_U at h;split at h
 ·exact ok0 (cN) Tryz.func24 (by kernel_rfl) (Eq.trans (by kernel_rfl) h)
 ·cases h
def patinaref01_Same_l0_b (k:Nat) (nx:OA → Nat → Nat → OA → Nat → Nat → Int → Mem → Option (Bool × Mem)) (kx0:Bool → Mem → Option (Bool × Mem)) (kx2:Mem → Option (Bool × Mem)) (x0a:OA) (x0n:Nat) (x0c:Nat) (x1a:OA) (x1n:Nat) (x1c:Nat) (x5:Int) (m:Mem):Option (Bool × Mem) :=
 bif decide (x5 < ((x0n:Nat):Int)) then (
 bif inRange x5 x0n then (
 (x0a).bind fun a1 =>
 (ldInt .u8 m (plus a1 (Int.toNat x5 * 1))).bind fun t2 =>
 bif inRange x5 x1n then (
 (x1a).bind fun a3 =>
 (ldInt .u8 m (plus a3 (Int.toNat x5 * 1))).bind fun t4 =>
 bif t2 != t4 then (
 kx0 false m) else (
 nx x0a x0n x0c x1a x1n x1c (IntKind.wrap .i64 (x5 + 1)) m)) else none) else none) else (
 kx2  m)
def patinaref01_Same_l0 (k:Nat) kx0 kx2:=it8 fun nx => patinaref01_Same_l0_b k nx kx0 kx2
def patinaref01_Same_l0_rule (k:Nat) kx0 kx2 {P}:=it8_rule (P:=P) (f:=fun nx => patinaref01_Same_l0_b k nx kx0 kx2)
def patinaref01_Same (k:Nat) (p0a:OA) (p0n:Nat) (p0c:Nat) (p1a:OA) (p1n:Nat) (p1c:Nat) (m:Mem):Option (Bool × Mem) :=
 bif ((p0n:Nat):Int) != ((p1n:Nat):Int) then (
 some (false,m)) else (
 patinaref01_Same_l0 k (fun y4 m5 =>
 some (y4,m5)) (fun m6 =>
 some (true,m6)) k p0a p0n p0c p1a p1n p1c 0 m)
def patinaref01_Same_cs (k:Nat):Cs Tryz.prog:=cN
def patinaref01_Same_l0_L (k:Nat) (K:KT (Bool × Mem)) (n:Nat) (vs:List Value) (m:Mem):Option (Bool × Mem):=match vs with
 | [.slice x0a x0n x0c,.slice x1a x1n x1c,.int .i64 x5] => patinaref01_Same_l0 k (fun y4 m => K 0 [(Value.bool y4)] m) (fun m => K 2 [] m) n x0a x0n x0c x1a x1n x1c x5 m
 | _ => none
def patinaref01_Same_C (k:Nat):Ctx (Bool × Mem):=⟨tt,(patinaref01_Same_cs k).call,lpOf [(0,fun K => patinaref01_Same_l0_L k K k)],[(0,[0,1,5])],[(0,[4]),(2,[])]⟩
theorem patinaref01_Same_l0_ok (k:Nat):LoopOk (patinaref01_Same_C k) 0 (lpc Tryz.f52 0):=lpOk (k:=k) [0,1,5] (patinaref01_Same_l0_L k) (by kernel_rfl) (fun _ _ _ => rfl) fun K n vs m r h => by
 unfold patinaref01_Same_l0_L at h;split at h
 ·cases n
  ·cases h
  ·exact ⟨_,rfl,Eq.trans (by kernel_rfl) h⟩
 ·cases h
def patinaref01_Same_U (k:Nat) (vs:List Value) (m:Mem):Option (Bool × Mem):=match vs with
 | [.slice p0a p0n p0c,.slice p1a p1n p1c] => patinaref01_Same k p0a p0n p0c p1a p1n p1c m
 | _ => none
theorem patinaref01_Same_ok (k:Nat):FOk Tryz.prog 52 Sh12 (patinaref01_Same_U k):=by
 intro vs m r h;unfold patinaref01_Same_U at h;split at h
 ·exact fnOk (C:=patinaref01_Same_C k) (patinaref01_Same_cs k) tOk mixed rfl Tryz.func52 (by kernel_rfl) (lps (cs:=[0]) (by kernel_rfl) ⟨patinaref01_Same_l0_ok k,trivial⟩) (noRanges (by kernel_rfl)) (Eq.trans (by kernel_rfl) h)
 ·cases h
def patinaref01_Lent_Kept (k:Nat) (p0:OA) (m:Mem):Option (Bool × Mem) :=
 (p0).bind fun a1 =>
 (ldSl m (plus a1 0)).bind fun t2 =>
 (p0).bind fun a3 =>
 (ldSl m (plus a3 1)).bind fun t4 =>
 (patinaref01_Same k t2.a t2.len t2.cap t4.a t4.len t4.cap m).bind fun r5 =>
 some (r5.1,r5.2)
def patinaref01_Lent_Kept_U (k:Nat) (vs:List Value) (m:Mem):Option (Bool × Mem):=match vs with
 | [.pointer p0] => patinaref01_Lent_Kept k p0 m
 | _ => none
theorem patinaref01_Lent_Kept_ok (k:Nat):FOk Tryz.prog 25 Sh12 (patinaref01_Lent_Kept_U k):=by
 intro vs m r h;unfold patinaref01_Lent_Kept_U at h;split at h
 ·exact ok0 (cC (patinaref01_Same_ok k) <| cN) Tryz.func25 (by kernel_rfl) (Eq.trans (by kernel_rfl) h)
 ·cases h
def patinaref01_Lent_Turn_l0_b (k:Nat) (nx:OA → Int → Mem → Option Mem) (kx2:Mem → Option Mem) (x0:OA) (x2:Int) (m:Mem):Option Mem :=
 (x0).bind fun a1 =>
 (ldSl m (plus a1 0)).bind fun t2 =>
 bif decide (x2 < ((t2.len:Nat):Int)) then (
 (x0).bind fun a3 =>
 (ldSl m (plus a3 0)).bind fun t4 =>
 bif inRange x2 t4.len then (
 (t4.a).bind fun a5 =>
 (st m (plus a5 (Int.toNat x2 * 1)) (Value.int .u8 (IntKind.wrap .u8 (IntKind.wrap .i64 (90 + x2))))).bind fun m6 =>
 (x0).bind fun a7 =>
 (ldSl m6 (plus a7 1)).bind fun t8 =>
 (x0).bind fun a9 =>
 (ldSl m6 (plus a9 0)).bind fun t10 =>
 bif inRange x2 t10.len then (
 (t10.a).bind fun a11 =>
 (ldInt .u8 m6 (plus a11 (Int.toNat x2 * 1))).bind fun t12 =>
 bif inRange x2 t8.len then (
 (t8.a).bind fun a13 =>
 (st m6 (plus a13 (Int.toNat x2 * 1)) (Value.int .u8 t12)).bind fun m14 =>
 nx x0 (IntKind.wrap .i64 (x2 + 1)) m14) else none) else none) else none) else (
 kx2  m)
def patinaref01_Lent_Turn_l0 (k:Nat) kx2:=it3 fun nx => patinaref01_Lent_Turn_l0_b k nx kx2
def patinaref01_Lent_Turn_l0_rule (k:Nat) kx2 {P}:=it3_rule (P:=P) (f:=fun nx => patinaref01_Lent_Turn_l0_b k nx kx2)
def patinaref01_Lent_Turn (k:Nat) (p0:OA) (m:Mem):Option Mem :=
 patinaref01_Lent_Turn_l0 k (fun m15 =>
 some (m15)) k p0 0 m
def patinaref01_Lent_Turn_cs (k:Nat):Cs Tryz.prog:=cN
def patinaref01_Lent_Turn_l0_L (k:Nat) (K:KT Mem) (n:Nat) (vs:List Value) (m:Mem):Option Mem:=match vs with
 | [.pointer x0,.int .i64 x2] => patinaref01_Lent_Turn_l0 k (fun m => K 2 [] m) n x0 x2 m
 | _ => none
def patinaref01_Lent_Turn_C (k:Nat):Ctx Mem:=⟨tt,(patinaref01_Lent_Turn_cs k).call,lpOf [(0,fun K => patinaref01_Lent_Turn_l0_L k K k)],[(0,[0,2])],[(2,[])]⟩
theorem patinaref01_Lent_Turn_l0_ok (k:Nat):LoopOk (patinaref01_Lent_Turn_C k) 0 (lpc Tryz.f26 0):=lpOk (k:=k) [0,2] (patinaref01_Lent_Turn_l0_L k) (by kernel_rfl) (fun _ _ _ => rfl) fun K n vs m r h => by
 unfold patinaref01_Lent_Turn_l0_L at h;split at h
 ·cases n
  ·cases h
  ·exact ⟨_,rfl,Eq.trans (by kernel_rfl) h⟩
 ·cases h
def patinaref01_Lent_Turn_U (k:Nat) (vs:List Value) (m:Mem):Option Mem:=match vs with
 | [.pointer p0] => patinaref01_Lent_Turn k p0 m
 | _ => none
theorem patinaref01_Lent_Turn_ok (k:Nat):FOk Tryz.prog 26 Sh1 (patinaref01_Lent_Turn_U k):=by
 intro vs m r h;unfold patinaref01_Lent_Turn_U at h;split at h
 ·exact fnOk (C:=patinaref01_Lent_Turn_C k) (patinaref01_Lent_Turn_cs k) tOk mixed rfl Tryz.func26 (by kernel_rfl) (lps (cs:=[0]) (by kernel_rfl) ⟨patinaref01_Lent_Turn_l0_ok k,trivial⟩) (noRanges (by kernel_rfl)) (Eq.trans (by kernel_rfl) h)
 ·cases h
def patinaref01_Mul_j1 (k:Nat) (x1:Int) (x5:Int) (x7:Int) (nx:Int → Int → Int → Int → Mem → Option (Int × Mem)) (x6_:Int) (mj:Mem):Option (Int × Mem) :=
 nx x1 x5 x6_ (IntKind.wrap .i64 (x7 + 1)) mj
def patinaref01_Mul_l0_b (k:Nat) (nx:Int → Int → Int → Int → Mem → Option (Int × Mem)) (kx2:Int → Mem → Option (Int × Mem)) (x1:Int) (x5:Int) (x6:Int) (x7:Int) (m:Mem):Option (Int × Mem) :=
 bif decide (x7 < 8) then (
 bif decide (x7 < 0) then none else (
 bif (bitI .and .i64 (shrI .i64 (IntKind.wrap .i64 x1) x7) 1) == 1 then (
 bif decide (x7 < 0) then none else (
 patinaref01_Mul_j1 k x1 x5 x7 nx (bitI .xor .i64 x6 (shlI .i64 x5 x7)) m)) else (
 patinaref01_Mul_j1 k x1 x5 x7 nx x6 m))) else (
 kx2 x6 m)
def patinaref01_Mul_l0 (k:Nat) kx2:=it5 fun nx => patinaref01_Mul_l0_b k nx kx2
def patinaref01_Mul_l0_rule (k:Nat) kx2 {P}:=it5_rule (P:=P) (f:=fun nx => patinaref01_Mul_l0_b k nx kx2)
def patinaref01_Mul_j2 (k:Nat) (x8:Int) (nx:Int → Int → Mem → Option (Int × Mem)) (x6_:Int) (mj:Mem):Option (Int × Mem) :=
 nx x6_ (IntKind.wrap .i64 (x8 - 1)) mj
def patinaref01_Mul_l2_b (k:Nat) (nx:Int → Int → Mem → Option (Int × Mem)) (kx4:Int → Mem → Option (Int × Mem)) (x6:Int) (x8:Int) (m:Mem):Option (Int × Mem) :=
 bif decide (x8 ≥ 8) then (
 bif decide (x8 < 0) then none else (
 bif (bitI .and .i64 (shrI .i64 x6 x8) 1) == 1 then (
 bif decide ((IntKind.wrap .i64 (x8 - 8)) < 0) then none else (
 patinaref01_Mul_j2 k x8 nx (bitI .xor .i64 x6 (shlI .i64 285 (IntKind.wrap .i64 (x8 - 8)))) m)) else (
 patinaref01_Mul_j2 k x8 nx x6 m))) else (
 kx4 x6 m)
def patinaref01_Mul_l2 (k:Nat) kx4:=it3 fun nx => patinaref01_Mul_l2_b k nx kx4
def patinaref01_Mul_l2_rule (k:Nat) kx4 {P}:=it3_rule (P:=P) (f:=fun nx => patinaref01_Mul_l2_b k nx kx4)
def patinaref01_Mul (k:Nat) (p0:Int) (p1:Int) (m:Mem):Option (Int × Mem) :=
 patinaref01_Mul_l0 k (fun y6 m1 =>
 patinaref01_Mul_l2 k (fun y6 m2 =>
 some (IntKind.wrap .u8 y6,m2)) k y6 14 m1) k p1 (IntKind.wrap .i64 p0) 0 0 m
def patinaref01_Mul_cs (k:Nat):Cs Tryz.prog:=cN
def patinaref01_Mul_l0_L (k:Nat) (K:KT (Int × Mem)) (n:Nat) (vs:List Value) (m:Mem):Option (Int × Mem):=match vs with
 | [.int .u8 x1,.int .i64 x5,.int .i64 x6,.int .i64 x7] => patinaref01_Mul_l0 k (fun y6 m => K 2 [(Value.int .i64 y6)] m) n x1 x5 x6 x7 m
 | _ => none
def patinaref01_Mul_l2_L (k:Nat) (K:KT (Int × Mem)) (n:Nat) (vs:List Value) (m:Mem):Option (Int × Mem):=match vs with
 | [.int .i64 x6,.int .i64 x8] => patinaref01_Mul_l2 k (fun y6 m => K 4 [(Value.int .i64 y6)] m) n x6 x8 m
 | _ => none
def patinaref01_Mul_C (k:Nat):Ctx (Int × Mem):=⟨tt,(patinaref01_Mul_cs k).call,lpOf [(0,fun K => patinaref01_Mul_l0_L k K k),(2,fun K => patinaref01_Mul_l2_L k K k)],[(0,[1,5,6,7]),(2,[6,8])],[(2,[6]),(4,[6])]⟩
theorem patinaref01_Mul_l0_ok (k:Nat):LoopOk (patinaref01_Mul_C k) 0 (lpc Tryz.f110 0):=lpOk (k:=k) [1,5,6,7] (patinaref01_Mul_l0_L k) (by kernel_rfl) (fun _ _ _ => rfl) fun K n vs m r h => by
 unfold patinaref01_Mul_l0_L at h;split at h
 ·cases n
  ·cases h
  ·exact ⟨_,rfl,Eq.trans (by kernel_rfl) h⟩
 ·cases h
theorem patinaref01_Mul_l2_ok (k:Nat):LoopOk (patinaref01_Mul_C k) 2 (lpc Tryz.f110 1):=lpOk (k:=k) [6,8] (patinaref01_Mul_l2_L k) (by kernel_rfl) (fun _ _ _ => rfl) fun K n vs m r h => by
 unfold patinaref01_Mul_l2_L at h;split at h
 ·cases n
  ·cases h
  ·exact ⟨_,rfl,Eq.trans (by kernel_rfl) h⟩
 ·cases h
def patinaref01_Mul_U (k:Nat) (vs:List Value) (m:Mem):Option (Int × Mem):=match vs with
 | [.int .u8 p0,.int .u8 p1] => patinaref01_Mul k p0 p1 m
 | _ => none
theorem patinaref01_Mul_ok (k:Nat):FOk Tryz.prog 110 Sh3 (patinaref01_Mul_U k):=by
 intro vs m r h;unfold patinaref01_Mul_U at h;split at h
 ·exact fnOk (C:=patinaref01_Mul_C k) (patinaref01_Mul_cs k) tOk mixed rfl Tryz.func110 (by kernel_rfl) (lps (cs:=[0,2]) (by kernel_rfl) ⟨patinaref01_Mul_l0_ok k,patinaref01_Mul_l2_ok k,trivial⟩) (noRanges (by kernel_rfl)) (Eq.trans (by kernel_rfl) h)
 ·cases h
def patinaref01_Eval_l0_b (k:Nat) (nx:OA → Nat → Nat → Int → Int → Int → Int → Mem → Option (Int × Mem)) (kx2:Int → Mem → Option (Int × Mem)) (x0a:OA) (x0n:Nat) (x0c:Nat) (x1:Int) (x5:Int) (x6:Int) (x7:Int) (m:Mem):Option (Int × Mem) :=
 bif decide (x7 ≥ 0) then (
 bif inRange x7 x0n then (
 (x0a).bind fun a1 =>
 (ldInt .u8 m (plus a1 (Int.toNat x7 * 1))).bind fun t2 =>
 (patinaref01_Mul k t2 x6 m).bind fun r3 =>
 (patinaref01_Mul k x6 x1 r3.2).bind fun r4 =>
 nx x0a x0n x0c x1 (bitI .xor .u8 x5 r3.1) r4.1 (IntKind.wrap .i64 (x7 - 1)) r4.2) else none) else (
 kx2 x5 m)
def patinaref01_Eval_l0 (k:Nat) kx2:=it8 fun nx => patinaref01_Eval_l0_b k nx kx2
def patinaref01_Eval_l0_rule (k:Nat) kx2 {P}:=it8_rule (P:=P) (f:=fun nx => patinaref01_Eval_l0_b k nx kx2)
def patinaref01_Eval (k:Nat) (p0a:OA) (p0n:Nat) (p0c:Nat) (p1:Int) (m:Mem):Option (Int × Mem) :=
 patinaref01_Eval_l0 k (fun y5 m5 =>
 some (y5,m5)) k p0a p0n p0c p1 0 1 (IntKind.wrap .i64 (((p0n:Nat):Int) - 1)) m
def patinaref01_Eval_cs (k:Nat):Cs Tryz.prog:=cC (patinaref01_Mul_ok k) <| cN
def patinaref01_Eval_l0_L (k:Nat) (K:KT (Int × Mem)) (n:Nat) (vs:List Value) (m:Mem):Option (Int × Mem):=match vs with
 | [.slice x0a x0n x0c,.int .u8 x1,.int .u8 x5,.int .u8 x6,.int .i64 x7] => patinaref01_Eval_l0 k (fun y5 m => K 2 [(Value.int .u8 y5)] m) n x0a x0n x0c x1 x5 x6 x7 m
 | _ => none
def patinaref01_Eval_C (k:Nat):Ctx (Int × Mem):=⟨tt,(patinaref01_Eval_cs k).call,lpOf [(0,fun K => patinaref01_Eval_l0_L k K k)],[(0,[0,1,5,6,7])],[(2,[5])]⟩
theorem patinaref01_Eval_l0_ok (k:Nat):LoopOk (patinaref01_Eval_C k) 0 (lpc Tryz.f131 0):=lpOk (k:=k) [0,1,5,6,7] (patinaref01_Eval_l0_L k) (by kernel_rfl) (fun _ _ _ => rfl) fun K n vs m r h => by
 unfold patinaref01_Eval_l0_L at h;split at h
 ·cases n
  ·cases h
  ·exact ⟨_,rfl,Eq.trans (by kernel_rfl) h⟩
 ·cases h
def patinaref01_Eval_U (k:Nat) (vs:List Value) (m:Mem):Option (Int × Mem):=match vs with
 | [.slice p0a p0n p0c,.int .u8 p1] => patinaref01_Eval k p0a p0n p0c p1 m
 | _ => none
theorem patinaref01_Eval_ok (k:Nat):FOk Tryz.prog 131 Sh3 (patinaref01_Eval_U k):=by
 intro vs m r h;unfold patinaref01_Eval_U at h;split at h
 ·exact fnOk (C:=patinaref01_Eval_C k) (patinaref01_Eval_cs k) tOk mixed rfl Tryz.func131 (by kernel_rfl) (lps (cs:=[0]) (by kernel_rfl) ⟨patinaref01_Eval_l0_ok k,trivial⟩) (noRanges (by kernel_rfl)) (Eq.trans (by kernel_rfl) h)
 ·cases h
def patinaref01_Times_l2_b (k:Nat) (nx:OA → Nat → Nat → OA → Nat → Nat → OA → Nat → Nat → Int → Int → Mem → Option (Sl × Mem)) (kx4:OA → Nat → Nat → OA → Nat → Nat → OA → Nat → Nat → Int → Mem → Option (Sl × Mem)) (x0a:OA) (x0n:Nat) (x0c:Nat) (x1a:OA) (x1n:Nat) (x1c:Nat) (x5a:OA) (x5n:Nat) (x5c:Nat) (x6:Int) (x7:Int) (m:Mem):Option (Sl × Mem) :=
 bif decide (x7 < ((x1n:Nat):Int)) then (
 bif inRange (IntKind.wrap .i64 (x6 + x7)) x5n then (
 (x5a).bind fun a2 =>
 (ldInt .u8 m (plus a2 (Int.toNat (IntKind.wrap .i64 (x6 + x7)) * 1))).bind fun t3 =>
 bif inRange x6 x0n then (
 (x0a).bind fun a4 =>
 (ldInt .u8 m (plus a4 (Int.toNat x6 * 1))).bind fun t5 =>
 bif inRange x7 x1n then (
 (x1a).bind fun a6 =>
 (ldInt .u8 m (plus a6 (Int.toNat x7 * 1))).bind fun t7 =>
 (patinaref01_Mul k t5 t7 m).bind fun r8 =>
 bif inRange (IntKind.wrap .i64 (x6 + x7)) x5n then (
 (x5a).bind fun a9 =>
 (st r8.2 (plus a9 (Int.toNat (IntKind.wrap .i64 (x6 + x7)) * 1)) (Value.int .u8 (bitI .xor .u8 t3 r8.1))).bind fun m10 =>
 (ldInt .u8 r8.2 (plus a2 (Int.toNat (IntKind.wrap .i64 (x6 + x7)) * 1))).bind fun t11 =>
 bif t11 == t3 then (
 nx x0a x0n x0c x1a x1n x1c x5a x5n x5c x6 (IntKind.wrap .i64 (x7 + 1)) m10) else none) else none) else none) else none) else none) else (
 kx4 x0a x0n x0c x1a x1n x1c x5a x5n x5c x6 m)
def patinaref01_Times_l2 (k:Nat) kx4:=it12 fun nx => patinaref01_Times_l2_b k nx kx4
def patinaref01_Times_l2_rule (k:Nat) kx4 {P}:=it12_rule (P:=P) (f:=fun nx => patinaref01_Times_l2_b k nx kx4)
def patinaref01_Times_l0_b (k:Nat) (nx:OA → Nat → Nat → OA → Nat → Nat → OA → Nat → Nat → Int → Mem → Option (Sl × Mem)) (kx2:OA → Nat → Nat → Mem → Option (Sl × Mem)) (x0a:OA) (x0n:Nat) (x0c:Nat) (x1a:OA) (x1n:Nat) (x1c:Nat) (x5a:OA) (x5n:Nat) (x5c:Nat) (x6:Int) (m:Mem):Option (Sl × Mem) :=
 bif decide (x6 < ((x0n:Nat):Int)) then (
 patinaref01_Times_l2 k (fun y0a y0n y0c y1a y1n y1c y5a y5n y5c y6 m12 =>
 nx y0a y0n y0c y1a y1n y1c y5a y5n y5c (IntKind.wrap .i64 (y6 + 1)) m12) k x0a x0n x0c x1a x1n x1c x5a x5n x5c x6 0 m) else (
 kx2 x5a x5n x5c m)
def patinaref01_Times_l0 (k:Nat) kx2:=it11 fun nx => patinaref01_Times_l0_b k nx kx2
def patinaref01_Times_l0_rule (k:Nat) kx2 {P}:=it11_rule (P:=P) (f:=fun nx => patinaref01_Times_l0_b k nx kx2)
def patinaref01_Times (k:Nat) (p0a:OA) (p0n:Nat) (p0c:Nat) (p1a:OA) (p1n:Nat) (p1c:Nat) (m:Mem):Option (Sl × Mem) :=
 bif ((p0n:Nat):Int) == 0 then (
 some ((⟨none,0,0⟩:Sl),m)) else (
 bif ((p1n:Nat):Int) == 0 then (
 some ((⟨none,0,0⟩:Sl),m)) else (
 bif decide (0 ≤ IntKind.wrap .i64 ((IntKind.wrap .i64 (((p0n:Nat):Int) + ((p1n:Nat):Int))) - 1)) && decide (IntKind.wrap .i64 ((IntKind.wrap .i64 (((p0n:Nat):Int) + ((p1n:Nat):Int))) - 1) ≤ IntKind.wrap .i64 ((IntKind.wrap .i64 (((p0n:Nat):Int) + ((p1n:Nat):Int))) - 1)) && decide ((IntKind.wrap .i64 ((IntKind.wrap .i64 (((p0n:Nat):Int) + ((p1n:Nat):Int))) - 1)) * (((tt 5).bytes:Nat):Int) ≤ ((most:Nat):Int)) && decide (IntKind.wrap .i64 ((IntKind.wrap .i64 (((p0n:Nat):Int) + ((p1n:Nat):Int))) - 1) ≤ ((most:Nat):Int)) then (
 let m1:Mem:=m ++ [.live (repl (Int.toNat (IntKind.wrap .i64 ((IntKind.wrap .i64 (((p0n:Nat):Int) + ((p1n:Nat):Int))) - 1))) [.int .u8 0])]
 patinaref01_Times_l0 k (fun y5a y5n y5c m13 =>
 some ((⟨y5a,y5n,y5c⟩:Sl),m13)) k p0a p0n p0c p1a p1n p1c (some ⟨List.length m,0,none⟩) (Int.toNat (IntKind.wrap .i64 ((IntKind.wrap .i64 (((p0n:Nat):Int) + ((p1n:Nat):Int))) - 1))) (Int.toNat (IntKind.wrap .i64 ((IntKind.wrap .i64 (((p0n:Nat):Int) + ((p1n:Nat):Int))) - 1))) 0 m1) else none))
def patinaref01_Times_cs (k:Nat):Cs Tryz.prog:=cC (patinaref01_Mul_ok k) <| cN
def patinaref01_Times_l0_L (k:Nat) (K:KT (Sl × Mem)) (n:Nat) (vs:List Value) (m:Mem):Option (Sl × Mem):=match vs with
 | [.slice x0a x0n x0c,.slice x1a x1n x1c,.slice x5a x5n x5c,.int .i64 x6] => patinaref01_Times_l0 k (fun y5a y5n y5c m => K 2 [(Value.slice y5a y5n y5c)] m) n x0a x0n x0c x1a x1n x1c x5a x5n x5c x6 m
 | _ => none
def patinaref01_Times_l2_L (k:Nat) (K:KT (Sl × Mem)) (n:Nat) (vs:List Value) (m:Mem):Option (Sl × Mem):=match vs with
 | [.slice x0a x0n x0c,.slice x1a x1n x1c,.slice x5a x5n x5c,.int .i64 x6,.int .i64 x7] => patinaref01_Times_l2 k (fun y0a y0n y0c y1a y1n y1c y5a y5n y5c y6 m => K 4 [(Value.slice y0a y0n y0c),(Value.slice y1a y1n y1c),(Value.slice y5a y5n y5c),(Value.int .i64 y6)] m) n x0a x0n x0c x1a x1n x1c x5a x5n x5c x6 x7 m
 | _ => none
def patinaref01_Times_C (k:Nat):Ctx (Sl × Mem):=⟨tt,(patinaref01_Times_cs k).call,lpOf [(0,fun K => patinaref01_Times_l0_L k K k),(2,fun K => patinaref01_Times_l2_L k K k)],[(0,[0,1,5,6]),(2,[0,1,5,6,7])],[(2,[5]),(4,[0,1,5,6])]⟩
theorem patinaref01_Times_l0_ok (k:Nat):LoopOk (patinaref01_Times_C k) 0 (lpc Tryz.f122 0):=lpOk (k:=k) [0,1,5,6] (patinaref01_Times_l0_L k) (by kernel_rfl) (fun _ _ _ => rfl) fun K n vs m r h => by
 unfold patinaref01_Times_l0_L at h;split at h
 ·cases n
  ·cases h
  ·exact ⟨_,rfl,Eq.trans (by kernel_rfl) h⟩
 ·cases h
theorem patinaref01_Times_l2_ok (k:Nat):LoopOk (patinaref01_Times_C k) 2 (lpc Tryz.f122 1):=lpOk (k:=k) [0,1,5,6,7] (patinaref01_Times_l2_L k) (by kernel_rfl) (fun _ _ _ => rfl) fun K n vs m r h => by
 unfold patinaref01_Times_l2_L at h;split at h
 ·cases n
  ·cases h
  ·exact ⟨_,rfl,Eq.trans (by kernel_rfl) h⟩
 ·cases h
def patinaref01_Times_U (k:Nat) (vs:List Value) (m:Mem):Option (Sl × Mem):=match vs with
 | [.slice p0a p0n p0c,.slice p1a p1n p1c] => patinaref01_Times k p0a p0n p0c p1a p1n p1c m
 | _ => none
theorem patinaref01_Times_ok (k:Nat):FOk Tryz.prog 122 Sh4 (patinaref01_Times_U k):=by
 intro vs m r h;unfold patinaref01_Times_U at h;split at h
 ·exact fnOk (C:=patinaref01_Times_C k) (patinaref01_Times_cs k) tOk mixed rfl Tryz.func122 (by kernel_rfl) (lps (cs:=[0,2]) (by kernel_rfl) ⟨patinaref01_Times_l0_ok k,patinaref01_Times_l2_ok k,trivial⟩) (noRanges (by kernel_rfl)) (Eq.trans (by kernel_rfl) h)
 ·cases h
end Go.Proofs.YtchonnaoojpdoaaGreat
