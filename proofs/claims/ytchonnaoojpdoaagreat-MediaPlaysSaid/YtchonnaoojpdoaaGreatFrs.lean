import Derived.Test.YtchonnaoojpdoaaGreatF1
import Derived.Test.YtchonnaoojpdoaaGreatFfield
set_option linter.unusedVariables false
set_option linter.defProp false
set_option maxRecDepth 100000
namespace Go.Proofs.YtchonnaoojpdoaaGreat
open Go.Mx
def rs_New_l0_b (k:Nat) (nx:OA → OA → Nat → Nat → Int → Mem → Option ((OA) × Mem)) (kx2:OA → OA → Nat → Nat → Mem → Option ((OA) × Mem)) (x1:OA) (x2a:OA) (x2n:Nat) (x2c:Nat) (x6:Int) (m:Mem):Option ((OA) × Mem) :=
 bif decide (x6 < 6) then (
 (field_Field_Exp k x1 x6 m).bind fun r3 =>
 let m4:Mem:=r3.2 ++ [.live [(Value.int .u8 1),(Value.int .u8 r3.1)]]
 (field_Field_Times k x1 x2a x2n x2c (some ⟨List.length r3.2,0,none⟩) 2 2 m4).bind fun r5 =>
 nx x1 r5.1.a r5.1.len r5.1.cap (IntKind.wrap .i64 (x6 + 1)) r5.2) else (
 kx2 x1 x2a x2n x2c m)
def rs_New_l0 (k:Nat) kx2:=it6 fun nx => rs_New_l0_b k nx kx2
def rs_New_l0_rule (k:Nat) kx2 {P}:=it6_rule (P:=P) (f:=fun nx => rs_New_l0_b k nx kx2)
def rs_New (k:Nat) (m:Mem):Option ((OA) × Mem) :=
 (field_New k  m).bind fun r1 =>
 let m2:Mem:=r1.2 ++ [.live [(Value.int .u8 1)]]
 rs_New_l0 k (fun y1 y2a y2n y2c m6 =>
 bif sliceK.okZ y2a 1 false && inUpto 1 y2n then (
 let m7:Mem:=m6 ++ [.live [(Value.pointer y1),(Value.slice ((sliceK.clear y2a false).map fun a => plus a ((Int.toNat 1) * 1)) (y2n - (Int.toNat 1)) (y2c - (Int.toNat 1)))]]
 some ((some ⟨List.length m6,0,none⟩),m7)) else none) k r1.1 (some ⟨List.length r1.2,0,none⟩) 1 1 0 m2
def rs_New_cs (k:Nat):Cs Tryz.prog:=cC (field_New_ok k) <| cC (field_Field_Times_ok k) <| cC (field_Field_Exp_ok k) <| cN
def rs_New_l0_L (k:Nat) (K:KT ((OA) × Mem)) (n:Nat) (vs:List Value) (m:Mem):Option ((OA) × Mem):=match vs with
 | [.pointer x1,.slice x2a x2n x2c,.int .i64 x6] => rs_New_l0 k (fun y1 y2a y2n y2c m => K 2 [(Value.pointer y1),(Value.slice y2a y2n y2c)] m) n x1 x2a x2n x2c x6 m
 | _ => none
def rs_New_C (k:Nat):Ctx ((OA) × Mem):=⟨tt,(rs_New_cs k).call,lpOf [(0,fun K => rs_New_l0_L k K k)],[(0,[1,2,6])],[(2,[1,2])]⟩
theorem rs_New_l0_ok (k:Nat):LoopOk (rs_New_C k) 0 (lpc Tryz.f71 0):=lpOk (k:=k) [1,2,6] (rs_New_l0_L k) (by kernel_rfl) (fun _ _ _ => rfl) fun K n vs m r h => by
 unfold rs_New_l0_L at h;split at h
 ·cases n
  ·cases h
  ·exact ⟨_,rfl,Eq.trans (by kernel_rfl) h⟩
 ·cases h
def rs_New_U (k:Nat) (vs:List Value) (m:Mem):Option ((OA) × Mem):=match vs with
 | [] => rs_New k  m
 | _ => none
theorem rs_New_ok (k:Nat):FOk Tryz.prog 71 Sh2 (rs_New_U k):=by
 intro vs m r h;unfold rs_New_U at h;split at h
 ·exact fnOk (C:=rs_New_C k) (rs_New_cs k) tOk mixed rfl Tryz.func71 (by kernel_rfl) (lps (cs:=[0]) (by kernel_rfl) ⟨rs_New_l0_ok k,trivial⟩) (noRanges (by kernel_rfl)) (Eq.trans (by kernel_rfl) h)
 ·cases h
def rs_Codec_syndromes_l0_b (k:Nat) (nx:OA → OA → Nat → Nat → Addr → Addr → Int → Mem → Option ((List Value) × Mem)) (kx2:Addr → Addr → Mem → Option ((List Value) × Mem)) (x0:OA) (x1a:OA) (x1n:Nat) (x1c:Nat) (x4:Addr) (x5:Addr) (x7:Int) (m:Mem):Option ((List Value) × Mem) :=
 bif decide (x7 < 6) then (
 (x0).bind fun a3 =>
 (ldPtr m (plus a3 0)).bind fun t4 =>
 (x0).bind fun a5 =>
 (ldPtr m (plus a5 0)).bind fun t6 =>
 (field_Field_Exp k t6 x7 m).bind fun r7 =>
 (field_Field_Eval k t4 x1a x1n x1c r7.1 r7.2).bind fun r8 =>
 bif inRange x7 6 then (
 (st r8.2 (plus x5 (Int.toNat x7 * 1)) (Value.int .u8 r8.1)).bind fun m9 =>
 (ldPtr r7.2 (plus a3 0)).bind fun t10 =>
 bif decide (t10 = t4) then (
 nx x0 x1a x1n x1c x4 x5 (IntKind.wrap .i64 (x7 + 1)) m9) else none) else none) else (
 kx2 x4 x5 m)
def rs_Codec_syndromes_l0 (k:Nat) kx2:=it8 fun nx => rs_Codec_syndromes_l0_b k nx kx2
def rs_Codec_syndromes_l0_rule (k:Nat) kx2 {P}:=it8_rule (P:=P) (f:=fun nx => rs_Codec_syndromes_l0_b k nx kx2)
def rs_Codec_syndromes (k:Nat) (p0:OA) (p1a:OA) (p1n:Nat) (p1c:Nat) (m:Mem):Option ((List Value) × Mem) :=
 let m1:Mem:=m ++ [.live (repl 6 [.int .u8 0])]
 let m2:Mem:=m1 ++ [.live (repl 6 [.int .u8 0])]
 rs_Codec_syndromes_l0 k (fun y4 y5 m11 =>
 (ldCells m11 y5 6).bind fun t12 =>
 bif Nat.beq (List.length t12) 6 then (
 (stCells m11 y4 t12).bind fun m13 =>
 (ldCells m13 y4 6).bind fun t14 =>
 some (t14,m13)) else none) k p0 p1a p1n p1c ⟨List.length m,0,none⟩ ⟨List.length m1,0,none⟩ 0 m2
def rs_Codec_syndromes_cs (k:Nat):Cs Tryz.prog:=cC (field_Field_Exp_ok k) <| cC (field_Field_Eval_ok k) <| cN
def rs_Codec_syndromes_l0_L (k:Nat) (K:KT ((List Value) × Mem)) (n:Nat) (vs:List Value) (m:Mem):Option ((List Value) × Mem):=match vs with
 | [.pointer x0,.slice x1a x1n x1c,.pointer (some x4),.pointer (some x5),.int .i64 x7] => rs_Codec_syndromes_l0 k (fun y4 y5 m => K 2 [(Value.pointer (some y4)),(Value.pointer (some y5))] m) n x0 x1a x1n x1c x4 x5 x7 m
 | _ => none
def rs_Codec_syndromes_C (k:Nat):Ctx ((List Value) × Mem):=⟨tt,(rs_Codec_syndromes_cs k).call,lpOf [(0,fun K => rs_Codec_syndromes_l0_L k K k)],[(0,[0,1,4,5,7])],[(2,[4,5])]⟩
theorem rs_Codec_syndromes_l0_ok (k:Nat):LoopOk (rs_Codec_syndromes_C k) 0 (lpc Tryz.f102 0):=lpOk (k:=k) [0,1,4,5,7] (rs_Codec_syndromes_l0_L k) (by kernel_rfl) (fun _ _ _ => rfl) fun K n vs m r h => by
 unfold rs_Codec_syndromes_l0_L at h;split at h
 ·cases n
  ·cases h
  ·exact ⟨_,rfl,Eq.trans (by kernel_rfl) h⟩
 ·cases h
def rs_Codec_syndromes_U (k:Nat) (vs:List Value) (m:Mem):Option ((List Value) × Mem):=match vs with
 | [.pointer p0,.slice p1a p1n p1c] => rs_Codec_syndromes k p0 p1a p1n p1c m
 | _ => none
theorem rs_Codec_syndromes_ok (k:Nat):FOk Tryz.prog 102 Sh7 (rs_Codec_syndromes_U k):=by
 intro vs m r h;unfold rs_Codec_syndromes_U at h;split at h
 ·exact fnOk (C:=rs_Codec_syndromes_C k) (rs_Codec_syndromes_cs k) tOk mixed rfl Tryz.func102 (by kernel_rfl) (lps (cs:=[0]) (by kernel_rfl) ⟨rs_Codec_syndromes_l0_ok k,trivial⟩) (noRanges (by kernel_rfl)) (Eq.trans (by kernel_rfl) h)
 ·cases h
def rs_place (k:Nat) (p0:Int) (m:Mem):Option (Int × Mem) :=
 some (IntKind.wrap .i64 (63 - p0),m)
def rs_place_U (k:Nat) (vs:List Value) (m:Mem):Option (Int × Mem):=match vs with
 | [.int .i64 p0] => rs_place k p0 m
 | _ => none
theorem rs_place_ok (k:Nat):FOk Tryz.prog 120 Sh0 (rs_place_U k):=by
 intro vs m r h;unfold rs_place_U at h;split at h
 ·exact ok0 (cN) Tryz.func120 (by kernel_rfl) (Eq.trans (by kernel_rfl) h)
 ·cases h
def rs_Codec_one_l0_b (k:Nat) (nx:OA → OA → Nat → Nat → Addr → Int → Int → Mem → Option (Int × Mem)) (kx0:Int → Mem → Option (Int × Mem)) (kx2:OA → OA → Nat → Nat → Addr → Int → Mem → Option (Int × Mem)) (x0:OA) (x1a:OA) (x1n:Nat) (x1c:Nat) (x5:Addr) (x7:Int) (x9:Int) (m:Mem):Option (Int × Mem) :=
 bif decide (x9 < 6) then (
 (x0).bind fun a10 =>
 (ldPtr m (plus a10 0)).bind fun t11 =>
 bif inRange (IntKind.wrap .i64 (x9 - 1)) 6 then (
 (ldInt .u8 m (plus x5 (Int.toNat (IntKind.wrap .i64 (x9 - 1)) * 1))).bind fun t12 =>
 (field_Field_Mul k t11 t12 x7 m).bind fun r13 =>
 bif inRange x9 6 then (
 (ldInt .u8 r13.2 (plus x5 (Int.toNat x9 * 1))).bind fun t14 =>
 (ldInt .u8 m (plus x5 (Int.toNat x9 * 1))).bind fun t15 =>
 bif t15 == t14 then (
 bif r13.1 != t14 then (
 kx0 0 r13.2) else (
 nx x0 x1a x1n x1c x5 x7 (IntKind.wrap .i64 (x9 + 1)) r13.2)) else none) else none) else none) else (
 kx2 x0 x1a x1n x1c x5 x7 m)
def rs_Codec_one_l0 (k:Nat) kx0 kx2:=it8 fun nx => rs_Codec_one_l0_b k nx kx0 kx2
def rs_Codec_one_l0_rule (k:Nat) kx0 kx2 {P}:=it8_rule (P:=P) (f:=fun nx => rs_Codec_one_l0_b k nx kx0 kx2)
def rs_Codec_one (k:Nat) (p0:OA) (p1a:OA) (p1n:Nat) (p1c:Nat) (p2:List Value) (m:Mem):Option (Int × Mem) :=
 bif Nat.beq (List.length p2) 6 then (
 let m1:Mem:=m ++ [.live p2]
 (ldInt .u8 m1 (plus ⟨List.length m,0,none⟩ (Int.toNat 0 * 1))).bind fun t2 =>
 bif t2 == 0 then (
 some (0,m1)) else (
 (ldInt .u8 m1 (plus ⟨List.length m,0,none⟩ (Int.toNat 1 * 1))).bind fun t3 =>
 bif t3 == 0 then (
 some (0,m1)) else (
 (p0).bind fun a4 =>
 (ldPtr m1 (plus a4 0)).bind fun t5 =>
 (ldInt .u8 m1 (plus ⟨List.length m,0,none⟩ (Int.toNat 1 * 1))).bind fun t6 =>
 (ldInt .u8 m1 (plus ⟨List.length m,0,none⟩ (Int.toNat 0 * 1))).bind fun t7 =>
 (field_Field_Div k t5 t6 t7 m1).bind fun r8 =>
 (isNil r8.2.1).bind fun b9 =>
 bif !b9 then (
 some (0,r8.2.2)) else (
 rs_Codec_one_l0 k (fun y6 m16 =>
 some (y6,m16)) (fun y0 y1a y1n y1c y5 y7 m17 =>
 (y0).bind fun a18 =>
 (ldPtr m17 (plus a18 0)).bind fun t19 =>
 (field_Field_Log k t19 y7 m17).bind fun r20 =>
 (isNil r20.2.1).bind fun b21 =>
 bif !b21 then (
 some (0,r20.2.2)) else (
 bif decide (r20.1 ≥ 64) then (
 some (0,r20.2.2)) else (
 (rs_place k r20.1 r20.2.2).bind fun r22 =>
 bif inRange r22.1 y1n then (
 (y1a).bind fun a23 =>
 (ldInt .u8 r22.2 (plus a23 (Int.toNat r22.1 * 1))).bind fun t24 =>
 (ldInt .u8 r22.2 (plus y5 (Int.toNat 0 * 1))).bind fun t25 =>
 bif inRange r22.1 y1n then (
 (y1a).bind fun a26 =>
 (st r22.2 (plus a26 (Int.toNat r22.1 * 1)) (Value.int .u8 (bitI .xor .u8 t24 t25))).bind fun m27 =>
 (ldInt .u8 r20.2.2 (plus y5 (Int.toNat 0 * 1))).bind fun t28 =>
 bif t28 == t25 then (
 some (1,m27)) else none) else none) else none))) k p0 p1a p1n p1c ⟨List.length m,0,none⟩ r8.1 1 r8.2.2)))) else none
def rs_Codec_one_cs (k:Nat):Cs Tryz.prog:=cC (field_Field_Mul_ok k) <| cC (field_Field_Div_ok k) <| cC (field_Field_Log_ok k) <| cC (rs_place_ok k) <| cN
def rs_Codec_one_l0_L (k:Nat) (K:KT (Int × Mem)) (n:Nat) (vs:List Value) (m:Mem):Option (Int × Mem):=match vs with
 | [.pointer x0,.slice x1a x1n x1c,.pointer (some x5),.int .u8 x7,.int .i64 x9] => rs_Codec_one_l0 k (fun y6 m => K 0 [(Value.int .i64 y6)] m) (fun y0 y1a y1n y1c y5 y7 m => K 2 [(Value.pointer y0),(Value.slice y1a y1n y1c),(Value.pointer (some y5)),(Value.int .u8 y7)] m) n x0 x1a x1n x1c x5 x7 x9 m
 | _ => none
def rs_Codec_one_C (k:Nat):Ctx (Int × Mem):=⟨tt,(rs_Codec_one_cs k).call,lpOf [(0,fun K => rs_Codec_one_l0_L k K k)],[(0,[0,1,5,7,9])],[(0,[6]),(2,[0,1,5,7])]⟩
theorem rs_Codec_one_l0_ok (k:Nat):LoopOk (rs_Codec_one_C k) 0 (lpc Tryz.f103 0):=lpOk (k:=k) [0,1,5,7,9] (rs_Codec_one_l0_L k) (by kernel_rfl) (fun _ _ _ => rfl) fun K n vs m r h => by
 unfold rs_Codec_one_l0_L at h;split at h
 ·cases n
  ·cases h
  ·exact ⟨_,rfl,Eq.trans (by kernel_rfl) h⟩
 ·cases h
def rs_Codec_one_U (k:Nat) (vs:List Value) (m:Mem):Option (Int × Mem):=match vs with
 | [.pointer p0,.slice p1a p1n p1c,.agg ⟨p2⟩] => rs_Codec_one k p0 p1a p1n p1c p2 m
 | _ => none
theorem rs_Codec_one_ok (k:Nat):FOk Tryz.prog 103 Sh0 (rs_Codec_one_U k):=by
 intro vs m r h;unfold rs_Codec_one_U at h;split at h
 ·exact fnOk (C:=rs_Codec_one_C k) (rs_Codec_one_cs k) tOk mixed rfl Tryz.func103 (by kernel_rfl) (lps (cs:=[0]) (by kernel_rfl) ⟨rs_Codec_one_l0_ok k,trivial⟩) (noRanges (by kernel_rfl)) (Eq.trans (by kernel_rfl) h)
 ·cases h
def rs_Codec_two_j1 (k:Nat) (x1a:OA) (x1n:Nat) (x1c:Nat) (x5:Addr) (x7:OA) (x9:Int) (x11:Int) (x12:Addr) (x78:Int) (nx:OA → Nat → Nat → Addr → OA → Int → Int → Addr → Int → Int → Mem → Option (Int × Mem)) (x13_:Int) (mj:Mem):Option (Int × Mem) :=
 nx x1a x1n x1c x5 x7 x9 x11 x12 x13_ (IntKind.wrap .i64 (x78 + 1)) mj
def rs_Codec_two_l0_b (k:Nat) (nx:OA → Nat → Nat → Addr → OA → Int → Int → Addr → Int → Int → Mem → Option (Int × Mem)) (kx0:Int → Mem → Option (Int × Mem)) (kx2:OA → Nat → Nat → Addr → OA → Addr → Int → Mem → Option (Int × Mem)) (x1a:OA) (x1n:Nat) (x1c:Nat) (x5:Addr) (x7:OA) (x9:Int) (x11:Int) (x12:Addr) (x13:Int) (x78:Int) (m:Mem):Option (Int × Mem) :=
 bif decide (x78 < 64) then (
 (field_Field_Exp k x7 x78 m).bind fun r33 =>
 (field_Field_Mul k x7 r33.1 r33.1 r33.2).bind fun r34 =>
 (field_Field_Mul k x7 x9 r33.1 r34.2).bind fun r35 =>
 bif (bitI .xor .u8 (bitI .xor .u8 r34.1 r35.1) x11) != 0 then (
 rs_Codec_two_j1 k x1a x1n x1c x5 x7 x9 x11 x12 x78 nx x13 r35.2) else (
 bif x13 == 2 then (
 kx0 0 r35.2) else (
 bif inRange x13 2 then (
 (st r35.2 (plus x12 (Int.toNat x13 * 1)) (Value.int .i64 x78)).bind fun m36 =>
 rs_Codec_two_j1 k x1a x1n x1c x5 x7 x9 x11 x12 x78 nx (IntKind.wrap .i64 (x13 + 1)) m36) else none))) else (
 kx2 x1a x1n x1c x5 x7 x12 x13 m)
def rs_Codec_two_l0 (k:Nat) kx0 kx2:=it11 fun nx => rs_Codec_two_l0_b k nx kx0 kx2
def rs_Codec_two_l0_rule (k:Nat) kx0 kx2 {P}:=it11_rule (P:=P) (f:=fun nx => rs_Codec_two_l0_b k nx kx0 kx2)
def rs_Codec_two (k:Nat) (p0:OA) (p1a:OA) (p1n:Nat) (p1c:Nat) (p2:List Value) (m:Mem):Option (Int × Mem) :=
 bif Nat.beq (List.length p2) 6 then (
 let m1:Mem:=m ++ [.live p2]
 (p0).bind fun a2 =>
 (ldPtr m1 (plus a2 0)).bind fun t3 =>
 (ldInt .u8 m1 (plus ⟨List.length m,0,none⟩ (Int.toNat 1 * 1))).bind fun t4 =>
 (ldInt .u8 m1 (plus ⟨List.length m,0,none⟩ (Int.toNat 1 * 1))).bind fun t5 =>
 (field_Field_Mul k t3 t4 t5 m1).bind fun r6 =>
 (ldInt .u8 r6.2 (plus ⟨List.length m,0,none⟩ (Int.toNat 0 * 1))).bind fun t7 =>
 (ldInt .u8 r6.2 (plus ⟨List.length m,0,none⟩ (Int.toNat 2 * 1))).bind fun t8 =>
 (field_Field_Mul k t3 t7 t8 r6.2).bind fun r9 =>
 (ldInt .u8 m1 (plus ⟨List.length m,0,none⟩ (Int.toNat 0 * 1))).bind fun t10 =>
 bif t10 == t7 then (
 (ldInt .u8 m1 (plus ⟨List.length m,0,none⟩ (Int.toNat 2 * 1))).bind fun t11 =>
 bif t11 == t8 then (
 (ldInt .u8 r9.2 (plus ⟨List.length m,0,none⟩ (Int.toNat 1 * 1))).bind fun t12 =>
 (ldInt .u8 r9.2 (plus ⟨List.length m,0,none⟩ (Int.toNat 2 * 1))).bind fun t13 =>
 (field_Field_Mul k t3 t12 t13 r9.2).bind fun r14 =>
 (ldInt .u8 r14.2 (plus ⟨List.length m,0,none⟩ (Int.toNat 0 * 1))).bind fun t15 =>
 (ldInt .u8 r14.2 (plus ⟨List.length m,0,none⟩ (Int.toNat 3 * 1))).bind fun t16 =>
 (field_Field_Mul k t3 t15 t16 r14.2).bind fun r17 =>
 (field_Field_Div k t3 (bitI .xor .u8 r14.1 r17.1) (bitI .xor .u8 r6.1 r9.1) r17.2).bind fun r18 =>
 (ldInt .u8 r9.2 (plus ⟨List.length m,0,none⟩ (Int.toNat 0 * 1))).bind fun t19 =>
 bif t19 == t15 then (
 (ldInt .u8 r9.2 (plus ⟨List.length m,0,none⟩ (Int.toNat 3 * 1))).bind fun t20 =>
 bif t20 == t16 then (
 (isNil r18.2.1).bind fun b21 =>
 bif !b21 then (
 some (0,r18.2.2)) else (
 (ldInt .u8 r18.2.2 (plus ⟨List.length m,0,none⟩ (Int.toNat 2 * 1))).bind fun t22 =>
 (ldInt .u8 r18.2.2 (plus ⟨List.length m,0,none⟩ (Int.toNat 2 * 1))).bind fun t23 =>
 (field_Field_Mul k t3 t22 t23 r18.2.2).bind fun r24 =>
 (ldInt .u8 r24.2 (plus ⟨List.length m,0,none⟩ (Int.toNat 1 * 1))).bind fun t25 =>
 (ldInt .u8 r24.2 (plus ⟨List.length m,0,none⟩ (Int.toNat 3 * 1))).bind fun t26 =>
 (field_Field_Mul k t3 t25 t26 r24.2).bind fun r27 =>
 (field_Field_Div k t3 (bitI .xor .u8 r24.1 r27.1) (bitI .xor .u8 r6.1 r9.1) r27.2).bind fun r28 =>
 (ldInt .u8 r18.2.2 (plus ⟨List.length m,0,none⟩ (Int.toNat 1 * 1))).bind fun t29 =>
 bif t29 == t25 then (
 (ldInt .u8 r18.2.2 (plus ⟨List.length m,0,none⟩ (Int.toNat 3 * 1))).bind fun t30 =>
 bif t30 == t26 then (
 (isNil r28.2.1).bind fun b31 =>
 bif !b31 then (
 some (0,r28.2.2)) else (
 let m32:Mem:=r28.2.2 ++ [.live [.int .i64 0,.int .i64 0]]
 rs_Codec_two_l0 k (fun y6 m37 =>
 some (y6,m37)) (fun y1a y1n y1c y5 y7 y12 y13 m38 =>
 bif y13 != 2 then (
 some (0,m38)) else (
 (ldInt .i64 m38 (plus y12 (Int.toNat 0 * 1))).bind fun t39 =>
 (field_Field_Exp k y7 t39 m38).bind fun r40 =>
 (ldInt .i64 r40.2 (plus y12 (Int.toNat 1 * 1))).bind fun t41 =>
 (field_Field_Exp k y7 t41 r40.2).bind fun r42 =>
 (ldInt .i64 m38 (plus y12 (Int.toNat 1 * 1))).bind fun t43 =>
 bif t43 == t41 then (
 (ldInt .u8 r42.2 (plus y5 (Int.toNat 1 * 1))).bind fun t44 =>
 (ldInt .u8 r42.2 (plus y5 (Int.toNat 0 * 1))).bind fun t45 =>
 (field_Field_Mul k y7 t45 r42.1 r42.2).bind fun r46 =>
 (field_Field_Div k y7 (bitI .xor .u8 t44 r46.1) (bitI .xor .u8 r40.1 r42.1) r46.2).bind fun r47 =>
 (ldInt .u8 r46.2 (plus y5 (Int.toNat 1 * 1))).bind fun t48 =>
 bif t48 == t44 then (
 (isNil r47.2.1).bind fun b49 =>
 bif !b49 then (
 some (0,r47.2.2)) else (
 bif r47.1 == 0 then (
 some (0,r47.2.2)) else (
 (ldInt .u8 r47.2.2 (plus y5 (Int.toNat 0 * 1))).bind fun t50 =>
 bif r47.1 == t50 then (
 some (0,r47.2.2)) else (
 (ldInt .i64 r47.2.2 (plus y12 (Int.toNat 0 * 1))).bind fun t51 =>
 (rs_place k t51 r47.2.2).bind fun r52 =>
 bif inRange r52.1 y1n then (
 (y1a).bind fun a53 =>
 (ldInt .u8 r52.2 (plus a53 (Int.toNat r52.1 * 1))).bind fun t54 =>
 bif inRange r52.1 y1n then (
 (y1a).bind fun a55 =>
 (st r52.2 (plus a55 (Int.toNat r52.1 * 1)) (Value.int .u8 (bitI .xor .u8 t54 r47.1))).bind fun m56 =>
 (ldInt .i64 m56 (plus y12 (Int.toNat 1 * 1))).bind fun t57 =>
 (rs_place k t57 m56).bind fun r58 =>
 bif inRange r58.1 y1n then (
 (y1a).bind fun a59 =>
 (ldInt .u8 r58.2 (plus a59 (Int.toNat r58.1 * 1))).bind fun t60 =>
 (ldInt .u8 r58.2 (plus y5 (Int.toNat 0 * 1))).bind fun t61 =>
 bif inRange r58.1 y1n then (
 (y1a).bind fun a62 =>
 (st r58.2 (plus a62 (Int.toNat r58.1 * 1)) (Value.int .u8 (bitI .xor .u8 t60 (bitI .xor .u8 r47.1 t61)))).bind fun m63 =>
 (ldInt .u8 m56 (plus y5 (Int.toNat 0 * 1))).bind fun t64 =>
 bif t64 == t61 then (
 some (2,m63)) else none) else none) else none) else none) else none)))) else none) else none)) k p1a p1n p1c ⟨List.length m,0,none⟩ t3 r18.1 r28.1 ⟨List.length r28.2.2,0,none⟩ 0 0 m32)) else none) else none)) else none) else none) else none) else none) else none
def rs_Codec_two_cs (k:Nat):Cs Tryz.prog:=cC (field_Field_Exp_ok k) <| cC (field_Field_Mul_ok k) <| cC (field_Field_Div_ok k) <| cC (rs_place_ok k) <| cN
def rs_Codec_two_l0_L (k:Nat) (K:KT (Int × Mem)) (n:Nat) (vs:List Value) (m:Mem):Option (Int × Mem):=match vs with
 | [.slice x1a x1n x1c,.pointer (some x5),.pointer x7,.int .u8 x9,.int .u8 x11,.pointer (some x12),.int .i64 x13,.int .i64 x78] => rs_Codec_two_l0 k (fun y6 m => K 0 [(Value.int .i64 y6)] m) (fun y1a y1n y1c y5 y7 y12 y13 m => K 2 [(Value.slice y1a y1n y1c),(Value.pointer (some y5)),(Value.pointer y7),(Value.pointer (some y12)),(Value.int .i64 y13)] m) n x1a x1n x1c x5 x7 x9 x11 x12 x13 x78 m
 | _ => none
def rs_Codec_two_C (k:Nat):Ctx (Int × Mem):=⟨tt,(rs_Codec_two_cs k).call,lpOf [(0,fun K => rs_Codec_two_l0_L k K k)],[(0,[1,5,7,9,11,12,13,78])],[(0,[6]),(2,[1,5,7,12,13])]⟩
theorem rs_Codec_two_l0_ok (k:Nat):LoopOk (rs_Codec_two_C k) 0 (lpc Tryz.f104 0):=lpOk (k:=k) [1,5,7,9,11,12,13,78] (rs_Codec_two_l0_L k) (by kernel_rfl) (fun _ _ _ => rfl) fun K n vs m r h => by
 unfold rs_Codec_two_l0_L at h;split at h
 ·cases n
  ·cases h
  ·exact ⟨_,rfl,Eq.trans (by kernel_rfl) h⟩
 ·cases h
def rs_Codec_two_U (k:Nat) (vs:List Value) (m:Mem):Option (Int × Mem):=match vs with
 | [.pointer p0,.slice p1a p1n p1c,.agg ⟨p2⟩] => rs_Codec_two k p0 p1a p1n p1c p2 m
 | _ => none
theorem rs_Codec_two_ok (k:Nat):FOk Tryz.prog 104 Sh0 (rs_Codec_two_U k):=by
 intro vs m r h;unfold rs_Codec_two_U at h;split at h
 ·exact fnOk (C:=rs_Codec_two_C k) (rs_Codec_two_cs k) tOk mixed rfl Tryz.func104 (by kernel_rfl) (lps (cs:=[0]) (by kernel_rfl) ⟨rs_Codec_two_l0_ok k,trivial⟩) (noRanges (by kernel_rfl)) (Eq.trans (by kernel_rfl) h)
 ·cases h
def rs_Codec_Decode_j1 (k:Nat) (p0:OA) (r2:Sl × Mem) (x9_:Int) (mj:Mem):Option (Sl × Int × Value × Mem) :=
 bif x9_ == 0 then (
 some ((⟨none,0,0⟩:Sl),0,(Value.iface ty_api_Code (Value.int .i64 5)),mj)) else (
 (rs_Codec_syndromes k p0 r2.1.a r2.1.len r2.1.cap mj).bind fun r10 =>
 (cellsEq (eqK tt 175) r10.1 (repl 6 [.int .u8 0])).bind fun b11 =>
 bif !b11 then (
 some ((⟨none,0,0⟩:Sl),0,(Value.iface ty_api_Code (Value.int .i64 5)),r10.2)) else (
 bif inUpto 58 r2.1.cap && inUpto 58 (Int.toNat 58) then (
 some ((⟨(sliceK.clear r2.1.a true),(Int.toNat 58),(Int.toNat 58)⟩:Sl),x9_,Value.nilIface,r10.2)) else none))
def rs_Codec_Decode (k:Nat) (p0:OA) (p1a:OA) (p1n:Nat) (p1c:Nat) (m:Mem):Option (Sl × Int × Value × Mem) :=
 bif ((p1n:Nat):Int) != 64 then (
 some ((⟨none,0,0⟩:Sl),0,(Value.iface ty_api_Code (Value.int .i64 1)),m)) else (
 (rdSl m p1a p1n 1).bind fun l1 =>
 (appM 1 1 m none 0 0 p1n l1).bind fun r2 =>
 (rs_Codec_syndromes k p0 r2.1.a r2.1.len r2.1.cap r2.2).bind fun r3 =>
 let m4:Mem:=r3.2 ++ [.live (repl 6 [.int .u8 0])]
 bif Nat.beq (List.length r3.1) 6 then (
 (stCells m4 ⟨List.length r3.2,0,none⟩ r3.1).bind fun m5 =>
 (ldCells m5 ⟨List.length r3.2,0,none⟩ 6).bind fun t6 =>
 (cellsEq (eqK tt 175) t6 (repl 6 [.int .u8 0])).bind fun b7 =>
 bif b7 then (
 bif inUpto 58 r2.1.cap && inUpto 58 (Int.toNat 58) then (
 some ((⟨(sliceK.clear r2.1.a true),(Int.toNat 58),(Int.toNat 58)⟩:Sl),0,Value.nilIface,m5)) else none) else (
 (ldCells m5 ⟨List.length r3.2,0,none⟩ 6).bind fun t8 =>
 (rs_Codec_one k p0 r2.1.a r2.1.len r2.1.cap t8 m5).bind fun r9 =>
 bif r9.1 == 0 then (
 (ldCells r9.2 ⟨List.length r3.2,0,none⟩ 6).bind fun t12 =>
 (rs_Codec_two k p0 r2.1.a r2.1.len r2.1.cap t12 r9.2).bind fun r13 =>
 rs_Codec_Decode_j1 k p0 r2 r13.1 r13.2) else (
 rs_Codec_Decode_j1 k p0 r2 r9.1 r9.2))) else none)
def rs_Codec_Decode_U (k:Nat) (vs:List Value) (m:Mem):Option (Sl × Int × Value × Mem):=match vs with
 | [.pointer p0,.slice p1a p1n p1c] => rs_Codec_Decode k p0 p1a p1n p1c m
 | _ => none
theorem rs_Codec_Decode_ok (k:Nat):FOk Tryz.prog 73 Sh10 (rs_Codec_Decode_U k):=by
 intro vs m r h;unfold rs_Codec_Decode_U at h;split at h
 ·exact ok0 (cC (rs_Codec_syndromes_ok k) <| cC (rs_Codec_one_ok k) <| cC (rs_Codec_two_ok k) <| cN) Tryz.func73 (by kernel_rfl) (Eq.trans (by kernel_rfl) h)
 ·cases h
def rs_Codec_Encode_l2_b (k:Nat) (nx:OA → OA → Nat → Nat → Addr → Int → OA → Nat → Nat → Int → Int → OA → Nat → Nat → Int → Int → Mem → Option (Sl × Value × Mem)) (kx4:OA → OA → Nat → Nat → Addr → OA → Nat → Nat → Int → Int → Mem → Option (Sl × Value × Mem)) (x0:OA) (x1a:OA) (x1n:Nat) (x1c:Nat) (x6:Addr) (x9:Int) (x16a:OA) (x16n:Nat) (x16c:Nat) (x17:Int) (x18:Int) (x33a:OA) (x33n:Nat) (x33c:Nat) (x34:Int) (x35:Int) (m:Mem):Option (Sl × Value × Mem) :=
 bif decide (x35 < x34) then (
 bif inRange x35 x33n then (
 (x33a).bind fun a10 =>
 (ldInt .u8 m (plus a10 (Int.toNat x35 * 1))).bind fun t11 =>
 bif inRange x35 6 then (
 (ldInt .u8 m (plus x6 (Int.toNat x35 * 1))).bind fun t12 =>
 (x0).bind fun a13 =>
 (ldPtr m (plus a13 0)).bind fun t14 =>
 (field_Field_Mul k t14 x9 t11 m).bind fun r15 =>
 bif inRange x35 6 then (
 (st r15.2 (plus x6 (Int.toNat x35 * 1)) (Value.int .u8 (bitI .xor .u8 t12 r15.1))).bind fun m16 =>
 (ldInt .u8 r15.2 (plus x6 (Int.toNat x35 * 1))).bind fun t17 =>
 bif t17 == t12 then (
 nx x0 x1a x1n x1c x6 x9 x16a x16n x16c x17 x18 x33a x33n x33c x34 (IntKind.wrap .i64 (x35 + 1)) m16) else none) else none) else none) else none) else (
 kx4 x0 x1a x1n x1c x6 x16a x16n x16c x17 x18 m)
def rs_Codec_Encode_l2 (k:Nat) kx4:=it17 fun nx => rs_Codec_Encode_l2_b k nx kx4
def rs_Codec_Encode_l2_rule (k:Nat) kx4 {P}:=it17_rule (P:=P) (f:=fun nx => rs_Codec_Encode_l2_b k nx kx4)
def rs_Codec_Encode_l0_b (k:Nat) (nx:OA → OA → Nat → Nat → Addr → OA → Nat → Nat → Int → Int → Mem → Option (Sl × Value × Mem)) (kx2:OA → Nat → Nat → Addr → Mem → Option (Sl × Value × Mem)) (x0:OA) (x1a:OA) (x1n:Nat) (x1c:Nat) (x6:Addr) (x16a:OA) (x16n:Nat) (x16c:Nat) (x17:Int) (x18:Int) (m:Mem):Option (Sl × Value × Mem) :=
 bif decide (x18 < x17) then (
 bif inRange x18 x16n then (
 (x16a).bind fun a2 =>
 (ldInt .u8 m (plus a2 (Int.toNat x18 * 1))).bind fun t3 =>
 (ldInt .u8 m (plus x6 (Int.toNat 0 * 1))).bind fun t4 =>
 bif sliceK.okZ (some x6) 1 true && inUpto 1 6 then (
 (rdSl m ((sliceK.clear (some x6) true).map fun a => plus a ((Int.toNat 1) * 1)) (min (6 - (Int.toNat 1)) 6) 1).bind fun l5 =>
 (oper.stSl m (sliceK.clear (some x6) true) l5).bind fun m6 =>
 (st m6 (plus x6 (Int.toNat 5 * 1)) (Value.int .u8 0)).bind fun m7 =>
 (x0).bind fun a8 =>
 (ldSl m7 (plus a8 1)).bind fun t9 =>
 rs_Codec_Encode_l2 k (fun y0 y1a y1n y1c y6 y16a y16n y16c y17 y18 m18 =>
 nx y0 y1a y1n y1c y6 y16a y16n y16c y17 (IntKind.wrap .i64 (y18 + 1)) m18) k x0 x1a x1n x1c x6 (bitI .xor .u8 t4 t3) x16a x16n x16c x17 x18 t9.a t9.len t9.cap ((t9.len:Nat):Int) 0 m7) else none) else none) else (
 kx2 x1a x1n x1c x6 m)
def rs_Codec_Encode_l0 (k:Nat) kx2:=it11 fun nx => rs_Codec_Encode_l0_b k nx kx2
def rs_Codec_Encode_l0_rule (k:Nat) kx2 {P}:=it11_rule (P:=P) (f:=fun nx => rs_Codec_Encode_l0_b k nx kx2)
def rs_Codec_Encode (k:Nat) (p0:OA) (p1a:OA) (p1n:Nat) (p1c:Nat) (m:Mem):Option (Sl × Value × Mem) :=
 bif ((p1n:Nat):Int) != 58 then (
 some ((⟨none,0,0⟩:Sl),(Value.iface ty_api_Code (Value.int .i64 1)),m)) else (
 let m1:Mem:=m ++ [.live (repl 6 [.int .u8 0])]
 rs_Codec_Encode_l0 k (fun y1a y1n y1c y6 m19 =>
 let m20:Mem:=m19 ++ [.live (repl (Int.toNat 64) [.int .u8 0])]
 (rdSl m20 y1a y1n 1).bind fun l21 =>
 (appM 1 1 m20 (some ⟨List.length m19,0,none⟩) (Int.toNat 0) (Int.toNat 64) y1n l21).bind fun r22 =>
 (rdSl r22.2 (sliceK.clear (some y6) true) 6 1).bind fun l23 =>
 (appM 1 1 r22.2 r22.1.a r22.1.len r22.1.cap 6 l23).bind fun r24 =>
 some ((⟨r24.1.a,r24.1.len,r24.1.cap⟩:Sl),Value.nilIface,r24.2)) k p0 p1a p1n p1c ⟨List.length m,0,none⟩ p1a p1n p1c ((p1n:Nat):Int) 0 m1)
def rs_Codec_Encode_cs (k:Nat):Cs Tryz.prog:=cC (field_Field_Mul_ok k) <| cN
def rs_Codec_Encode_l0_L (k:Nat) (K:KT (Sl × Value × Mem)) (n:Nat) (vs:List Value) (m:Mem):Option (Sl × Value × Mem):=match vs with
 | [.pointer x0,.slice x1a x1n x1c,.pointer (some x6),.slice x16a x16n x16c,.int .i64 x17,.int .i64 x18] => rs_Codec_Encode_l0 k (fun y1a y1n y1c y6 m => K 2 [(Value.slice y1a y1n y1c),(Value.pointer (some y6))] m) n x0 x1a x1n x1c x6 x16a x16n x16c x17 x18 m
 | _ => none
def rs_Codec_Encode_l2_L (k:Nat) (K:KT (Sl × Value × Mem)) (n:Nat) (vs:List Value) (m:Mem):Option (Sl × Value × Mem):=match vs with
 | [.pointer x0,.slice x1a x1n x1c,.pointer (some x6),.int .u8 x9,.slice x16a x16n x16c,.int .i64 x17,.int .i64 x18,.slice x33a x33n x33c,.int .i64 x34,.int .i64 x35] => rs_Codec_Encode_l2 k (fun y0 y1a y1n y1c y6 y16a y16n y16c y17 y18 m => K 4 [(Value.pointer y0),(Value.slice y1a y1n y1c),(Value.pointer (some y6)),(Value.slice y16a y16n y16c),(Value.int .i64 y17),(Value.int .i64 y18)] m) n x0 x1a x1n x1c x6 x9 x16a x16n x16c x17 x18 x33a x33n x33c x34 x35 m
 | _ => none
def rs_Codec_Encode_C (k:Nat):Ctx (Sl × Value × Mem):=⟨tt,(rs_Codec_Encode_cs k).call,lpOf [(0,fun K => rs_Codec_Encode_l0_L k K k),(2,fun K => rs_Codec_Encode_l2_L k K k)],[(0,[0,1,6,16,17,18]),(2,[0,1,6,9,16,17,18,33,34,35])],[(2,[1,6]),(4,[0,1,6,16,17,18])]⟩
theorem rs_Codec_Encode_l0_ok (k:Nat):LoopOk (rs_Codec_Encode_C k) 0 (lpc Tryz.f84 0):=lpOk (k:=k) [0,1,6,16,17,18] (rs_Codec_Encode_l0_L k) (by kernel_rfl) (fun _ _ _ => rfl) fun K n vs m r h => by
 unfold rs_Codec_Encode_l0_L at h;split at h
 ·cases n
  ·cases h
  ·exact ⟨_,rfl,Eq.trans (by kernel_rfl) h⟩
 ·cases h
theorem rs_Codec_Encode_l2_ok (k:Nat):LoopOk (rs_Codec_Encode_C k) 2 (lpc Tryz.f84 1):=lpOk (k:=k) [0,1,6,9,16,17,18,33,34,35] (rs_Codec_Encode_l2_L k) (by kernel_rfl) (fun _ _ _ => rfl) fun K n vs m r h => by
 unfold rs_Codec_Encode_l2_L at h;split at h
 ·cases n
  ·cases h
  ·exact ⟨_,rfl,Eq.trans (by kernel_rfl) h⟩
 ·cases h
def rs_Codec_Encode_U (k:Nat) (vs:List Value) (m:Mem):Option (Sl × Value × Mem):=match vs with
 | [.pointer p0,.slice p1a p1n p1c] => rs_Codec_Encode k p0 p1a p1n p1c m
 | _ => none
theorem rs_Codec_Encode_ok (k:Nat):FOk Tryz.prog 84 Sh6 (rs_Codec_Encode_U k):=by
 intro vs m r h;unfold rs_Codec_Encode_U at h;split at h
 ·exact fnOk (C:=rs_Codec_Encode_C k) (rs_Codec_Encode_cs k) tOk mixed rfl Tryz.func84 (by kernel_rfl) (lps (cs:=[0,2]) (by kernel_rfl) ⟨rs_Codec_Encode_l0_ok k,rs_Codec_Encode_l2_ok k,trivial⟩) (noRanges (by kernel_rfl)) (Eq.trans (by kernel_rfl) h)
 ·cases h
end Go.Proofs.YtchonnaoojpdoaaGreat
