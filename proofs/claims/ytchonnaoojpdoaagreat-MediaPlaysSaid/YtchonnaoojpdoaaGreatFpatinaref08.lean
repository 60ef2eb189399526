import Derived.Test.YtchonnaoojpdoaaGreatF1
import Derived.Test.YtchonnaoojpdoaaGreatFpatinaref01
import Derived.Test.YtchonnaoojpdoaaGreatFpatinaref05
import Derived.Test.YtchonnaoojpdoaaGreatFpatinaref06
import Derived.Test.YtchonnaoojpdoaaGreatFpatinaref07
set_option linter.unusedVariables false
set_option linter.defProp false
set_option maxRecDepth 100000
namespace Go.Proofs.YtchonnaoojpdoaaGreat
open Go.Mx
def patinaref08_Told_j1 (k:Nat) (x0a:OA) (x0n:Nat) (x0c:Nat) (x1:Int) (x4:Addr) (x5:Addr) (x6:Int) (nx:OA → Nat → Nat → Int → Addr → Addr → Int → Mem → Option ((List Value) × Mem)) (mj:Mem):Option ((List Value) × Mem) :=
 nx x0a x0n x0c x1 x4 x5 (IntKind.wrap .i64 (x6 + 1)) mj
def patinaref08_Told_l0_b (k:Nat) (nx:OA → Nat → Nat → Int → Addr → Addr → Int → Mem → Option ((List Value) × Mem)) (kx2:OA → Nat → Nat → Int → Addr → Addr → Mem → Option ((List Value) × Mem)) (x0a:OA) (x0n:Nat) (x0c:Nat) (x1:Int) (x4:Addr) (x5:Addr) (x6:Int) (m:Mem):Option ((List Value) × Mem) :=
 bif decide (x6 < 4) then (
 (patinaref06_Message k x0a x0n x0c x6 m).bind fun r3 =>
 bif r3.2.2.1 == 0 then (
 (ldInt .i64 r3.2.2.2 (plus x5 8)).bind fun t4 =>
 bif decide (r3.2.1 > t4) then (
 (st r3.2.2.2 (plus x5 8) (Value.int .i64 r3.2.1)).bind fun m5 =>
 patinaref08_Told_j1 k x0a x0n x0c x1 x4 x5 x6 nx m5) else (
 patinaref08_Told_j1 k x0a x0n x0c x1 x4 x5 x6 nx r3.2.2.2)) else (
 patinaref08_Told_j1 k x0a x0n x0c x1 x4 x5 x6 nx r3.2.2.2)) else (
 kx2 x0a x0n x0c x1 x4 x5 m)
def patinaref08_Told_l0 (k:Nat) kx2:=it8 fun nx => patinaref08_Told_l0_b k nx kx2
def patinaref08_Told_l0_rule (k:Nat) kx2 {P}:=it8_rule (P:=P) (f:=fun nx => patinaref08_Told_l0_b k nx kx2)
def patinaref08_Told (k:Nat) (p0a:OA) (p0n:Nat) (p0c:Nat) (p1:Int) (m:Mem):Option ((List Value) × Mem) :=
 let m1:Mem:=m ++ [.live [.bool false,.int .i64 0,.int .i64 0,.int .i64 0,.int .i64 0,.bool false,.bool false,.slice none 0 0,.int .i64 0]]
 let m2:Mem:=m1 ++ [.live [.bool false,.int .i64 0,.int .i64 0,.int .i64 0,.int .i64 0,.bool false,.bool false,.slice none 0 0,.int .i64 0]]
 patinaref08_Told_l0 k (fun y0a y0n y0c y1 y4 y5 m6 =>
 (patinaref06_Body k y0a y0n y0c m6).bind fun r7 =>
 bif r7.2.2.1 != 0 then (
 (ldCells r7.2.2.2 y5 9).bind fun t8 =>
 bif Nat.beq (List.length t8) 9 then (
 (stCells r7.2.2.2 y4 t8).bind fun m9 =>
 (ldCells m9 y4 9).bind fun t10 =>
 some (t10,m9)) else none) else (
 (patinaref07_Tag k r7.1.a r7.1.len r7.1.cap r7.2.2.2).bind fun r11 =>
 let m12:Mem:=r11.2.2 ++ [.live [.int .i64 0,.int .i64 0,.int .i64 0,.int .i64 0,.bool false]]
 bif Nat.beq (List.length r11.1) 5 then (
 (stCells m12 ⟨List.length r11.2.2,0,none⟩ r11.1).bind fun m13 =>
 bif !r11.2.1 then (
 (ldCells m13 y5 9).bind fun t14 =>
 bif Nat.beq (List.length t14) 9 then (
 (stCells m13 y4 t14).bind fun m15 =>
 (ldCells m15 y4 9).bind fun t16 =>
 some (t16,m15)) else none) else (
 (ldInt .i64 m13 (plus ⟨List.length r11.2.2,0,none⟩ 0)).bind fun t17 =>
 bif t17 != y1 then (
 (ldCells m13 y5 9).bind fun t18 =>
 bif Nat.beq (List.length t18) 9 then (
 (stCells m13 y4 t18).bind fun m19 =>
 (ldCells m19 y4 9).bind fun t20 =>
 some (t20,m19)) else none) else (
 (st m13 (plus y5 0) (Value.bool true)).bind fun m21 =>
 (ldCells m21 ⟨List.length r11.2.2,0,none⟩ 5).bind fun t22 =>
 bif Nat.beq (List.length t22) 5 then (
 (stCells m21 (plus y5 1) t22).bind fun m23 =>
 (patinaref06_Data k y0a y0n y0c m23).bind fun r24 =>
 bif r24.2.2.1 != 0 then (
 (ldCells r24.2.2.2 y5 9).bind fun t25 =>
 bif Nat.beq (List.length t25) 9 then (
 (stCells r24.2.2.2 y4 t25).bind fun m26 =>
 (ldCells m26 y4 9).bind fun t27 =>
 some (t27,m26)) else none) else (
 (st r24.2.2.2 (plus y5 6) (Value.bool true)).bind fun m28 =>
 (st m28 (plus y5 7) (Value.slice r24.1.a r24.1.len r24.1.cap)).bind fun m29 =>
 (ldCells m29 y5 9).bind fun t30 =>
 bif Nat.beq (List.length t30) 9 then (
 (stCells m29 y4 t30).bind fun m31 =>
 (ldCells m31 y4 9).bind fun t32 =>
 some (t32,m31)) else none)) else none))) else none)) k p0a p0n p0c p1 ⟨List.length m,0,none⟩ ⟨List.length m1,0,none⟩ 0 m2
def patinaref08_Told_cs (k:Nat):Cs Tryz.prog:=cC (patinaref06_Message_ok k) <| cC (patinaref06_Body_ok k) <| cC (patinaref07_Tag_ok k) <| cC (patinaref06_Data_ok k) <| cN
def patinaref08_Told_l0_L (k:Nat) (K:KT ((List Value) × Mem)) (n:Nat) (vs:List Value) (m:Mem):Option ((List Value) × Mem):=match vs with
 | [.slice x0a x0n x0c,.int .i64 x1,.pointer (some x4),.pointer (some x5),.int .i64 x6] => patinaref08_Told_l0 k (fun y0a y0n y0c y1 y4 y5 m => K 2 [(Value.slice y0a y0n y0c),(Value.int .i64 y1),(Value.pointer (some y4)),(Value.pointer (some y5))] m) n x0a x0n x0c x1 x4 x5 x6 m
 | _ => none
def patinaref08_Told_C (k:Nat):Ctx ((List Value) × Mem):=⟨tt,(patinaref08_Told_cs k).call,lpOf [(0,fun K => patinaref08_Told_l0_L k K k)],[(0,[0,1,4,5,6])],[(2,[0,1,4,5])]⟩
theorem patinaref08_Told_l0_ok (k:Nat):LoopOk (patinaref08_Told_C k) 0 (lpc Tryz.f59 0):=lpOk (k:=k) [0,1,4,5,6] (patinaref08_Told_l0_L k) (by kernel_rfl) (fun _ _ _ => rfl) fun K n vs m r h => by
 unfold patinaref08_Told_l0_L at h;split at h
 ·cases n
  ·cases h
  ·exact ⟨_,rfl,Eq.trans (by kernel_rfl) h⟩
 ·cases h
def patinaref08_Told_U (k:Nat) (vs:List Value) (m:Mem):Option ((List Value) × Mem):=match vs with
 | [.slice p0a p0n p0c,.int .i64 p1] => patinaref08_Told k p0a p0n p0c p1 m
 | _ => none
theorem patinaref08_Told_ok (k:Nat):FOk Tryz.prog 59 Sh7 (patinaref08_Told_U k):=by
 intro vs m r h;unfold patinaref08_Told_U at h;split at h
 ·exact fnOk (C:=patinaref08_Told_C k) (patinaref08_Told_cs k) tOk mixed rfl Tryz.func59 (by kernel_rfl) (lps (cs:=[0]) (by kernel_rfl) ⟨patinaref08_Told_l0_ok k,trivial⟩) (noRanges (by kernel_rfl)) (Eq.trans (by kernel_rfl) h)
 ·cases h
def patinaref08_Media_Read (k:Nat) (p0:OA) (p1:Int) (m:Mem):Option ((List Value) × Int × Mem) :=
 let m1:Mem:=m ++ [.live [.bool false,.int .i64 0,.int .i64 0,.int .i64 0,.int .i64 0,.bool false,.bool false,.slice none 0 0,.int .i64 0]]
 (p0).bind fun a2 =>
 (ldPtr m1 (plus a2 0)).bind fun t3 =>
 (patinaref05_Chip_Read k t3 p1 m1).bind fun r4 =>
 bif r4.2.1 != 0 then (
 (stCells r4.2.2 ⟨List.length m,0,none⟩ [.bool false,.int .i64 0,.int .i64 0,.int .i64 0,.int .i64 0,.bool false,.bool false,.slice none 0 0,.int .i64 0]).bind fun m5 =>
 (ldCells m5 ⟨List.length m,0,none⟩ 9).bind fun t6 =>
 some (t6,r4.2.1,m5)) else (
 (p0).bind fun a7 =>
 (ldInt .i64 r4.2.2 (plus a7 1)).bind fun t8 =>
 (p0).bind fun a9 =>
 (st r4.2.2 (plus a9 1) (Value.int .i64 (IntKind.wrap .i64 (t8 + 1)))).bind fun m10 =>
 (patinaref08_Told k r4.1.a r4.1.len r4.1.cap p1 m10).bind fun r11 =>
 bif Nat.beq (List.length r11.1) 9 then (
 (stCells r11.2 ⟨List.length m,0,none⟩ r11.1).bind fun m12 =>
 (ldCells m12 ⟨List.length m,0,none⟩ 9).bind fun t13 =>
 some (t13,0,m12)) else none)
def patinaref08_Media_Read_U (k:Nat) (vs:List Value) (m:Mem):Option ((List Value) × Int × Mem):=match vs with
 | [.pointer p0,.int .i64 p1] => patinaref08_Media_Read k p0 p1 m
 | _ => none
theorem patinaref08_Media_Read_ok (k:Nat):FOk Tryz.prog 29 Sh22 (patinaref08_Media_Read_U k):=by
 intro vs m r h;unfold patinaref08_Media_Read_U at h;split at h
 ·exact ok0 (cC (patinaref05_Chip_Read_ok k) <| cC (patinaref08_Told_ok k) <| cN) Tryz.func29 (by kernel_rfl) (Eq.trans (by kernel_rfl) h)
 ·cases h
def patinaref08_Media_Program_l0_b (k:Nat) (nx:OA → Int → OA → Nat → Nat → Addr → OA → Nat → Nat → Int → Mem → Option (Int × Mem)) (kx0:Int → Mem → Option (Int × Mem)) (kx2:OA → Int → OA → Nat → Nat → Addr → Mem → Option (Int × Mem)) (x0:OA) (x1:Int) (x3a:OA) (x3n:Nat) (x3c:Nat) (x6:Addr) (x10a:OA) (x10n:Nat) (x10c:Nat) (x12:Int) (m:Mem):Option (Int × Mem) :=
 bif decide (x12 < 4) then (
 (x0).bind fun a8 =>
 (ldPtr m (plus a8 0)).bind fun t9 =>
 bif inRange x12 x10n then (
 (x10a).bind fun a10 =>
 (ldSl m (plus a10 (Int.toNat x12 * 1))).bind fun t11 =>
 (patinaref05_Chip_Write k t9 x1 x12 t11.a t11.len t11.cap m).bind fun r12 =>
 bif r12.1 != 0 then (
 kx0 r12.1 r12.2) else (
 nx x0 x1 x3a x3n x3c x6 x10a x10n x10c (IntKind.wrap .i64 (x12 + 1)) r12.2)) else none) else (
 kx2 x0 x1 x3a x3n x3c x6 m)
def patinaref08_Media_Program_l0 (k:Nat) kx0 kx2:=it11 fun nx => patinaref08_Media_Program_l0_b k nx kx0 kx2
def patinaref08_Media_Program_l0_rule (k:Nat) kx0 kx2 {P}:=it11_rule (P:=P) (f:=fun nx => patinaref08_Media_Program_l0_b k nx kx0 kx2)
def patinaref08_Media_Program (k:Nat) (p0:OA) (p1:Int) (p2:List Value) (p3a:OA) (p3n:Nat) (p3c:Nat) (m:Mem):Option (Int × Mem) :=
 bif Nat.beq (List.length p2) 5 then (
 let m1:Mem:=m ++ [.live p2]
 (ldCells m1 ⟨List.length m,0,none⟩ 5).bind fun t2 =>
 (patinaref07_May k t2 m1).bind fun r3 =>
 bif decide (p1 < 0) then (
 some (1,r3.2)) else (
 bif decide (p1 > 95) then (
 some (1,r3.2)) else (
 bif !r3.1 then (
 some (1,r3.2)) else (
 (ldInt .i64 r3.2 (plus ⟨List.length m,0,none⟩ 0)).bind fun t4 =>
 bif t4 != p1 then (
 some (1,r3.2)) else (
 bif ((p3n:Nat):Int) != 174 then (
 some (1,r3.2)) else (
 (ldCells r3.2 ⟨List.length m,0,none⟩ 5).bind fun t5 =>
 (patinaref07_Body k t5 r3.2).bind fun r6 =>
 (patinaref06_Lay k p3a p3n p3c r6.1.a r6.1.len r6.1.cap r6.2).bind fun r7 =>
 patinaref08_Media_Program_l0 k (fun y8 m13 =>
 some (y8,m13)) (fun y0 y1 y3a y3n y3c y6 m14 =>
 (patinaref08_Media_Read k y0 y1 m14).bind fun r15 =>
 let m16:Mem:=r15.2.2 ++ [.live [.bool false,.int .i64 0,.int .i64 0,.int .i64 0,.int .i64 0,.bool false,.bool false,.slice none 0 0,.int .i64 0]]
 bif Nat.beq (List.length r15.1) 9 then (
 (stCells m16 ⟨List.length r15.2.2,0,none⟩ r15.1).bind fun m17 =>
 bif r15.2.1 != 0 then (
 some (r15.2.1,m17)) else (
 (ldSl m17 (plus ⟨List.length r15.2.2,0,none⟩ 7)).bind fun t18 =>
 (patinaref01_Same k t18.a t18.len t18.cap y3a y3n y3c m17).bind fun r19 =>
 (ldBool r19.2 (plus ⟨List.length r15.2.2,0,none⟩ 0)).bind fun t20 =>
 bif !t20 then (
 some (8,r19.2)) else (
 (ldCells r19.2 (plus ⟨List.length r15.2.2,0,none⟩ 1) 5).bind fun t21 =>
 (ldCells r19.2 y6 5).bind fun t22 =>
 (cellsEq (eqK tt 28) t21 t22).bind fun b23 =>
 bif !b23 then (
 some (8,r19.2)) else (
 (ldBool r19.2 (plus ⟨List.length r15.2.2,0,none⟩ 6)).bind fun t24 =>
 bif !t24 then (
 some (8,r19.2)) else (
 bif !r19.1 then (
 some (8,r19.2)) else (
 some (0,r19.2))))))) else none) k p0 p1 p3a p3n p3c ⟨List.length m,0,none⟩ r7.1.a r7.1.len r7.1.cap 0 r7.2.2)))))) else none
def patinaref08_Media_Program_cs (k:Nat):Cs Tryz.prog:=cC (patinaref08_Media_Read_ok k) <| cC (patinaref01_Same_ok k) <| cC (patinaref07_May_ok k) <| cC (patinaref06_Lay_ok k) <| cC (patinaref07_Body_ok k) <| cC (patinaref05_Chip_Write_ok k) <| cN
def patinaref08_Media_Program_l0_L (k:Nat) (K:KT (Int × Mem)) (n:Nat) (vs:List Value) (m:Mem):Option (Int × Mem):=match vs with
 | [.pointer x0,.int .i64 x1,.slice x3a x3n x3c,.pointer (some x6),.slice x10a x10n x10c,.int .i64 x12] => patinaref08_Media_Program_l0 k (fun y8 m => K 0 [(Value.int .i64 y8)] m) (fun y0 y1 y3a y3n y3c y6 m => K 2 [(Value.pointer y0),(Value.int .i64 y1),(Value.slice y3a y3n y3c),(Value.pointer (some y6))] m) n x0 x1 x3a x3n x3c x6 x10a x10n x10c x12 m
 | _ => none
def patinaref08_Media_Program_C (k:Nat):Ctx (Int × Mem):=⟨tt,(patinaref08_Media_Program_cs k).call,lpOf [(0,fun K => patinaref08_Media_Program_l0_L k K k)],[(0,[0,1,3,6,10,12])],[(0,[8]),(2,[0,1,3,6])]⟩
theorem patinaref08_Media_Program_l0_ok (k:Nat):LoopOk (patinaref08_Media_Program_C k) 0 (lpc Tryz.f28 0):=lpOk (k:=k) [0,1,3,6,10,12] (patinaref08_Media_Program_l0_L k) (by kernel_rfl) (fun _ _ _ => rfl) fun K n vs m r h => by
 unfold patinaref08_Media_Program_l0_L at h;split at h
 ·cases n
  ·cases h
  ·exact ⟨_,rfl,Eq.trans (by kernel_rfl) h⟩
 ·cases h
def patinaref08_Media_Program_U (k:Nat) (vs:List Value) (m:Mem):Option (Int × Mem):=match vs with
 | [.pointer p0,.int .i64 p1,.agg ⟨p2⟩,.slice p3a p3n p3c] => patinaref08_Media_Program k p0 p1 p2 p3a p3n p3c m
 | _ => none
theorem patinaref08_Media_Program_ok (k:Nat):FOk Tryz.prog 28 Sh0 (patinaref08_Media_Program_U k):=by
 intro vs m r h;unfold patinaref08_Media_Program_U at h;split at h
 ·exact fnOk (C:=patinaref08_Media_Program_C k) (patinaref08_Media_Program_cs k) tOk mixed rfl Tryz.func28 (by kernel_rfl) (lps (cs:=[0]) (by kernel_rfl) ⟨patinaref08_Media_Program_l0_ok k,trivial⟩) (noRanges (by kernel_rfl)) (Eq.trans (by kernel_rfl) h)
 ·cases h
def patinaref08_Same (k:Nat) (p0:List Value) (p1:List Value) (m:Mem):Option (Bool × Mem) :=
 bif Nat.beq (List.length p0) 9 then (
 let m1:Mem:=m ++ [.live p0]
 bif Nat.beq (List.length p1) 9 then (
 let m2:Mem:=m1 ++ [.live p1]
 (ldSl m2 (plus ⟨List.length m,0,none⟩ 7)).bind fun t3 =>
 (ldSl m2 (plus ⟨List.length m1,0,none⟩ 7)).bind fun t4 =>
 (patinaref01_Same k t3.a t3.len t3.cap t4.a t4.len t4.cap m2).bind fun r5 =>
 bif r5.1 then (
 (ldBool r5.2 (plus ⟨List.length m,0,none⟩ 0)).bind fun t6 =>
 (ldBool r5.2 (plus ⟨List.length m1,0,none⟩ 0)).bind fun t7 =>
 bif t6 == t7 then (
 (ldCells r5.2 (plus ⟨List.length m,0,none⟩ 1) 5).bind fun t8 =>
 (ldCells r5.2 (plus ⟨List.length m1,0,none⟩ 1) 5).bind fun t9 =>
 (cellsEq (eqK tt 28) t8 t9).bind fun b10 =>
 bif b10 then (
 (ldBool r5.2 (plus ⟨List.length m,0,none⟩ 6)).bind fun t11 =>
 (ldBool r5.2 (plus ⟨List.length m1,0,none⟩ 6)).bind fun t12 =>
 bif t11 == t12 then (
 (ldInt .i64 r5.2 (plus ⟨List.length m,0,none⟩ 8)).bind fun t13 =>
 (ldInt .i64 r5.2 (plus ⟨List.length m1,0,none⟩ 8)).bind fun t14 =>
 some (t13 == t14,r5.2)) else (
 some (false,r5.2))) else (
 some (false,r5.2))) else (
 some (false,r5.2))) else (
 some (false,r5.2))) else none) else none
def patinaref08_Same_U (k:Nat) (vs:List Value) (m:Mem):Option (Bool × Mem):=match vs with
 | [.agg ⟨p0⟩,.agg ⟨p1⟩] => patinaref08_Same k p0 p1 m
 | _ => none
theorem patinaref08_Same_ok (k:Nat):FOk Tryz.prog 30 Sh12 (patinaref08_Same_U k):=by
 intro vs m r h;unfold patinaref08_Same_U at h;split at h
 ·exact ok0 (cC (patinaref01_Same_ok k) <| cN) Tryz.func30 (by kernel_rfl) (Eq.trans (by kernel_rfl) h)
 ·cases h
end Go.Proofs.YtchonnaoojpdoaaGreat
