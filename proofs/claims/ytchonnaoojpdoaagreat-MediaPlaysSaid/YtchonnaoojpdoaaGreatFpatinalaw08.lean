import Derived.Test.YtchonnaoojpdoaaGreatF1
import Derived.Test.YtchonnaoojpdoaaGreatFmedia
import Derived.Test.YtchonnaoojpdoaaGreatFnand
import Derived.Test.YtchonnaoojpdoaaGreatFpatinalaw00
import Derived.Test.YtchonnaoojpdoaaGreatFpatinaref01
import Derived.Test.YtchonnaoojpdoaaGreatFpatinaref05
import Derived.Test.YtchonnaoojpdoaaGreatFpatinaref08
set_option linter.unusedVariables false
set_option linter.defProp false
set_option maxRecDepth 100000
namespace Go.Proofs.YtchonnaoojpdoaaGreat
open Go.Mx
def patinalaw08_shown (k:Nat) (m:Mem):Option (Bool × Mem) :=
 (nand_New k  m).bind fun r1 =>
 bif Option.isNone r1.1 then (
 some (false,r1.2)) else (
 (media_New k r1.1 r1.2).bind fun r2 =>
 bif Option.isNone r2.1 then (
 some (false,r2.2)) else (
 (media_Media_Read k r2.1 0 r2.2).bind fun r3 =>
 let m4:Mem:=r3.2.2 ++ [.live [.bool false,.int .i64 0,.int .i64 0,.int .i64 0,.int .i64 0,.bool false,.bool false,.slice none 0 0,.int .i64 0]]
 bif Nat.beq (List.length r3.1) 9 then (
 (stCells m4 ⟨List.length r3.2.2,0,none⟩ r3.1).bind fun m5 =>
 let m6:Mem:=m5 ++ [.live (repl (Int.toNat 174) [.int .u8 0])]
 (media_Media_Program k r2.1 0 [.int .i64 0,.int .i64 0,(Value.int .i64 1),.int .i64 0,.bool false] (some ⟨List.length m5,0,none⟩) (Int.toNat 174) (Int.toNat 174) m6).bind fun r7 =>
 (nand_Chip_Flip k r1.1 0 0 r7.2).bind fun r8 =>
 (nand_Chip_Flip k r1.1 0 1600 r8.2).bind fun r9 =>
 (media_Media_Read k r2.1 0 r9.2).bind fun r10 =>
 let m11:Mem:=r10.2.2 ++ [.live [.bool false,.int .i64 0,.int .i64 0,.int .i64 0,.int .i64 0,.bool false,.bool false,.slice none 0 0,.int .i64 0]]
 bif Nat.beq (List.length r10.1) 9 then (
 (stCells m11 ⟨List.length r10.2.2,0,none⟩ r10.1).bind fun m12 =>
 let m13:Mem:=m12 ++ [.live (repl (Int.toNat 174) [.int .u8 0])]
 (media_Media_Program k r2.1 1 [.int .i64 0,.int .i64 0,(Value.int .i64 1),.int .i64 0,.bool false] (some ⟨List.length m12,0,none⟩) (Int.toNat 174) (Int.toNat 174) m13).bind fun r14 =>
 (ldBool r14.2 (plus ⟨List.length r3.2.2,0,none⟩ 0)).bind fun t15 =>
 bif !t15 then (
 (ldBool r14.2 (plus ⟨List.length r3.2.2,0,none⟩ 6)).bind fun t16 =>
 bif !t16 then (
 (isNil r3.2.1).bind fun b17 =>
 bif b17 then (
 (isNil r7.1).bind fun b18 =>
 bif b18 then (
 (isNil r8.1).bind fun b19 =>
 bif b19 then (
 (isNil r9.1).bind fun b20 =>
 bif b20 then (
 (isNil r10.2.1).bind fun b21 =>
 bif b21 then (
 (ldBool r14.2 (plus ⟨List.length r10.2.2,0,none⟩ 0)).bind fun t22 =>
 bif t22 then (
 (ldBool r14.2 (plus ⟨List.length r10.2.2,0,none⟩ 6)).bind fun t23 =>
 bif t23 then (
 (ldInt .i64 r14.2 (plus (plus ⟨List.length r10.2.2,0,none⟩ 1) 2)).bind fun t24 =>
 bif t24 == 1 then (
 (ldInt .i64 r14.2 (plus ⟨List.length r10.2.2,0,none⟩ 8)).bind fun t25 =>
 bif t25 == 1 then (
 (ifEq tt r14.1 (Value.iface ty_api_Code (Value.int .i64 1))).bind fun b26 =>
 bif b26 then (
 (media_Media_Reads k r2.1 r14.2).bind fun r27 =>
 some (r27.1 == 3,r27.2)) else (
 some (false,r14.2))) else (
 some (false,r14.2))) else (
 some (false,r14.2))) else (
 some (false,r14.2))) else (
 some (false,r14.2))) else (
 some (false,r14.2))) else (
 some (false,r14.2))) else (
 some (false,r14.2))) else (
 some (false,r14.2))) else (
 some (false,r14.2))) else (
 some (false,r14.2))) else (
 some (false,r14.2))) else none) else none))
def patinalaw08_shown_U (k:Nat) (vs:List Value) (m:Mem):Option (Bool × Mem):=match vs with
 | [] => patinalaw08_shown k  m
 | _ => none
theorem patinalaw08_shown_ok (k:Nat):FOk Tryz.prog 4 Sh12 (patinalaw08_shown_U k):=by
 intro vs m r h;unfold patinalaw08_shown_U at h;split at h
 ·exact ok0 (cC (media_Media_Reads_ok k) <| cC (nand_New_ok k) <| cC (media_New_ok k) <| cC (media_Media_Read_ok k) <| cC (media_Media_Program_ok k) <| cC (nand_Chip_Flip_ok k) <| cN) Tryz.func4 (by kernel_rfl) (Eq.trans (by kernel_rfl) h)
 ·cases h
def patinalaw08_begun (k:Nat) (m:Mem):Option ((OA) × Mem) :=
 (nand_New k  m).bind fun r1 =>
 bif Option.isNone r1.1 then (
 some (none,r1.2)) else (
 (media_New k r1.1 r1.2).bind fun r2 =>
 bif Option.isNone r2.1 then (
 some (none,r2.2)) else (
 (patinaref05_New k  r2.2).bind fun r3 =>
 let m4:Mem:=r3.2 ++ [.live [(Value.pointer r3.1),.int .i64 0]]
 let m5:Mem:=m4 ++ [.live [(Value.pointer r1.1),(Value.pointer r2.1),(Value.pointer (some ⟨List.length r3.2,0,none⟩))]]
 some ((some ⟨List.length m4,0,none⟩),m5)))
def patinalaw08_begun_U (k:Nat) (vs:List Value) (m:Mem):Option ((OA) × Mem):=match vs with
 | [] => patinalaw08_begun k  m
 | _ => none
theorem patinalaw08_begun_ok (k:Nat):FOk Tryz.prog 5 Sh2 (patinalaw08_begun_U k):=by
 intro vs m r h;unfold patinalaw08_begun_U at h;split at h
 ·exact ok0 (cC (nand_New_ok k) <| cC (media_New_ok k) <| cC (patinaref05_New_ok k) <| cN) Tryz.func5 (by kernel_rfl) (Eq.trans (by kernel_rfl) h)
 ·cases h
def patinalaw08_pick_j1 (k:Nat) (p1:Int) (x0_:Int) (mj:Mem):Option (Int × Mem) :=
 bif isZero p1 then none else (
 some (Int.tmod x0_ p1,mj))
def patinalaw08_pick (k:Nat) (p0:Int) (p1:Int) (m:Mem):Option (Int × Mem) :=
 bif decide (p0 < 0) then (
 patinalaw08_pick_j1 k p1 (IntKind.wrap .i64 (0 - (IntKind.wrap .i64 (p0 + 1)))) m) else (
 patinalaw08_pick_j1 k p1 p0 m)
def patinalaw08_pick_U (k:Nat) (vs:List Value) (m:Mem):Option (Int × Mem):=match vs with
 | [.int .i64 p0,.int .i64 p1] => patinalaw08_pick k p0 p1 m
 | _ => none
theorem patinalaw08_pick_ok (k:Nat):FOk Tryz.prog 21 Sh0 (patinalaw08_pick_U k):=by
 intro vs m r h;unfold patinalaw08_pick_U at h;split at h
 ·exact ok0 (cN) Tryz.func21 (by kernel_rfl) (Eq.trans (by kernel_rfl) h)
 ·cases h
def patinalaw08_data_l0_b (k:Nat) (nx:Int → Int → OA → Nat → Nat → Int → Mem → Option (Sl × Mem)) (kx2:OA → Nat → Nat → Mem → Option (Sl × Mem)) (x0:Int) (x1:Int) (x5a:OA) (x5n:Nat) (x5c:Nat) (x6:Int) (m:Mem):Option (Sl × Mem) :=
 bif decide (x6 < x0) then (
 bif inRange x6 x5n then (
 (x5a).bind fun a2 =>
 (st m (plus a2 (Int.toNat x6 * 1)) (Value.int .u8 (IntKind.wrap .u8 (x1 + (IntKind.wrap .u8 (IntKind.wrap .i64 (7 * x6))))))).bind fun m3 =>
 nx x0 x1 x5a x5n x5c (IntKind.wrap .i64 (x6 + 1)) m3) else none) else (
 kx2 x5a x5n x5c m)
def patinalaw08_data_l0 (k:Nat) kx2:=it7 fun nx => patinalaw08_data_l0_b k nx kx2
def patinalaw08_data_l0_rule (k:Nat) kx2 {P}:=it7_rule (P:=P) (f:=fun nx => patinalaw08_data_l0_b k nx kx2)
def patinalaw08_data (k:Nat) (p0:Int) (p1:Int) (m:Mem):Option (Sl × Mem) :=
 bif decide (0 ≤ p0) && decide (p0 ≤ p0) && decide (p0 * (((tt 5).bytes:Nat):Int) ≤ ((most:Nat):Int)) && decide (p0 ≤ ((most:Nat):Int)) then (
 let m1:Mem:=m ++ [.live (repl (Int.toNat p0) [.int .u8 0])]
 patinalaw08_data_l0 k (fun y5a y5n y5c m4 =>
 some ((⟨y5a,y5n,y5c⟩:Sl),m4)) k p0 p1 (some ⟨List.length m,0,none⟩) (Int.toNat p0) (Int.toNat p0) 0 m1) else none
def patinalaw08_data_cs (k:Nat):Cs Tryz.prog:=cN
def patinalaw08_data_l0_L (k:Nat) (K:KT (Sl × Mem)) (n:Nat) (vs:List Value) (m:Mem):Option (Sl × Mem):=match vs with
 | [.int .i64 x0,.int .u8 x1,.slice x5a x5n x5c,.int .i64 x6] => patinalaw08_data_l0 k (fun y5a y5n y5c m => K 2 [(Value.slice y5a y5n y5c)] m) n x0 x1 x5a x5n x5c x6 m
 | _ => none
def patinalaw08_data_C (k:Nat):Ctx (Sl × Mem):=⟨tt,(patinalaw08_data_cs k).call,lpOf [(0,fun K => patinalaw08_data_l0_L k K k)],[(0,[0,1,5,6])],[(2,[5])]⟩
theorem patinalaw08_data_l0_ok (k:Nat):LoopOk (patinalaw08_data_C k) 0 (lpc Tryz.f22 0):=lpOk (k:=k) [0,1,5,6] (patinalaw08_data_l0_L k) (by kernel_rfl) (fun _ _ _ => rfl) fun K n vs m r h => by
 unfold patinalaw08_data_l0_L at h;split at h
 ·cases n
  ·cases h
  ·exact ⟨_,rfl,Eq.trans (by kernel_rfl) h⟩
 ·cases h
def patinalaw08_data_U (k:Nat) (vs:List Value) (m:Mem):Option (Sl × Mem):=match vs with
 | [.int .i64 p0,.int .u8 p1] => patinalaw08_data k p0 p1 m
 | _ => none
theorem patinalaw08_data_ok (k:Nat):FOk Tryz.prog 22 Sh4 (patinalaw08_data_U k):=by
 intro vs m r h;unfold patinalaw08_data_U at h;split at h
 ·exact fnOk (C:=patinalaw08_data_C k) (patinalaw08_data_cs k) tOk mixed rfl Tryz.func22 (by kernel_rfl) (lps (cs:=[0]) (by kernel_rfl) ⟨patinalaw08_data_l0_ok k,trivial⟩) (noRanges (by kernel_rfl)) (Eq.trans (by kernel_rfl) h)
 ·cases h
def patinalaw08_Both_harm_j1 (k:Nat) (mj:Mem):Option (Bool × Mem) :=
 some (true,mj)
def patinalaw08_Both_harm (k:Nat) (p0:OA) (p1:List Value) (m:Mem):Option (Bool × Mem) :=
 bif Nat.beq (List.length p1) 9 then (
 let m1:Mem:=m ++ [.live p1]
 (ldInt .i64 m1 (plus ⟨List.length m,0,none⟩ 0)).bind fun t2 =>
 (patinalaw08_pick k t2 10 m1).bind fun r3 =>
 bif r3.1 == 3 then (
 (p0).bind fun a4 =>
 (ldPtr r3.2 (plus a4 0)).bind fun t5 =>
 (ldInt .i64 r3.2 (plus ⟨List.length m,0,none⟩ 1)).bind fun t6 =>
 (ldInt .i64 r3.2 (plus ⟨List.length m,0,none⟩ 2)).bind fun t7 =>
 (nand_Chip_Flip k t5 t6 t7 r3.2).bind fun r8 =>
 (patinalaw00_Code k r8.1 r8.2).bind fun r9 =>
 (p0).bind fun a10 =>
 (ldPtr r9.2 (plus a10 2)).bind fun t11 =>
 (t11).bind fun a12 =>
 (ldPtr r9.2 (plus a12 0)).bind fun t13 =>
 (ldInt .i64 r9.2 (plus ⟨List.length m,0,none⟩ 1)).bind fun t14 =>
 (ldInt .i64 r9.2 (plus ⟨List.length m,0,none⟩ 2)).bind fun t15 =>
 (patinaref05_Chip_Flip k t13 t14 t15 r9.2).bind fun r16 =>
 (ldPtr r8.2 (plus a10 2)).bind fun t17 =>
 bif decide (t17 = t11) then (
 (ldPtr r8.2 (plus a12 0)).bind fun t18 =>
 bif decide (t18 = t13) then (
 (ldInt .i64 r8.2 (plus ⟨List.length m,0,none⟩ 1)).bind fun t19 =>
 bif t19 == t14 then (
 (ldInt .i64 r8.2 (plus ⟨List.length m,0,none⟩ 2)).bind fun t20 =>
 bif t20 == t15 then (
 some (r9.1 == r16.1,r16.2)) else none) else none) else none) else none) else (
 bif r3.1 == 4 then (
 (p0).bind fun a21 =>
 (ldPtr r3.2 (plus a21 0)).bind fun t22 =>
 (ldInt .i64 r3.2 (plus ⟨List.length m,0,none⟩ 1)).bind fun t23 =>
 (ldInt .i64 r3.2 (plus ⟨List.length m,0,none⟩ 2)).bind fun t24 =>
 (nand_Chip_FailProgram k t22 t23 t24 r3.2).bind fun r25 =>
 (patinalaw00_Code k r25.1 r25.2).bind fun r26 =>
 (p0).bind fun a27 =>
 (ldPtr r26.2 (plus a27 2)).bind fun t28 =>
 (t28).bind fun a29 =>
 (ldPtr r26.2 (plus a29 0)).bind fun t30 =>
 (ldInt .i64 r26.2 (plus ⟨List.length m,0,none⟩ 1)).bind fun t31 =>
 (ldInt .i64 r26.2 (plus ⟨List.length m,0,none⟩ 2)).bind fun t32 =>
 (patinaref05_Chip_FailProgram k t30 t31 t32 r26.2).bind fun r33 =>
 (ldPtr r25.2 (plus a27 2)).bind fun t34 =>
 bif decide (t34 = t28) then (
 (ldPtr r25.2 (plus a29 0)).bind fun t35 =>
 bif decide (t35 = t30) then (
 (ldInt .i64 r25.2 (plus ⟨List.length m,0,none⟩ 1)).bind fun t36 =>
 bif t36 == t31 then (
 (ldInt .i64 r25.2 (plus ⟨List.length m,0,none⟩ 2)).bind fun t37 =>
 bif t37 == t32 then (
 some (r26.1 == r33.1,r33.2)) else none) else none) else none) else none) else (
 bif r3.1 == 5 then (
 (p0).bind fun a38 =>
 (ldPtr r3.2 (plus a38 0)).bind fun t39 =>
 (ldInt .i64 r3.2 (plus ⟨List.length m,0,none⟩ 1)).bind fun t40 =>
 (nand_Chip_FailErase k t39 t40 r3.2).bind fun r41 =>
 (patinalaw00_Code k r41.1 r41.2).bind fun r42 =>
 (p0).bind fun a43 =>
 (ldPtr r42.2 (plus a43 2)).bind fun t44 =>
 (t44).bind fun a45 =>
 (ldPtr r42.2 (plus a45 0)).bind fun t46 =>
 (ldInt .i64 r42.2 (plus ⟨List.length m,0,none⟩ 1)).bind fun t47 =>
 (patinaref05_Chip_FailErase k t46 t47 r42.2).bind fun r48 =>
 (ldPtr r41.2 (plus a43 2)).bind fun t49 =>
 bif decide (t49 = t44) then (
 (ldPtr r41.2 (plus a45 0)).bind fun t50 =>
 bif decide (t50 = t46) then (
 (ldInt .i64 r41.2 (plus ⟨List.length m,0,none⟩ 1)).bind fun t51 =>
 bif t51 == t47 then (
 some (r42.1 == r48.1,r48.2)) else none) else none) else none) else (
 bif r3.1 == 6 then (
 (p0).bind fun a52 =>
 (ldPtr r3.2 (plus a52 0)).bind fun t53 =>
 (ldInt .i64 r3.2 (plus ⟨List.length m,0,none⟩ 1)).bind fun t54 =>
 (nand_Chip_Cut k t53 t54 r3.2).bind fun r55 =>
 (patinalaw00_Code k r55.1 r55.2).bind fun r56 =>
 (p0).bind fun a57 =>
 (ldPtr r56.2 (plus a57 2)).bind fun t58 =>
 (t58).bind fun a59 =>
 (ldPtr r56.2 (plus a59 0)).bind fun t60 =>
 (ldInt .i64 r56.2 (plus ⟨List.length m,0,none⟩ 1)).bind fun t61 =>
 (patinaref05_Chip_Cut k t60 t61 r56.2).bind fun r62 =>
 (ldPtr r55.2 (plus a57 2)).bind fun t63 =>
 bif decide (t63 = t58) then (
 (ldPtr r55.2 (plus a59 0)).bind fun t64 =>
 bif decide (t64 = t60) then (
 (ldInt .i64 r55.2 (plus ⟨List.length m,0,none⟩ 1)).bind fun t65 =>
 bif t65 == t61 then (
 some (r56.1 == r62.1,r62.2)) else none) else none) else none) else (
 bif r3.1 == 7 then (
 (p0).bind fun a66 =>
 (ldPtr r3.2 (plus a66 0)).bind fun t67 =>
 (nand_Chip_Power k t67 r3.2).bind fun r68 =>
 (p0).bind fun a69 =>
 (ldPtr r68 (plus a69 2)).bind fun t70 =>
 (t70).bind fun a71 =>
 (ldPtr r68 (plus a71 0)).bind fun t72 =>
 (patinaref05_Chip_Again k t72 r68).bind fun r73 =>
 patinalaw08_Both_harm_j1 k  r73) else (
 bif r3.1 == 8 then (
 (ldInt .u8 r3.2 (plus ⟨List.length m,0,none⟩ 8)).bind fun t74 =>
 (patinalaw08_data k 64 t74 r3.2).bind fun r75 =>
 (p0).bind fun a76 =>
 (ldPtr r75.2 (plus a76 0)).bind fun t77 =>
 (ldInt .i64 r75.2 (plus ⟨List.length m,0,none⟩ 1)).bind fun t78 =>
 (ldInt .i64 r75.2 (plus ⟨List.length m,0,none⟩ 2)).bind fun t79 =>
 (nand_Chip_Write k t77 t78 t79 r75.1.a r75.1.len r75.1.cap r75.2).bind fun r80 =>
 (patinalaw00_Code k r80.1 r80.2).bind fun r81 =>
 (p0).bind fun a82 =>
 (ldPtr r81.2 (plus a82 2)).bind fun t83 =>
 (t83).bind fun a84 =>
 (ldPtr r81.2 (plus a84 0)).bind fun t85 =>
 (ldInt .i64 r81.2 (plus ⟨List.length m,0,none⟩ 1)).bind fun t86 =>
 (ldInt .i64 r81.2 (plus ⟨List.length m,0,none⟩ 2)).bind fun t87 =>
 (patinaref05_Chip_Write k t85 t86 t87 r75.1.a r75.1.len r75.1.cap r81.2).bind fun r88 =>
 (ldPtr r80.2 (plus a82 2)).bind fun t89 =>
 bif decide (t89 = t83) then (
 (ldPtr r80.2 (plus a84 0)).bind fun t90 =>
 bif decide (t90 = t85) then (
 (ldInt .i64 r80.2 (plus ⟨List.length m,0,none⟩ 1)).bind fun t91 =>
 bif t91 == t86 then (
 (ldInt .i64 r80.2 (plus ⟨List.length m,0,none⟩ 2)).bind fun t92 =>
 bif t92 == t87 then (
 some (r81.1 == r88.1,r88.2)) else none) else none) else none) else none) else (
 patinalaw08_Both_harm_j1 k  r3.2))))))) else none
def patinalaw08_Both_harm_U (k:Nat) (vs:List Value) (m:Mem):Option (Bool × Mem):=match vs with
 | [.pointer p0,.agg ⟨p1⟩] => patinalaw08_Both_harm k p0 p1 m
 | _ => none
theorem patinalaw08_Both_harm_ok (k:Nat):FOk Tryz.prog 33 Sh12 (patinalaw08_Both_harm_U k):=by
 intro vs m r h;unfold patinalaw08_Both_harm_U at h;split at h
 ·exact ok0 (cC (nand_Chip_Power_ok k) <| cC (patinaref05_Chip_Again_ok k) <| cC (nand_Chip_Flip_ok k) <| cC (patinalaw08_pick_ok k) <| cC (patinalaw08_data_ok k) <| cC (patinalaw00_Code_ok k) <| cC (nand_Chip_Write_ok k) <| cC (patinaref05_Chip_Write_ok k) <| cC (patinaref05_Chip_Flip_ok k) <| cC (nand_Chip_FailProgram_ok k) <| cC (patinaref05_Chip_FailProgram_ok k) <| cC (nand_Chip_FailErase_ok k) <| cC (patinaref05_Chip_FailErase_ok k) <| cC (nand_Chip_Cut_ok k) <| cC (patinaref05_Chip_Cut_ok k) <| cN) Tryz.func33 (by kernel_rfl) (Eq.trans (by kernel_rfl) h)
 ·cases h
def patinalaw08_Both_step_j1 (k:Nat) (p0:OA) (m:Mem) (x5_:Int) (mj:Mem):Option (Bool × Mem) :=
 (ldInt .u8 mj (plus ⟨List.length m,0,none⟩ 8)).bind fun t4 =>
 (patinalaw08_data k x5_ t4 mj).bind fun r5 =>
 (patinaref01_Lend k r5.1.a r5.1.len r5.1.cap r5.2).bind fun r6 =>
 (p0).bind fun a7 =>
 (ldPtr r6.2 (plus a7 1)).bind fun t8 =>
 (ldInt .i64 r6.2 (plus ⟨List.length m,0,none⟩ 1)).bind fun t9 =>
 (ldCells r6.2 (plus ⟨List.length m,0,none⟩ 3) 5).bind fun t10 =>
 (patinaref01_Lent_Bytes k r6.1 r6.2).bind fun r11 =>
 (media_Media_Program k t8 t9 t10 r11.1.a r11.1.len r11.1.cap r11.2).bind fun r12 =>
 (ldPtr r11.2 (plus a7 1)).bind fun t13 =>
 bif decide (t13 = t8) then (
 (ldInt .i64 r11.2 (plus ⟨List.length m,0,none⟩ 1)).bind fun t14 =>
 bif t14 == t9 then (
 (ldCells r11.2 (plus ⟨List.length m,0,none⟩ 3) 5).bind fun t15 =>
 bif veqs t15 t10 then (
 (patinaref01_Lent_Kept k r6.1 r12.2).bind fun r16 =>
 (patinaref01_Lent_Turn k r6.1 r16.2).bind fun r17 =>
 bif r16.1 then (
 (patinalaw00_Code k r12.1 r17).bind fun r18 =>
 (p0).bind fun a19 =>
 (ldPtr r18.2 (plus a19 2)).bind fun t20 =>
 (ldInt .i64 r18.2 (plus ⟨List.length m,0,none⟩ 1)).bind fun t21 =>
 (ldCells r18.2 (plus ⟨List.length m,0,none⟩ 3) 5).bind fun t22 =>
 (patinaref08_Media_Program k t20 t21 t22 r5.1.a r5.1.len r5.1.cap r18.2).bind fun r23 =>
 (ldPtr r17 (plus a19 2)).bind fun t24 =>
 bif decide (t24 = t20) then (
 (ldInt .i64 r17 (plus ⟨List.length m,0,none⟩ 1)).bind fun t25 =>
 bif t25 == t21 then (
 (ldCells r17 (plus ⟨List.length m,0,none⟩ 3) 5).bind fun t26 =>
 bif veqs t26 t22 then (
 some (r18.1 == r23.1,r23.2)) else none) else none) else none) else (
 some (false,r17))) else none) else none) else none
def patinalaw08_Both_step (k:Nat) (p0:OA) (p1:List Value) (m:Mem):Option (Bool × Mem) :=
 bif Nat.beq (List.length p1) 9 then (
 let m1:Mem:=m ++ [.live p1]
 (ldInt .i64 m1 (plus ⟨List.length m,0,none⟩ 0)).bind fun t2 =>
 (patinalaw08_pick k t2 10 m1).bind fun r3 =>
 bif r3.1 == 0 then (
 (ldInt .i64 r3.2 (plus ⟨List.length m,0,none⟩ 2)).bind fun t27 =>
 bif decide (t27 > 0) then (
 (ldInt .i64 r3.2 (plus ⟨List.length m,0,none⟩ 2)).bind fun t28 =>
 bif decide (t28 < 1000) then (
 (ldInt .i64 r3.2 (plus ⟨List.length m,0,none⟩ 2)).bind fun t29 =>
 patinalaw08_Both_step_j1 k p0 m t29 r3.2) else (
 patinalaw08_Both_step_j1 k p0 m 174 r3.2)) else (
 patinalaw08_Both_step_j1 k p0 m 174 r3.2)) else (
 bif r3.1 == 1 then (
 (p0).bind fun a30 =>
 (ldPtr r3.2 (plus a30 1)).bind fun t31 =>
 (ldInt .i64 r3.2 (plus ⟨List.length m,0,none⟩ 1)).bind fun t32 =>
 (media_Media_Read k t31 t32 r3.2).bind fun r33 =>
 let m34:Mem:=r33.2.2 ++ [.live [.bool false,.int .i64 0,.int .i64 0,.int .i64 0,.int .i64 0,.bool false,.bool false,.slice none 0 0,.int .i64 0]]
 bif Nat.beq (List.length r33.1) 9 then (
 (stCells m34 ⟨List.length r33.2.2,0,none⟩ r33.1).bind fun m35 =>
 (p0).bind fun a36 =>
 (ldPtr m35 (plus a36 2)).bind fun t37 =>
 (ldInt .i64 m35 (plus ⟨List.length m,0,none⟩ 1)).bind fun t38 =>
 (patinaref08_Media_Read k t37 t38 m35).bind fun r39 =>
 let m40:Mem:=r39.2.2 ++ [.live [.bool false,.int .i64 0,.int .i64 0,.int .i64 0,.int .i64 0,.bool false,.bool false,.slice none 0 0,.int .i64 0]]
 bif Nat.beq (List.length r39.1) 9 then (
 (stCells m40 ⟨List.length r39.2.2,0,none⟩ r39.1).bind fun m41 =>
 (ldCells m41 ⟨List.length r33.2.2,0,none⟩ 9).bind fun t42 =>
 (ldCells m41 ⟨List.length r39.2.2,0,none⟩ 9).bind fun t43 =>
 (patinaref08_Same k t42 t43 m41).bind fun r44 =>
 bif r44.1 then (
 (patinalaw00_Code k r33.2.1 r44.2).bind fun r45 =>
 some (r45.1 == r39.2.1,r45.2)) else (
 some (false,r44.2))) else none) else none) else (
 bif r3.1 == 2 then (
 (p0).bind fun a46 =>
 (ldPtr r3.2 (plus a46 1)).bind fun t47 =>
 (ldInt .i64 r3.2 (plus ⟨List.length m,0,none⟩ 1)).bind fun t48 =>
 (media_Media_Erase k t47 t48 r3.2).bind fun r49 =>
 (patinalaw00_Code k r49.1 r49.2).bind fun r50 =>
 (p0).bind fun a51 =>
 (ldPtr r50.2 (plus a51 2)).bind fun t52 =>
 (t52).bind fun a53 =>
 (ldPtr r50.2 (plus a53 0)).bind fun t54 =>
 (ldInt .i64 r50.2 (plus ⟨List.length m,0,none⟩ 1)).bind fun t55 =>
 (patinaref05_Chip_Erase k t54 t55 r50.2).bind fun r56 =>
 (ldPtr r49.2 (plus a51 2)).bind fun t57 =>
 bif decide (t57 = t52) then (
 (ldPtr r49.2 (plus a53 0)).bind fun t58 =>
 bif decide (t58 = t54) then (
 (ldInt .i64 r49.2 (plus ⟨List.length m,0,none⟩ 1)).bind fun t59 =>
 bif t59 == t55 then (
 some (r50.1 == r56.1,r56.2)) else none) else none) else none) else (
 bif r3.1 == 9 then (
 (p0).bind fun a60 =>
 (ldPtr r3.2 (plus a60 1)).bind fun t61 =>
 (media_Media_Reads k t61 r3.2).bind fun r62 =>
 (p0).bind fun a63 =>
 (ldPtr r62.2 (plus a63 2)).bind fun t64 =>
 (t64).bind fun a65 =>
 (ldInt .i64 r62.2 (plus a65 1)).bind fun t66 =>
 (ldPtr r3.2 (plus a63 2)).bind fun t67 =>
 bif decide (t67 = t64) then (
 (ldInt .i64 r3.2 (plus a65 1)).bind fun t68 =>
 bif t68 == t66 then (
 some (r62.1 == t66,r62.2)) else none) else none) else (
 (ldCells r3.2 ⟨List.length m,0,none⟩ 9).bind fun t69 =>
 (patinalaw08_Both_harm k p0 t69 r3.2).bind fun r70 =>
 some (r70.1,r70.2)))))) else none
def patinalaw08_Both_step_U (k:Nat) (vs:List Value) (m:Mem):Option (Bool × Mem):=match vs with
 | [.pointer p0,.agg ⟨p1⟩] => patinalaw08_Both_step k p0 p1 m
 | _ => none
theorem patinalaw08_Both_step_ok (k:Nat):FOk Tryz.prog 6 Sh12 (patinalaw08_Both_step_U k):=by
 intro vs m r h;unfold patinalaw08_Both_step_U at h;split at h
 ·exact ok0 (cC (media_Media_Reads_ok k) <| cC (media_Media_Read_ok k) <| cC (media_Media_Program_ok k) <| cC (patinalaw08_pick_ok k) <| cC (patinalaw08_data_ok k) <| cC (patinaref01_Lend_ok k) <| cC (patinaref01_Lent_Bytes_ok k) <| cC (patinaref01_Lent_Kept_ok k) <| cC (patinaref01_Lent_Turn_ok k) <| cC (patinalaw00_Code_ok k) <| cC (patinaref08_Media_Program_ok k) <| cC (patinaref08_Media_Read_ok k) <| cC (patinaref08_Same_ok k) <| cC (media_Media_Erase_ok k) <| cC (patinaref05_Chip_Erase_ok k) <| cC (patinalaw08_Both_harm_ok k) <| cN) Tryz.func6 (by kernel_rfl) (Eq.trans (by kernel_rfl) h)
 ·cases h
end Go.Proofs.YtchonnaoojpdoaaGreat
