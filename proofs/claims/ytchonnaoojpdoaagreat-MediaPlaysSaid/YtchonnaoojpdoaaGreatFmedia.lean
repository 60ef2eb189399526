import Derived.Test.YtchonnaoojpdoaaGreatF1
import Derived.Test.YtchonnaoojpdoaaGreatFbytes
import Derived.Test.YtchonnaoojpdoaaGreatFframe
import Derived.Test.YtchonnaoojpdoaaGreatFnand
import Derived.Test.YtchonnaoojpdoaaGreatFsyncatomic
import Derived.Test.YtchonnaoojpdoaaGreatFtag
set_option linter.unusedVariables false
set_option linter.defProp false
set_option maxRecDepth 100000
namespace Go.Proofs.YtchonnaoojpdoaaGreat
open Go.Mx
def media_Media_Reads (k:Nat) (p0:OA) (m:Mem):Option (Int × Mem) :=
 (p0).bind fun a1 =>
 (sync_atomic_Int64_Load k (some (plus a1 2)) m).bind fun r2 =>
 some (r2.1,r2.2)
def media_Media_Reads_U (k:Nat) (vs:List Value) (m:Mem):Option (Int × Mem):=match vs with
 | [.pointer p0] => media_Media_Reads k p0 m
 | _ => none
theorem media_Media_Reads_ok (k:Nat):FOk Tryz.prog 14 Sh0 (media_Media_Reads_U k):=by
 intro vs m r h;unfold media_Media_Reads_U at h;split at h
 ·exact ok0 (cC (sync_atomic_Int64_Load_ok k) <| cN) Tryz.func14 (by kernel_rfl) (Eq.trans (by kernel_rfl) h)
 ·cases h
def media_New (k:Nat) (p0:OA) (m:Mem):Option ((OA) × Mem) :=
 (frame_New k  m).bind fun r1 =>
 let m2:Mem:=r1.2 ++ [.live [(Value.pointer p0),(Value.pointer r1.1),.int .i64 0]]
 some ((some ⟨List.length r1.2,0,none⟩),m2)
def media_New_U (k:Nat) (vs:List Value) (m:Mem):Option ((OA) × Mem):=match vs with
 | [.pointer p0] => media_New k p0 m
 | _ => none
theorem media_New_ok (k:Nat):FOk Tryz.prog 16 Sh2 (media_New_U k):=by
 intro vs m r h;unfold media_New_U at h;split at h
 ·exact ok0 (cC (frame_New_ok k) <| cN) Tryz.func16 (by kernel_rfl) (Eq.trans (by kernel_rfl) h)
 ·cases h
def media_Media_Read_j1 (k:Nat) (x0:OA) (x1:Int) (x4:Addr) (x6a:OA) (x6n:Nat) (x6c:Nat) (x8:Addr) (x36:Int) (nx:OA → Int → Addr → OA → Nat → Nat → Addr → Int → Mem → Option ((List Value) × Value × Mem)) (mj:Mem):Option ((List Value) × Value × Mem) :=
 nx x0 x1 x4 x6a x6n x6c x8 (IntKind.wrap .i64 (x36 + 1)) mj
def media_Media_Read_l0_b (k:Nat) (nx:OA → Int → Addr → OA → Nat → Nat → Addr → Int → Mem → Option ((List Value) × Value × Mem)) (kx2:OA → Int → Addr → OA → Nat → Nat → Addr → Mem → Option ((List Value) × Value × Mem)) (x0:OA) (x1:Int) (x4:Addr) (x6a:OA) (x6n:Nat) (x6c:Nat) (x8:Addr) (x36:Int) (m:Mem):Option ((List Value) × Value × Mem) :=
 bif decide (x36 < 4) then (
 (x0).bind fun a11 =>
 (ldPtr m (plus a11 1)).bind fun t12 =>
 (frame_Frame_Message k t12 x6a x6n x6c x36 m).bind fun r13 =>
 (isNil r13.2.2.1).bind fun b14 =>
 bif b14 then (
 (ldInt .i64 r13.2.2.2 (plus x8 8)).bind fun t15 =>
 (st r13.2.2.2 (plus x8 8) (Value.int .i64 (maxI t15 r13.2.1))).bind fun m16 =>
 media_Media_Read_j1 k x0 x1 x4 x6a x6n x6c x8 x36 nx m16) else (
 media_Media_Read_j1 k x0 x1 x4 x6a x6n x6c x8 x36 nx r13.2.2.2)) else (
 kx2 x0 x1 x4 x6a x6n x6c x8 m)
def media_Media_Read_l0 (k:Nat) kx2:=it9 fun nx => media_Media_Read_l0_b k nx kx2
def media_Media_Read_l0_rule (k:Nat) kx2 {P}:=it9_rule (P:=P) (f:=fun nx => media_Media_Read_l0_b k nx kx2)
def media_Media_Read_j2 (k:Nat) (y4:Addr) (y8:Addr) (mj:Mem):Option ((List Value) × Value × Mem) :=
 (ldCells mj y8 9).bind fun t40 =>
 bif Nat.beq (List.length t40) 9 then (
 (stCells mj y4 t40).bind fun m41 =>
 (ldCells m41 y4 9).bind fun t42 =>
 some (t42,Value.nilIface,m41)) else none
def media_Media_Read (k:Nat) (p0:OA) (p1:Int) (m:Mem):Option ((List Value) × Value × Mem) :=
 let m1:Mem:=m ++ [.live [.bool false,.int .i64 0,.int .i64 0,.int .i64 0,.int .i64 0,.bool false,.bool false,.slice none 0 0,.int .i64 0]]
 (p0).bind fun a2 =>
 (ldPtr m1 (plus a2 0)).bind fun t3 =>
 (nand_Chip_Read k t3 p1 m1).bind fun r4 =>
 (isNil r4.2.1).bind fun b5 =>
 bif !b5 then (
 (stCells r4.2.2 ⟨List.length m,0,none⟩ [.bool false,.int .i64 0,.int .i64 0,.int .i64 0,.int .i64 0,.bool false,.bool false,.slice none 0 0,.int .i64 0]).bind fun m6 =>
 (ldCells m6 ⟨List.length m,0,none⟩ 9).bind fun t7 =>
 some (t7,r4.2.1,m6)) else (
 (p0).bind fun a8 =>
 (sync_atomic_Int64_Add k (some (plus a8 2)) 1 r4.2.2).bind fun r9 =>
 let m10:Mem:=r9.2 ++ [.live [.bool false,.int .i64 0,.int .i64 0,.int .i64 0,.int .i64 0,.bool false,.bool false,.slice none 0 0,.int .i64 0]]
 media_Media_Read_l0 k (fun y0 y1 y4 y6a y6n y6c y8 m17 =>
 (y0).bind fun a18 =>
 (ldPtr m17 (plus a18 1)).bind fun t19 =>
 (frame_Frame_Body k t19 y6a y6n y6c m17).bind fun r20 =>
 (isNil r20.2.2.1).bind fun b21 =>
 bif !b21 then (
 (ldCells r20.2.2.2 y8 9).bind fun t22 =>
 bif Nat.beq (List.length t22) 9 then (
 (stCells r20.2.2.2 y4 t22).bind fun m23 =>
 (ldCells m23 y4 9).bind fun t24 =>
 some (t24,Value.nilIface,m23)) else none) else (
 (tag_Decode k r20.1.a r20.1.len r20.1.cap r20.2.2.2).bind fun r25 =>
 let m26:Mem:=r25.2.2 ++ [.live [.int .i64 0,.int .i64 0,.int .i64 0,.int .i64 0,.bool false]]
 bif Nat.beq (List.length r25.1) 5 then (
 (stCells m26 ⟨List.length r25.2.2,0,none⟩ r25.1).bind fun m27 =>
 (isNil r25.2.1).bind fun b28 =>
 bif !b28 then (
 (ldCells m27 y8 9).bind fun t29 =>
 bif Nat.beq (List.length t29) 9 then (
 (stCells m27 y4 t29).bind fun m30 =>
 (ldCells m30 y4 9).bind fun t31 =>
 some (t31,Value.nilIface,m30)) else none) else (
 (ldInt .i64 m27 (plus ⟨List.length r25.2.2,0,none⟩ 0)).bind fun t32 =>
 bif t32 != y1 then (
 (ldCells m27 y8 9).bind fun t33 =>
 bif Nat.beq (List.length t33) 9 then (
 (stCells m27 y4 t33).bind fun m34 =>
 (ldCells m34 y4 9).bind fun t35 =>
 some (t35,Value.nilIface,m34)) else none) else (
 (ldCells m27 ⟨List.length r25.2.2,0,none⟩ 5).bind fun t36 =>
 (st m27 (plus y8 0) (Value.bool true)).bind fun m37 =>
 bif Nat.beq (List.length t36) 5 then (
 (stCells m37 (plus y8 1) t36).bind fun m38 =>
 (ldCells m37 ⟨List.length r25.2.2,0,none⟩ 5).bind fun t39 =>
 bif veqs t39 t36 then (
 (y0).bind fun a43 =>
 (ldPtr m38 (plus a43 1)).bind fun t44 =>
 (frame_Frame_Data k t44 y6a y6n y6c m38).bind fun r45 =>
 (isNil r45.2.2.1).bind fun b46 =>
 bif b46 then (
 (st r45.2.2.2 (plus y8 6) (Value.bool true)).bind fun m47 =>
 (st m47 (plus y8 7) (Value.slice r45.1.a r45.1.len r45.1.cap)).bind fun m48 =>
 media_Media_Read_j2 k y4 y8 m48) else (
 media_Media_Read_j2 k y4 y8 r45.2.2.2)) else none) else none))) else none)) k p0 p1 ⟨List.length m,0,none⟩ r4.1.a r4.1.len r4.1.cap ⟨List.length r9.2,0,none⟩ 0 m10)
def media_Media_Read_cs (k:Nat):Cs Tryz.prog:=cC (nand_Chip_Read_ok k) <| cC (sync_atomic_Int64_Add_ok k) <| cC (frame_Frame_Message_ok k) <| cC (frame_Frame_Body_ok k) <| cC (tag_Decode_ok k) <| cC (frame_Frame_Data_ok k) <| cN
def media_Media_Read_l0_L (k:Nat) (K:KT ((List Value) × Value × Mem)) (n:Nat) (vs:List Value) (m:Mem):Option ((List Value) × Value × Mem):=match vs with
 | [.pointer x0,.int .i64 x1,.pointer (some x4),.slice x6a x6n x6c,.pointer (some x8),.int .i64 x36] => media_Media_Read_l0 k (fun y0 y1 y4 y6a y6n y6c y8 m => K 2 [(Value.pointer y0),(Value.int .i64 y1),(Value.pointer (some y4)),(Value.slice y6a y6n y6c),(Value.pointer (some y8))] m) n x0 x1 x4 x6a x6n x6c x8 x36 m
 | _ => none
def media_Media_Read_C (k:Nat):Ctx ((List Value) × Value × Mem):=⟨tt,(media_Media_Read_cs k).call,lpOf [(0,fun K => media_Media_Read_l0_L k K k)],[(0,[0,1,4,6,8,36])],[(2,[0,1,4,6,8])]⟩
theorem media_Media_Read_l0_ok (k:Nat):LoopOk (media_Media_Read_C k) 0 (lpc Tryz.f17 0):=lpOk (k:=k) [0,1,4,6,8,36] (media_Media_Read_l0_L k) (by kernel_rfl) (fun _ _ _ => rfl) fun K n vs m r h => by
 unfold media_Media_Read_l0_L at h;split at h
 ·cases n
  ·cases h
  ·exact ⟨_,rfl,Eq.trans (by kernel_rfl) h⟩
 ·cases h
def media_Media_Read_U (k:Nat) (vs:List Value) (m:Mem):Option ((List Value) × Value × Mem):=match vs with
 | [.pointer p0,.int .i64 p1] => media_Media_Read k p0 p1 m
 | _ => none
theorem media_Media_Read_ok (k:Nat):FOk Tryz.prog 17 Sh14 (media_Media_Read_U k):=by
 intro vs m r h;unfold media_Media_Read_U at h;split at h
 ·exact fnOk (C:=media_Media_Read_C k) (media_Media_Read_cs k) tOk mixed rfl Tryz.func17 (by kernel_rfl) (lps (cs:=[0]) (by kernel_rfl) ⟨media_Media_Read_l0_ok k,trivial⟩) (noRanges (by kernel_rfl)) (Eq.trans (by kernel_rfl) h)
 ·cases h
def media_Media_Program_l0_b (k:Nat) (nx:OA → Int → OA → Nat → Nat → Addr → OA → Nat → Nat → Int → Int → Mem → Option (Value × Mem)) (kx0:Value → Mem → Option (Value × Mem)) (kx2:OA → Int → OA → Nat → Nat → Addr → Mem → Option (Value × Mem)) (x0:OA) (x1:Int) (x3a:OA) (x3n:Nat) (x3c:Nat) (x6:Addr) (x42a:OA) (x42n:Nat) (x42c:Nat) (x43:Int) (x44:Int) (m:Mem):Option (Value × Mem) :=
 bif decide (x44 < x43) then (
 bif inRange x44 x42n then (
 (x42a).bind fun a10 =>
 (ldSl m (plus a10 (Int.toNat x44 * 1))).bind fun t11 =>
 (x0).bind fun a12 =>
 (ldPtr m (plus a12 0)).bind fun t13 =>
 (nand_Chip_Write k t13 x1 x44 t11.a t11.len t11.cap m).bind fun r14 =>
 (isNil r14.1).bind fun b15 =>
 bif !b15 then (
 kx0 r14.1 r14.2) else (
 nx x0 x1 x3a x3n x3c x6 x42a x42n x42c x43 (IntKind.wrap .i64 (x44 + 1)) r14.2)) else none) else (
 kx2 x0 x1 x3a x3n x3c x6 m)
def media_Media_Program_l0 (k:Nat) kx0 kx2:=it12 fun nx => media_Media_Program_l0_b k nx kx0 kx2
def media_Media_Program_l0_rule (k:Nat) kx0 kx2 {P}:=it12_rule (P:=P) (f:=fun nx => media_Media_Program_l0_b k nx kx0 kx2)
def media_Media_Program (k:Nat) (p0:OA) (p1:Int) (p2:List Value) (p3a:OA) (p3n:Nat) (p3c:Nat) (m:Mem):Option (Value × Mem) :=
 bif Nat.beq (List.length p2) 5 then (
 let m1:Mem:=m ++ [.live p2]
 (ldCells m1 ⟨List.length m,0,none⟩ 5).bind fun t2 =>
 (tag_Encode k t2 m1).bind fun r3 =>
 (isNil r3.2.1).bind fun b4 =>
 bif !b4 then (
 some (r3.2.1,r3.2.2)) else (
 (ldInt .i64 r3.2.2 (plus ⟨List.length m,0,none⟩ 0)).bind fun t5 =>
 bif t5 != p1 then (
 some ((Value.iface ty_api_Code (Value.int .i64 1)),r3.2.2)) else (
 (p0).bind fun a6 =>
 (ldPtr r3.2.2 (plus a6 1)).bind fun t7 =>
 (frame_Frame_Lay k t7 p3a p3n p3c r3.1.a r3.1.len r3.1.cap r3.2.2).bind fun r8 =>
 (isNil r8.2.1).bind fun b9 =>
 bif !b9 then (
 some (r8.2.1,r8.2.2)) else (
 media_Media_Program_l0 k (fun y8 m16 =>
 some (y8,m16)) (fun y0 y1 y3a y3n y3c y6 m17 =>
 (media_Media_Read k y0 y1 m17).bind fun r18 =>
 let m19:Mem:=r18.2.2 ++ [.live [.bool false,.int .i64 0,.int .i64 0,.int .i64 0,.int .i64 0,.bool false,.bool false,.slice none 0 0,.int .i64 0]]
 bif Nat.beq (List.length r18.1) 9 then (
 (stCells m19 ⟨List.length r18.2.2,0,none⟩ r18.1).bind fun m20 =>
 (isNil r18.2.1).bind fun b21 =>
 bif !b21 then (
 some (r18.2.1,m20)) else (
 (ldBool m20 (plus ⟨List.length r18.2.2,0,none⟩ 6)).bind fun t22 =>
 bif !t22 then (
 some ((Value.iface ty_api_Code (Value.int .i64 8)),m20)) else (
 (ldCells m20 (plus ⟨List.length r18.2.2,0,none⟩ 1) 5).bind fun t23 =>
 (ldCells m20 y6 5).bind fun t24 =>
 (cellsEq (eqK tt 28) t23 t24).bind fun b25 =>
 bif !b25 then (
 some ((Value.iface ty_api_Code (Value.int .i64 8)),m20)) else (
 (ldSl m20 (plus ⟨List.length r18.2.2,0,none⟩ 7)).bind fun t26 =>
 (bytes_Equal k t26.a t26.len t26.cap y3a y3n y3c m20).bind fun r27 =>
 bif !r27.1 then (
 some ((Value.iface ty_api_Code (Value.int .i64 8)),r27.2)) else (
 some (Value.nilIface,r27.2)))))) else none) k p0 p1 p3a p3n p3c ⟨List.length m,0,none⟩ r8.1.a r8.1.len r8.1.cap ((r8.1.len:Nat):Int) 0 r8.2.2)))) else none
def media_Media_Program_cs (k:Nat):Cs Tryz.prog:=cC (media_Media_Read_ok k) <| cC (tag_Encode_ok k) <| cC (frame_Frame_Lay_ok k) <| cC (nand_Chip_Write_ok k) <| cC (bytes_Equal_ok k) <| cN
def media_Media_Program_l0_L (k:Nat) (K:KT (Value × Mem)) (n:Nat) (vs:List Value) (m:Mem):Option (Value × Mem):=match vs with
 | [.pointer x0,.int .i64 x1,.slice x3a x3n x3c,.pointer (some x6),.slice x42a x42n x42c,.int .i64 x43,.int .i64 x44] => media_Media_Program_l0 k (fun y8 m => K 0 [y8] m) (fun y0 y1 y3a y3n y3c y6 m => K 2 [(Value.pointer y0),(Value.int .i64 y1),(Value.slice y3a y3n y3c),(Value.pointer (some y6))] m) n x0 x1 x3a x3n x3c x6 x42a x42n x42c x43 x44 m
 | _ => none
def media_Media_Program_C (k:Nat):Ctx (Value × Mem):=⟨tt,(media_Media_Program_cs k).call,lpOf [(0,fun K => media_Media_Program_l0_L k K k)],[(0,[0,1,3,6,42,43,44])],[(0,[8]),(2,[0,1,3,6])]⟩
theorem media_Media_Program_l0_ok (k:Nat):LoopOk (media_Media_Program_C k) 0 (lpc Tryz.f18 0):=lpOk (k:=k) [0,1,3,6,42,43,44] (media_Media_Program_l0_L k) (by kernel_rfl) (fun _ _ _ => rfl) fun K n vs m r h => by
 unfold media_Media_Program_l0_L at h;split at h
 ·cases n
  ·cases h
  ·exact ⟨_,rfl,Eq.trans (by kernel_rfl) h⟩
 ·cases h
def media_Media_Program_U (k:Nat) (vs:List Value) (m:Mem):Option (Value × Mem):=match vs with
 | [.pointer p0,.int .i64 p1,.agg ⟨p2⟩,.slice p3a p3n p3c] => media_Media_Program k p0 p1 p2 p3a p3n p3c m
 | _ => none
theorem media_Media_Program_ok (k:Nat):FOk Tryz.prog 18 Sh11 (media_Media_Program_U k):=by
 intro vs m r h;unfold media_Media_Program_U at h;split at h
 ·exact fnOk (C:=media_Media_Program_C k) (media_Media_Program_cs k) tOk mixed rfl Tryz.func18 (by kernel_rfl) (lps (cs:=[0]) (by kernel_rfl) ⟨media_Media_Program_l0_ok k,trivial⟩) (noRanges (by kernel_rfl)) (Eq.trans (by kernel_rfl) h)
 ·cases h
def media_Media_Erase (k:Nat) (p0:OA) (p1:Int) (m:Mem):Option (Value × Mem) :=
 (p0).bind fun a1 =>
 (ldPtr m (plus a1 0)).bind fun t2 =>
 (nand_Chip_Erase k t2 p1 m).bind fun r3 =>
 some (r3.1,r3.2)
def media_Media_Erase_U (k:Nat) (vs:List Value) (m:Mem):Option (Value × Mem):=match vs with
 | [.pointer p0,.int .i64 p1] => media_Media_Erase k p0 p1 m
 | _ => none
theorem media_Media_Erase_ok (k:Nat):FOk Tryz.prog 31 Sh11 (media_Media_Erase_U k):=by
 intro vs m r h;unfold media_Media_Erase_U at h;split at h
 ·exact ok0 (cC (nand_Chip_Erase_ok k) <| cN) Tryz.func31 (by kernel_rfl) (Eq.trans (by kernel_rfl) h)
 ·cases h
end Go.Proofs.YtchonnaoojpdoaaGreat
