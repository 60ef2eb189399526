import Derived.Test.YtchonnaoojpdoaaGreatF1
import Derived.Test.YtchonnaoojpdoaaGreatFsyncatomic
set_option linter.unusedVariables false
set_option linter.defProp false
set_option maxRecDepth 100000
namespace Go.Proofs.YtchonnaoojpdoaaGreat
open Go.Mx
def nand_block_clear_l0_b (k:Nat) (nx:OA → Addr → Int → Mem → Option Mem) (kx2:OA → Addr → Mem → Option Mem) (x0:OA) (x2:Addr) (x6:Int) (m:Mem):Option Mem :=
 bif decide (x6 < 64) then (
 bif inRange x6 64 then (
 (st m (plus (plus x2 0) (Int.toNat x6 * 1)) (Value.int .u8 255)).bind fun m2 =>
 nx x0 x2 (IntKind.wrap .i64 (x6 + 1)) m2) else none) else (
 kx2 x0 x2 m)
def nand_block_clear_l0 (k:Nat) kx2:=it4 fun nx => nand_block_clear_l0_b k nx kx2
def nand_block_clear_l0_rule (k:Nat) kx2 {P}:=it4_rule (P:=P) (f:=fun nx => nand_block_clear_l0_b k nx kx2)
def nand_block_clear_l4_b (k:Nat) (nx:OA → Addr → Int → Int → Int → Mem → Option Mem) (kx6:OA → Addr → Int → Mem → Option Mem) (x0:OA) (x2:Addr) (x4:Int) (x16:Int) (x19:Int) (m:Mem):Option Mem :=
 bif decide (x19 < 4) then (
 (ldCells m x2 130).bind fun t6 =>
 (x0).bind fun a7 =>
 bif inRange x4 8 then (
 bif inRange x19 4 then (
 bif Nat.beq (List.length t6) 130 then (
 (stCells m (plus (plus (plus a7 0) (Int.toNat x4 * 520)) (Int.toNat x19 * 130)) t6).bind fun m8 =>
 nx x0 x2 x4 x16 (IntKind.wrap .i64 (x19 + 1)) m8) else none) else none) else none) else (
 kx6 x0 x2 x16 m)
def nand_block_clear_l4 (k:Nat) kx6:=it6 fun nx => nand_block_clear_l4_b k nx kx6
def nand_block_clear_l4_rule (k:Nat) kx6 {P}:=it6_rule (P:=P) (f:=fun nx => nand_block_clear_l4_b k nx kx6)
def nand_block_clear_l2_b (k:Nat) (nx:OA → Addr → Int → Mem → Option Mem) (kx4:OA → Mem → Option Mem) (x0:OA) (x2:Addr) (x16:Int) (m:Mem):Option Mem :=
 bif decide (x16 < 8) then (
 nand_block_clear_l4 k (fun y0 y2 y16 m9 =>
 nx y0 y2 (IntKind.wrap .i64 (y16 + 1)) m9) k x0 x2 x16 x16 0 m) else (
 kx4 x0 m)
def nand_block_clear_l2 (k:Nat) kx4:=it4 fun nx => nand_block_clear_l2_b k nx kx4
def nand_block_clear_l2_rule (k:Nat) kx4 {P}:=it4_rule (P:=P) (f:=fun nx => nand_block_clear_l2_b k nx kx4)
def nand_block_clear (k:Nat) (p0:OA) (m:Mem):Option Mem :=
 let m1:Mem:=m ++ [.live ((repl 64 [.int .u8 0]) ++ (repl 64 [.int .u8 0]) ++ [.bool false] ++ [.int .i64 0])]
 nand_block_clear_l0 k (fun y0 y2 m3 =>
 (ldCells m3 (plus y2 0) 64).bind fun t4 =>
 bif Nat.beq (List.length t4) 64 then (
 (stCells m3 (plus y2 64) t4).bind fun m5 =>
 nand_block_clear_l2 k (fun y0 m10 =>
 (y0).bind fun a11 =>
 (sync_atomic_Int64_Store k (some (plus a11 4160)) 0 m10).bind fun r12 =>
 some (r12)) k y0 y2 0 m5) else none) k p0 ⟨List.length m,0,none⟩ 0 m1
def nand_block_clear_cs (k:Nat):Cs Tryz.prog:=cC (sync_atomic_Int64_Store_ok k) <| cN
def nand_block_clear_l0_L (k:Nat) (K:KT Mem) (n:Nat) (vs:List Value) (m:Mem):Option Mem:=match vs with
 | [.pointer x0,.pointer (some x2),.int .i64 x6] => nand_block_clear_l0 k (fun y0 y2 m => K 2 [(Value.pointer y0),(Value.pointer (some y2))] m) n x0 x2 x6 m
 | _ => none
def nand_block_clear_l2_L (k:Nat) (K:KT Mem) (n:Nat) (vs:List Value) (m:Mem):Option Mem:=match vs with
 | [.pointer x0,.pointer (some x2),.int .i64 x16] => nand_block_clear_l2 k (fun y0 m => K 4 [(Value.pointer y0)] m) n x0 x2 x16 m
 | _ => none
def nand_block_clear_l4_L (k:Nat) (K:KT Mem) (n:Nat) (vs:List Value) (m:Mem):Option Mem:=match vs with
 | [.pointer x0,.pointer (some x2),.int .i64 x4,.int .i64 x16,.int .i64 x19] => nand_block_clear_l4 k (fun y0 y2 y16 m => K 6 [(Value.pointer y0),(Value.pointer (some y2)),(Value.int .i64 y16)] m) n x0 x2 x4 x16 x19 m
 | _ => none
def nand_block_clear_C (k:Nat):Ctx Mem:=⟨tt,(nand_block_clear_cs k).call,lpOf [(0,fun K => nand_block_clear_l0_L k K k),(2,fun K => nand_block_clear_l2_L k K k),(4,fun K => nand_block_clear_l4_L k K k)],[(0,[0,2,6]),(2,[0,2,16]),(4,[0,2,4,16,19])],[(2,[0,2]),(4,[0]),(6,[0,2,16])]⟩
theorem nand_block_clear_l0_ok (k:Nat):LoopOk (nand_block_clear_C k) 0 (lpc Tryz.f37 0):=lpOk (k:=k) [0,2,6] (nand_block_clear_l0_L k) (by kernel_rfl) (fun _ _ _ => rfl) fun K n vs m r h => by
 unfold nand_block_clear_l0_L at h;split at h
 ·cases n
  ·cases h
  ·exact ⟨_,rfl,Eq.trans (by kernel_rfl) h⟩
 ·cases h
theorem nand_block_clear_l2_ok (k:Nat):LoopOk (nand_block_clear_C k) 2 (lpc Tryz.f37 1):=lpOk (k:=k) [0,2,16] (nand_block_clear_l2_L k) (by kernel_rfl) (fun _ _ _ => rfl) fun K n vs m r h => by
 unfold nand_block_clear_l2_L at h;split at h
 ·cases n
  ·cases h
  ·exact ⟨_,rfl,Eq.trans (by kernel_rfl) h⟩
 ·cases h
theorem nand_block_clear_l4_ok (k:Nat):LoopOk (nand_block_clear_C k) 4 (lpc Tryz.f37 2):=lpOk (k:=k) [0,2,4,16,19] (nand_block_clear_l4_L k) (by kernel_rfl) (fun _ _ _ => rfl) fun K n vs m r h => by
 unfold nand_block_clear_l4_L at h;split at h
 ·cases n
  ·cases h
  ·exact ⟨_,rfl,Eq.trans (by kernel_rfl) h⟩
 ·cases h
def nand_block_clear_U (k:Nat) (vs:List Value) (m:Mem):Option Mem:=match vs with
 | [.pointer p0] => nand_block_clear k p0 m
 | _ => none
theorem nand_block_clear_ok (k:Nat):FOk Tryz.prog 37 Sh1 (nand_block_clear_U k):=by
 intro vs m r h;unfold nand_block_clear_U at h;split at h
 ·exact fnOk (C:=nand_block_clear_C k) (nand_block_clear_cs k) tOk mixed rfl Tryz.func37 (by kernel_rfl) (lps (cs:=[0,2,4]) (by kernel_rfl) ⟨nand_block_clear_l0_ok k,nand_block_clear_l2_ok k,nand_block_clear_l4_ok k,trivial⟩) (noRanges (by kernel_rfl)) (Eq.trans (by kernel_rfl) h)
 ·cases h
def nand_New_l0_b (k:Nat) (nx:Addr → Int → Mem → Option ((OA) × Mem)) (kx2:Addr → Mem → Option ((OA) × Mem)) (x1:Addr) (x5:Int) (m:Mem):Option ((OA) × Mem) :=
 bif decide (x5 < 12) then (
 bif inRange x5 12 then (
 (nand_block_clear k (some (plus (plus x1 0) (Int.toNat x5 * 4164))) m).bind fun r2 =>
 nx x1 (IntKind.wrap .i64 (x5 + 1)) r2) else none) else (
 kx2 x1 m)
def nand_New_l0 (k:Nat) kx2:=it3 fun nx => nand_New_l0_b k nx kx2
def nand_New_l0_rule (k:Nat) kx2 {P}:=it3_rule (P:=P) (f:=fun nx => nand_New_l0_b k nx kx2)
def nand_New (k:Nat) (m:Mem):Option ((OA) × Mem) :=
 bif Nat.beq (List.length ((tt ty_nand_Chip).zero)) 49972 then (
 let m1:Mem:=m ++ [.live ((tt ty_nand_Chip).zero)]
 nand_New_l0 k (fun y1 m3 =>
 some ((some y1),m3)) k ⟨List.length m,0,none⟩ 0 m1) else none
def nand_New_cs (k:Nat):Cs Tryz.prog:=cC (nand_block_clear_ok k) <| cN
def nand_New_l0_L (k:Nat) (K:KT ((OA) × Mem)) (n:Nat) (vs:List Value) (m:Mem):Option ((OA) × Mem):=match vs with
 | [.pointer (some x1),.int .i64 x5] => nand_New_l0 k (fun y1 m => K 2 [(Value.pointer (some y1))] m) n x1 x5 m
 | _ => none
def nand_New_C (k:Nat):Ctx ((OA) × Mem):=⟨tt,(nand_New_cs k).call,lpOf [(0,fun K => nand_New_l0_L k K k)],[(0,[1,5])],[(2,[1])]⟩
theorem nand_New_l0_ok (k:Nat):LoopOk (nand_New_C k) 0 (lpc Tryz.f15 0):=lpOk (k:=k) [1,5] (nand_New_l0_L k) (by kernel_rfl) (fun _ _ _ => rfl) fun K n vs m r h => by
 unfold nand_New_l0_L at h;split at h
 ·cases n
  ·cases h
  ·exact ⟨_,rfl,Eq.trans (by kernel_rfl) h⟩
 ·cases h
def nand_New_U (k:Nat) (vs:List Value) (m:Mem):Option ((OA) × Mem):=match vs with
 | [] => nand_New k  m
 | _ => none
theorem nand_New_ok (k:Nat):FOk Tryz.prog 15 Sh2 (nand_New_U k):=by
 intro vs m r h;unfold nand_New_U at h;split at h
 ·exact fnOk (C:=nand_New_C k) (nand_New_cs k) tOk mixed rfl Tryz.func15 (by kernel_rfl) (lps (cs:=[0]) (by kernel_rfl) ⟨nand_New_l0_ok k,trivial⟩) (noRanges (by kernel_rfl)) (Eq.trans (by kernel_rfl) h)
 ·cases h
def nand_Chip_at (k:Nat) (p0:OA) (p1:Int) (p2:Int) (m:Mem):Option ((OA) × Value × Mem) :=
 bif decide (p1 < 0) then (
 some (none,(Value.iface ty_api_Code (Value.int .i64 1)),m)) else (
 bif decide (p1 ≥ 96) then (
 some (none,(Value.iface ty_api_Code (Value.int .i64 1)),m)) else (
 bif decide (p2 < 0) then (
 some (none,(Value.iface ty_api_Code (Value.int .i64 1)),m)) else (
 bif decide (p2 ≥ 4) then (
 some (none,(Value.iface ty_api_Code (Value.int .i64 1)),m)) else (
 (p0).bind fun a1 =>
 bif inRange (IntKind.wrap .i64 (Int.tdiv p1 8)) 12 then (
 bif inRange (Int.tmod p1 8) 8 then (
 bif inRange p2 4 then (
 some ((some (plus (plus (plus (plus (plus a1 0) (Int.toNat (IntKind.wrap .i64 (Int.tdiv p1 8)) * 4164)) 0) (Int.toNat (Int.tmod p1 8) * 520)) (Int.toNat p2 * 130))),Value.nilIface,m)) else none) else none) else none))))
def nand_Chip_at_U (k:Nat) (vs:List Value) (m:Mem):Option ((OA) × Value × Mem):=match vs with
 | [.pointer p0,.int .i64 p1,.int .i64 p2] => nand_Chip_at k p0 p1 p2 m
 | _ => none
theorem nand_Chip_at_ok (k:Nat):FOk Tryz.prog 49 Sh5 (nand_Chip_at_U k):=by
 intro vs m r h;unfold nand_Chip_at_U at h;split at h
 ·exact ok0 (cN) Tryz.func49 (by kernel_rfl) (Eq.trans (by kernel_rfl) h)
 ·cases h
def nand_Chip_Read_l0_b (k:Nat) (nx:Int → Addr → OA → Nat → Nat → Int → Mem → Option (Sl × Value × Mem)) (kx2:OA → Nat → Nat → Mem → Option (Sl × Value × Mem)) (x1:Int) (x8:Addr) (x9a:OA) (x9n:Nat) (x9c:Nat) (x36:Int) (m:Mem):Option (Sl × Value × Mem) :=
 bif decide (x36 < 4) then (
 bif inRange (Int.tmod x1 8) 8 then (
 bif inRange x36 4 then (
 (rdSl m (sliceK.clear (some (plus (plus (plus (plus x8 0) (Int.toNat (Int.tmod x1 8) * 520)) (Int.toNat x36 * 130)) 0)) true) 64 1).bind fun l8 =>
 (appM 1 1 m x9a x9n x9c 64 l8).bind fun r9 =>
 nx x1 x8 r9.1.a r9.1.len r9.1.cap (IntKind.wrap .i64 (x36 + 1)) r9.2) else none) else none) else (
 kx2 x9a x9n x9c m)
def nand_Chip_Read_l0 (k:Nat) kx2:=it7 fun nx => nand_Chip_Read_l0_b k nx kx2
def nand_Chip_Read_l0_rule (k:Nat) kx2 {P}:=it7_rule (P:=P) (f:=fun nx => nand_Chip_Read_l0_b k nx kx2)
def nand_Chip_Read (k:Nat) (p0:OA) (p1:Int) (m:Mem):Option (Sl × Value × Mem) :=
 (nand_Chip_at k p0 p1 0 m).bind fun r1 =>
 (isNil r1.2.1).bind fun b2 =>
 bif !b2 then (
 some ((⟨none,0,0⟩:Sl),r1.2.1,r1.2.2)) else (
 (p0).bind fun a3 =>
 (ldBool r1.2.2 (plus a3 49968)).bind fun t4 =>
 bif t4 then (
 some ((⟨none,0,0⟩:Sl),(Value.iface ty_api_Code (Value.int .i64 7)),r1.2.2)) else (
 (p0).bind fun a5 =>
 bif inRange (IntKind.wrap .i64 (Int.tdiv p1 8)) 12 then (
 (sync_atomic_Int64_Add k (some (plus (plus (plus a5 0) (Int.toNat (IntKind.wrap .i64 (Int.tdiv p1 8)) * 4164)) 4160)) 1 r1.2.2).bind fun r6 =>
 let m7:Mem:=r6.2 ++ [.live (repl (Int.toNat 256) [.int .u8 0])]
 nand_Chip_Read_l0 k (fun y9a y9n y9c m10 =>
 some ((⟨y9a,y9n,y9c⟩:Sl),Value.nilIface,m10)) k p1 (plus (plus a5 0) (Int.toNat (IntKind.wrap .i64 (Int.tdiv p1 8)) * 4164)) (some ⟨List.length r6.2,0,none⟩) (Int.toNat 0) (Int.toNat 256) 0 m7) else none))
def nand_Chip_Read_cs (k:Nat):Cs Tryz.prog:=cC (sync_atomic_Int64_Add_ok k) <| cC (nand_Chip_at_ok k) <| cN
def nand_Chip_Read_l0_L (k:Nat) (K:KT (Sl × Value × Mem)) (n:Nat) (vs:List Value) (m:Mem):Option (Sl × Value × Mem):=match vs with
 | [.int .i64 x1,.pointer (some x8),.slice x9a x9n x9c,.int .i64 x36] => nand_Chip_Read_l0 k (fun y9a y9n y9c m => K 2 [(Value.slice y9a y9n y9c)] m) n x1 x8 x9a x9n x9c x36 m
 | _ => none
def nand_Chip_Read_C (k:Nat):Ctx (Sl × Value × Mem):=⟨tt,(nand_Chip_Read_cs k).call,lpOf [(0,fun K => nand_Chip_Read_l0_L k K k)],[(0,[1,8,9,36])],[(2,[9])]⟩
theorem nand_Chip_Read_l0_ok (k:Nat):LoopOk (nand_Chip_Read_C k) 0 (lpc Tryz.f39 0):=lpOk (k:=k) [1,8,9,36] (nand_Chip_Read_l0_L k) (by kernel_rfl) (fun _ _ _ => rfl) fun K n vs m r h => by
 unfold nand_Chip_Read_l0_L at h;split at h
 ·cases n
  ·cases h
  ·exact ⟨_,rfl,Eq.trans (by kernel_rfl) h⟩
 ·cases h
def nand_Chip_Read_U (k:Nat) (vs:List Value) (m:Mem):Option (Sl × Value × Mem):=match vs with
 | [.pointer p0,.int .i64 p1] => nand_Chip_Read k p0 p1 m
 | _ => none
theorem nand_Chip_Read_ok (k:Nat):FOk Tryz.prog 39 Sh6 (nand_Chip_Read_U k):=by
 intro vs m r h;unfold nand_Chip_Read_U at h;split at h
 ·exact fnOk (C:=nand_Chip_Read_C k) (nand_Chip_Read_cs k) tOk mixed rfl Tryz.func39 (by kernel_rfl) (lps (cs:=[0]) (by kernel_rfl) ⟨nand_Chip_Read_l0_ok k,trivial⟩) (noRanges (by kernel_rfl)) (Eq.trans (by kernel_rfl) h)
 ·cases h
def nand_Chip_step_j1 (k:Nat) (p0:OA) (mj:Mem):Option (Value × Mem) :=
 (p0).bind fun a1 =>
 (ldInt .i64 mj (plus a1 49971)).bind fun t2 =>
 (p0).bind fun a3 =>
 (st mj (plus a3 49971) (Value.int .i64 (IntKind.wrap .i64 (t2 + 1)))).bind fun m4 =>
 some (Value.nilIface,m4)
def nand_Chip_step (k:Nat) (p0:OA) (m:Mem):Option (Value × Mem) :=
 (p0).bind fun a5 =>
 (ldBool m (plus a5 49969)).bind fun t6 =>
 bif t6 then (
 (p0).bind fun a7 =>
 (ldInt .i64 m (plus a7 49970)).bind fun t8 =>
 bif t8 == 0 then (
 (p0).bind fun a9 =>
 (st m (plus a9 49968) (Value.bool true)).bind fun m10 =>
 some ((Value.iface ty_api_Code (Value.int .i64 7)),m10)) else (
 (p0).bind fun a11 =>
 (ldInt .i64 m (plus a11 49970)).bind fun t12 =>
 (p0).bind fun a13 =>
 (st m (plus a13 49970) (Value.int .i64 (IntKind.wrap .i64 (t12 - 1)))).bind fun m14 =>
 nand_Chip_step_j1 k p0 m14)) else (
 nand_Chip_step_j1 k p0 m)
def nand_Chip_step_U (k:Nat) (vs:List Value) (m:Mem):Option (Value × Mem):=match vs with
 | [.pointer p0] => nand_Chip_step k p0 m
 | _ => none
theorem nand_Chip_step_ok (k:Nat):FOk Tryz.prog 85 Sh11 (nand_Chip_step_U k):=by
 intro vs m r h;unfold nand_Chip_step_U at h;split at h
 ·exact ok0 (cN) Tryz.func85 (by kernel_rfl) (Eq.trans (by kernel_rfl) h)
 ·cases h
def nand_Chip_Write_j1 (k:Nat) (p1:Int) (p3a:OA) (p3n:Nat) (r1:(OA) × Value × Mem) (a9:Addr) (mj:Mem):Option (Value × Mem) :=
 (ldBool mj (plus (plus (plus a9 0) (Int.toNat (IntKind.wrap .i64 (Int.tdiv p1 8)) * 4164)) 4161)).bind fun t10 =>
 bif t10 then (
 some ((Value.iface ty_api_Code (Value.int .i64 8)),mj)) else (
 (r1.1).bind fun a11 =>
 (rdSl mj p3a (min p3n 64) 1).bind fun l12 =>
 (oper.stSl mj (sliceK.clear (some (plus a11 0)) true) l12).bind fun m13 =>
 (r1.1).bind fun a14 =>
 (ldCells m13 (plus a14 0) 64).bind fun t15 =>
 (r1.1).bind fun a16 =>
 bif Nat.beq (List.length t15) 64 then (
 (stCells m13 (plus a16 64) t15).bind fun m17 =>
 (r1.1).bind fun a18 =>
 (st m17 (plus a18 128) (Value.bool true)).bind fun m19 =>
 (r1.1).bind fun a20 =>
 (st m19 (plus a20 129) (Value.int .i64 0)).bind fun m21 =>
 some (Value.nilIface,m21)) else none)
def nand_Chip_Write (k:Nat) (p0:OA) (p1:Int) (p2:Int) (p3a:OA) (p3n:Nat) (p3c:Nat) (m:Mem):Option (Value × Mem) :=
 (nand_Chip_at k p0 p1 p2 m).bind fun r1 =>
 (isNil r1.2.1).bind fun b2 =>
 bif !b2 then (
 some (r1.2.1,r1.2.2)) else (
 bif ((p3n:Nat):Int) != 64 then (
 some ((Value.iface ty_api_Code (Value.int .i64 1)),r1.2.2)) else (
 (p0).bind fun a3 =>
 (ldBool r1.2.2 (plus a3 49968)).bind fun t4 =>
 bif t4 then (
 some ((Value.iface ty_api_Code (Value.int .i64 7)),r1.2.2)) else (
 (r1.1).bind fun a5 =>
 (ldBool r1.2.2 (plus a5 128)).bind fun t6 =>
 bif t6 then (
 some ((Value.iface ty_api_Code (Value.int .i64 9)),r1.2.2)) else (
 (nand_Chip_step k p0 r1.2.2).bind fun r7 =>
 (isNil r7.1).bind fun b8 =>
 bif !b8 then (
 some (r7.1,r7.2)) else (
 (p0).bind fun a9 =>
 bif inRange (IntKind.wrap .i64 (Int.tdiv p1 8)) 12 then (
 (ldInt .i64 r7.2 (plus (plus (plus a9 0) (Int.toNat (IntKind.wrap .i64 (Int.tdiv p1 8)) * 4164)) 4162)).bind fun t22 =>
 bif decide (t22 > 0) then (
 (ldInt .i64 r7.2 (plus (plus (plus a9 0) (Int.toNat (IntKind.wrap .i64 (Int.tdiv p1 8)) * 4164)) 4162)).bind fun t23 =>
 (st r7.2 (plus (plus (plus a9 0) (Int.toNat (IntKind.wrap .i64 (Int.tdiv p1 8)) * 4164)) 4162) (Value.int .i64 (IntKind.wrap .i64 (t23 - 1)))).bind fun m24 =>
 (ldBool m24 (plus (plus (plus a9 0) (Int.toNat (IntKind.wrap .i64 (Int.tdiv p1 8)) * 4164)) 4161)).bind fun t25 =>
 bif t25 then (
 (st m24 (plus (plus (plus a9 0) (Int.toNat (IntKind.wrap .i64 (Int.tdiv p1 8)) * 4164)) 4161) (Value.bool true)).bind fun m26 =>
 nand_Chip_Write_j1 k p1 p3a p3n r1 a9 m26) else (
 (ldInt .i64 m24 (plus (plus (plus a9 0) (Int.toNat (IntKind.wrap .i64 (Int.tdiv p1 8)) * 4164)) 4162)).bind fun t27 =>
 (st m24 (plus (plus (plus a9 0) (Int.toNat (IntKind.wrap .i64 (Int.tdiv p1 8)) * 4164)) 4161) (Value.bool (t27 == 0))).bind fun m28 =>
 nand_Chip_Write_j1 k p1 p3a p3n r1 a9 m28)) else (
 nand_Chip_Write_j1 k p1 p3a p3n r1 a9 r7.2)) else none)))))
def nand_Chip_Write_U (k:Nat) (vs:List Value) (m:Mem):Option (Value × Mem):=match vs with
 | [.pointer p0,.int .i64 p1,.int .i64 p2,.slice p3a p3n p3c] => nand_Chip_Write k p0 p1 p2 p3a p3n p3c m
 | _ => none
theorem nand_Chip_Write_ok (k:Nat):FOk Tryz.prog 47 Sh11 (nand_Chip_Write_U k):=by
 intro vs m r h;unfold nand_Chip_Write_U at h;split at h
 ·exact ok0 (cC (nand_Chip_at_ok k) <| cC (nand_Chip_step_ok k) <| cN) Tryz.func47 (by kernel_rfl) (Eq.trans (by kernel_rfl) h)
 ·cases h
def nand_chunk_damage_j1 (k:Nat) (x0:OA) (x9:List Value) (x10:Int) (nx:OA → Int → List Value → Int → Mem → Option (Int × Mem)) (x3_:Int) (mj:Mem):Option (Int × Mem) :=
 nx x0 x3_ x9 (IntKind.wrap .i64 (x10 + 1)) mj
def nand_chunk_damage_l0_b (k:Nat) (nx:OA → Int → List Value → Int → Mem → Option (Int × Mem)) (kx2:Int → Mem → Option (Int × Mem)) (x0:OA) (x3:Int) (x9:List Value) (x10:Int) (m:Mem):Option (Int × Mem) :=
 bif decide (x10 < 64) then (
 bif inRange x10 64 then (
 (cInt .u8 x9 (Int.toNat x10 * 1)).bind fun t3 =>
 (x0).bind fun a4 =>
 bif inRange x10 64 then (
 (ldInt .u8 m (plus (plus a4 64) (Int.toNat x10 * 1))).bind fun t5 =>
 bif t3 != t5 then (
 nand_chunk_damage_j1 k x0 x9 x10 nx (IntKind.wrap .i64 (x3 + 1)) m) else (
 nand_chunk_damage_j1 k x0 x9 x10 nx x3 m)) else none) else none) else (
 kx2 x3 m)
def nand_chunk_damage_l0 (k:Nat) kx2:=it5 fun nx => nand_chunk_damage_l0_b k nx kx2
theorem nand_chunk_damage_l0_s {k n:Nat} {kx2 a0 a1 a2 a3 a4}:nand_chunk_damage_l0 k kx2 (n + 1) a0 a1 a2 a3 a4 = nand_chunk_damage_l0_b k (nand_chunk_damage_l0 k kx2 n) kx2 a0 a1 a2 a3 a4:=rfl
def nand_chunk_damage (k:Nat) (p0:OA) (m:Mem):Option (Int × Mem) :=
 (p0).bind fun a1 =>
 (ldCells m (plus a1 0) 64).bind fun t2 =>
 nand_chunk_damage_l0 k (fun y3 m6 =>
 some (y3,m6)) k p0 0 t2 0 m
def nand_chunk_damage_cs (k:Nat):Cs Tryz.prog:=cN
def nand_chunk_damage_l0_L (k:Nat) (K:KT (Int × Mem)) (n:Nat) (vs:List Value) (m:Mem):Option (Int × Mem):=match vs with
 | [.pointer x0,.int .i64 x3,.agg ⟨x9⟩,.int .i64 x10] => nand_chunk_damage_l0 k (fun y3 m => K 2 [(Value.int .i64 y3)] m) n x0 x3 x9 x10 m
 | _ => none
def nand_chunk_damage_C (k:Nat):Ctx (Int × Mem):=⟨tt,(nand_chunk_damage_cs k).call,lpOf [(0,fun K => nand_chunk_damage_l0_L k K k)],[(0,[0,3,9,10])],[(2,[3])]⟩
theorem nand_chunk_damage_l0_ok (k:Nat):LoopOk (nand_chunk_damage_C k) 0 (lpc Tryz.f50 0):=lpOk (k:=k) [0,3,9,10] (nand_chunk_damage_l0_L k) (by kernel_rfl) (fun _ _ _ => rfl) fun K n vs m r h => by
 unfold nand_chunk_damage_l0_L at h;split at h
 ·cases n
  ·cases h
  ·exact ⟨_,rfl,Eq.trans (by kernel_rfl) h⟩
 ·cases h
def nand_chunk_damage_U (k:Nat) (vs:List Value) (m:Mem):Option (Int × Mem):=match vs with
 | [.pointer p0] => nand_chunk_damage k p0 m
 | _ => none
theorem nand_chunk_damage_ok (k:Nat):FOk Tryz.prog 50 Sh0 (nand_chunk_damage_U k):=by
 intro vs m r h;unfold nand_chunk_damage_U at h;split at h
 ·exact fnOk (C:=nand_chunk_damage_C k) (nand_chunk_damage_cs k) tOk mixed rfl Tryz.func50 (by kernel_rfl) (lps (cs:=[0]) (by kernel_rfl) ⟨nand_chunk_damage_l0_ok k,trivial⟩) (noRanges (by kernel_rfl)) (Eq.trans (by kernel_rfl) h)
 ·cases h
def nand_Chip_Flip (k:Nat) (p0:OA) (p1:Int) (p2:Int) (m:Mem):Option (Value × Mem) :=
 bif decide (p2 < 0) then (
 some ((Value.iface ty_api_Code (Value.int .i64 1)),m)) else (
 bif decide (p2 ≥ 2048) then (
 some ((Value.iface ty_api_Code (Value.int .i64 1)),m)) else (
 (nand_Chip_at k p0 p1 (IntKind.wrap .i64 (Int.tdiv (IntKind.wrap .i64 (Int.tdiv p2 8)) 64)) m).bind fun r1 =>
 (isNil r1.2.1).bind fun b2 =>
 bif !b2 then (
 some (r1.2.1,r1.2.2)) else (
 (r1.1).bind fun a3 =>
 bif inRange (Int.tmod (IntKind.wrap .i64 (Int.tdiv p2 8)) 64) 64 then (
 (ldInt .u8 r1.2.2 (plus (plus a3 0) (Int.toNat (Int.tmod (IntKind.wrap .i64 (Int.tdiv p2 8)) 64) * 1))).bind fun t4 =>
 bif decide ((Int.tmod p2 8) < 0) then none else (
 (r1.1).bind fun a5 =>
 bif inRange (Int.tmod (IntKind.wrap .i64 (Int.tdiv p2 8)) 64) 64 then (
 (st r1.2.2 (plus (plus a5 0) (Int.toNat (Int.tmod (IntKind.wrap .i64 (Int.tdiv p2 8)) 64) * 1)) (Value.int .u8 (bitI .xor .u8 t4 (shlI .u8 1 (Int.tmod p2 8))))).bind fun m6 =>
 (r1.1).bind fun a7 =>
 (ldInt .i64 m6 (plus a7 129)).bind fun t8 =>
 (nand_chunk_damage k r1.1 m6).bind fun r9 =>
 (r1.1).bind fun a10 =>
 (st r9.2 (plus a10 129) (Value.int .i64 (maxI t8 r9.1))).bind fun m11 =>
 (ldInt .i64 r9.2 (plus a7 129)).bind fun t12 =>
 bif t12 == t8 then (
 some (Value.nilIface,m11)) else none) else none)) else none)))
def nand_Chip_Flip_U (k:Nat) (vs:List Value) (m:Mem):Option (Value × Mem):=match vs with
 | [.pointer p0,.int .i64 p1,.int .i64 p2] => nand_Chip_Flip k p0 p1 p2 m
 | _ => none
theorem nand_Chip_Flip_ok (k:Nat):FOk Tryz.prog 19 Sh11 (nand_Chip_Flip_U k):=by
 intro vs m r h;unfold nand_Chip_Flip_U at h;split at h
 ·exact ok0 (cC (nand_Chip_at_ok k) <| cC (nand_chunk_damage_ok k) <| cN) Tryz.func19 (by kernel_rfl) (Eq.trans (by kernel_rfl) h)
 ·cases h
def nand_Chip_block (k:Nat) (p0:OA) (p1:Int) (m:Mem):Option ((OA) × Value × Mem) :=
 bif decide (p1 < 0) then (
 some (none,(Value.iface ty_api_Code (Value.int .i64 1)),m)) else (
 bif decide (p1 ≥ 12) then (
 some (none,(Value.iface ty_api_Code (Value.int .i64 1)),m)) else (
 (p0).bind fun a1 =>
 bif inRange p1 12 then (
 some ((some (plus (plus a1 0) (Int.toNat p1 * 4164))),Value.nilIface,m)) else none))
def nand_Chip_block_U (k:Nat) (vs:List Value) (m:Mem):Option ((OA) × Value × Mem):=match vs with
 | [.pointer p0,.int .i64 p1] => nand_Chip_block k p0 p1 m
 | _ => none
theorem nand_Chip_block_ok (k:Nat):FOk Tryz.prog 34 Sh5 (nand_Chip_block_U k):=by
 intro vs m r h;unfold nand_Chip_block_U at h;split at h
 ·exact ok0 (cN) Tryz.func34 (by kernel_rfl) (Eq.trans (by kernel_rfl) h)
 ·cases h
def nand_Chip_Erase (k:Nat) (p0:OA) (p1:Int) (m:Mem):Option (Value × Mem) :=
 (nand_Chip_block k p0 p1 m).bind fun r1 =>
 (isNil r1.2.1).bind fun b2 =>
 bif !b2 then (
 some (r1.2.1,r1.2.2)) else (
 (p0).bind fun a3 =>
 (ldBool r1.2.2 (plus a3 49968)).bind fun t4 =>
 bif t4 then (
 some ((Value.iface ty_api_Code (Value.int .i64 7)),r1.2.2)) else (
 (nand_Chip_step k p0 r1.2.2).bind fun r5 =>
 (isNil r5.1).bind fun b6 =>
 bif !b6 then (
 some (r5.1,r5.2)) else (
 (r1.1).bind fun a7 =>
 (ldBool r5.2 (plus a7 4161)).bind fun t8 =>
 bif t8 then (
 (r1.1).bind fun a9 =>
 (st r5.2 (plus a9 4161) (Value.bool true)).bind fun m10 =>
 (r1.1).bind fun a11 =>
 (ldBool m10 (plus a11 4161)).bind fun t12 =>
 bif t12 then (
 some ((Value.iface ty_api_Code (Value.int .i64 8)),m10)) else (
 (nand_block_clear k r1.1 m10).bind fun r13 =>
 some (Value.nilIface,r13))) else (
 (r1.1).bind fun a14 =>
 (ldBool r5.2 (plus a14 4163)).bind fun t15 =>
 (r1.1).bind fun a16 =>
 (st r5.2 (plus a16 4161) (Value.bool t15)).bind fun m17 =>
 (r1.1).bind fun a18 =>
 (ldBool m17 (plus a18 4161)).bind fun t19 =>
 bif t19 then (
 some ((Value.iface ty_api_Code (Value.int .i64 8)),m17)) else (
 (nand_block_clear k r1.1 m17).bind fun r20 =>
 some (Value.nilIface,r20))))))
def nand_Chip_Erase_U (k:Nat) (vs:List Value) (m:Mem):Option (Value × Mem):=match vs with
 | [.pointer p0,.int .i64 p1] => nand_Chip_Erase k p0 p1 m
 | _ => none
theorem nand_Chip_Erase_ok (k:Nat):FOk Tryz.prog 60 Sh11 (nand_Chip_Erase_U k):=by
 intro vs m r h;unfold nand_Chip_Erase_U at h;split at h
 ·exact ok0 (cC (nand_Chip_block_ok k) <| cC (nand_block_clear_ok k) <| cC (nand_Chip_step_ok k) <| cN) Tryz.func60 (by kernel_rfl) (Eq.trans (by kernel_rfl) h)
 ·cases h
def nand_Chip_Power (k:Nat) (p0:OA) (m:Mem):Option Mem :=
 (p0).bind fun a1 =>
 (st m (plus a1 49968) (Value.bool false)).bind fun m2 =>
 (p0).bind fun a3 =>
 (st m2 (plus a3 49969) (Value.bool false)).bind fun m4 =>
 (p0).bind fun a5 =>
 (st m4 (plus a5 49970) (Value.int .i64 0)).bind fun m6 =>
 some (m6)
def nand_Chip_Power_U (k:Nat) (vs:List Value) (m:Mem):Option Mem:=match vs with
 | [.pointer p0] => nand_Chip_Power k p0 m
 | _ => none
theorem nand_Chip_Power_ok (k:Nat):FOk Tryz.prog 12 Sh1 (nand_Chip_Power_U k):=by
 intro vs m r h;unfold nand_Chip_Power_U at h;split at h
 ·exact ok0 (cN) Tryz.func12 (by kernel_rfl) (Eq.trans (by kernel_rfl) h)
 ·cases h
def nand_Chip_FailProgram (k:Nat) (p0:OA) (p1:Int) (p2:Int) (m:Mem):Option (Value × Mem) :=
 (nand_Chip_block k p0 p1 m).bind fun r1 =>
 (isNil r1.2.1).bind fun b2 =>
 bif !b2 then (
 some (r1.2.1,r1.2.2)) else (
 bif decide (p2 < 0) then (
 some ((Value.iface ty_api_Code (Value.int .i64 1)),r1.2.2)) else (
 (r1.1).bind fun a3 =>
 (st r1.2.2 (plus a3 4162) (Value.int .i64 (IntKind.wrap .i64 ((minI p2 9223372036854775806) + 1)))).bind fun m4 =>
 some (Value.nilIface,m4)))
def nand_Chip_FailProgram_U (k:Nat) (vs:List Value) (m:Mem):Option (Value × Mem):=match vs with
 | [.pointer p0,.int .i64 p1,.int .i64 p2] => nand_Chip_FailProgram k p0 p1 p2 m
 | _ => none
theorem nand_Chip_FailProgram_ok (k:Nat):FOk Tryz.prog 63 Sh11 (nand_Chip_FailProgram_U k):=by
 intro vs m r h;unfold nand_Chip_FailProgram_U at h;split at h
 ·exact ok0 (cC (nand_Chip_block_ok k) <| cN) Tryz.func63 (by kernel_rfl) (Eq.trans (by kernel_rfl) h)
 ·cases h
def nand_Chip_FailErase (k:Nat) (p0:OA) (p1:Int) (m:Mem):Option (Value × Mem) :=
 (nand_Chip_block k p0 p1 m).bind fun r1 =>
 (isNil r1.2.1).bind fun b2 =>
 bif !b2 then (
 some (r1.2.1,r1.2.2)) else (
 (r1.1).bind fun a3 =>
 (st r1.2.2 (plus a3 4163) (Value.bool true)).bind fun m4 =>
 some (Value.nilIface,m4))
def nand_Chip_FailErase_U (k:Nat) (vs:List Value) (m:Mem):Option (Value × Mem):=match vs with
 | [.pointer p0,.int .i64 p1] => nand_Chip_FailErase k p0 p1 m
 | _ => none
theorem nand_Chip_FailErase_ok (k:Nat):FOk Tryz.prog 65 Sh11 (nand_Chip_FailErase_U k):=by
 intro vs m r h;unfold nand_Chip_FailErase_U at h;split at h
 ·exact ok0 (cC (nand_Chip_block_ok k) <| cN) Tryz.func65 (by kernel_rfl) (Eq.trans (by kernel_rfl) h)
 ·cases h
def nand_Chip_Cut_j1 (k:Nat) (mj:Mem):Option (Value × Mem) :=
 some (Value.nilIface,mj)
def nand_Chip_Cut (k:Nat) (p0:OA) (p1:Int) (m:Mem):Option (Value × Mem) :=
 bif decide (p1 < 0) then (
 some ((Value.iface ty_api_Code (Value.int .i64 1)),m)) else (
 (p0).bind fun a1 =>
 (ldBool m (plus a1 49968)).bind fun t2 =>
 bif !t2 then (
 (p0).bind fun a3 =>
 (st m (plus a3 49969) (Value.bool true)).bind fun m4 =>
 (p0).bind fun a5 =>
 (st m4 (plus a5 49970) (Value.int .i64 p1)).bind fun m6 =>
 nand_Chip_Cut_j1 k  m6) else (
 nand_Chip_Cut_j1 k  m))
def nand_Chip_Cut_U (k:Nat) (vs:List Value) (m:Mem):Option (Value × Mem):=match vs with
 | [.pointer p0,.int .i64 p1] => nand_Chip_Cut k p0 p1 m
 | _ => none
theorem nand_Chip_Cut_ok (k:Nat):FOk Tryz.prog 67 Sh11 (nand_Chip_Cut_U k):=by
 intro vs m r h;unfold nand_Chip_Cut_U at h;split at h
 ·exact ok0 (cN) Tryz.func67 (by kernel_rfl) (Eq.trans (by kernel_rfl) h)
 ·cases h
def nand_Chip_Reads (k:Nat) (p0:OA) (p1:Int) (m:Mem):Option (Int × Value × Mem) :=
 (nand_Chip_block k p0 p1 m).bind fun r1 =>
 (isNil r1.2.1).bind fun b2 =>
 bif !b2 then (
 some (0,r1.2.1,r1.2.2)) else (
 (r1.1).bind fun a3 =>
 (sync_atomic_Int64_Load k (some (plus a3 4160)) r1.2.2).bind fun r4 =>
 some (r4.1,Value.nilIface,r4.2))
def nand_Chip_Reads_U (k:Nat) (vs:List Value) (m:Mem):Option (Int × Value × Mem):=match vs with
 | [.pointer p0,.int .i64 p1] => nand_Chip_Reads k p0 p1 m
 | _ => none
theorem nand_Chip_Reads_ok (k:Nat):FOk Tryz.prog 7 Sh9 (nand_Chip_Reads_U k):=by
 intro vs m r h;unfold nand_Chip_Reads_U at h;split at h
 ·exact ok0 (cC (nand_Chip_block_ok k) <| cC (sync_atomic_Int64_Load_ok k) <| cN) Tryz.func7 (by kernel_rfl) (Eq.trans (by kernel_rfl) h)
 ·cases h
def nand_Chip_Failed (k:Nat) (p0:OA) (p1:Int) (m:Mem):Option (Bool × Value × Mem) :=
 (nand_Chip_block k p0 p1 m).bind fun r1 =>
 (isNil r1.2.1).bind fun b2 =>
 bif !b2 then (
 some (false,r1.2.1,r1.2.2)) else (
 (r1.1).bind fun a3 =>
 (ldBool r1.2.2 (plus a3 4161)).bind fun t4 =>
 some (t4,Value.nilIface,r1.2.2))
def nand_Chip_Failed_U (k:Nat) (vs:List Value) (m:Mem):Option (Bool × Value × Mem):=match vs with
 | [.pointer p0,.int .i64 p1] => nand_Chip_Failed k p0 p1 m
 | _ => none
theorem nand_Chip_Failed_ok (k:Nat):FOk Tryz.prog 9 Sh24 (nand_Chip_Failed_U k):=by
 intro vs m r h;unfold nand_Chip_Failed_U at h;split at h
 ·exact ok0 (cC (nand_Chip_block_ok k) <| cN) Tryz.func9 (by kernel_rfl) (Eq.trans (by kernel_rfl) h)
 ·cases h
def nand_Chip_Steps (k:Nat) (p0:OA) (m:Mem):Option (Int × Mem) :=
 (p0).bind fun a1 =>
 (ldInt .i64 m (plus a1 49971)).bind fun t2 =>
 some (t2,m)
def nand_Chip_Steps_U (k:Nat) (vs:List Value) (m:Mem):Option (Int × Mem):=match vs with
 | [.pointer p0] => nand_Chip_Steps k p0 m
 | _ => none
theorem nand_Chip_Steps_ok (k:Nat):FOk Tryz.prog 11 Sh0 (nand_Chip_Steps_U k):=by
 intro vs m r h;unfold nand_Chip_Steps_U at h;split at h
 ·exact ok0 (cN) Tryz.func11 (by kernel_rfl) (Eq.trans (by kernel_rfl) h)
 ·cases h
end Go.Proofs.YtchonnaoojpdoaaGreat
