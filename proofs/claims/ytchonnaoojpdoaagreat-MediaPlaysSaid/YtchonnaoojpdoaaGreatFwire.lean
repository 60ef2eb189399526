import Derived.Test.YtchonnaoojpdoaaGreatF1
import Derived.Test.YtchonnaoojpdoaaGreatFbytes
set_option linter.unusedVariables false
set_option linter.defProp false
set_option maxRecDepth 100000
namespace Go.Proofs.YtchonnaoojpdoaaGreat
open Go.Mx
def wire_Open (k:Nat) (p0a:OA) (p0n:Nat) (p0c:Nat) (m:Mem):Option (Sl × Value × Mem) :=
 bif ((p0n:Nat):Int) != 58 then (
 some ((⟨none,0,0⟩:Sl),(Value.iface ty_api_Code (Value.int .i64 1)),m)) else (
 (bytes_Clone k p0a p0n p0c m).bind fun r1 =>
 bif sliceK.okZ r1.1.a 1 false && inUpto 50 r1.1.len then (
 (rdSl r1.2 ((sliceK.clear r1.1.a false).map fun a => plus a ((Int.toNat 50) * 1)) (r1.1.len - (Int.toNat 50)) 1).bind fun l2 =>
 (strOf l2).bind fun s3 =>
 bif !(strEq s3 (ByteArray.mk #[112,97,116,105,110,97,48,49])) then (
 some ((⟨none,0,0⟩:Sl),(Value.iface ty_api_Code (Value.int .i64 6)),r1.2)) else (
 bif inUpto 50 r1.1.cap && inUpto 50 (Int.toNat 50) then (
 some ((⟨(sliceK.clear r1.1.a true),(Int.toNat 50),(Int.toNat 50)⟩:Sl),Value.nilIface,r1.2)) else none)) else none)
def wire_Open_U (k:Nat) (vs:List Value) (m:Mem):Option (Sl × Value × Mem):=match vs with
 | [.slice p0a p0n p0c] => wire_Open k p0a p0n p0c m
 | _ => none
theorem wire_Open_ok (k:Nat):FOk Tryz.prog 74 Sh6 (wire_Open_U k):=by
 intro vs m r h;unfold wire_Open_U at h;split at h
 ·exact ok0 (cC (bytes_Clone_ok k) <| cN) Tryz.func74 (by kernel_rfl) (Eq.trans (by kernel_rfl) h)
 ·cases h
def wire_Put_l0_b (k:Nat) (nx:Int → OA → Nat → Nat → Int → Int → Mem → Option (Sl × Value × Mem)) (kx2:Int → OA → Nat → Nat → Mem → Option (Sl × Value × Mem)) (x0:Int) (x6a:OA) (x6n:Nat) (x6c:Nat) (x18:Int) (x19:Int) (m:Mem):Option (Sl × Value × Mem) :=
 bif decide (x19 < x18) then (
 bif inRange x19 x6n then (
 (x6a).bind fun a2 =>
 (st m (plus a2 (Int.toNat x19 * 1)) (Value.int .u8 (IntKind.wrap .u8 x0))).bind fun m3 =>
 nx (shrI .u64 x0 8) x6a x6n x6c x18 (IntKind.wrap .i64 (x19 + 1)) m3) else none) else (
 kx2 x0 x6a x6n x6c m)
def wire_Put_l0 (k:Nat) kx2:=it7 fun nx => wire_Put_l0_b k nx kx2
def wire_Put_l0_rule (k:Nat) kx2 {P}:=it7_rule (P:=P) (f:=fun nx => wire_Put_l0_b k nx kx2)
def wire_Put (k:Nat) (p0:Int) (p1:Int) (m:Mem):Option (Sl × Value × Mem) :=
 bif decide (p1 < 1) then (
 some ((⟨none,0,0⟩:Sl),(Value.iface ty_api_Code (Value.int .i64 1)),m)) else (
 bif decide (p1 > 8) then (
 some ((⟨none,0,0⟩:Sl),(Value.iface ty_api_Code (Value.int .i64 1)),m)) else (
 bif decide (0 ≤ p1) && decide (p1 ≤ p1) && decide (p1 * (((tt 5).bytes:Nat):Int) ≤ ((most:Nat):Int)) && decide (p1 ≤ ((most:Nat):Int)) then (
 let m1:Mem:=m ++ [.live (repl (Int.toNat p1) [.int .u8 0])]
 wire_Put_l0 k (fun y0 y6a y6n y6c m4 =>
 bif y0 != 0 then (
 some ((⟨none,0,0⟩:Sl),(Value.iface ty_api_Code (Value.int .i64 2)),m4)) else (
 some ((⟨y6a,y6n,y6c⟩:Sl),Value.nilIface,m4))) k p0 (some ⟨List.length m,0,none⟩) (Int.toNat p1) (Int.toNat p1) (((Int.toNat p1):Nat):Int) 0 m1) else none))
def wire_Put_cs (k:Nat):Cs Tryz.prog:=cN
def wire_Put_l0_L (k:Nat) (K:KT (Sl × Value × Mem)) (n:Nat) (vs:List Value) (m:Mem):Option (Sl × Value × Mem):=match vs with
 | [.int .u64 x0,.slice x6a x6n x6c,.int .i64 x18,.int .i64 x19] => wire_Put_l0 k (fun y0 y6a y6n y6c m => K 2 [(Value.int .u64 y0),(Value.slice y6a y6n y6c)] m) n x0 x6a x6n x6c x18 x19 m
 | _ => none
def wire_Put_C (k:Nat):Ctx (Sl × Value × Mem):=⟨tt,(wire_Put_cs k).call,lpOf [(0,fun K => wire_Put_l0_L k K k)],[(0,[0,6,18,19])],[(2,[0,6])]⟩
theorem wire_Put_l0_ok (k:Nat):LoopOk (wire_Put_C k) 0 (lpc Tryz.f121 0):=lpOk (k:=k) [0,6,18,19] (wire_Put_l0_L k) (by kernel_rfl) (fun _ _ _ => rfl) fun K n vs m r h => by
 unfold wire_Put_l0_L at h;split at h
 ·cases n
  ·cases h
  ·exact ⟨_,rfl,Eq.trans (by kernel_rfl) h⟩
 ·cases h
def wire_Put_U (k:Nat) (vs:List Value) (m:Mem):Option (Sl × Value × Mem):=match vs with
 | [.int .u64 p0,.int .i64 p1] => wire_Put k p0 p1 m
 | _ => none
theorem wire_Put_ok (k:Nat):FOk Tryz.prog 121 Sh6 (wire_Put_U k):=by
 intro vs m r h;unfold wire_Put_U at h;split at h
 ·exact fnOk (C:=wire_Put_C k) (wire_Put_cs k) tOk mixed rfl Tryz.func121 (by kernel_rfl) (lps (cs:=[0]) (by kernel_rfl) ⟨wire_Put_l0_ok k,trivial⟩) (noRanges (by kernel_rfl)) (Eq.trans (by kernel_rfl) h)
 ·cases h
def wire_Get_l0_b (k:Nat) (nx:Int → OA → Nat → Nat → Int → Int → Mem → Option (Int × Value × Mem)) (kx2:Int → Mem → Option (Int × Value × Mem)) (x4:Int) (x16a:OA) (x16n:Nat) (x16c:Nat) (x17:Int) (x18:Int) (m:Mem):Option (Int × Value × Mem) :=
 bif decide (x18 < x17) then (
 bif inRange x18 x16n then (
 (x16a).bind fun a1 =>
 (ldInt .u8 m (plus a1 (Int.toNat x18 * 1))).bind fun t2 =>
 bif decide ((IntKind.wrap .i64 (8 * x18)) < 0) then none else (
 nx (bitI .or .u64 x4 (shlI .u64 (IntKind.wrap .u64 t2) (IntKind.wrap .i64 (8 * x18)))) x16a x16n x16c x17 (IntKind.wrap .i64 (x18 + 1)) m)) else none) else (
 kx2 x4 m)
def wire_Get_l0 (k:Nat) kx2:=it7 fun nx => wire_Get_l0_b k nx kx2
def wire_Get_l0_rule (k:Nat) kx2 {P}:=it7_rule (P:=P) (f:=fun nx => wire_Get_l0_b k nx kx2)
def wire_Get (k:Nat) (p0a:OA) (p0n:Nat) (p0c:Nat) (m:Mem):Option (Int × Value × Mem) :=
 bif decide (((p0n:Nat):Int) < 1) then (
 some (0,(Value.iface ty_api_Code (Value.int .i64 1)),m)) else (
 bif decide (((p0n:Nat):Int) > 8) then (
 some (0,(Value.iface ty_api_Code (Value.int .i64 1)),m)) else (
 wire_Get_l0 k (fun y4 m3 =>
 some (y4,Value.nilIface,m3)) k 0 p0a p0n p0c ((p0n:Nat):Int) 0 m))
def wire_Get_cs (k:Nat):Cs Tryz.prog:=cN
def wire_Get_l0_L (k:Nat) (K:KT (Int × Value × Mem)) (n:Nat) (vs:List Value) (m:Mem):Option (Int × Value × Mem):=match vs with
 | [.int .u64 x4,.slice x16a x16n x16c,.int .i64 x17,.int .i64 x18] => wire_Get_l0 k (fun y4 m => K 2 [(Value.int .u64 y4)] m) n x4 x16a x16n x16c x17 x18 m
 | _ => none
def wire_Get_C (k:Nat):Ctx (Int × Value × Mem):=⟨tt,(wire_Get_cs k).call,lpOf [(0,fun K => wire_Get_l0_L k K k)],[(0,[4,16,17,18])],[(2,[4])]⟩
theorem wire_Get_l0_ok (k:Nat):LoopOk (wire_Get_C k) 0 (lpc Tryz.f75 0):=lpOk (k:=k) [4,16,17,18] (wire_Get_l0_L k) (by kernel_rfl) (fun _ _ _ => rfl) fun K n vs m r h => by
 unfold wire_Get_l0_L at h;split at h
 ·cases n
  ·cases h
  ·exact ⟨_,rfl,Eq.trans (by kernel_rfl) h⟩
 ·cases h
def wire_Get_U (k:Nat) (vs:List Value) (m:Mem):Option (Int × Value × Mem):=match vs with
 | [.slice p0a p0n p0c] => wire_Get k p0a p0n p0c m
 | _ => none
theorem wire_Get_ok (k:Nat):FOk Tryz.prog 75 Sh13 (wire_Get_U k):=by
 intro vs m r h;unfold wire_Get_U at h;split at h
 ·exact fnOk (C:=wire_Get_C k) (wire_Get_cs k) tOk mixed rfl Tryz.func75 (by kernel_rfl) (lps (cs:=[0]) (by kernel_rfl) ⟨wire_Get_l0_ok k,trivial⟩) (noRanges (by kernel_rfl)) (Eq.trans (by kernel_rfl) h)
 ·cases h
def wire_Seal (k:Nat) (p0a:OA) (p0n:Nat) (p0c:Nat) (m:Mem):Option (Sl × Value × Mem) :=
 bif ((p0n:Nat):Int) != 50 then (
 some ((⟨none,0,0⟩:Sl),(Value.iface ty_api_Code (Value.int .i64 1)),m)) else (
 let m1:Mem:=m ++ [.live (repl (Int.toNat 58) [.int .u8 0])]
 (rdSl m1 p0a (min p0n (Int.toNat 58)) 1).bind fun l2 =>
 (oper.stSl m1 (some ⟨List.length m,0,none⟩) l2).bind fun m3 =>
 bif sliceK.okZ (some ⟨List.length m,0,none⟩) 1 false && inUpto 50 (Int.toNat 58) then (
 (oper.stSl m3 ((sliceK.clear (some ⟨List.length m,0,none⟩) false).map fun a => plus a ((Int.toNat 50) * 1)) (List.take (min (ByteArray.size (ByteArray.mk #[112,97,116,105,110,97,48,49])) ((Int.toNat 58) - (Int.toNat 50))) (bytesOf (ByteArray.mk #[112,97,116,105,110,97,48,49])))).bind fun m5 =>
 some ((⟨(some ⟨List.length m,0,none⟩),(Int.toNat 58),(Int.toNat 58)⟩:Sl),Value.nilIface,m5)) else none)
def wire_Seal_U (k:Nat) (vs:List Value) (m:Mem):Option (Sl × Value × Mem):=match vs with
 | [.slice p0a p0n p0c] => wire_Seal k p0a p0n p0c m
 | _ => none
theorem wire_Seal_ok (k:Nat):FOk Tryz.prog 83 Sh6 (wire_Seal_U k):=by
 intro vs m r h;unfold wire_Seal_U at h;split at h
 ·exact ok0 (cN) Tryz.func83 (by kernel_rfl) (Eq.trans (by kernel_rfl) h)
 ·cases h
end Go.Proofs.YtchonnaoojpdoaaGreat
