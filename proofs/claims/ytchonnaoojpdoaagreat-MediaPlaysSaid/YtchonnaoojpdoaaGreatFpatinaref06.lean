import Derived.Test.YtchonnaoojpdoaaGreatF1
import Derived.Test.YtchonnaoojpdoaaGreatFpatinaref02
import Derived.Test.YtchonnaoojpdoaaGreatFpatinaref03
set_option linter.unusedVariables false
set_option linter.defProp false
set_option maxRecDepth 100000
namespace Go.Proofs.YtchonnaoojpdoaaGreat
open Go.Mx
def patinaref06_Message (k:Nat) (p0a:OA) (p0n:Nat) (p0c:Nat) (p1:Int) (m:Mem):Option (Sl × Int × Int × Mem) :=
 bif ((p0n:Nat):Int) != 256 then (
 some ((⟨none,0,0⟩:Sl),0,1,m)) else (
 bif decide (p1 < 0) then (
 some ((⟨none,0,0⟩:Sl),0,1,m)) else (
 bif decide (p1 > 3) then (
 some ((⟨none,0,0⟩:Sl),0,1,m)) else (
 bif sliceK.okZ p0a 1 false && inUpto (IntKind.wrap .i64 ((IntKind.wrap .i64 (64 * p1)) + 64)) p0c && inUpto (IntKind.wrap .i64 (64 * p1)) (Int.toNat (IntKind.wrap .i64 ((IntKind.wrap .i64 (64 * p1)) + 64))) then (
 (patinaref02_Decode k ((sliceK.clear p0a false).map fun a => plus a ((Int.toNat (IntKind.wrap .i64 (64 * p1))) * 1)) ((Int.toNat (IntKind.wrap .i64 ((IntKind.wrap .i64 (64 * p1)) + 64))) - (Int.toNat (IntKind.wrap .i64 (64 * p1)))) (p0c - (Int.toNat (IntKind.wrap .i64 (64 * p1)))) m).bind fun r1 =>
 bif !r1.2.2.1 then (
 some ((⟨none,0,0⟩:Sl),0,5,r1.2.2.2)) else (
 some ((⟨r1.1.a,r1.1.len,r1.1.cap⟩:Sl),r1.2.1,0,r1.2.2.2))) else none)))
def patinaref06_Message_U (k:Nat) (vs:List Value) (m:Mem):Option (Sl × Int × Int × Mem):=match vs with
 | [.slice p0a p0n p0c,.int .i64 p1] => patinaref06_Message k p0a p0n p0c p1 m
 | _ => none
theorem patinaref06_Message_ok (k:Nat):FOk Tryz.prog 93 Sh18 (patinaref06_Message_U k):=by
 intro vs m r h;unfold patinaref06_Message_U at h;split at h
 ·exact ok0 (cC (patinaref02_Decode_ok k) <| cN) Tryz.func93 (by kernel_rfl) (Eq.trans (by kernel_rfl) h)
 ·cases h
def patinaref06_Body (k:Nat) (p0a:OA) (p0n:Nat) (p0c:Nat) (m:Mem):Option (Sl × Int × Int × Mem) :=
 (patinaref06_Message k p0a p0n p0c 3 m).bind fun r1 =>
 bif r1.2.2.1 != 0 then (
 some ((⟨none,0,0⟩:Sl),0,r1.2.2.1,r1.2.2.2)) else (
 (patinaref03_Marked k r1.1.a r1.1.len r1.1.cap r1.2.2.2).bind fun r2 =>
 bif !r2.1 then (
 some ((⟨none,0,0⟩:Sl),0,6,r2.2)) else (
 bif inUpto 50 r1.1.cap then (
 some ((⟨(sliceK.clear r1.1.a false),(Int.toNat 50),r1.1.cap⟩:Sl),r1.2.1,0,r2.2)) else none))
def patinaref06_Body_U (k:Nat) (vs:List Value) (m:Mem):Option (Sl × Int × Int × Mem):=match vs with
 | [.slice p0a p0n p0c] => patinaref06_Body k p0a p0n p0c m
 | _ => none
theorem patinaref06_Body_ok (k:Nat):FOk Tryz.prog 94 Sh18 (patinaref06_Body_U k):=by
 intro vs m r h;unfold patinaref06_Body_U at h;split at h
 ·exact ok0 (cC (patinaref06_Message_ok k) <| cC (patinaref03_Marked_ok k) <| cN) Tryz.func94 (by kernel_rfl) (Eq.trans (by kernel_rfl) h)
 ·cases h
def patinaref06_Data_j1 (k:Nat) (x0a:OA) (x0n:Nat) (x0c:Nat) (x7:Int) (nx:OA → Nat → Nat → OA → Nat → Nat → Int → Int → Mem → Option (Sl × Int × Int × Mem)) (x5_a:OA) (x5_n:Nat) (x5_c:Nat) (x6_:Int) (mj:Mem):Option (Sl × Int × Int × Mem) :=
 nx x0a x0n x0c x5_a x5_n x5_c x6_ (IntKind.wrap .i64 (x7 + 1)) mj
def patinaref06_Data_l0_b (k:Nat) (nx:OA → Nat → Nat → OA → Nat → Nat → Int → Int → Mem → Option (Sl × Int × Int × Mem)) (kx0:OA → Nat → Nat → Int → Int → Mem → Option (Sl × Int × Int × Mem)) (kx2:OA → Nat → Nat → Int → Mem → Option (Sl × Int × Int × Mem)) (x0a:OA) (x0n:Nat) (x0c:Nat) (x5a:OA) (x5n:Nat) (x5c:Nat) (x6:Int) (x7:Int) (m:Mem):Option (Sl × Int × Int × Mem) :=
 bif decide (x7 < 3) then (
 (patinaref06_Message k x0a x0n x0c x7 m).bind fun r1 =>
 bif r1.2.2.1 != 0 then (
 kx0 none 0 0 0 r1.2.2.1 r1.2.2.2) else (
 (rdSl r1.2.2.2 r1.1.a r1.1.len 1).bind fun l2 =>
 (appM 1 1 r1.2.2.2 x5a x5n x5c r1.1.len l2).bind fun r3 =>
 bif decide (r1.2.1 > x6) then (
 patinaref06_Data_j1 k x0a x0n x0c x7 nx r3.1.a r3.1.len r3.1.cap r1.2.1 r3.2) else (
 patinaref06_Data_j1 k x0a x0n x0c x7 nx r3.1.a r3.1.len r3.1.cap x6 r3.2))) else (
 kx2 x5a x5n x5c x6 m)
def patinaref06_Data_l0 (k:Nat) kx0 kx2:=it9 fun nx => patinaref06_Data_l0_b k nx kx0 kx2
def patinaref06_Data_l0_rule (k:Nat) kx0 kx2 {P}:=it9_rule (P:=P) (f:=fun nx => patinaref06_Data_l0_b k nx kx0 kx2)
def patinaref06_Data (k:Nat) (p0a:OA) (p0n:Nat) (p0c:Nat) (m:Mem):Option (Sl × Int × Int × Mem) :=
 patinaref06_Data_l0 k (fun y2a y2n y2c y3 y4 m4 =>
 some ((⟨y2a,y2n,y2c⟩:Sl),y3,y4,m4)) (fun y5a y5n y5c y6 m5 =>
 some ((⟨y5a,y5n,y5c⟩:Sl),y6,0,m5)) k p0a p0n p0c none 0 0 0 0 m
def patinaref06_Data_cs (k:Nat):Cs Tryz.prog:=cC (patinaref06_Message_ok k) <| cN
def patinaref06_Data_l0_L (k:Nat) (K:KT (Sl × Int × Int × Mem)) (n:Nat) (vs:List Value) (m:Mem):Option (Sl × Int × Int × Mem):=match vs with
 | [.slice x0a x0n x0c,.slice x5a x5n x5c,.int .i64 x6,.int .i64 x7] => patinaref06_Data_l0 k (fun y2a y2n y2c y3 y4 m => K 0 [(Value.slice y2a y2n y2c),(Value.int .i64 y3),(Value.int .i64 y4)] m) (fun y5a y5n y5c y6 m => K 2 [(Value.slice y5a y5n y5c),(Value.int .i64 y6)] m) n x0a x0n x0c x5a x5n x5c x6 x7 m
 | _ => none
def patinaref06_Data_C (k:Nat):Ctx (Sl × Int × Int × Mem):=⟨tt,(patinaref06_Data_cs k).call,lpOf [(0,fun K => patinaref06_Data_l0_L k K k)],[(0,[0,5,6,7])],[(0,[2,3,4]),(2,[5,6])]⟩
theorem patinaref06_Data_l0_ok (k:Nat):LoopOk (patinaref06_Data_C k) 0 (lpc Tryz.f96 0):=lpOk (k:=k) [0,5,6,7] (patinaref06_Data_l0_L k) (by kernel_rfl) (fun _ _ _ => rfl) fun K n vs m r h => by
 unfold patinaref06_Data_l0_L at h;split at h
 ·cases n
  ·cases h
  ·exact ⟨_,rfl,Eq.trans (by kernel_rfl) h⟩
 ·cases h
def patinaref06_Data_U (k:Nat) (vs:List Value) (m:Mem):Option (Sl × Int × Int × Mem):=match vs with
 | [.slice p0a p0n p0c] => patinaref06_Data k p0a p0n p0c m
 | _ => none
theorem patinaref06_Data_ok (k:Nat):FOk Tryz.prog 96 Sh18 (patinaref06_Data_U k):=by
 intro vs m r h;unfold patinaref06_Data_U at h;split at h
 ·exact fnOk (C:=patinaref06_Data_C k) (patinaref06_Data_cs k) tOk mixed rfl Tryz.func96 (by kernel_rfl) (lps (cs:=[0]) (by kernel_rfl) ⟨patinaref06_Data_l0_ok k,trivial⟩) (noRanges (by kernel_rfl)) (Eq.trans (by kernel_rfl) h)
 ·cases h
def patinaref06_Lay_l0_b (k:Nat) (nx:OA → Nat → Nat → OA → Nat → Nat → OA → Nat → Nat → Int → Mem → Option (Sl × Bool × Mem)) (kx2:OA → Nat → Nat → OA → Nat → Nat → Mem → Option (Sl × Bool × Mem)) (x0a:OA) (x0n:Nat) (x0c:Nat) (x1a:OA) (x1n:Nat) (x1c:Nat) (x6a:OA) (x6n:Nat) (x6c:Nat) (x7:Int) (m:Mem):Option (Sl × Bool × Mem) :=
 bif decide (x7 < 3) then (
 bif sliceK.okZ x0a 1 false && inUpto (IntKind.wrap .i64 ((IntKind.wrap .i64 (58 * x7)) + 58)) x0c && inUpto (IntKind.wrap .i64 (58 * x7)) (Int.toNat (IntKind.wrap .i64 ((IntKind.wrap .i64 (58 * x7)) + 58))) then (
 (patinaref02_Encode k ((sliceK.clear x0a false).map fun a => plus a ((Int.toNat (IntKind.wrap .i64 (58 * x7))) * 1)) ((Int.toNat (IntKind.wrap .i64 ((IntKind.wrap .i64 (58 * x7)) + 58))) - (Int.toNat (IntKind.wrap .i64 (58 * x7)))) (x0c - (Int.toNat (IntKind.wrap .i64 (58 * x7)))) m).bind fun r1 =>
 let m2:Mem:=r1.2 ++ [.live [(Value.slice r1.1.a r1.1.len r1.1.cap)]]
 (rdSl m2 (some ⟨List.length r1.2,0,none⟩) 1 1).bind fun l3 =>
 (appM 1 24 m2 x6a x6n x6c 1 l3).bind fun r4 =>
 nx x0a x0n x0c x1a x1n x1c r4.1.a r4.1.len r4.1.cap (IntKind.wrap .i64 (x7 + 1)) r4.2) else none) else (
 kx2 x1a x1n x1c x6a x6n x6c m)
def patinaref06_Lay_l0 (k:Nat) kx2:=it11 fun nx => patinaref06_Lay_l0_b k nx kx2
def patinaref06_Lay_l0_rule (k:Nat) kx2 {P}:=it11_rule (P:=P) (f:=fun nx => patinaref06_Lay_l0_b k nx kx2)
def patinaref06_Lay (k:Nat) (p0a:OA) (p0n:Nat) (p0c:Nat) (p1a:OA) (p1n:Nat) (p1c:Nat) (m:Mem):Option (Sl × Bool × Mem) :=
 bif ((p0n:Nat):Int) != 174 then (
 some ((⟨none,0,0⟩:Sl),false,m)) else (
 bif ((p1n:Nat):Int) != 50 then (
 some ((⟨none,0,0⟩:Sl),false,m)) else (
 patinaref06_Lay_l0 k (fun y1a y1n y1c y6a y6n y6c m5 =>
 (patinaref03_Sealed k y1a y1n y1c m5).bind fun r6 =>
 (patinaref02_Encode k r6.1.a r6.1.len r6.1.cap r6.2).bind fun r7 =>
 let m8:Mem:=r7.2 ++ [.live [(Value.slice r7.1.a r7.1.len r7.1.cap)]]
 (rdSl m8 (some ⟨List.length r7.2,0,none⟩) 1 1).bind fun l9 =>
 (appM 1 24 m8 y6a y6n y6c 1 l9).bind fun r10 =>
 some ((⟨r10.1.a,r10.1.len,r10.1.cap⟩:Sl),true,r10.2)) k p0a p0n p0c p1a p1n p1c none 0 0 0 m))
def patinaref06_Lay_cs (k:Nat):Cs Tryz.prog:=cC (patinaref02_Encode_ok k) <| cC (patinaref03_Sealed_ok k) <| cN
def patinaref06_Lay_l0_L (k:Nat) (K:KT (Sl × Bool × Mem)) (n:Nat) (vs:List Value) (m:Mem):Option (Sl × Bool × Mem):=match vs with
 | [.slice x0a x0n x0c,.slice x1a x1n x1c,.slice x6a x6n x6c,.int .i64 x7] => patinaref06_Lay_l0 k (fun y1a y1n y1c y6a y6n y6c m => K 2 [(Value.slice y1a y1n y1c),(Value.slice y6a y6n y6c)] m) n x0a x0n x0c x1a x1n x1c x6a x6n x6c x7 m
 | _ => none
def patinaref06_Lay_C (k:Nat):Ctx (Sl × Bool × Mem):=⟨tt,(patinaref06_Lay_cs k).call,lpOf [(0,fun K => patinaref06_Lay_l0_L k K k)],[(0,[0,1,6,7])],[(2,[1,6])]⟩
theorem patinaref06_Lay_l0_ok (k:Nat):LoopOk (patinaref06_Lay_C k) 0 (lpc Tryz.f55 0):=lpOk (k:=k) [0,1,6,7] (patinaref06_Lay_l0_L k) (by kernel_rfl) (fun _ _ _ => rfl) fun K n vs m r h => by
 unfold patinaref06_Lay_l0_L at h;split at h
 ·cases n
  ·cases h
  ·exact ⟨_,rfl,Eq.trans (by kernel_rfl) h⟩
 ·cases h
def patinaref06_Lay_U (k:Nat) (vs:List Value) (m:Mem):Option (Sl × Bool × Mem):=match vs with
 | [.slice p0a p0n p0c,.slice p1a p1n p1c] => patinaref06_Lay k p0a p0n p0c p1a p1n p1c m
 | _ => none
theorem patinaref06_Lay_ok (k:Nat):FOk Tryz.prog 55 Sh19 (patinaref06_Lay_U k):=by
 intro vs m r h;unfold patinaref06_Lay_U at h;split at h
 ·exact fnOk (C:=patinaref06_Lay_C k) (patinaref06_Lay_cs k) tOk mixed rfl Tryz.func55 (by kernel_rfl) (lps (cs:=[0]) (by kernel_rfl) ⟨patinaref06_Lay_l0_ok k,trivial⟩) (noRanges (by kernel_rfl)) (Eq.trans (by kernel_rfl) h)
 ·cases h
end Go.Proofs.YtchonnaoojpdoaaGreat
