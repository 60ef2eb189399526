import Derived.Test.YtchonnaoojpdoaaGreatF1
import Derived.Test.YtchonnaoojpdoaaGreatFpatinaref01
import Derived.Test.YtchonnaoojpdoaaGreatFpatinaref03
set_option linter.unusedVariables false
set_option linter.defProp false
set_option maxRecDepth 100000
namespace Go.Proofs.YtchonnaoojpdoaaGreat
open Go.Mx
def patinaref07_May (k:Nat) (p0:List Value) (m:Mem):Option (Bool × Mem) :=
 bif Nat.beq (List.length p0) 5 then (
 let m1:Mem:=m ++ [.live p0]
 (ldInt .i64 m1 (plus ⟨List.length m,0,none⟩ 0)).bind fun t2 =>
 bif decide (t2 < 0) then (
 some (false,m1)) else (
 (ldInt .i64 m1 (plus ⟨List.length m,0,none⟩ 0)).bind fun t3 =>
 bif decide (t3 > 95) then (
 some (false,m1)) else (
 (ldInt .i64 m1 (plus ⟨List.length m,0,none⟩ 1)).bind fun t4 =>
 bif decide (t4 < 0) then (
 some (false,m1)) else (
 (ldInt .i64 m1 (plus ⟨List.length m,0,none⟩ 1)).bind fun t5 =>
 bif decide (t5 > 24) then (
 some (false,m1)) else (
 (ldInt .i64 m1 (plus ⟨List.length m,0,none⟩ 2)).bind fun t6 =>
 bif decide (t6 < 1) then (
 some (false,m1)) else (
 (ldInt .i64 m1 (plus ⟨List.length m,0,none⟩ 2)).bind fun t7 =>
 bif decide (t7 > 1099511627775) then (
 some (false,m1)) else (
 (ldInt .i64 m1 (plus ⟨List.length m,0,none⟩ 3)).bind fun t8 =>
 bif decide (t8 < 0) then (
 some (false,m1)) else (
 (ldInt .i64 m1 (plus ⟨List.length m,0,none⟩ 3)).bind fun t9 =>
 bif decide (t9 > 255) then (
 some (false,m1)) else (
 (ldInt .i64 m1 (plus ⟨List.length m,0,none⟩ 1)).bind fun t10 =>
 bif t10 == 24 then (
 (ldBool m1 (plus ⟨List.length m,0,none⟩ 4)).bind fun t11 =>
 some (!t11,m1)) else (
 (ldInt .i64 m1 (plus ⟨List.length m,0,none⟩ 0)).bind fun t12 =>
 some (decide ((Int.tmod t12 8) < 6),m1))))))))))) else none
def patinaref07_May_U (k:Nat) (vs:List Value) (m:Mem):Option (Bool × Mem):=match vs with
 | [.agg ⟨p0⟩] => patinaref07_May k p0 m
 | _ => none
theorem patinaref07_May_ok (k:Nat):FOk Tryz.prog 54 Sh12 (patinaref07_May_U k):=by
 intro vs m r h;unfold patinaref07_May_U at h;split at h
 ·exact ok0 (cN) Tryz.func54 (by kernel_rfl) (Eq.trans (by kernel_rfl) h)
 ·cases h
def patinaref07_Body_l0_b (k:Nat) (nx:OA → Nat → Nat → Mem → Option (Sl × Mem)) (kx2:OA → Nat → Nat → Mem → Option (Sl × Mem)) (x8a:OA) (x8n:Nat) (x8c:Nat) (m:Mem):Option (Sl × Mem) :=
 bif decide (((x8n:Nat):Int) < 50) then (
 let m19:Mem:=m ++ [.live [(Value.int .u8 0)]]
 (rdSl m19 (some ⟨List.length m,0,none⟩) 1 1).bind fun l20 =>
 (appM 1 1 m19 x8a x8n x8c 1 l20).bind fun r21 =>
 nx r21.1.a r21.1.len r21.1.cap r21.2) else (
 kx2 x8a x8n x8c m)
def patinaref07_Body_l0 (k:Nat) kx2:=it4 fun nx => patinaref07_Body_l0_b k nx kx2
def patinaref07_Body_l0_rule (k:Nat) kx2 {P}:=it4_rule (P:=P) (f:=fun nx => patinaref07_Body_l0_b k nx kx2)
def patinaref07_Body_j1 (k:Nat) (m:Mem) (r3:Sl × Bool × Mem) (r5:Sl × Bool × Mem) (x7_:Int) (mj:Mem):Option (Sl × Mem) :=
 let m6:Mem:=mj ++ [.live (repl (Int.toNat 0) [.int .u8 0])]
 (rdSl m6 r3.1.a r3.1.len 1).bind fun l7 =>
 (appM 1 1 m6 (some ⟨List.length mj,0,none⟩) (Int.toNat 0) (Int.toNat 0) r3.1.len l7).bind fun r8 =>
 (ldInt .i64 r8.2 (plus ⟨List.length m,0,none⟩ 1)).bind fun t9 =>
 let m10:Mem:=r8.2 ++ [.live [(Value.int .u8 (IntKind.wrap .u8 t9))]]
 (rdSl m10 (some ⟨List.length r8.2,0,none⟩) 1 1).bind fun l11 =>
 (appM 1 1 m10 r8.1.a r8.1.len r8.1.cap 1 l11).bind fun r12 =>
 (rdSl r12.2 r5.1.a r5.1.len 1).bind fun l13 =>
 (appM 1 1 r12.2 r12.1.a r12.1.len r12.1.cap r5.1.len l13).bind fun r14 =>
 (ldInt .i64 r14.2 (plus ⟨List.length m,0,none⟩ 3)).bind fun t15 =>
 let m16:Mem:=r14.2 ++ [.live [(Value.int .u8 (IntKind.wrap .u8 t15)),(Value.int .u8 x7_)]]
 (rdSl m16 (some ⟨List.length r14.2,0,none⟩) 2 1).bind fun l17 =>
 (appM 1 1 m16 r14.1.a r14.1.len r14.1.cap 2 l17).bind fun r18 =>
 patinaref07_Body_l0 k (fun y8a y8n y8c m22 =>
 some ((⟨y8a,y8n,y8c⟩:Sl),m22)) k r18.1.a r18.1.len r18.1.cap r18.2
def patinaref07_Body (k:Nat) (p0:List Value) (m:Mem):Option (Sl × Mem) :=
 bif Nat.beq (List.length p0) 5 then (
 let m1:Mem:=m ++ [.live p0]
 (ldInt .i64 m1 (plus ⟨List.length m,0,none⟩ 0)).bind fun t2 =>
 (patinaref03_Put k (IntKind.wrap .u64 t2) 2 m1).bind fun r3 =>
 (ldInt .i64 r3.2.2 (plus ⟨List.length m,0,none⟩ 2)).bind fun t4 =>
 (patinaref03_Put k (IntKind.wrap .u64 t4) 5 r3.2.2).bind fun r5 =>
 (ldBool r5.2.2 (plus ⟨List.length m,0,none⟩ 4)).bind fun t23 =>
 bif t23 then (
 patinaref07_Body_j1 k m r3 r5 1 r5.2.2) else (
 patinaref07_Body_j1 k m r3 r5 0 r5.2.2)) else none
def patinaref07_Body_cs (k:Nat):Cs Tryz.prog:=cC (patinaref03_Put_ok k) <| cN
def patinaref07_Body_l0_L (k:Nat) (K:KT (Sl × Mem)) (n:Nat) (vs:List Value) (m:Mem):Option (Sl × Mem):=match vs with
 | [.slice x8a x8n x8c] => patinaref07_Body_l0 k (fun y8a y8n y8c m => K 2 [(Value.slice y8a y8n y8c)] m) n x8a x8n x8c m
 | _ => none
def patinaref07_Body_C (k:Nat):Ctx (Sl × Mem):=⟨tt,(patinaref07_Body_cs k).call,lpOf [(0,fun K => patinaref07_Body_l0_L k K k)],[(0,[8])],[(2,[8])]⟩
theorem patinaref07_Body_l0_ok (k:Nat):LoopOk (patinaref07_Body_C k) 0 (lpc Tryz.f56 0):=lpOk (k:=k) [8] (patinaref07_Body_l0_L k) (by kernel_rfl) (fun _ _ _ => rfl) fun K n vs m r h => by
 unfold patinaref07_Body_l0_L at h;split at h
 ·cases n
  ·cases h
  ·exact ⟨_,rfl,Eq.trans (by kernel_rfl) h⟩
 ·cases h
def patinaref07_Body_U (k:Nat) (vs:List Value) (m:Mem):Option (Sl × Mem):=match vs with
 | [.agg ⟨p0⟩] => patinaref07_Body k p0 m
 | _ => none
theorem patinaref07_Body_ok (k:Nat):FOk Tryz.prog 56 Sh4 (patinaref07_Body_U k):=by
 intro vs m r h;unfold patinaref07_Body_U at h;split at h
 ·exact fnOk (C:=patinaref07_Body_C k) (patinaref07_Body_cs k) tOk mixed rfl Tryz.func56 (by kernel_rfl) (lps (cs:=[0]) (by kernel_rfl) ⟨patinaref07_Body_l0_ok k,trivial⟩) (noRanges (by kernel_rfl)) (Eq.trans (by kernel_rfl) h)
 ·cases h
def patinaref07_Tag (k:Nat) (p0a:OA) (p0n:Nat) (p0c:Nat) (m:Mem):Option ((List Value) × Bool × Mem) :=
 let m1:Mem:=m ++ [.live [.int .i64 0,.int .i64 0,.int .i64 0,.int .i64 0,.bool false]]
 bif inUpto 2 p0c then (
 (patinaref03_Get k (sliceK.clear p0a false) (Int.toNat 2) p0c m1).bind fun r2 =>
 bif inRange 2 p0n then (
 (p0a).bind fun a3 =>
 (ldInt .u8 r2.2 (plus a3 (Int.toNat 2 * 1))).bind fun t4 =>
 bif sliceK.okZ p0a 1 false && inUpto 8 p0c && inUpto 3 (Int.toNat 8) then (
 (patinaref03_Get k ((sliceK.clear p0a false).map fun a => plus a ((Int.toNat 3) * 1)) ((Int.toNat 8) - (Int.toNat 3)) (p0c - (Int.toNat 3)) r2.2).bind fun r5 =>
 bif inRange 8 p0n then (
 (p0a).bind fun a6 =>
 (ldInt .u8 r5.2 (plus a6 (Int.toNat 8 * 1))).bind fun t7 =>
 bif inRange 9 p0n then (
 (p0a).bind fun a8 =>
 (ldInt .u8 r5.2 (plus a8 (Int.toNat 9 * 1))).bind fun t9 =>
 let m10:Mem:=r5.2 ++ [.live [.int .i64 0,.int .i64 0,.int .i64 0,.int .i64 0,.bool false]]
 (stCells m10 ⟨List.length r5.2,0,none⟩ [(Value.int .i64 (IntKind.wrap .i64 r2.1)),(Value.int .i64 (IntKind.wrap .i64 t4)),(Value.int .i64 (IntKind.wrap .i64 r5.1)),(Value.int .i64 (IntKind.wrap .i64 t7)),(Value.bool (t9 == 1))]).bind fun m11 =>
 (ldInt .u8 m1 (plus a3 (Int.toNat 2 * 1))).bind fun t12 =>
 bif t12 == t4 then (
 (ldInt .u8 r5.2 (plus a3 (Int.toNat 2 * 1))).bind fun t13 =>
 bif t13 == t4 then (
 (ldInt .u8 m10 (plus a3 (Int.toNat 2 * 1))).bind fun t14 =>
 bif t14 == t4 then (
 (ldInt .u8 m1 (plus a6 (Int.toNat 8 * 1))).bind fun t15 =>
 bif t15 == t7 then (
 (ldInt .u8 r2.2 (plus a6 (Int.toNat 8 * 1))).bind fun t16 =>
 bif t16 == t7 then (
 (ldInt .u8 m10 (plus a6 (Int.toNat 8 * 1))).bind fun t17 =>
 bif t17 == t7 then (
 (ldInt .u8 m1 (plus a8 (Int.toNat 9 * 1))).bind fun t18 =>
 bif t18 == t9 then (
 (ldInt .u8 r2.2 (plus a8 (Int.toNat 9 * 1))).bind fun t19 =>
 bif t19 == t9 then (
 (ldInt .u8 m10 (plus a8 (Int.toNat 9 * 1))).bind fun t20 =>
 bif t20 == t9 then (
 (ldCells m11 ⟨List.length r5.2,0,none⟩ 5).bind fun t21 =>
 (patinaref07_May k t21 m11).bind fun r22 =>
 bif !r22.1 then (
 (stCells r22.2 ⟨List.length m,0,none⟩ [.int .i64 0,.int .i64 0,.int .i64 0,.int .i64 0,.bool false]).bind fun m23 =>
 (ldCells m23 ⟨List.length m,0,none⟩ 5).bind fun t24 =>
 some (t24,false,m23)) else (
 (ldCells r22.2 ⟨List.length r5.2,0,none⟩ 5).bind fun t25 =>
 (patinaref07_Body k t25 r22.2).bind fun r26 =>
 (patinaref01_Same k r26.1.a r26.1.len r26.1.cap p0a p0n p0c r26.2).bind fun r27 =>
 bif !r27.1 then (
 (stCells r27.2 ⟨List.length m,0,none⟩ [.int .i64 0,.int .i64 0,.int .i64 0,.int .i64 0,.bool false]).bind fun m28 =>
 (ldCells m28 ⟨List.length m,0,none⟩ 5).bind fun t29 =>
 some (t29,false,m28)) else (
 (ldCells r27.2 ⟨List.length r5.2,0,none⟩ 5).bind fun t30 =>
 bif Nat.beq (List.length t30) 5 then (
 (stCells r27.2 ⟨List.length m,0,none⟩ t30).bind fun m31 =>
 (ldCells m31 ⟨List.length m,0,none⟩ 5).bind fun t32 =>
 some (t32,true,m31)) else none))) else none) else none) else none) else none) else none) else none) else none) else none) else none) else none) else none) else none) else none) else none
def patinaref07_Tag_U (k:Nat) (vs:List Value) (m:Mem):Option ((List Value) × Bool × Mem):=match vs with
 | [.slice p0a p0n p0c] => patinaref07_Tag k p0a p0n p0c m
 | _ => none
theorem patinaref07_Tag_ok (k:Nat):FOk Tryz.prog 95 Sh21 (patinaref07_Tag_U k):=by
 intro vs m r h;unfold patinaref07_Tag_U at h;split at h
 ·exact ok0 (cC (patinaref01_Same_ok k) <| cC (patinaref07_May_ok k) <| cC (patinaref07_Body_ok k) <| cC (patinaref03_Get_ok k) <| cN) Tryz.func95 (by kernel_rfl) (Eq.trans (by kernel_rfl) h)
 ·cases h
end Go.Proofs.YtchonnaoojpdoaaGreat
