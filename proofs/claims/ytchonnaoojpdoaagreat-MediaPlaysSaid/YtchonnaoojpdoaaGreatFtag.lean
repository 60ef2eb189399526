import Derived.Test.YtchonnaoojpdoaaGreatF1
import Derived.Test.YtchonnaoojpdoaaGreatFbytes
import Derived.Test.YtchonnaoojpdoaaGreatFwire
set_option linter.unusedVariables false
set_option linter.defProp false
set_option maxRecDepth 100000
namespace Go.Proofs.YtchonnaoojpdoaaGreat
open Go.Mx
def tag_Check_j1 (k:Nat) (mj:Mem):Option (Value × Mem) :=
 some (Value.nilIface,mj)
def tag_Check (k:Nat) (p0:List Value) (m:Mem):Option (Value × Mem) :=
 bif Nat.beq (List.length p0) 5 then (
 let m1:Mem:=m ++ [.live p0]
 (ldInt .i64 m1 (plus ⟨List.length m,0,none⟩ 0)).bind fun t2 =>
 bif decide (t2 < 0) then (
 some ((Value.iface ty_api_Code (Value.int .i64 1)),m1)) else (
 (ldInt .i64 m1 (plus ⟨List.length m,0,none⟩ 0)).bind fun t3 =>
 bif decide (t3 ≥ 96) then (
 some ((Value.iface ty_api_Code (Value.int .i64 1)),m1)) else (
 (ldInt .i64 m1 (plus ⟨List.length m,0,none⟩ 1)).bind fun t4 =>
 bif decide (t4 < 0) then (
 some ((Value.iface ty_api_Code (Value.int .i64 1)),m1)) else (
 (ldInt .i64 m1 (plus ⟨List.length m,0,none⟩ 1)).bind fun t5 =>
 bif decide (t5 > 24) then (
 some ((Value.iface ty_api_Code (Value.int .i64 1)),m1)) else (
 (ldInt .i64 m1 (plus ⟨List.length m,0,none⟩ 2)).bind fun t6 =>
 bif decide (t6 < 1) then (
 some ((Value.iface ty_api_Code (Value.int .i64 1)),m1)) else (
 (ldInt .i64 m1 (plus ⟨List.length m,0,none⟩ 2)).bind fun t7 =>
 bif decide (t7 > 1099511627775) then (
 some ((Value.iface ty_api_Code (Value.int .i64 1)),m1)) else (
 (ldInt .i64 m1 (plus ⟨List.length m,0,none⟩ 3)).bind fun t8 =>
 bif decide (t8 < 0) then (
 some ((Value.iface ty_api_Code (Value.int .i64 1)),m1)) else (
 (ldInt .i64 m1 (plus ⟨List.length m,0,none⟩ 3)).bind fun t9 =>
 bif decide (t9 > 255) then (
 some ((Value.iface ty_api_Code (Value.int .i64 1)),m1)) else (
 (ldInt .i64 m1 (plus ⟨List.length m,0,none⟩ 1)).bind fun t10 =>
 bif t10 == 24 then (
 (ldBool m1 (plus ⟨List.length m,0,none⟩ 4)).bind fun t11 =>
 bif t11 then (
 some ((Value.iface ty_api_Code (Value.int .i64 1)),m1)) else (
 (ldInt .i64 m1 (plus ⟨List.length m,0,none⟩ 1)).bind fun t12 =>
 bif t12 != 24 then (
 (ldInt .i64 m1 (plus ⟨List.length m,0,none⟩ 0)).bind fun t13 =>
 bif decide ((Int.tmod t13 8) ≥ 6) then (
 some ((Value.iface ty_api_Code (Value.int .i64 1)),m1)) else (
 tag_Check_j1 k  m1)) else (
 tag_Check_j1 k  m1))) else (
 (ldInt .i64 m1 (plus ⟨List.length m,0,none⟩ 1)).bind fun t14 =>
 bif t14 != 24 then (
 (ldInt .i64 m1 (plus ⟨List.length m,0,none⟩ 0)).bind fun t15 =>
 bif decide ((Int.tmod t15 8) ≥ 6) then (
 some ((Value.iface ty_api_Code (Value.int .i64 1)),m1)) else (
 tag_Check_j1 k  m1)) else (
 tag_Check_j1 k  m1))))))))))) else none
def tag_Check_U (k:Nat) (vs:List Value) (m:Mem):Option (Value × Mem):=match vs with
 | [.agg ⟨p0⟩] => tag_Check k p0 m
 | _ => none
theorem tag_Check_ok (k:Nat):FOk Tryz.prog 77 Sh11 (tag_Check_U k):=by
 intro vs m r h;unfold tag_Check_U at h;split at h
 ·exact ok0 (cN) Tryz.func77 (by kernel_rfl) (Eq.trans (by kernel_rfl) h)
 ·cases h
def tag_writer_put (k:Nat) (p0:OA) (p1:Int) (p2:Int) (m:Mem):Option (Value × Mem) :=
 (wire_Put k (IntKind.wrap .u64 p1) p2 m).bind fun r1 =>
 (p0).bind fun a2 =>
 (ldSl r1.2.2 (plus a2 5)).bind fun t3 =>
 (rdSl r1.2.2 r1.1.a r1.1.len 1).bind fun l4 =>
 (appM 1 1 r1.2.2 t3.a t3.len t3.cap r1.1.len l4).bind fun r5 =>
 (p0).bind fun a6 =>
 (st r5.2 (plus a6 5) (Value.slice r5.1.a r5.1.len r5.1.cap)).bind fun m7 =>
 some (r1.2.1,m7)
def tag_writer_put_U (k:Nat) (vs:List Value) (m:Mem):Option (Value × Mem):=match vs with
 | [.pointer p0,.int .i64 p1,.int .i64 p2] => tag_writer_put k p0 p1 p2 m
 | _ => none
theorem tag_writer_put_ok (k:Nat):FOk Tryz.prog 107 Sh11 (tag_writer_put_U k):=by
 intro vs m r h;unfold tag_writer_put_U at h;split at h
 ·exact ok0 (cC (wire_Put_ok k) <| cN) Tryz.func107 (by kernel_rfl) (Eq.trans (by kernel_rfl) h)
 ·cases h
def tag_writer_place (k:Nat) (p0:OA) (m:Mem):Option (Value × Mem) :=
 (p0).bind fun a1 =>
 (ldInt .i64 m (plus (plus a1 0) 0)).bind fun t2 =>
 (tag_writer_put k p0 t2 2 m).bind fun r3 =>
 some (r3.1,r3.2)
def tag_writer_place_U (k:Nat) (vs:List Value) (m:Mem):Option (Value × Mem):=match vs with
 | [.pointer p0] => tag_writer_place k p0 m
 | _ => none
theorem tag_writer_place_ok (k:Nat):FOk Tryz.prog 78 Sh11 (tag_writer_place_U k):=by
 intro vs m r h;unfold tag_writer_place_U at h;split at h
 ·exact ok0 (cC (tag_writer_put_ok k) <| cN) Tryz.func78 (by kernel_rfl) (Eq.trans (by kernel_rfl) h)
 ·cases h
def tag_writer_of (k:Nat) (p0:OA) (m:Mem):Option (Value × Mem) :=
 (p0).bind fun a1 =>
 (ldInt .i64 m (plus (plus a1 0) 1)).bind fun t2 =>
 (tag_writer_put k p0 t2 1 m).bind fun r3 =>
 some (r3.1,r3.2)
def tag_writer_of_U (k:Nat) (vs:List Value) (m:Mem):Option (Value × Mem):=match vs with
 | [.pointer p0] => tag_writer_of k p0 m
 | _ => none
theorem tag_writer_of_ok (k:Nat):FOk Tryz.prog 79 Sh11 (tag_writer_of_U k):=by
 intro vs m r h;unfold tag_writer_of_U at h;split at h
 ·exact ok0 (cC (tag_writer_put_ok k) <| cN) Tryz.func79 (by kernel_rfl) (Eq.trans (by kernel_rfl) h)
 ·cases h
def tag_writer_seq (k:Nat) (p0:OA) (m:Mem):Option (Value × Mem) :=
 (p0).bind fun a1 =>
 (ldInt .i64 m (plus (plus a1 0) 2)).bind fun t2 =>
 (tag_writer_put k p0 t2 5 m).bind fun r3 =>
 some (r3.1,r3.2)
def tag_writer_seq_U (k:Nat) (vs:List Value) (m:Mem):Option (Value × Mem):=match vs with
 | [.pointer p0] => tag_writer_seq k p0 m
 | _ => none
theorem tag_writer_seq_ok (k:Nat):FOk Tryz.prog 80 Sh11 (tag_writer_seq_U k):=by
 intro vs m r h;unfold tag_writer_seq_U at h;split at h
 ·exact ok0 (cC (tag_writer_put_ok k) <| cN) Tryz.func80 (by kernel_rfl) (Eq.trans (by kernel_rfl) h)
 ·cases h
def tag_writer_copies (k:Nat) (p0:OA) (m:Mem):Option (Value × Mem) :=
 (p0).bind fun a1 =>
 (ldInt .i64 m (plus (plus a1 0) 3)).bind fun t2 =>
 (tag_writer_put k p0 t2 1 m).bind fun r3 =>
 some (r3.1,r3.2)
def tag_writer_copies_U (k:Nat) (vs:List Value) (m:Mem):Option (Value × Mem):=match vs with
 | [.pointer p0] => tag_writer_copies k p0 m
 | _ => none
theorem tag_writer_copies_ok (k:Nat):FOk Tryz.prog 81 Sh11 (tag_writer_copies_U k):=by
 intro vs m r h;unfold tag_writer_copies_U at h;split at h
 ·exact ok0 (cC (tag_writer_put_ok k) <| cN) Tryz.func81 (by kernel_rfl) (Eq.trans (by kernel_rfl) h)
 ·cases h
def tag_writer_lost (k:Nat) (p0:OA) (m:Mem):Option (Value × Mem) :=
 (p0).bind fun a1 =>
 (ldBool m (plus (plus a1 0) 4)).bind fun t2 =>
 bif t2 then (
 (tag_writer_put k p0 1 1 m).bind fun r3 =>
 some (r3.1,r3.2)) else (
 (tag_writer_put k p0 0 1 m).bind fun r4 =>
 some (r4.1,r4.2))
def tag_writer_lost_U (k:Nat) (vs:List Value) (m:Mem):Option (Value × Mem):=match vs with
 | [.pointer p0] => tag_writer_lost k p0 m
 | _ => none
theorem tag_writer_lost_ok (k:Nat):FOk Tryz.prog 82 Sh11 (tag_writer_lost_U k):=by
 intro vs m r h;unfold tag_writer_lost_U at h;split at h
 ·exact ok0 (cC (tag_writer_put_ok k) <| cN) Tryz.func82 (by kernel_rfl) (Eq.trans (by kernel_rfl) h)
 ·cases h
def tag_Encode_cs (k:Nat):Cs Tryz.prog:=cC (tag_Check_ok k) <| cC (tag_writer_place_ok k) <| cC (tag_writer_of_ok k) <| cC (tag_writer_seq_ok k) <| cC (tag_writer_copies_ok k) <| cC (tag_writer_lost_ok k) <| cN
def tag_Encode_call {R:Type} (k:Nat):Fun R:=(tag_Encode_cs k).call
def tag_Encode_l0_b (k:Nat) (nx:Addr → OA → Nat → Nat → Int → Int → Mem → Option (Sl × Value × Mem)) (kx0:OA → Nat → Nat → Value → Mem → Option (Sl × Value × Mem)) (kx2:Addr → Mem → Option (Sl × Value × Mem)) (x5:Addr) (x27a:OA) (x27n:Nat) (x27c:Nat) (x28:Int) (x29:Int) (m:Mem):Option (Sl × Value × Mem) :=
 bif decide (x29 < x28) then (
 bif inRange x29 x27n then (
 (x27a).bind fun a8 =>
 (ldVal m (plus a8 (Int.toNat x29 * 1))).bind fun t9 =>
 callV (tag_Encode_call k) t9 [] m fun v10 m11 =>
 (isNil v10).bind fun b12 =>
 bif !b12 then (
 kx0 none 0 0 v10 m11) else (
 nx x5 x27a x27n x27c x28 (IntKind.wrap .i64 (x29 + 1)) m11)) else none) else (
 kx2 x5 m)
def tag_Encode_l0 (k:Nat) kx0 kx2:=it7 fun nx => tag_Encode_l0_b k nx kx0 kx2
def tag_Encode_l0_rule (k:Nat) kx0 kx2 {P}:=it7_rule (P:=P) (f:=fun nx => tag_Encode_l0_b k nx kx0 kx2)
def tag_Encode (k:Nat) (p0:List Value) (m:Mem):Option (Sl × Value × Mem) :=
 bif Nat.beq (List.length p0) 5 then (
 let m1:Mem:=m ++ [.live p0]
 (ldCells m1 ⟨List.length m,0,none⟩ 5).bind fun t2 =>
 (tag_Check k t2 m1).bind fun r3 =>
 (isNil r3.1).bind fun b4 =>
 bif !b4 then (
 some ((⟨none,0,0⟩:Sl),r3.1,r3.2)) else (
 (ldCells r3.2 ⟨List.length m,0,none⟩ 5).bind fun t5 =>
 bif Nat.beq (List.length t5) 5 then (
 bif Nat.beq (List.length (putAt [.int .i64 0,.int .i64 0,.int .i64 0,.int .i64 0,.bool false,.slice none 0 0] 0 5 t5)) 6 then (
 let m6:Mem:=r3.2 ++ [.live (putAt [.int .i64 0,.int .i64 0,.int .i64 0,.int .i64 0,.bool false,.slice none 0 0] 0 5 t5)]
 let m7:Mem:=m6 ++ [.live ([(Value.func (Fn.func 78) ⟨[(Value.pointer (some ⟨List.length r3.2,0,none⟩))]⟩ ⟨[]⟩),(Value.func (Fn.func 79) ⟨[(Value.pointer (some ⟨List.length r3.2,0,none⟩))]⟩ ⟨[]⟩),(Value.func (Fn.func 80) ⟨[(Value.pointer (some ⟨List.length r3.2,0,none⟩))]⟩ ⟨[]⟩),(Value.func (Fn.func 81) ⟨[(Value.pointer (some ⟨List.length r3.2,0,none⟩))]⟩ ⟨[]⟩),(Value.func (Fn.func 82) ⟨[(Value.pointer (some ⟨List.length r3.2,0,none⟩))]⟩ ⟨[]⟩)])]
 tag_Encode_l0 k (fun y2a y2n y2c y3 m13 =>
 some ((⟨y2a,y2n,y2c⟩:Sl),y3,m13)) (fun y5 m14 =>
 (ldSl m14 (plus y5 5)).bind fun t15 =>
 (ldSl m14 (plus y5 5)).bind fun t16 =>
 bif decide (0 < IntKind.wrap .i64 (50 - ((t16.len:Nat):Int))) && decide (IntKind.wrap .i64 (50 - ((t16.len:Nat):Int)) ≤ 1000000) then (
 (appM 1 1 m14 t15.a t15.len t15.cap (Int.toNat (IntKind.wrap .i64 (50 - ((t16.len:Nat):Int)))) (repl (Int.toNat (IntKind.wrap .i64 (50 - ((t16.len:Nat):Int)))) [.int .u8 0])).bind fun r18 =>
 some ((⟨r18.1.a,r18.1.len,r18.1.cap⟩:Sl),Value.nilIface,r18.2)) else none) k ⟨List.length r3.2,0,none⟩ (some ⟨List.length m6,0,none⟩) 5 5 ((5:Nat):Int) 0 m7) else none) else none)) else none
def tag_Encode_l0_L (k:Nat) (K:KT (Sl × Value × Mem)) (n:Nat) (vs:List Value) (m:Mem):Option (Sl × Value × Mem):=match vs with
 | [.pointer (some x5),.slice x27a x27n x27c,.int .i64 x28,.int .i64 x29] => tag_Encode_l0 k (fun y2a y2n y2c y3 m => K 0 [(Value.slice y2a y2n y2c),y3] m) (fun y5 m => K 2 [(Value.pointer (some y5))] m) n x5 x27a x27n x27c x28 x29 m
 | _ => none
def tag_Encode_C (k:Nat):Ctx (Sl × Value × Mem):=⟨tt,(tag_Encode_cs k).call,lpOf [(0,fun K => tag_Encode_l0_L k K k)],[(0,[5,27,28,29])],[(0,[2,3]),(2,[5])]⟩
theorem tag_Encode_l0_ok (k:Nat):LoopOk (tag_Encode_C k) 0 (lpc Tryz.f45 0):=lpOk (k:=k) [5,27,28,29] (tag_Encode_l0_L k) (by kernel_rfl) (fun _ _ _ => rfl) fun K n vs m r h => by
 unfold tag_Encode_l0_L at h;split at h
 ·cases n
  ·cases h
  ·exact ⟨_,rfl,Eq.trans (by kernel_rfl) h⟩
 ·cases h
def tag_Encode_U (k:Nat) (vs:List Value) (m:Mem):Option (Sl × Value × Mem):=match vs with
 | [.agg ⟨p0⟩] => tag_Encode k p0 m
 | _ => none
theorem tag_Encode_ok (k:Nat):FOk Tryz.prog 45 Sh6 (tag_Encode_U k):=by
 intro vs m r h;unfold tag_Encode_U at h;split at h
 ·exact fnOk (C:=tag_Encode_C k) (tag_Encode_cs k) tOk mixed rfl Tryz.func45 (by kernel_rfl) (lps (cs:=[0]) (by kernel_rfl) ⟨tag_Encode_l0_ok k,trivial⟩) (noRanges (by kernel_rfl)) (Eq.trans (by kernel_rfl) h)
 ·cases h
def tag_Decode (k:Nat) (p0a:OA) (p0n:Nat) (p0c:Nat) (m:Mem):Option ((List Value) × Value × Mem) :=
 let m1:Mem:=m ++ [.live [.int .i64 0,.int .i64 0,.int .i64 0,.int .i64 0,.bool false]]
 bif ((p0n:Nat):Int) != 50 then (
 (stCells m1 ⟨List.length m,0,none⟩ [.int .i64 0,.int .i64 0,.int .i64 0,.int .i64 0,.bool false]).bind fun m2 =>
 (ldCells m2 ⟨List.length m,0,none⟩ 5).bind fun t3 =>
 some (t3,(Value.iface ty_api_Code (Value.int .i64 1)),m2)) else (
 bif inUpto 2 p0c then (
 (wire_Get k (sliceK.clear p0a false) (Int.toNat 2) p0c m1).bind fun r4 =>
 (isNil r4.2.1).bind fun b5 =>
 bif !b5 then (
 (stCells r4.2.2 ⟨List.length m,0,none⟩ [.int .i64 0,.int .i64 0,.int .i64 0,.int .i64 0,.bool false]).bind fun m6 =>
 (ldCells m6 ⟨List.length m,0,none⟩ 5).bind fun t7 =>
 some (t7,r4.2.1,m6)) else (
 bif sliceK.okZ p0a 1 false && inUpto 8 p0c && inUpto 3 (Int.toNat 8) then (
 (wire_Get k ((sliceK.clear p0a false).map fun a => plus a ((Int.toNat 3) * 1)) ((Int.toNat 8) - (Int.toNat 3)) (p0c - (Int.toNat 3)) r4.2.2).bind fun r8 =>
 (isNil r8.2.1).bind fun b9 =>
 bif !b9 then (
 (stCells r8.2.2 ⟨List.length m,0,none⟩ [.int .i64 0,.int .i64 0,.int .i64 0,.int .i64 0,.bool false]).bind fun m10 =>
 (ldCells m10 ⟨List.length m,0,none⟩ 5).bind fun t11 =>
 some (t11,r8.2.1,m10)) else (
 bif inRange 2 p0n then (
 (p0a).bind fun a12 =>
 (ldInt .u8 r8.2.2 (plus a12 (Int.toNat 2 * 1))).bind fun t13 =>
 bif inRange 8 p0n then (
 (p0a).bind fun a14 =>
 (ldInt .u8 r8.2.2 (plus a14 (Int.toNat 8 * 1))).bind fun t15 =>
 bif inRange 9 p0n then (
 (p0a).bind fun a16 =>
 (ldInt .u8 r8.2.2 (plus a16 (Int.toNat 9 * 1))).bind fun t17 =>
 let m18:Mem:=r8.2.2 ++ [.live [.int .i64 0,.int .i64 0,.int .i64 0,.int .i64 0,.bool false]]
 (stCells m18 ⟨List.length r8.2.2,0,none⟩ [(Value.int .i64 (IntKind.wrap .i64 r4.1)),(Value.int .i64 (IntKind.wrap .i64 t13)),(Value.int .i64 (IntKind.wrap .i64 r8.1)),(Value.int .i64 (IntKind.wrap .i64 t15)),(Value.bool (t17 == 1))]).bind fun m19 =>
 (ldInt .u8 m18 (plus a12 (Int.toNat 2 * 1))).bind fun t20 =>
 bif t20 == t13 then (
 (ldInt .u8 m18 (plus a14 (Int.toNat 8 * 1))).bind fun t21 =>
 bif t21 == t15 then (
 (ldInt .u8 m18 (plus a16 (Int.toNat 9 * 1))).bind fun t22 =>
 bif t22 == t17 then (
 (ldCells m19 ⟨List.length r8.2.2,0,none⟩ 5).bind fun t23 =>
 (tag_Encode k t23 m19).bind fun r24 =>
 (isNil r24.2.1).bind fun b25 =>
 bif !b25 then (
 (stCells r24.2.2 ⟨List.length m,0,none⟩ [.int .i64 0,.int .i64 0,.int .i64 0,.int .i64 0,.bool false]).bind fun m26 =>
 (ldCells m26 ⟨List.length m,0,none⟩ 5).bind fun t27 =>
 some (t27,(Value.iface ty_api_Code (Value.int .i64 3)),m26)) else (
 (bytes_Equal k r24.1.a r24.1.len r24.1.cap p0a p0n p0c r24.2.2).bind fun r28 =>
 bif !r28.1 then (
 (stCells r28.2 ⟨List.length m,0,none⟩ [.int .i64 0,.int .i64 0,.int .i64 0,.int .i64 0,.bool false]).bind fun m29 =>
 (ldCells m29 ⟨List.length m,0,none⟩ 5).bind fun t30 =>
 some (t30,(Value.iface ty_api_Code (Value.int .i64 3)),m29)) else (
 (ldCells r28.2 ⟨List.length r8.2.2,0,none⟩ 5).bind fun t31 =>
 bif Nat.beq (List.length t31) 5 then (
 (stCells r28.2 ⟨List.length m,0,none⟩ t31).bind fun m32 =>
 (ldCells m32 ⟨List.length m,0,none⟩ 5).bind fun t33 =>
 some (t33,Value.nilIface,m32)) else none))) else none) else none) else none) else none) else none) else none)) else none)) else none)
def tag_Decode_U (k:Nat) (vs:List Value) (m:Mem):Option ((List Value) × Value × Mem):=match vs with
 | [.slice p0a p0n p0c] => tag_Decode k p0a p0n p0c m
 | _ => none
theorem tag_Decode_ok (k:Nat):FOk Tryz.prog 43 Sh14 (tag_Decode_U k):=by
 intro vs m r h;unfold tag_Decode_U at h;split at h
 ·exact ok0 (cC (tag_Encode_ok k) <| cC (bytes_Equal_ok k) <| cC (wire_Get_ok k) <| cN) Tryz.func43 (by kernel_rfl) (Eq.trans (by kernel_rfl) h)
 ·cases h
end Go.Proofs.YtchonnaoojpdoaaGreat
