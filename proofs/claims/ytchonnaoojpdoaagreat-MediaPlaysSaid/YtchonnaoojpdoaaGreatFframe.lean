import Derived.Test.YtchonnaoojpdoaaGreatF1
import Derived.Test.YtchonnaoojpdoaaGreatPieces
import Derived.Test.YtchonnaoojpdoaaGreatFrs
import Derived.Test.YtchonnaoojpdoaaGreatFwire
set_option linter.unusedVariables false
set_option linter.defProp false
set_option maxRecDepth 100000
namespace Go.Proofs.YtchonnaoojpdoaaGreat
open Go.Mx
def frame_New (k:Nat) (m:Mem):Option ((OA) × Mem) :=
 (rs_New k  m).bind fun r1 =>
 let m2:Mem:=r1.2 ++ [.live [(Value.pointer r1.1)]]
 some ((some ⟨List.length r1.2,0,none⟩),m2)
def frame_New_U (k:Nat) (vs:List Value) (m:Mem):Option ((OA) × Mem):=match vs with
 | [] => frame_New k  m
 | _ => none
theorem frame_New_ok (k:Nat):FOk Tryz.prog 38 Sh2 (frame_New_U k):=by
 intro vs m r h;unfold frame_New_U at h;split at h
 ·exact ok0 (cC (rs_New_ok k) <| cN) Tryz.func38 (by kernel_rfl) (Eq.trans (by kernel_rfl) h)
 ·cases h
def frame_Frame_Message (k:Nat) (p0:OA) (p1a:OA) (p1n:Nat) (p1c:Nat) (p2:Int) (m:Mem):Option (Sl × Int × Value × Mem) :=
 bif ((p1n:Nat):Int) != 256 then (
 some ((⟨none,0,0⟩:Sl),0,(Value.iface ty_api_Code (Value.int .i64 1)),m)) else (
 bif decide (p2 < 0) then (
 some ((⟨none,0,0⟩:Sl),0,(Value.iface ty_api_Code (Value.int .i64 1)),m)) else (
 bif decide (p2 > 3) then (
 some ((⟨none,0,0⟩:Sl),0,(Value.iface ty_api_Code (Value.int .i64 1)),m)) else (
 (p0).bind fun a1 =>
 (ldPtr m (plus a1 0)).bind fun t2 =>
 bif sliceK.okZ p1a 1 false && inUpto (IntKind.wrap .i64 ((IntKind.wrap .i64 (p2 + 1)) * 64)) p1c && inUpto (IntKind.wrap .i64 (p2 * 64)) (Int.toNat (IntKind.wrap .i64 ((IntKind.wrap .i64 (p2 + 1)) * 64))) then (
 (rs_Codec_Decode k t2 ((sliceK.clear p1a false).map fun a => plus a ((Int.toNat (IntKind.wrap .i64 (p2 * 64))) * 1)) ((Int.toNat (IntKind.wrap .i64 ((IntKind.wrap .i64 (p2 + 1)) * 64))) - (Int.toNat (IntKind.wrap .i64 (p2 * 64)))) (p1c - (Int.toNat (IntKind.wrap .i64 (p2 * 64)))) m).bind fun r3 =>
 some ((⟨r3.1.a,r3.1.len,r3.1.cap⟩:Sl),r3.2.1,r3.2.2.1,r3.2.2.2)) else none)))
def frame_Frame_Message_U (k:Nat) (vs:List Value) (m:Mem):Option (Sl × Int × Value × Mem):=match vs with
 | [.pointer p0,.slice p1a p1n p1c,.int .i64 p2] => frame_Frame_Message k p0 p1a p1n p1c p2 m
 | _ => none
theorem frame_Frame_Message_ok (k:Nat):FOk Tryz.prog 41 Sh10 (frame_Frame_Message_U k):=by
 intro vs m r h;unfold frame_Frame_Message_U at h;split at h
 ·exact ok0 (cC (rs_Codec_Decode_ok k) <| cN) Tryz.func41 (by kernel_rfl) (Eq.trans (by kernel_rfl) h)
 ·cases h
def frame_Frame_Body (k:Nat) (p0:OA) (p1a:OA) (p1n:Nat) (p1c:Nat) (m:Mem):Option (Sl × Int × Value × Mem) :=
 (frame_Frame_Message k p0 p1a p1n p1c 3 m).bind fun r1 =>
 (isNil r1.2.2.1).bind fun b2 =>
 bif !b2 then (
 some ((⟨none,0,0⟩:Sl),0,r1.2.2.1,r1.2.2.2)) else (
 (wire_Open k r1.1.a r1.1.len r1.1.cap r1.2.2.2).bind fun r3 =>
 (isNil r3.2.1).bind fun b4 =>
 bif !b4 then (
 some ((⟨none,0,0⟩:Sl),0,r3.2.1,r3.2.2)) else (
 some ((⟨r3.1.a,r3.1.len,r3.1.cap⟩:Sl),r1.2.1,Value.nilIface,r3.2.2)))
def frame_Frame_Body_U (k:Nat) (vs:List Value) (m:Mem):Option (Sl × Int × Value × Mem):=match vs with
 | [.pointer p0,.slice p1a p1n p1c] => frame_Frame_Body k p0 p1a p1n p1c m
 | _ => none
theorem frame_Frame_Body_ok (k:Nat):FOk Tryz.prog 42 Sh10 (frame_Frame_Body_U k):=by
 intro vs m r h;unfold frame_Frame_Body_U at h;split at h
 ·exact ok0 (cC (frame_Frame_Message_ok k) <| cC (wire_Open_ok k) <| cN) Tryz.func42 (by kernel_rfl) (Eq.trans (by kernel_rfl) h)
 ·cases h
def frame_pieces (k:Nat) (p0a:OA) (p0n:Nat) (p0c:Nat) (p1:Int) (m:Mem):Option (Value × Mem) :=
 let m1:Mem:=m ++ [.live [(Value.slice p0a p0n p0c)]]
 let m2:Mem:=m1 ++ [.live [(Value.int .i64 p1)]]
 some ((Value.func (Fn.func 106) ⟨[]⟩ ⟨[(Value.pointer (some ⟨List.length m1,0,none⟩)),(Value.pointer (some ⟨List.length m,0,none⟩))]⟩),m2)
def frame_pieces_U (k:Nat) (vs:List Value) (m:Mem):Option (Value × Mem):=match vs with
 | [.slice p0a p0n p0c,.int .i64 p1] => frame_pieces k p0a p0n p0c p1 m
 | _ => none
theorem frame_pieces_ok (k:Nat):FOk Tryz.prog 76 Sh11 (frame_pieces_U k):=by
 intro vs m r h;unfold frame_pieces_U at h;split at h
 ·exact ok0 (cN) Tryz.func76 (by kernel_rfl) (Eq.trans (by kernel_rfl) h)
 ·cases h
def frame_Frame_Data_r0_b (k:Nat) (nx:Int → Mem → Option (Sl × Int × Value × Mem)) (kx1:Mem → Option (Sl × Int × Value × Mem)) (kx0:Mem → Option (Sl × Int × Value × Mem)) (gv:Value) (x2:Addr) (x4:Addr) (x5:Addr) (x6:Addr) (x7:Addr) (x8:Addr) (si:Int) (m:Mem):Option (Sl × Int × Value × Mem) :=
 pcsK 106 gv si m (kx1 m) fun sl sn =>
 (ldPtr m x2).bind fun t15 =>
 (t15).bind fun a16 =>
 (ldPtr m (plus a16 0)).bind fun t17 =>
 (rs_Codec_Decode k t17 sl.a sl.len sl.cap m).bind fun r18 =>
 (isNil r18.2.2.1).bind fun b19 =>
 bif !b19 then (
 (st r18.2.2.2 x4 (Value.slice none 0 0)).bind fun m20 =>
 (st m20 x5 (Value.int .i64 0)).bind fun m21 =>
 bif isOne r18.2.2.1 then (
 (st m21 x6 r18.2.2.1).bind fun m22 =>
 kx0 m22) else none) else (
 (ldSl r18.2.2.2 x7).bind fun t23 =>
 (rdSl r18.2.2.2 r18.1.a r18.1.len 1).bind fun l24 =>
 (appM 1 1 r18.2.2.2 t23.a t23.len t23.cap r18.1.len l24).bind fun r25 =>
 (st r25.2 x7 (Value.slice r25.1.a r25.1.len r25.1.cap)).bind fun m26 =>
 (ldInt .i64 m26 x8).bind fun t27 =>
 (st m26 x8 (Value.int .i64 (maxI t27 r18.2.1))).bind fun m28 =>
 nx sn m28)
def frame_Frame_Data_r0 (k:Nat) (kx1:Mem → Option (Sl × Int × Value × Mem)) (kx0:Mem → Option (Sl × Int × Value × Mem)) (gv:Value) (x2:Addr) (x4:Addr) (x5:Addr) (x6:Addr) (x7:Addr) (x8:Addr):Nat → Int → Mem → Option (Sl × Int × Value × Mem)
 | 0,_,_ => none
 | n + 1,si,m => frame_Frame_Data_r0_b k (fun si m => frame_Frame_Data_r0 k kx1 kx0 gv x2 x4 x5 x6 x7 x8 n si m) kx1 kx0 gv x2 x4 x5 x6 x7 x8 si m
theorem frame_Frame_Data_r0_rule (k:Nat) (kx1:Mem → Option (Sl × Int × Value × Mem)) (kx0:Mem → Option (Sl × Int × Value × Mem)) (gv:Value) (x2:Addr) (x4:Addr) (x5:Addr) (x6:Addr) (x7:Addr) (x8:Addr) {P:(Sl × Int × Value × Mem) → Prop} (I:Nat → Int → Mem → Prop)
 (step:∀ d (nx:Int → Mem → Option (Sl × Int × Value × Mem)) (si:Int) (m:Mem),I d si m → (∀ d' si m,d' < d → I d' si m → Ok (nx si m) P) → Ok (frame_Frame_Data_r0_b k nx kx1 kx0 gv x2 x4 x5 x6 x7 x8 si m) P) :
 ∀ n d si m,d < n → I d si m → Ok (frame_Frame_Data_r0 k kx1 kx0 gv x2 x4 x5 x6 x7 x8 n si m) P
 | 0,d,si,m,h,_ => absurd h (Nat.not_lt_zero _)
 | n + 1,d,si,m,h,hI => step d _ si m hI fun d' si m h' hI' => frame_Frame_Data_r0_rule k kx1 kx0 gv x2 x4 x5 x6 x7 x8 I step n d' si m (by omega) hI'
def frame_Frame_Data (k:Nat) (p0:OA) (p1a:OA) (p1n:Nat) (p1c:Nat) (m:Mem):Option (Sl × Int × Value × Mem) :=
 let m1:Mem:=m ++ [.live [(Value.pointer p0)]]
 let m2:Mem:=m1 ++ [.live [.slice none 0 0]]
 let m3:Mem:=m2 ++ [.live [.int .i64 0]]
 let m4:Mem:=m3 ++ [.live [.nilIface]]
 bif ((p1n:Nat):Int) != 256 then (
 (st m4 ⟨List.length m1,0,none⟩ (Value.slice none 0 0)).bind fun m5 =>
 (st m5 ⟨List.length m2,0,none⟩ (Value.int .i64 0)).bind fun m6 =>
 (st m6 ⟨List.length m3,0,none⟩ (Value.iface ty_api_Code (Value.int .i64 1))).bind fun m7 =>
 (ldSl m7 ⟨List.length m1,0,none⟩).bind fun t8 =>
 (ldInt .i64 m7 ⟨List.length m2,0,none⟩).bind fun t9 =>
 (ldVal m7 ⟨List.length m3,0,none⟩).bind fun t10 =>
 some ((⟨t8.a,t8.len,t8.cap⟩:Sl),t9,t10,m7)) else (
 let m11:Mem:=m4 ++ [.live [.slice none 0 0]]
 let m12:Mem:=m11 ++ [.live [.int .i64 0]]
 (st m12 ⟨List.length m11,0,none⟩ (Value.int .i64 0)).bind fun m13 =>
 bif inUpto 192 p1c then (
 (frame_pieces k (sliceK.clear p1a false) (Int.toNat 192) p1c 64 m13).bind fun r14 =>
 frame_Frame_Data_r0 k (fun m29 =>
 (ldSl m29 ⟨List.length m4,0,none⟩).bind fun t30 =>
 (ldInt .i64 m29 ⟨List.length m11,0,none⟩).bind fun t31 =>
 (st m29 ⟨List.length m1,0,none⟩ (Value.slice t30.a t30.len t30.cap)).bind fun m32 =>
 (st m32 ⟨List.length m2,0,none⟩ (Value.int .i64 t31)).bind fun m33 =>
 (st m33 ⟨List.length m3,0,none⟩ Value.nilIface).bind fun m34 =>
 (ldInt .i64 m32 ⟨List.length m11,0,none⟩).bind fun t35 =>
 bif t35 == t31 then (
 (ldSl m34 ⟨List.length m1,0,none⟩).bind fun t36 =>
 (ldInt .i64 m34 ⟨List.length m2,0,none⟩).bind fun t37 =>
 (ldVal m34 ⟨List.length m3,0,none⟩).bind fun t38 =>
 some ((⟨t36.a,t36.len,t36.cap⟩:Sl),t37,t38,m34)) else none) (fun m39 =>
 (ldSl m39 ⟨List.length m1,0,none⟩).bind fun t40 =>
 (ldInt .i64 m39 ⟨List.length m2,0,none⟩).bind fun t41 =>
 (ldVal m39 ⟨List.length m3,0,none⟩).bind fun t42 =>
 some ((⟨t40.a,t40.len,t40.cap⟩:Sl),t41,t42,m39)) r14.1 ⟨List.length m,0,none⟩ ⟨List.length m1,0,none⟩ ⟨List.length m2,0,none⟩ ⟨List.length m3,0,none⟩ ⟨List.length m4,0,none⟩ ⟨List.length m11,0,none⟩ k 0 r14.2) else none)
def frame_Frame_Data_cs (k:Nat):Cs Tryz.prog:=cC (rs_Codec_Decode_ok k) <| cC (frame_pieces_ok k) <| cN
def frame_Frame_Data_r0_Lp (k:Nat) (K:Nat → List Value → Mem → Option (Sl × Int × Value × Mem)) (n:Nat) (si:Int) (gv:Value) (vs:List Value) (m:Mem):Option (Sl × Int × Value × Mem):=match vs with
 | [.pointer (some x2),.pointer (some x4),.pointer (some x5),.pointer (some x6),.pointer (some x7),.pointer (some x8)] => frame_Frame_Data_r0 k (fun m => K 1 [(Value.pointer (some x2)),(Value.pointer (some x4)),(Value.pointer (some x5)),(Value.pointer (some x6)),(Value.pointer (some x7)),(Value.pointer (some x8))] m) (fun m => K 0 [(Value.pointer (some x2)),(Value.pointer (some x4)),(Value.pointer (some x5)),(Value.pointer (some x6)),(Value.pointer (some x7)),(Value.pointer (some x8))] m) gv x2 x4 x5 x6 x7 x8 n si m
 | _ => none
def frame_Frame_Data_r0_L (k:Nat) (K:Nat → List Value → Mem → Option (Sl × Int × Value × Mem)) (n:Nat) (vs:List Value) (m:Mem):Option (Sl × Int × Value × Mem):=match vs with
 | .int .i64 si :: gv :: vs => frame_Frame_Data_r0_Lp k K n si gv vs m
 | _ => none
def frame_Frame_Data_C (k:Nat):Ctx (Sl × Int × Value × Mem):=⟨tt,(frame_Frame_Data_cs k).call,lpOf [(0,fun K => frame_Frame_Data_r0_L k K k)],[(0,[2,4,5,6,7,8])],[]⟩
noncomputable def frame_Frame_Data_r0_q:Rng:=((rangesOf 0 (body Tryz.f44)).map (·.2)).getD 0 ⟨[],.skip,.skip⟩
theorem frame_Frame_Data_ranges:rangesOf 0 (body Tryz.f44) = [(0,frame_Frame_Data_r0_q)]:=by kernel_rfl
theorem frame_Frame_Data_r0_ok (k:Nat):RangeOk Tryz.prog (frame_Frame_Data_C k) 0 frame_Frame_Data_r0_q:=by
 refine ⟨106,[2,4,5,6,7,8],21,22,Pieces.pieces_iter,by kernel_rfl,by kernel_rfl,by kernel_rfl,by kernel_rfl,by kernel_rfl,fun K r => ⟨frame_Frame_Data_r0_Lp k K,fun s gv vs m h => ⟨k,h⟩,?_⟩⟩
 intro n s gv vs m h
 unfold frame_Frame_Data_r0_Lp at h
 split at h
 ·cases n with
  | zero => cases h
  | succ n => exact ⟨n,rfl,Eq.trans (by kernel_rfl) h⟩
 ·cases h
def frame_Frame_Data_U (k:Nat) (vs:List Value) (m:Mem):Option (Sl × Int × Value × Mem):=match vs with
 | [.pointer p0,.slice p1a p1n p1c] => frame_Frame_Data k p0 p1a p1n p1c m
 | _ => none
theorem frame_Frame_Data_ok (k:Nat):FOk Tryz.prog 44 Sh10 (frame_Frame_Data_U k):=by
 intro vs m r h;unfold frame_Frame_Data_U at h;split at h
 ·exact fnOk (C:=frame_Frame_Data_C k) (frame_Frame_Data_cs k) tOk mixed rfl Tryz.func44 (by kernel_rfl) (noLoops (by kernel_rfl)) (by intro p hp;rw [frame_Frame_Data_ranges] at hp;simp only [List.mem_cons,List.not_mem_nil,or_false] at hp;subst hp;exact frame_Frame_Data_r0_ok k) (Eq.trans (by kernel_rfl) h)
 ·cases h
def frame_Frame_Lay_r0_b (k:Nat) (nx:Int → Mem → Option (Sl × Value × Mem)) (kx1:Mem → Option (Sl × Value × Mem)) (kx0:Mem → Option (Sl × Value × Mem)) (gv:Value) (x3:Addr) (x6:Addr) (x7:Addr) (x10:Addr) (si:Int) (m:Mem):Option (Sl × Value × Mem) :=
 pcsK 106 gv si m (kx1 m) fun sl sn =>
 (ldPtr m x3).bind fun t20 =>
 (t20).bind fun a21 =>
 (ldPtr m (plus a21 0)).bind fun t22 =>
 (rs_Codec_Encode k t22 sl.a sl.len sl.cap m).bind fun r23 =>
 (isNil r23.2.1).bind fun b24 =>
 bif !b24 then (
 (st r23.2.2 x6 (Value.slice none 0 0)).bind fun m25 =>
 bif isOne r23.2.1 then (
 (st m25 x7 r23.2.1).bind fun m26 =>
 kx0 m26) else none) else (
 (ldSl r23.2.2 x10).bind fun t27 =>
 let m28:Mem:=r23.2.2 ++ [.live [(Value.slice r23.1.a r23.1.len r23.1.cap)]]
 (rdSl m28 (some ⟨List.length r23.2.2,0,none⟩) 1 1).bind fun l29 =>
 (appM 1 24 m28 t27.a t27.len t27.cap 1 l29).bind fun r30 =>
 (st r30.2 x10 (Value.slice r30.1.a r30.1.len r30.1.cap)).bind fun m31 =>
 nx sn m31)
def frame_Frame_Lay_r0 (k:Nat) (kx1:Mem → Option (Sl × Value × Mem)) (kx0:Mem → Option (Sl × Value × Mem)) (gv:Value) (x3:Addr) (x6:Addr) (x7:Addr) (x10:Addr):Nat → Int → Mem → Option (Sl × Value × Mem)
 | 0,_,_ => none
 | n + 1,si,m => frame_Frame_Lay_r0_b k (fun si m => frame_Frame_Lay_r0 k kx1 kx0 gv x3 x6 x7 x10 n si m) kx1 kx0 gv x3 x6 x7 x10 si m
theorem frame_Frame_Lay_r0_rule (k:Nat) (kx1:Mem → Option (Sl × Value × Mem)) (kx0:Mem → Option (Sl × Value × Mem)) (gv:Value) (x3:Addr) (x6:Addr) (x7:Addr) (x10:Addr) {P:(Sl × Value × Mem) → Prop} (I:Nat → Int → Mem → Prop)
 (step:∀ d (nx:Int → Mem → Option (Sl × Value × Mem)) (si:Int) (m:Mem),I d si m → (∀ d' si m,d' < d → I d' si m → Ok (nx si m) P) → Ok (frame_Frame_Lay_r0_b k nx kx1 kx0 gv x3 x6 x7 x10 si m) P) :
 ∀ n d si m,d < n → I d si m → Ok (frame_Frame_Lay_r0 k kx1 kx0 gv x3 x6 x7 x10 n si m) P
 | 0,d,si,m,h,_ => absurd h (Nat.not_lt_zero _)
 | n + 1,d,si,m,h,hI => step d _ si m hI fun d' si m h' hI' => frame_Frame_Lay_r0_rule k kx1 kx0 gv x3 x6 x7 x10 I step n d' si m (by omega) hI'
def frame_Frame_Lay (k:Nat) (p0:OA) (p1a:OA) (p1n:Nat) (p1c:Nat) (p2a:OA) (p2n:Nat) (p2c:Nat) (m:Mem):Option (Sl × Value × Mem) :=
 let m1:Mem:=m ++ [.live [(Value.pointer p0)]]
 let m2:Mem:=m1 ++ [.live [.slice none 0 0]]
 let m3:Mem:=m2 ++ [.live [.nilIface]]
 bif ((p1n:Nat):Int) != 174 then (
 (st m3 ⟨List.length m1,0,none⟩ (Value.slice none 0 0)).bind fun m4 =>
 (st m4 ⟨List.length m2,0,none⟩ (Value.iface ty_api_Code (Value.int .i64 1))).bind fun m5 =>
 (ldSl m5 ⟨List.length m1,0,none⟩).bind fun t6 =>
 (ldVal m5 ⟨List.length m2,0,none⟩).bind fun t7 =>
 some ((⟨t6.a,t6.len,t6.cap⟩:Sl),t7,m5)) else (
 (wire_Seal k p2a p2n p2c m3).bind fun r8 =>
 (isNil r8.2.1).bind fun b9 =>
 bif !b9 then (
 (st r8.2.2 ⟨List.length m1,0,none⟩ (Value.slice none 0 0)).bind fun m10 =>
 bif isOne r8.2.1 then (
 (st m10 ⟨List.length m2,0,none⟩ r8.2.1).bind fun m11 =>
 (ldSl m11 ⟨List.length m1,0,none⟩).bind fun t12 =>
 (ldVal m11 ⟨List.length m2,0,none⟩).bind fun t13 =>
 some ((⟨t12.a,t12.len,t12.cap⟩:Sl),t13,m11)) else none) else (
 let m14:Mem:=r8.2.2 ++ [.live [.slice none 0 0]]
 (rdSl m14 p1a p1n 1).bind fun l15 =>
 (appM 1 1 m14 none 0 0 p1n l15).bind fun r16 =>
 (rdSl r16.2 r8.1.a r8.1.len 1).bind fun l17 =>
 (appM 1 1 r16.2 r16.1.a r16.1.len r16.1.cap r8.1.len l17).bind fun r18 =>
 (frame_pieces k r18.1.a r18.1.len r18.1.cap 58 r18.2).bind fun r19 =>
 frame_Frame_Lay_r0 k (fun m32 =>
 (ldSl m32 ⟨List.length r8.2.2,0,none⟩).bind fun t33 =>
 (st m32 ⟨List.length m1,0,none⟩ (Value.slice t33.a t33.len t33.cap)).bind fun m34 =>
 (st m34 ⟨List.length m2,0,none⟩ Value.nilIface).bind fun m35 =>
 (ldSl m35 ⟨List.length m1,0,none⟩).bind fun t36 =>
 (ldVal m35 ⟨List.length m2,0,none⟩).bind fun t37 =>
 some ((⟨t36.a,t36.len,t36.cap⟩:Sl),t37,m35)) (fun m38 =>
 (ldSl m38 ⟨List.length m1,0,none⟩).bind fun t39 =>
 (ldVal m38 ⟨List.length m2,0,none⟩).bind fun t40 =>
 some ((⟨t39.a,t39.len,t39.cap⟩:Sl),t40,m38)) r19.1 ⟨List.length m,0,none⟩ ⟨List.length m1,0,none⟩ ⟨List.length m2,0,none⟩ ⟨List.length r8.2.2,0,none⟩ k 0 r19.2))
def frame_Frame_Lay_cs (k:Nat):Cs Tryz.prog:=cC (frame_pieces_ok k) <| cC (wire_Seal_ok k) <| cC (rs_Codec_Encode_ok k) <| cN
def frame_Frame_Lay_r0_Lp (k:Nat) (K:Nat → List Value → Mem → Option (Sl × Value × Mem)) (n:Nat) (si:Int) (gv:Value) (vs:List Value) (m:Mem):Option (Sl × Value × Mem):=match vs with
 | [.pointer (some x3),.pointer (some x6),.pointer (some x7),.pointer (some x10)] => frame_Frame_Lay_r0 k (fun m => K 1 [(Value.pointer (some x3)),(Value.pointer (some x6)),(Value.pointer (some x7)),(Value.pointer (some x10))] m) (fun m => K 0 [(Value.pointer (some x3)),(Value.pointer (some x6)),(Value.pointer (some x7)),(Value.pointer (some x10))] m) gv x3 x6 x7 x10 n si m
 | _ => none
def frame_Frame_Lay_r0_L (k:Nat) (K:Nat → List Value → Mem → Option (Sl × Value × Mem)) (n:Nat) (vs:List Value) (m:Mem):Option (Sl × Value × Mem):=match vs with
 | .int .i64 si :: gv :: vs => frame_Frame_Lay_r0_Lp k K n si gv vs m
 | _ => none
def frame_Frame_Lay_C (k:Nat):Ctx (Sl × Value × Mem):=⟨tt,(frame_Frame_Lay_cs k).call,lpOf [(0,fun K => frame_Frame_Lay_r0_L k K k)],[(0,[3,6,7,10])],[]⟩
noncomputable def frame_Frame_Lay_r0_q:Rng:=((rangesOf 0 (body Tryz.f46)).map (·.2)).getD 0 ⟨[],.skip,.skip⟩
theorem frame_Frame_Lay_ranges:rangesOf 0 (body Tryz.f46) = [(0,frame_Frame_Lay_r0_q)]:=by kernel_rfl
theorem frame_Frame_Lay_r0_ok (k:Nat):RangeOk Tryz.prog (frame_Frame_Lay_C k) 0 frame_Frame_Lay_r0_q:=by
 refine ⟨106,[3,6,7,10],32,33,Pieces.pieces_iter,by kernel_rfl,by kernel_rfl,by kernel_rfl,by kernel_rfl,by kernel_rfl,fun K r => ⟨frame_Frame_Lay_r0_Lp k K,fun s gv vs m h => ⟨k,h⟩,?_⟩⟩
 intro n s gv vs m h
 unfold frame_Frame_Lay_r0_Lp at h
 split at h
 ·cases n with
  | zero => cases h
  | succ n => exact ⟨n,rfl,Eq.trans (by kernel_rfl) h⟩
 ·cases h
def frame_Frame_Lay_U (k:Nat) (vs:List Value) (m:Mem):Option (Sl × Value × Mem):=match vs with
 | [.pointer p0,.slice p1a p1n p1c,.slice p2a p2n p2c] => frame_Frame_Lay k p0 p1a p1n p1c p2a p2n p2c m
 | _ => none
theorem frame_Frame_Lay_ok (k:Nat):FOk Tryz.prog 46 Sh6 (frame_Frame_Lay_U k):=by
 intro vs m r h;unfold frame_Frame_Lay_U at h;split at h
 ·exact fnOk (C:=frame_Frame_Lay_C k) (frame_Frame_Lay_cs k) tOk mixed rfl Tryz.func46 (by kernel_rfl) (noLoops (by kernel_rfl)) (by intro p hp;rw [frame_Frame_Lay_ranges] at hp;simp only [List.mem_cons,List.not_mem_nil,or_false] at hp;subst hp;exact frame_Frame_Lay_r0_ok k) (Eq.trans (by kernel_rfl) h)
 ·cases h
end Go.Proofs.YtchonnaoojpdoaaGreat
