import Derived.Test.YtchonnaoojpdoaaGreatF1
set_option linter.unusedVariables false
set_option linter.defProp false
set_option maxRecDepth 100000
namespace Go.Proofs.YtchonnaoojpdoaaGreat
open Go.Mx
def patinaref05_blank_l0_b (k:Nat) (nx:OA → Nat → Nat → Int → Mem → Option (Sl × Mem)) (kx2:OA → Nat → Nat → Mem → Option (Sl × Mem)) (x1a:OA) (x1n:Nat) (x1c:Nat) (x2:Int) (m:Mem):Option (Sl × Mem) :=
 bif decide (x2 < 64) then (
 bif inRange x2 x1n then (
 (x1a).bind fun a2 =>
 (st m (plus a2 (Int.toNat x2 * 1)) (Value.int .u8 255)).bind fun m3 =>
 nx x1a x1n x1c (IntKind.wrap .i64 (x2 + 1)) m3) else none) else (
 kx2 x1a x1n x1c m)
def patinaref05_blank_l0 (k:Nat) kx2:=it5 fun nx => patinaref05_blank_l0_b k nx kx2
def patinaref05_blank_l0_rule (k:Nat) kx2 {P}:=it5_rule (P:=P) (f:=fun nx => patinaref05_blank_l0_b k nx kx2)
def patinaref05_blank (k:Nat) (m:Mem):Option (Sl × Mem) :=
 let m1:Mem:=m ++ [.live (repl (Int.toNat 64) [.int .u8 0])]
 patinaref05_blank_l0 k (fun y1a y1n y1c m4 =>
 some ((⟨y1a,y1n,y1c⟩:Sl),m4)) k (some ⟨List.length m,0,none⟩) (Int.toNat 64) (Int.toNat 64) 0 m1
def patinaref05_blank_cs (k:Nat):Cs Tryz.prog:=cN
def patinaref05_blank_l0_L (k:Nat) (K:KT (Sl × Mem)) (n:Nat) (vs:List Value) (m:Mem):Option (Sl × Mem):=match vs with
 | [.slice x1a x1n x1c,.int .i64 x2] => patinaref05_blank_l0 k (fun y1a y1n y1c m => K 2 [(Value.slice y1a y1n y1c)] m) n x1a x1n x1c x2 m
 | _ => none
def patinaref05_blank_C (k:Nat):Ctx (Sl × Mem):=⟨tt,(patinaref05_blank_cs k).call,lpOf [(0,fun K => patinaref05_blank_l0_L k K k)],[(0,[1,2])],[(2,[1])]⟩
theorem patinaref05_blank_l0_ok (k:Nat):LoopOk (patinaref05_blank_C k) 0 (lpc Tryz.f86 0):=lpOk (k:=k) [1,2] (patinaref05_blank_l0_L k) (by kernel_rfl) (fun _ _ _ => rfl) fun K n vs m r h => by
 unfold patinaref05_blank_l0_L at h;split at h
 ·cases n
  ·cases h
  ·exact ⟨_,rfl,Eq.trans (by kernel_rfl) h⟩
 ·cases h
def patinaref05_blank_U (k:Nat) (vs:List Value) (m:Mem):Option (Sl × Mem):=match vs with
 | [] => patinaref05_blank k  m
 | _ => none
theorem patinaref05_blank_ok (k:Nat):FOk Tryz.prog 86 Sh4 (patinaref05_blank_U k):=by
 intro vs m r h;unfold patinaref05_blank_U at h;split at h
 ·exact fnOk (C:=patinaref05_blank_C k) (patinaref05_blank_cs k) tOk mixed rfl Tryz.func86 (by kernel_rfl) (lps (cs:=[0]) (by kernel_rfl) ⟨patinaref05_blank_l0_ok k,trivial⟩) (noRanges (by kernel_rfl)) (Eq.trans (by kernel_rfl) h)
 ·cases h
def patinaref05_chunks_l0_b (k:Nat) (nx:OA → Nat → Nat → Int → Mem → Option (Sl × Mem)) (kx2:OA → Nat → Nat → Mem → Option (Sl × Mem)) (x1a:OA) (x1n:Nat) (x1c:Nat) (x2:Int) (m:Mem):Option (Sl × Mem) :=
 bif decide (x2 < 32) then (
 (patinaref05_blank k  m).bind fun r1 =>
 (patinaref05_blank k  r1.2).bind fun r2 =>
 let m3:Mem:=r2.2 ++ [.live [(Value.slice r1.1.a r1.1.len r1.1.cap),(Value.slice r2.1.a r2.1.len r2.1.cap),.bool false,.int .i64 0]]
 (rdSl m3 (some ⟨List.length r2.2,0,none⟩) 1 4).bind fun l4 =>
 (appM 4 64 m3 x1a x1n x1c 1 l4).bind fun r5 =>
 nx r5.1.a r5.1.len r5.1.cap (IntKind.wrap .i64 (x2 + 1)) r5.2) else (
 kx2 x1a x1n x1c m)
def patinaref05_chunks_l0 (k:Nat) kx2:=it5 fun nx => patinaref05_chunks_l0_b k nx kx2
def patinaref05_chunks_l0_rule (k:Nat) kx2 {P}:=it5_rule (P:=P) (f:=fun nx => patinaref05_chunks_l0_b k nx kx2)
def patinaref05_chunks (k:Nat) (m:Mem):Option (Sl × Mem) :=
 patinaref05_chunks_l0 k (fun y1a y1n y1c m6 =>
 some ((⟨y1a,y1n,y1c⟩:Sl),m6)) k none 0 0 0 m
def patinaref05_chunks_cs (k:Nat):Cs Tryz.prog:=cC (patinaref05_blank_ok k) <| cN
def patinaref05_chunks_l0_L (k:Nat) (K:KT (Sl × Mem)) (n:Nat) (vs:List Value) (m:Mem):Option (Sl × Mem):=match vs with
 | [.slice x1a x1n x1c,.int .i64 x2] => patinaref05_chunks_l0 k (fun y1a y1n y1c m => K 2 [(Value.slice y1a y1n y1c)] m) n x1a x1n x1c x2 m
 | _ => none
def patinaref05_chunks_C (k:Nat):Ctx (Sl × Mem):=⟨tt,(patinaref05_chunks_cs k).call,lpOf [(0,fun K => patinaref05_chunks_l0_L k K k)],[(0,[1,2])],[(2,[1])]⟩
theorem patinaref05_chunks_l0_ok (k:Nat):LoopOk (patinaref05_chunks_C k) 0 (lpc Tryz.f51 0):=lpOk (k:=k) [1,2] (patinaref05_chunks_l0_L k) (by kernel_rfl) (fun _ _ _ => rfl) fun K n vs m r h => by
 unfold patinaref05_chunks_l0_L at h;split at h
 ·cases n
  ·cases h
  ·exact ⟨_,rfl,Eq.trans (by kernel_rfl) h⟩
 ·cases h
def patinaref05_chunks_U (k:Nat) (vs:List Value) (m:Mem):Option (Sl × Mem):=match vs with
 | [] => patinaref05_chunks k  m
 | _ => none
theorem patinaref05_chunks_ok (k:Nat):FOk Tryz.prog 51 Sh4 (patinaref05_chunks_U k):=by
 intro vs m r h;unfold patinaref05_chunks_U at h;split at h
 ·exact fnOk (C:=patinaref05_chunks_C k) (patinaref05_chunks_cs k) tOk mixed rfl Tryz.func51 (by kernel_rfl) (lps (cs:=[0]) (by kernel_rfl) ⟨patinaref05_chunks_l0_ok k,trivial⟩) (noRanges (by kernel_rfl)) (Eq.trans (by kernel_rfl) h)
 ·cases h
def patinaref05_New_l0_b (k:Nat) (nx:Addr → Int → Mem → Option ((OA) × Mem)) (kx2:Addr → Mem → Option ((OA) × Mem)) (x1:Addr) (x2:Int) (m:Mem):Option ((OA) × Mem) :=
 bif decide (x2 < 12) then (
 (ldSl m (plus x1 0)).bind fun t2 =>
 (patinaref05_chunks k  m).bind fun r3 =>
 let m4:Mem:=r3.2 ++ [.live [(Value.slice r3.1.a r3.1.len r3.1.cap),.int .i64 0,.bool false,(Value.int .i64 (-1)),.bool false]]
 (rdSl m4 (some ⟨List.length r3.2,0,none⟩) 1 5).bind fun l5 =>
 (appM 5 56 m4 t2.a t2.len t2.cap 1 l5).bind fun r6 =>
 (st r6.2 (plus x1 0) (Value.slice r6.1.a r6.1.len r6.1.cap)).bind fun m7 =>
 (ldSl r3.2 (plus x1 0)).bind fun t8 =>
 bif decide (t8.a = t2.a) && Nat.beq t8.len t2.len && Nat.beq t8.cap t2.cap then (
 (ldSl m4 (plus x1 0)).bind fun t9 =>
 bif decide (t9.a = t2.a) && Nat.beq t9.len t2.len && Nat.beq t9.cap t2.cap then (
 nx x1 (IntKind.wrap .i64 (x2 + 1)) m7) else none) else none) else (
 kx2 x1 m)
def patinaref05_New_l0 (k:Nat) kx2:=it3 fun nx => patinaref05_New_l0_b k nx kx2
def patinaref05_New_l0_rule (k:Nat) kx2 {P}:=it3_rule (P:=P) (f:=fun nx => patinaref05_New_l0_b k nx kx2)
def patinaref05_New (k:Nat) (m:Mem):Option ((OA) × Mem) :=
 let m1:Mem:=m ++ [.live [.slice none 0 0,(Value.bool true),(Value.int .i64 (-1)),.int .i64 0]]
 patinaref05_New_l0 k (fun y1 m10 =>
 some ((some y1),m10)) k ⟨List.length m,0,none⟩ 0 m1
def patinaref05_New_cs (k:Nat):Cs Tryz.prog:=cC (patinaref05_chunks_ok k) <| cN
def patinaref05_New_l0_L (k:Nat) (K:KT ((OA) × Mem)) (n:Nat) (vs:List Value) (m:Mem):Option ((OA) × Mem):=match vs with
 | [.pointer (some x1),.int .i64 x2] => patinaref05_New_l0 k (fun y1 m => K 2 [(Value.pointer (some y1))] m) n x1 x2 m
 | _ => none
def patinaref05_New_C (k:Nat):Ctx ((OA) × Mem):=⟨tt,(patinaref05_New_cs k).call,lpOf [(0,fun K => patinaref05_New_l0_L k K k)],[(0,[1,2])],[(2,[1])]⟩
theorem patinaref05_New_l0_ok (k:Nat):LoopOk (patinaref05_New_C k) 0 (lpc Tryz.f20 0):=lpOk (k:=k) [1,2] (patinaref05_New_l0_L k) (by kernel_rfl) (fun _ _ _ => rfl) fun K n vs m r h => by
 unfold patinaref05_New_l0_L at h;split at h
 ·cases n
  ·cases h
  ·exact ⟨_,rfl,Eq.trans (by kernel_rfl) h⟩
 ·cases h
def patinaref05_New_U (k:Nat) (vs:List Value) (m:Mem):Option ((OA) × Mem):=match vs with
 | [] => patinaref05_New k  m
 | _ => none
theorem patinaref05_New_ok (k:Nat):FOk Tryz.prog 20 Sh2 (patinaref05_New_U k):=by
 intro vs m r h;unfold patinaref05_New_U at h;split at h
 ·exact fnOk (C:=patinaref05_New_C k) (patinaref05_New_cs k) tOk mixed rfl Tryz.func20 (by kernel_rfl) (lps (cs:=[0]) (by kernel_rfl) ⟨patinaref05_New_l0_ok k,trivial⟩) (noRanges (by kernel_rfl)) (Eq.trans (by kernel_rfl) h)
 ·cases h
def patinaref05_isPage (k:Nat) (p0:Int) (m:Mem):Option (Bool × Mem) :=
 bif decide (p0 ≥ 0) then (
 some (decide (p0 < 96),m)) else (
 some (false,m))
def patinaref05_isPage_U (k:Nat) (vs:List Value) (m:Mem):Option (Bool × Mem):=match vs with
 | [.int .i64 p0] => patinaref05_isPage k p0 m
 | _ => none
theorem patinaref05_isPage_ok (k:Nat):FOk Tryz.prog 90 Sh12 (patinaref05_isPage_U k):=by
 intro vs m r h;unfold patinaref05_isPage_U at h;split at h
 ·exact ok0 (cN) Tryz.func90 (by kernel_rfl) (Eq.trans (by kernel_rfl) h)
 ·cases h
def patinaref05_Chip_chunk (k:Nat) (p0:OA) (p1:Int) (p2:Int) (m:Mem):Option ((OA) × Mem) :=
 (p0).bind fun a1 =>
 (ldSl m (plus a1 0)).bind fun t2 =>
 bif inRange (IntKind.wrap .i64 (Int.tdiv p1 8)) t2.len then (
 (t2.a).bind fun a3 =>
 (ldSl m (plus (plus a3 (Int.toNat (IntKind.wrap .i64 (Int.tdiv p1 8)) * 5)) 0)).bind fun t4 =>
 bif inRange (IntKind.wrap .i64 ((IntKind.wrap .i64 ((Int.tmod p1 8) * 4)) + p2)) t4.len then (
 (t4.a).bind fun a5 =>
 some ((some (plus a5 (Int.toNat (IntKind.wrap .i64 ((IntKind.wrap .i64 ((Int.tmod p1 8) * 4)) + p2)) * 4))),m)) else none) else none
def patinaref05_Chip_chunk_U (k:Nat) (vs:List Value) (m:Mem):Option ((OA) × Mem):=match vs with
 | [.pointer p0,.int .i64 p1,.int .i64 p2] => patinaref05_Chip_chunk k p0 p1 p2 m
 | _ => none
theorem patinaref05_Chip_chunk_ok (k:Nat):FOk Tryz.prog 91 Sh2 (patinaref05_Chip_chunk_U k):=by
 intro vs m r h;unfold patinaref05_Chip_chunk_U at h;split at h
 ·exact ok0 (cN) Tryz.func91 (by kernel_rfl) (Eq.trans (by kernel_rfl) h)
 ·cases h
def patinaref05_Chip_Page_l0_b (k:Nat) (nx:OA → Int → OA → Nat → Nat → Int → Mem → Option (Sl × Mem)) (kx2:OA → Nat → Nat → Mem → Option (Sl × Mem)) (x0:OA) (x1:Int) (x5a:OA) (x5n:Nat) (x5c:Nat) (x6:Int) (m:Mem):Option (Sl × Mem) :=
 bif decide (x6 < 4) then (
 (patinaref05_Chip_chunk k x0 x1 x6 m).bind fun r1 =>
 (r1.1).bind fun a2 =>
 (ldSl r1.2 (plus a2 0)).bind fun t3 =>
 (rdSl r1.2 t3.a t3.len 1).bind fun l4 =>
 (appM 1 1 r1.2 x5a x5n x5c t3.len l4).bind fun r5 =>
 nx x0 x1 r5.1.a r5.1.len r5.1.cap (IntKind.wrap .i64 (x6 + 1)) r5.2) else (
 kx2 x5a x5n x5c m)
def patinaref05_Chip_Page_l0 (k:Nat) kx2:=it7 fun nx => patinaref05_Chip_Page_l0_b k nx kx2
def patinaref05_Chip_Page_l0_rule (k:Nat) kx2 {P}:=it7_rule (P:=P) (f:=fun nx => patinaref05_Chip_Page_l0_b k nx kx2)
def patinaref05_Chip_Page (k:Nat) (p0:OA) (p1:Int) (m:Mem):Option (Sl × Mem) :=
 patinaref05_Chip_Page_l0 k (fun y5a y5n y5c m6 =>
 some ((⟨y5a,y5n,y5c⟩:Sl),m6)) k p0 p1 none 0 0 0 m
def patinaref05_Chip_Page_cs (k:Nat):Cs Tryz.prog:=cC (patinaref05_Chip_chunk_ok k) <| cN
def patinaref05_Chip_Page_l0_L (k:Nat) (K:KT (Sl × Mem)) (n:Nat) (vs:List Value) (m:Mem):Option (Sl × Mem):=match vs with
 | [.pointer x0,.int .i64 x1,.slice x5a x5n x5c,.int .i64 x6] => patinaref05_Chip_Page_l0 k (fun y5a y5n y5c m => K 2 [(Value.slice y5a y5n y5c)] m) n x0 x1 x5a x5n x5c x6 m
 | _ => none
def patinaref05_Chip_Page_C (k:Nat):Ctx (Sl × Mem):=⟨tt,(patinaref05_Chip_Page_cs k).call,lpOf [(0,fun K => patinaref05_Chip_Page_l0_L k K k)],[(0,[0,1,5,6])],[(2,[5])]⟩
theorem patinaref05_Chip_Page_l0_ok (k:Nat):LoopOk (patinaref05_Chip_Page_C k) 0 (lpc Tryz.f92 0):=lpOk (k:=k) [0,1,5,6] (patinaref05_Chip_Page_l0_L k) (by kernel_rfl) (fun _ _ _ => rfl) fun K n vs m r h => by
 unfold patinaref05_Chip_Page_l0_L at h;split at h
 ·cases n
  ·cases h
  ·exact ⟨_,rfl,Eq.trans (by kernel_rfl) h⟩
 ·cases h
def patinaref05_Chip_Page_U (k:Nat) (vs:List Value) (m:Mem):Option (Sl × Mem):=match vs with
 | [.pointer p0,.int .i64 p1] => patinaref05_Chip_Page k p0 p1 m
 | _ => none
theorem patinaref05_Chip_Page_ok (k:Nat):FOk Tryz.prog 92 Sh4 (patinaref05_Chip_Page_U k):=by
 intro vs m r h;unfold patinaref05_Chip_Page_U at h;split at h
 ·exact fnOk (C:=patinaref05_Chip_Page_C k) (patinaref05_Chip_Page_cs k) tOk mixed rfl Tryz.func92 (by kernel_rfl) (lps (cs:=[0]) (by kernel_rfl) ⟨patinaref05_Chip_Page_l0_ok k,trivial⟩) (noRanges (by kernel_rfl)) (Eq.trans (by kernel_rfl) h)
 ·cases h
def patinaref05_Chip_Read (k:Nat) (p0:OA) (p1:Int) (m:Mem):Option (Sl × Int × Mem) :=
 (patinaref05_isPage k p1 m).bind fun r1 =>
 bif !r1.1 then (
 some ((⟨none,0,0⟩:Sl),1,r1.2)) else (
 (p0).bind fun a2 =>
 (ldBool r1.2 (plus a2 1)).bind fun t3 =>
 bif !t3 then (
 some ((⟨none,0,0⟩:Sl),7,r1.2)) else (
 (p0).bind fun a4 =>
 (ldSl r1.2 (plus a4 0)).bind fun t5 =>
 bif inRange (IntKind.wrap .i64 (Int.tdiv p1 8)) t5.len then (
 (t5.a).bind fun a6 =>
 (ldInt .i64 r1.2 (plus (plus a6 (Int.toNat (IntKind.wrap .i64 (Int.tdiv p1 8)) * 5)) 1)).bind fun t7 =>
 bif inRange (IntKind.wrap .i64 (Int.tdiv p1 8)) t5.len then (
 (t5.a).bind fun a8 =>
 (st r1.2 (plus (plus a8 (Int.toNat (IntKind.wrap .i64 (Int.tdiv p1 8)) * 5)) 1) (Value.int .i64 (IntKind.wrap .i64 (t7 + 1)))).bind fun m9 =>
 (patinaref05_Chip_Page k p0 p1 m9).bind fun r10 =>
 some ((⟨r10.1.a,r10.1.len,r10.1.cap⟩:Sl),0,r10.2)) else none) else none))
def patinaref05_Chip_Read_U (k:Nat) (vs:List Value) (m:Mem):Option (Sl × Int × Mem):=match vs with
 | [.pointer p0,.int .i64 p1] => patinaref05_Chip_Read k p0 p1 m
 | _ => none
theorem patinaref05_Chip_Read_ok (k:Nat):FOk Tryz.prog 58 Sh15 (patinaref05_Chip_Read_U k):=by
 intro vs m r h;unfold patinaref05_Chip_Read_U at h;split at h
 ·exact ok0 (cC (patinaref05_isPage_ok k) <| cC (patinaref05_Chip_Page_ok k) <| cN) Tryz.func58 (by kernel_rfl) (Eq.trans (by kernel_rfl) h)
 ·cases h
def patinaref05_Chip_step_j1 (k:Nat) (p0:OA) (mj:Mem):Option (Bool × Mem) :=
 (p0).bind fun a5 =>
 (ldInt .i64 mj (plus a5 3)).bind fun t6 =>
 (p0).bind fun a7 =>
 (st mj (plus a7 3) (Value.int .i64 (IntKind.wrap .i64 (t6 + 1)))).bind fun m8 =>
 some (true,m8)
def patinaref05_Chip_step (k:Nat) (p0:OA) (m:Mem):Option (Bool × Mem) :=
 (p0).bind fun a1 =>
 (ldInt .i64 m (plus a1 2)).bind fun t2 =>
 bif t2 == 0 then (
 (p0).bind fun a3 =>
 (st m (plus a3 1) (Value.bool false)).bind fun m4 =>
 some (false,m4)) else (
 (p0).bind fun a9 =>
 (ldInt .i64 m (plus a9 2)).bind fun t10 =>
 bif decide (t10 > 0) then (
 (p0).bind fun a11 =>
 (ldInt .i64 m (plus a11 2)).bind fun t12 =>
 (p0).bind fun a13 =>
 (st m (plus a13 2) (Value.int .i64 (IntKind.wrap .i64 (t12 - 1)))).bind fun m14 =>
 patinaref05_Chip_step_j1 k p0 m14) else (
 patinaref05_Chip_step_j1 k p0 m))
def patinaref05_Chip_step_U (k:Nat) (vs:List Value) (m:Mem):Option (Bool × Mem):=match vs with
 | [.pointer p0] => patinaref05_Chip_step k p0 m
 | _ => none
theorem patinaref05_Chip_step_ok (k:Nat):FOk Tryz.prog 61 Sh12 (patinaref05_Chip_step_U k):=by
 intro vs m r h;unfold patinaref05_Chip_step_U at h;split at h
 ·exact ok0 (cN) Tryz.func61 (by kernel_rfl) (Eq.trans (by kernel_rfl) h)
 ·cases h
def patinaref05_Chip_Write_j2 (k:Nat) (p1:Int) (p3a:OA) (p3n:Nat) (r4:(OA) × Mem) (a10:Addr) (mj:Mem):Option (Int × Mem) :=
 (ldBool mj (plus (plus a10 (Int.toNat (IntKind.wrap .i64 (Int.tdiv p1 8)) * 5)) 2)).bind fun t11 =>
 bif t11 then (
 some (8,mj)) else (
 (r4.1).bind fun a12 =>
 (st mj (plus a12 0) (Value.slice none 0 0)).bind fun m13 =>
 (r4.1).bind fun a14 =>
 (ldSl m13 (plus a14 0)).bind fun t15 =>
 (rdSl m13 p3a p3n 1).bind fun l16 =>
 (appM 1 1 m13 t15.a t15.len t15.cap p3n l16).bind fun r17 =>
 (r4.1).bind fun a18 =>
 (st r17.2 (plus a18 0) (Value.slice r17.1.a r17.1.len r17.1.cap)).bind fun m19 =>
 (r4.1).bind fun a20 =>
 (st m19 (plus a20 1) (Value.slice none 0 0)).bind fun m21 =>
 (r4.1).bind fun a22 =>
 (ldSl m21 (plus a22 1)).bind fun t23 =>
 (rdSl m21 p3a p3n 1).bind fun l24 =>
 (appM 1 1 m21 t23.a t23.len t23.cap p3n l24).bind fun r25 =>
 (r4.1).bind fun a26 =>
 (st r25.2 (plus a26 1) (Value.slice r25.1.a r25.1.len r25.1.cap)).bind fun m27 =>
 (r4.1).bind fun a28 =>
 (st m27 (plus a28 2) (Value.bool true)).bind fun m29 =>
 (r4.1).bind fun a30 =>
 (st m29 (plus a30 3) (Value.int .i64 0)).bind fun m31 =>
 some (0,m31))
def patinaref05_Chip_Write_j1 (k:Nat) (p1:Int) (p3a:OA) (p3n:Nat) (r4:(OA) × Mem) (a10:Addr) (mj:Mem):Option (Int × Mem) :=
 (ldInt .i64 mj (plus (plus a10 (Int.toNat (IntKind.wrap .i64 (Int.tdiv p1 8)) * 5)) 3)).bind fun t32 =>
 bif decide (t32 ≥ 0) then (
 (ldInt .i64 mj (plus (plus a10 (Int.toNat (IntKind.wrap .i64 (Int.tdiv p1 8)) * 5)) 3)).bind fun t33 =>
 (st mj (plus (plus a10 (Int.toNat (IntKind.wrap .i64 (Int.tdiv p1 8)) * 5)) 3) (Value.int .i64 (IntKind.wrap .i64 (t33 - 1)))).bind fun m34 =>
 patinaref05_Chip_Write_j2 k p1 p3a p3n r4 a10 m34) else (
 patinaref05_Chip_Write_j2 k p1 p3a p3n r4 a10 mj)
def patinaref05_Chip_Write (k:Nat) (p0:OA) (p1:Int) (p2:Int) (p3a:OA) (p3n:Nat) (p3c:Nat) (m:Mem):Option (Int × Mem) :=
 (patinaref05_isPage k p1 m).bind fun r1 =>
 bif !r1.1 then (
 some (1,r1.2)) else (
 bif decide (p2 < 0) then (
 some (1,r1.2)) else (
 bif decide (p2 ≥ 4) then (
 some (1,r1.2)) else (
 bif ((p3n:Nat):Int) != 64 then (
 some (1,r1.2)) else (
 (p0).bind fun a2 =>
 (ldBool r1.2 (plus a2 1)).bind fun t3 =>
 bif !t3 then (
 some (7,r1.2)) else (
 (patinaref05_Chip_chunk k p0 p1 p2 r1.2).bind fun r4 =>
 (r4.1).bind fun a5 =>
 (ldBool r4.2 (plus a5 2)).bind fun t6 =>
 bif t6 then (
 some (9,r4.2)) else (
 (patinaref05_Chip_step k p0 r4.2).bind fun r7 =>
 bif !r7.1 then (
 some (7,r7.2)) else (
 (p0).bind fun a8 =>
 (ldSl r7.2 (plus a8 0)).bind fun t9 =>
 bif inRange (IntKind.wrap .i64 (Int.tdiv p1 8)) t9.len then (
 (t9.a).bind fun a10 =>
 (ldInt .i64 r7.2 (plus (plus a10 (Int.toNat (IntKind.wrap .i64 (Int.tdiv p1 8)) * 5)) 3)).bind fun t35 =>
 bif t35 == 0 then (
 (st r7.2 (plus (plus a10 (Int.toNat (IntKind.wrap .i64 (Int.tdiv p1 8)) * 5)) 2) (Value.bool true)).bind fun m36 =>
 patinaref05_Chip_Write_j1 k p1 p3a p3n r4 a10 m36) else (
 patinaref05_Chip_Write_j1 k p1 p3a p3n r4 a10 r7.2)) else none)))))))
def patinaref05_Chip_Write_U (k:Nat) (vs:List Value) (m:Mem):Option (Int × Mem):=match vs with
 | [.pointer p0,.int .i64 p1,.int .i64 p2,.slice p3a p3n p3c] => patinaref05_Chip_Write k p0 p1 p2 p3a p3n p3c m
 | _ => none
theorem patinaref05_Chip_Write_ok (k:Nat):FOk Tryz.prog 57 Sh0 (patinaref05_Chip_Write_U k):=by
 intro vs m r h;unfold patinaref05_Chip_Write_U at h;split at h
 ·exact ok0 (cC (patinaref05_Chip_step_ok k) <| cC (patinaref05_isPage_ok k) <| cC (patinaref05_Chip_chunk_ok k) <| cN) Tryz.func57 (by kernel_rfl) (Eq.trans (by kernel_rfl) h)
 ·cases h
def patinaref05_isBlock (k:Nat) (p0:Int) (m:Mem):Option (Bool × Mem) :=
 bif decide (p0 ≥ 0) then (
 some (decide (p0 < 12),m)) else (
 some (false,m))
def patinaref05_isBlock_U (k:Nat) (vs:List Value) (m:Mem):Option (Bool × Mem):=match vs with
 | [.int .i64 p0] => patinaref05_isBlock k p0 m
 | _ => none
theorem patinaref05_isBlock_ok (k:Nat):FOk Tryz.prog 36 Sh12 (patinaref05_isBlock_U k):=by
 intro vs m r h;unfold patinaref05_isBlock_U at h;split at h
 ·exact ok0 (cN) Tryz.func36 (by kernel_rfl) (Eq.trans (by kernel_rfl) h)
 ·cases h
def patinaref05_Chip_Erase_j1 (k:Nat) (p1:Int) (a7:Addr) (mj:Mem):Option (Int × Mem) :=
 (ldBool mj (plus (plus a7 (Int.toNat p1 * 5)) 2)).bind fun t8 =>
 bif t8 then (
 some (8,mj)) else (
 (patinaref05_chunks k  mj).bind fun r9 =>
 (st r9.2 (plus (plus a7 (Int.toNat p1 * 5)) 0) (Value.slice r9.1.a r9.1.len r9.1.cap)).bind fun m10 =>
 (st m10 (plus (plus a7 (Int.toNat p1 * 5)) 1) (Value.int .i64 0)).bind fun m11 =>
 some (0,m11))
def patinaref05_Chip_Erase (k:Nat) (p0:OA) (p1:Int) (m:Mem):Option (Int × Mem) :=
 (patinaref05_isBlock k p1 m).bind fun r1 =>
 bif !r1.1 then (
 some (1,r1.2)) else (
 (p0).bind fun a2 =>
 (ldBool r1.2 (plus a2 1)).bind fun t3 =>
 bif !t3 then (
 some (7,r1.2)) else (
 (patinaref05_Chip_step k p0 r1.2).bind fun r4 =>
 bif !r4.1 then (
 some (7,r4.2)) else (
 (p0).bind fun a5 =>
 (ldSl r4.2 (plus a5 0)).bind fun t6 =>
 bif inRange p1 t6.len then (
 (t6.a).bind fun a7 =>
 (ldBool r4.2 (plus (plus a7 (Int.toNat p1 * 5)) 4)).bind fun t12 =>
 bif t12 then (
 (st r4.2 (plus (plus a7 (Int.toNat p1 * 5)) 2) (Value.bool true)).bind fun m13 =>
 patinaref05_Chip_Erase_j1 k p1 a7 m13) else (
 patinaref05_Chip_Erase_j1 k p1 a7 r4.2)) else none)))
def patinaref05_Chip_Erase_U (k:Nat) (vs:List Value) (m:Mem):Option (Int × Mem):=match vs with
 | [.pointer p0,.int .i64 p1] => patinaref05_Chip_Erase k p0 p1 m
 | _ => none
theorem patinaref05_Chip_Erase_ok (k:Nat):FOk Tryz.prog 32 Sh0 (patinaref05_Chip_Erase_U k):=by
 intro vs m r h;unfold patinaref05_Chip_Erase_U at h;split at h
 ·exact ok0 (cC (patinaref05_isBlock_ok k) <| cC (patinaref05_chunks_ok k) <| cC (patinaref05_Chip_step_ok k) <| cN) Tryz.func32 (by kernel_rfl) (Eq.trans (by kernel_rfl) h)
 ·cases h
def patinaref05_Chip_Again (k:Nat) (p0:OA) (m:Mem):Option Mem :=
 (p0).bind fun a1 =>
 (st m (plus a1 1) (Value.bool true)).bind fun m2 =>
 (p0).bind fun a3 =>
 (st m2 (plus a3 2) (Value.int .i64 (-1))).bind fun m4 =>
 some (m4)
def patinaref05_Chip_Again_U (k:Nat) (vs:List Value) (m:Mem):Option Mem:=match vs with
 | [.pointer p0] => patinaref05_Chip_Again k p0 m
 | _ => none
theorem patinaref05_Chip_Again_ok (k:Nat):FOk Tryz.prog 13 Sh1 (patinaref05_Chip_Again_U k):=by
 intro vs m r h;unfold patinaref05_Chip_Again_U at h;split at h
 ·exact ok0 (cN) Tryz.func13 (by kernel_rfl) (Eq.trans (by kernel_rfl) h)
 ·cases h
def patinaref05_Chunk_damage_j1 (k:Nat) (x0:OA) (x4:Int) (nx:OA → Int → Int → Mem → Option (Int × Mem)) (x3_:Int) (mj:Mem):Option (Int × Mem) :=
 nx x0 x3_ (IntKind.wrap .i64 (x4 + 1)) mj
def patinaref05_Chunk_damage_l0_b (k:Nat) (nx:OA → Int → Int → Mem → Option (Int × Mem)) (kx2:Int → Mem → Option (Int × Mem)) (x0:OA) (x3:Int) (x4:Int) (m:Mem):Option (Int × Mem) :=
 bif decide (x4 < 64) then (
 (x0).bind fun a1 =>
 (ldSl m (plus a1 0)).bind fun t2 =>
 bif inRange x4 t2.len then (
 (t2.a).bind fun a3 =>
 (ldInt .u8 m (plus a3 (Int.toNat x4 * 1))).bind fun t4 =>
 (x0).bind fun a5 =>
 (ldSl m (plus a5 1)).bind fun t6 =>
 bif inRange x4 t6.len then (
 (t6.a).bind fun a7 =>
 (ldInt .u8 m (plus a7 (Int.toNat x4 * 1))).bind fun t8 =>
 bif t4 != t8 then (
 patinaref05_Chunk_damage_j1 k x0 x4 nx (IntKind.wrap .i64 (x3 + 1)) m) else (
 patinaref05_Chunk_damage_j1 k x0 x4 nx x3 m)) else none) else none) else (
 kx2 x3 m)
def patinaref05_Chunk_damage_l0 (k:Nat) kx2:=it4 fun nx => patinaref05_Chunk_damage_l0_b k nx kx2
def patinaref05_Chunk_damage_l0_rule (k:Nat) kx2 {P}:=it4_rule (P:=P) (f:=fun nx => patinaref05_Chunk_damage_l0_b k nx kx2)
def patinaref05_Chunk_damage (k:Nat) (p0:OA) (m:Mem):Option (Int × Mem) :=
 patinaref05_Chunk_damage_l0 k (fun y3 m9 =>
 some (y3,m9)) k p0 0 0 m
def patinaref05_Chunk_damage_cs (k:Nat):Cs Tryz.prog:=cN
def patinaref05_Chunk_damage_l0_L (k:Nat) (K:KT (Int × Mem)) (n:Nat) (vs:List Value) (m:Mem):Option (Int × Mem):=match vs with
 | [.pointer x0,.int .i64 x3,.int .i64 x4] => patinaref05_Chunk_damage_l0 k (fun y3 m => K 2 [(Value.int .i64 y3)] m) n x0 x3 x4 m
 | _ => none
def patinaref05_Chunk_damage_C (k:Nat):Ctx (Int × Mem):=⟨tt,(patinaref05_Chunk_damage_cs k).call,lpOf [(0,fun K => patinaref05_Chunk_damage_l0_L k K k)],[(0,[0,3,4])],[(2,[3])]⟩
theorem patinaref05_Chunk_damage_l0_ok (k:Nat):LoopOk (patinaref05_Chunk_damage_C k) 0 (lpc Tryz.f97 0):=lpOk (k:=k) [0,3,4] (patinaref05_Chunk_damage_l0_L k) (by kernel_rfl) (fun _ _ _ => rfl) fun K n vs m r h => by
 unfold patinaref05_Chunk_damage_l0_L at h;split at h
 ·cases n
  ·cases h
  ·exact ⟨_,rfl,Eq.trans (by kernel_rfl) h⟩
 ·cases h
def patinaref05_Chunk_damage_U (k:Nat) (vs:List Value) (m:Mem):Option (Int × Mem):=match vs with
 | [.pointer p0] => patinaref05_Chunk_damage k p0 m
 | _ => none
theorem patinaref05_Chunk_damage_ok (k:Nat):FOk Tryz.prog 97 Sh0 (patinaref05_Chunk_damage_U k):=by
 intro vs m r h;unfold patinaref05_Chunk_damage_U at h;split at h
 ·exact fnOk (C:=patinaref05_Chunk_damage_C k) (patinaref05_Chunk_damage_cs k) tOk mixed rfl Tryz.func97 (by kernel_rfl) (lps (cs:=[0]) (by kernel_rfl) ⟨patinaref05_Chunk_damage_l0_ok k,trivial⟩) (noRanges (by kernel_rfl)) (Eq.trans (by kernel_rfl) h)
 ·cases h
def patinaref05_Chip_Flip_j1 (k:Nat) (mj:Mem):Option (Int × Mem) :=
 some (0,mj)
def patinaref05_Chip_Flip (k:Nat) (p0:OA) (p1:Int) (p2:Int) (m:Mem):Option (Int × Mem) :=
 (patinaref05_isPage k p1 m).bind fun r1 =>
 bif !r1.1 then (
 some (1,r1.2)) else (
 bif decide (p2 < 0) then (
 some (1,r1.2)) else (
 bif decide (p2 ≥ 2048) then (
 some (1,r1.2)) else (
 (patinaref05_Chip_chunk k p0 p1 (IntKind.wrap .i64 (Int.tdiv (IntKind.wrap .i64 (Int.tdiv p2 8)) 64)) r1.2).bind fun r2 =>
 (r2.1).bind fun a3 =>
 (ldSl r2.2 (plus a3 0)).bind fun t4 =>
 (r2.1).bind fun a5 =>
 (ldSl r2.2 (plus a5 0)).bind fun t6 =>
 bif inRange (Int.tmod (IntKind.wrap .i64 (Int.tdiv p2 8)) 64) t6.len then (
 (t6.a).bind fun a7 =>
 (ldInt .u8 r2.2 (plus a7 (Int.toNat (Int.tmod (IntKind.wrap .i64 (Int.tdiv p2 8)) 64) * 1))).bind fun t8 =>
 bif decide ((Int.tmod p2 8) < 0) then none else (
 bif inRange (Int.tmod (IntKind.wrap .i64 (Int.tdiv p2 8)) 64) t4.len then (
 (t4.a).bind fun a9 =>
 (st r2.2 (plus a9 (Int.toNat (Int.tmod (IntKind.wrap .i64 (Int.tdiv p2 8)) 64) * 1)) (Value.int .u8 (bitI .xor .u8 t8 (shlI .u8 1 (Int.tmod p2 8))))).bind fun m10 =>
 (patinaref05_Chunk_damage k r2.1 m10).bind fun r11 =>
 (r2.1).bind fun a12 =>
 (ldInt .i64 r11.2 (plus a12 3)).bind fun t13 =>
 bif decide (r11.1 > t13) then (
 (r2.1).bind fun a14 =>
 (st r11.2 (plus a14 3) (Value.int .i64 r11.1)).bind fun m15 =>
 patinaref05_Chip_Flip_j1 k  m15) else (
 patinaref05_Chip_Flip_j1 k  r11.2)) else none)) else none)))
def patinaref05_Chip_Flip_U (k:Nat) (vs:List Value) (m:Mem):Option (Int × Mem):=match vs with
 | [.pointer p0,.int .i64 p1,.int .i64 p2] => patinaref05_Chip_Flip k p0 p1 p2 m
 | _ => none
theorem patinaref05_Chip_Flip_ok (k:Nat):FOk Tryz.prog 62 Sh0 (patinaref05_Chip_Flip_U k):=by
 intro vs m r h;unfold patinaref05_Chip_Flip_U at h;split at h
 ·exact ok0 (cC (patinaref05_isPage_ok k) <| cC (patinaref05_Chip_chunk_ok k) <| cC (patinaref05_Chunk_damage_ok k) <| cN) Tryz.func62 (by kernel_rfl) (Eq.trans (by kernel_rfl) h)
 ·cases h
def patinaref05_Chip_FailProgram (k:Nat) (p0:OA) (p1:Int) (p2:Int) (m:Mem):Option (Int × Mem) :=
 (patinaref05_isBlock k p1 m).bind fun r1 =>
 bif !r1.1 then (
 some (1,r1.2)) else (
 bif decide (p2 < 0) then (
 some (1,r1.2)) else (
 (p0).bind fun a2 =>
 (ldSl r1.2 (plus a2 0)).bind fun t3 =>
 bif inRange p1 t3.len then (
 (t3.a).bind fun a4 =>
 (st r1.2 (plus (plus a4 (Int.toNat p1 * 5)) 3) (Value.int .i64 p2)).bind fun m5 =>
 some (0,m5)) else none))
def patinaref05_Chip_FailProgram_U (k:Nat) (vs:List Value) (m:Mem):Option (Int × Mem):=match vs with
 | [.pointer p0,.int .i64 p1,.int .i64 p2] => patinaref05_Chip_FailProgram k p0 p1 p2 m
 | _ => none
theorem patinaref05_Chip_FailProgram_ok (k:Nat):FOk Tryz.prog 64 Sh0 (patinaref05_Chip_FailProgram_U k):=by
 intro vs m r h;unfold patinaref05_Chip_FailProgram_U at h;split at h
 ·exact ok0 (cC (patinaref05_isBlock_ok k) <| cN) Tryz.func64 (by kernel_rfl) (Eq.trans (by kernel_rfl) h)
 ·cases h
def patinaref05_Chip_FailErase (k:Nat) (p0:OA) (p1:Int) (m:Mem):Option (Int × Mem) :=
 (patinaref05_isBlock k p1 m).bind fun r1 =>
 bif !r1.1 then (
 some (1,r1.2)) else (
 (p0).bind fun a2 =>
 (ldSl r1.2 (plus a2 0)).bind fun t3 =>
 bif inRange p1 t3.len then (
 (t3.a).bind fun a4 =>
 (st r1.2 (plus (plus a4 (Int.toNat p1 * 5)) 4) (Value.bool true)).bind fun m5 =>
 some (0,m5)) else none)
def patinaref05_Chip_FailErase_U (k:Nat) (vs:List Value) (m:Mem):Option (Int × Mem):=match vs with
 | [.pointer p0,.int .i64 p1] => patinaref05_Chip_FailErase k p0 p1 m
 | _ => none
theorem patinaref05_Chip_FailErase_ok (k:Nat):FOk Tryz.prog 66 Sh0 (patinaref05_Chip_FailErase_U k):=by
 intro vs m r h;unfold patinaref05_Chip_FailErase_U at h;split at h
 ·exact ok0 (cC (patinaref05_isBlock_ok k) <| cN) Tryz.func66 (by kernel_rfl) (Eq.trans (by kernel_rfl) h)
 ·cases h
def patinaref05_Chip_Cut_j1 (k:Nat) (mj:Mem):Option (Int × Mem) :=
 some (0,mj)
def patinaref05_Chip_Cut (k:Nat) (p0:OA) (p1:Int) (m:Mem):Option (Int × Mem) :=
 bif decide (p1 < 0) then (
 some (1,m)) else (
 (p0).bind fun a1 =>
 (ldBool m (plus a1 1)).bind fun t2 =>
 bif t2 then (
 (p0).bind fun a3 =>
 (st m (plus a3 2) (Value.int .i64 p1)).bind fun m4 =>
 patinaref05_Chip_Cut_j1 k  m4) else (
 patinaref05_Chip_Cut_j1 k  m))
def patinaref05_Chip_Cut_U (k:Nat) (vs:List Value) (m:Mem):Option (Int × Mem):=match vs with
 | [.pointer p0,.int .i64 p1] => patinaref05_Chip_Cut k p0 p1 m
 | _ => none
theorem patinaref05_Chip_Cut_ok (k:Nat):FOk Tryz.prog 68 Sh0 (patinaref05_Chip_Cut_U k):=by
 intro vs m r h;unfold patinaref05_Chip_Cut_U at h;split at h
 ·exact ok0 (cN) Tryz.func68 (by kernel_rfl) (Eq.trans (by kernel_rfl) h)
 ·cases h
def patinaref05_Chip_Reads (k:Nat) (p0:OA) (p1:Int) (m:Mem):Option (Int × Int × Mem) :=
 (patinaref05_isBlock k p1 m).bind fun r1 =>
 bif !r1.1 then (
 some (0,1,r1.2)) else (
 (p0).bind fun a2 =>
 (ldSl r1.2 (plus a2 0)).bind fun t3 =>
 bif inRange p1 t3.len then (
 (t3.a).bind fun a4 =>
 (ldInt .i64 r1.2 (plus (plus a4 (Int.toNat p1 * 5)) 1)).bind fun t5 =>
 some (t5,0,r1.2)) else none)
def patinaref05_Chip_Reads_U (k:Nat) (vs:List Value) (m:Mem):Option (Int × Int × Mem):=match vs with
 | [.pointer p0,.int .i64 p1] => patinaref05_Chip_Reads k p0 p1 m
 | _ => none
theorem patinaref05_Chip_Reads_ok (k:Nat):FOk Tryz.prog 8 Sh23 (patinaref05_Chip_Reads_U k):=by
 intro vs m r h;unfold patinaref05_Chip_Reads_U at h;split at h
 ·exact ok0 (cC (patinaref05_isBlock_ok k) <| cN) Tryz.func8 (by kernel_rfl) (Eq.trans (by kernel_rfl) h)
 ·cases h
def patinaref05_Chip_Failed (k:Nat) (p0:OA) (p1:Int) (m:Mem):Option (Bool × Int × Mem) :=
 (patinaref05_isBlock k p1 m).bind fun r1 =>
 bif !r1.1 then (
 some (false,1,r1.2)) else (
 (p0).bind fun a2 =>
 (ldSl r1.2 (plus a2 0)).bind fun t3 =>
 bif inRange p1 t3.len then (
 (t3.a).bind fun a4 =>
 (ldBool r1.2 (plus (plus a4 (Int.toNat p1 * 5)) 2)).bind fun t5 =>
 some (t5,0,r1.2)) else none)
def patinaref05_Chip_Failed_U (k:Nat) (vs:List Value) (m:Mem):Option (Bool × Int × Mem):=match vs with
 | [.pointer p0,.int .i64 p1] => patinaref05_Chip_Failed k p0 p1 m
 | _ => none
theorem patinaref05_Chip_Failed_ok (k:Nat):FOk Tryz.prog 10 Sh25 (patinaref05_Chip_Failed_U k):=by
 intro vs m r h;unfold patinaref05_Chip_Failed_U at h;split at h
 ·exact ok0 (cC (patinaref05_isBlock_ok k) <| cN) Tryz.func10 (by kernel_rfl) (Eq.trans (by kernel_rfl) h)
 ·cases h
end Go.Proofs.YtchonnaoojpdoaaGreat
