import Derived.Test.YtchonnaoojpdoaaGreatF1
set_option linter.unusedVariables false
set_option linter.defProp false
set_option maxRecDepth 100000
namespace Go.Proofs.YtchonnaoojpdoaaGreat
open Go.Mx
def patinaref03_Mark (k:Nat) (m:Mem):Option (Sl × Mem) :=
 let m1:Mem:=m ++ [.live [(Value.int .u8 112),(Value.int .u8 97),(Value.int .u8 116),(Value.int .u8 105),(Value.int .u8 110),(Value.int .u8 97),(Value.int .u8 48),(Value.int .u8 49)]]
 some ((⟨(some ⟨List.length m,0,none⟩),8,8⟩:Sl),m1)
def patinaref03_Mark_U (k:Nat) (vs:List Value) (m:Mem):Option (Sl × Mem):=match vs with
 | [] => patinaref03_Mark k  m
 | _ => none
theorem patinaref03_Mark_ok (k:Nat):FOk Tryz.prog 111 Sh4 (patinaref03_Mark_U k):=by
 intro vs m r h;unfold patinaref03_Mark_U at h;split at h
 ·exact ok0 (cN) Tryz.func111 (by kernel_rfl) (Eq.trans (by kernel_rfl) h)
 ·cases h
def patinaref03_Marked_l0_b (k:Nat) (nx:OA → Nat → Nat → OA → Nat → Nat → Int → Mem → Option (Bool × Mem)) (kx0:Bool → Mem → Option (Bool × Mem)) (kx2:Mem → Option (Bool × Mem)) (x0a:OA) (x0n:Nat) (x0c:Nat) (x3a:OA) (x3n:Nat) (x3c:Nat) (x4:Int) (m:Mem):Option (Bool × Mem) :=
 bif decide (x4 < ((x3n:Nat):Int)) then (
 bif inRange (IntKind.wrap .i64 (50 + x4)) x0n then (
 (x0a).bind fun a2 =>
 (ldInt .u8 m (plus a2 (Int.toNat (IntKind.wrap .i64 (50 + x4)) * 1))).bind fun t3 =>
 bif inRange x4 x3n then (
 (x3a).bind fun a4 =>
 (ldInt .u8 m (plus a4 (Int.toNat x4 * 1))).bind fun t5 =>
 bif t3 != t5 then (
 kx0 false m) else (
 nx x0a x0n x0c x3a x3n x3c (IntKind.wrap .i64 (x4 + 1)) m)) else none) else none) else (
 kx2  m)
def patinaref03_Marked_l0 (k:Nat) kx0 kx2:=it8 fun nx => patinaref03_Marked_l0_b k nx kx0 kx2
def patinaref03_Marked_l0_rule (k:Nat) kx0 kx2 {P}:=it8_rule (P:=P) (f:=fun nx => patinaref03_Marked_l0_b k nx kx0 kx2)
def patinaref03_Marked (k:Nat) (p0a:OA) (p0n:Nat) (p0c:Nat) (m:Mem):Option (Bool × Mem) :=
 (patinaref03_Mark k  m).bind fun r1 =>
 patinaref03_Marked_l0 k (fun y2 m6 =>
 some (y2,m6)) (fun m7 =>
 some (true,m7)) k p0a p0n p0c r1.1.a r1.1.len r1.1.cap 0 r1.2
def patinaref03_Marked_cs (k:Nat):Cs Tryz.prog:=cC (patinaref03_Mark_ok k) <| cN
def patinaref03_Marked_l0_L (k:Nat) (K:KT (Bool × Mem)) (n:Nat) (vs:List Value) (m:Mem):Option (Bool × Mem):=match vs with
 | [.slice x0a x0n x0c,.slice x3a x3n x3c,.int .i64 x4] => patinaref03_Marked_l0 k (fun y2 m => K 0 [(Value.bool y2)] m) (fun m => K 2 [] m) n x0a x0n x0c x3a x3n x3c x4 m
 | _ => none
def patinaref03_Marked_C (k:Nat):Ctx (Bool × Mem):=⟨tt,(patinaref03_Marked_cs k).call,lpOf [(0,fun K => patinaref03_Marked_l0_L k K k)],[(0,[0,3,4])],[(0,[2]),(2,[])]⟩
theorem patinaref03_Marked_l0_ok (k:Nat):LoopOk (patinaref03_Marked_C k) 0 (lpc Tryz.f113 0):=lpOk (k:=k) [0,3,4] (patinaref03_Marked_l0_L k) (by kernel_rfl) (fun _ _ _ => rfl) fun K n vs m r h => by
 unfold patinaref03_Marked_l0_L at h;split at h
 ·cases n
  ·cases h
  ·exact ⟨_,rfl,Eq.trans (by kernel_rfl) h⟩
 ·cases h
def patinaref03_Marked_U (k:Nat) (vs:List Value) (m:Mem):Option (Bool × Mem):=match vs with
 | [.slice p0a p0n p0c] => patinaref03_Marked k p0a p0n p0c m
 | _ => none
theorem patinaref03_Marked_ok (k:Nat):FOk Tryz.prog 113 Sh12 (patinaref03_Marked_U k):=by
 intro vs m r h;unfold patinaref03_Marked_U at h;split at h
 ·exact fnOk (C:=patinaref03_Marked_C k) (patinaref03_Marked_cs k) tOk mixed rfl Tryz.func113 (by kernel_rfl) (lps (cs:=[0]) (by kernel_rfl) ⟨patinaref03_Marked_l0_ok k,trivial⟩) (noRanges (by kernel_rfl)) (Eq.trans (by kernel_rfl) h)
 ·cases h
def patinaref03_Put_l0_b (k:Nat) (nx:Int → Int → OA → Nat → Nat → Int → Mem → Option (Sl × Bool × Mem)) (kx2:Int → OA → Nat → Nat → Mem → Option (Sl × Bool × Mem)) (x0:Int) (x1:Int) (x6a:OA) (x6n:Nat) (x6c:Nat) (x7:Int) (m:Mem):Option (Sl × Bool × Mem) :=
 bif decide (x7 < x1) then (
 let m1:Mem:=m ++ [.live [(Value.int .u8 (IntKind.wrap .u8 (Int.tmod x0 256)))]]
 (rdSl m1 (some ⟨List.length m,0,none⟩) 1 1).bind fun l2 =>
 (appM 1 1 m1 x6a x6n x6c 1 l2).bind fun r3 =>
 nx (IntKind.wrap .u64 (Int.tdiv x0 256)) x1 r3.1.a r3.1.len r3.1.cap (IntKind.wrap .i64 (x7 + 1)) r3.2) else (
 kx2 x0 x6a x6n x6c m)
def patinaref03_Put_l0 (k:Nat) kx2:=it7 fun nx => patinaref03_Put_l0_b k nx kx2
def patinaref03_Put_l0_rule (k:Nat) kx2 {P}:=it7_rule (P:=P) (f:=fun nx => patinaref03_Put_l0_b k nx kx2)
def patinaref03_Put (k:Nat) (p0:Int) (p1:Int) (m:Mem):Option (Sl × Bool × Mem) :=
 patinaref03_Put_l0 k (fun y0 y6a y6n y6c m4 =>
 some ((⟨y6a,y6n,y6c⟩:Sl),y0 == 0,m4)) k p0 p1 none 0 0 0 m
def patinaref03_Put_cs (k:Nat):Cs Tryz.prog:=cN
def patinaref03_Put_l0_L (k:Nat) (K:KT (Sl × Bool × Mem)) (n:Nat) (vs:List Value) (m:Mem):Option (Sl × Bool × Mem):=match vs with
 | [.int .u64 x0,.int .i64 x1,.slice x6a x6n x6c,.int .i64 x7] => patinaref03_Put_l0 k (fun y0 y6a y6n y6c m => K 2 [(Value.int .u64 y0),(Value.slice y6a y6n y6c)] m) n x0 x1 x6a x6n x6c x7 m
 | _ => none
def patinaref03_Put_C (k:Nat):Ctx (Sl × Bool × Mem):=⟨tt,(patinaref03_Put_cs k).call,lpOf [(0,fun K => patinaref03_Put_l0_L k K k)],[(0,[0,1,6,7])],[(2,[0,6])]⟩
theorem patinaref03_Put_l0_ok (k:Nat):LoopOk (patinaref03_Put_C k) 0 (lpc Tryz.f89 0):=lpOk (k:=k) [0,1,6,7] (patinaref03_Put_l0_L k) (by kernel_rfl) (fun _ _ _ => rfl) fun K n vs m r h => by
 unfold patinaref03_Put_l0_L at h;split at h
 ·cases n
  ·cases h
  ·exact ⟨_,rfl,Eq.trans (by kernel_rfl) h⟩
 ·cases h
def patinaref03_Put_U (k:Nat) (vs:List Value) (m:Mem):Option (Sl × Bool × Mem):=match vs with
 | [.int .u64 p0,.int .i64 p1] => patinaref03_Put k p0 p1 m
 | _ => none
theorem patinaref03_Put_ok (k:Nat):FOk Tryz.prog 89 Sh19 (patinaref03_Put_U k):=by
 intro vs m r h;unfold patinaref03_Put_U at h;split at h
 ·exact fnOk (C:=patinaref03_Put_C k) (patinaref03_Put_cs k) tOk mixed rfl Tryz.func89 (by kernel_rfl) (lps (cs:=[0]) (by kernel_rfl) ⟨patinaref03_Put_l0_ok k,trivial⟩) (noRanges (by kernel_rfl)) (Eq.trans (by kernel_rfl) h)
 ·cases h
def patinaref03_Get_l0_b (k:Nat) (nx:OA → Nat → Nat → Int → Int → Mem → Option (Int × Mem)) (kx2:Int → Mem → Option (Int × Mem)) (x0a:OA) (x0n:Nat) (x0c:Nat) (x3:Int) (x4:Int) (m:Mem):Option (Int × Mem) :=
 bif decide (x4 ≥ 0) then (
 bif inRange x4 x0n then (
 (x0a).bind fun a1 =>
 (ldInt .u8 m (plus a1 (Int.toNat x4 * 1))).bind fun t2 =>
 nx x0a x0n x0c (IntKind.wrap .u64 ((IntKind.wrap .u64 (256 * x3)) + (IntKind.wrap .u64 t2))) (IntKind.wrap .i64 (x4 - 1)) m) else none) else (
 kx2 x3 m)
def patinaref03_Get_l0 (k:Nat) kx2:=it6 fun nx => patinaref03_Get_l0_b k nx kx2
def patinaref03_Get_l0_rule (k:Nat) kx2 {P}:=it6_rule (P:=P) (f:=fun nx => patinaref03_Get_l0_b k nx kx2)
def patinaref03_Get (k:Nat) (p0a:OA) (p0n:Nat) (p0c:Nat) (m:Mem):Option (Int × Mem) :=
 patinaref03_Get_l0 k (fun y3 m3 =>
 some (y3,m3)) k p0a p0n p0c 0 (IntKind.wrap .i64 (((p0n:Nat):Int) - 1)) m
def patinaref03_Get_cs (k:Nat):Cs Tryz.prog:=cN
def patinaref03_Get_l0_L (k:Nat) (K:KT (Int × Mem)) (n:Nat) (vs:List Value) (m:Mem):Option (Int × Mem):=match vs with
 | [.slice x0a x0n x0c,.int .u64 x3,.int .i64 x4] => patinaref03_Get_l0 k (fun y3 m => K 2 [(Value.int .u64 y3)] m) n x0a x0n x0c x3 x4 m
 | _ => none
def patinaref03_Get_C (k:Nat):Ctx (Int × Mem):=⟨tt,(patinaref03_Get_cs k).call,lpOf [(0,fun K => patinaref03_Get_l0_L k K k)],[(0,[0,3,4])],[(2,[3])]⟩
theorem patinaref03_Get_l0_ok (k:Nat):LoopOk (patinaref03_Get_C k) 0 (lpc Tryz.f114 0):=lpOk (k:=k) [0,3,4] (patinaref03_Get_l0_L k) (by kernel_rfl) (fun _ _ _ => rfl) fun K n vs m r h => by
 unfold patinaref03_Get_l0_L at h;split at h
 ·cases n
  ·cases h
  ·exact ⟨_,rfl,Eq.trans (by kernel_rfl) h⟩
 ·cases h
def patinaref03_Get_U (k:Nat) (vs:List Value) (m:Mem):Option (Int × Mem):=match vs with
 | [.slice p0a p0n p0c] => patinaref03_Get k p0a p0n p0c m
 | _ => none
theorem patinaref03_Get_ok (k:Nat):FOk Tryz.prog 114 Sh20 (patinaref03_Get_U k):=by
 intro vs m r h;unfold patinaref03_Get_U at h;split at h
 ·exact fnOk (C:=patinaref03_Get_C k) (patinaref03_Get_cs k) tOk mixed rfl Tryz.func114 (by kernel_rfl) (lps (cs:=[0]) (by kernel_rfl) ⟨patinaref03_Get_l0_ok k,trivial⟩) (noRanges (by kernel_rfl)) (Eq.trans (by kernel_rfl) h)
 ·cases h
def patinaref03_Sealed (k:Nat) (p0a:OA) (p0n:Nat) (p0c:Nat) (m:Mem):Option (Sl × Mem) :=
 (rdSl m p0a p0n 1).bind fun l1 =>
 (appM 1 1 m none 0 0 p0n l1).bind fun r2 =>
 (patinaref03_Mark k  r2.2).bind fun r3 =>
 (rdSl r3.2 r3.1.a r3.1.len 1).bind fun l4 =>
 (appM 1 1 r3.2 r2.1.a r2.1.len r2.1.cap r3.1.len l4).bind fun r5 =>
 some ((⟨r5.1.a,r5.1.len,r5.1.cap⟩:Sl),r5.2)
def patinaref03_Sealed_U (k:Nat) (vs:List Value) (m:Mem):Option (Sl × Mem):=match vs with
 | [.slice p0a p0n p0c] => patinaref03_Sealed k p0a p0n p0c m
 | _ => none
theorem patinaref03_Sealed_ok (k:Nat):FOk Tryz.prog 88 Sh4 (patinaref03_Sealed_U k):=by
 intro vs m r h;unfold patinaref03_Sealed_U at h;split at h
 ·exact ok0 (cC (patinaref03_Mark_ok k) <| cN) Tryz.func88 (by kernel_rfl) (Eq.trans (by kernel_rfl) h)
 ·cases h
end Go.Proofs.YtchonnaoojpdoaaGreat
