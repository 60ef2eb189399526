import Derived.Test.YtchonnaoojpdoaaGreatF1
import Derived.Test.YtchonnaoojpdoaaGreatFpatinaref01
set_option linter.unusedVariables false
set_option linter.defProp false
set_option maxRecDepth 100000
namespace Go.Proofs.YtchonnaoojpdoaaGreat
open Go.Mx
def patinaref02_Syndromes_l0_b (k:Nat) (nx:OA → Nat → Nat → OA → Nat → Nat → Int → Int → Mem → Option (Sl × Mem)) (kx2:OA → Nat → Nat → Mem → Option (Sl × Mem)) (x0a:OA) (x0n:Nat) (x0c:Nat) (x3a:OA) (x3n:Nat) (x3c:Nat) (x4:Int) (x5:Int) (m:Mem):Option (Sl × Mem) :=
 bif decide (x5 < 6) then (
 (patinaref01_Eval k x0a x0n x0c x4 m).bind fun r1 =>
 let m2:Mem:=r1.2 ++ [.live [(Value.int .u8 r1.1)]]
 (rdSl m2 (some ⟨List.length r1.2,0,none⟩) 1 1).bind fun l3 =>
 (appM 1 1 m2 x3a x3n x3c 1 l3).bind fun r4 =>
 (patinaref01_Mul k x4 2 r4.2).bind fun r5 =>
 nx x0a x0n x0c r4.1.a r4.1.len r4.1.cap r5.1 (IntKind.wrap .i64 (x5 + 1)) r5.2) else (
 kx2 x3a x3n x3c m)
def patinaref02_Syndromes_l0 (k:Nat) kx2:=it9 fun nx => patinaref02_Syndromes_l0_b k nx kx2
def patinaref02_Syndromes_l0_rule (k:Nat) kx2 {P}:=it9_rule (P:=P) (f:=fun nx => patinaref02_Syndromes_l0_b k nx kx2)
def patinaref02_Syndromes (k:Nat) (p0a:OA) (p0n:Nat) (p0c:Nat) (m:Mem):Option (Sl × Mem) :=
 patinaref02_Syndromes_l0 k (fun y3a y3n y3c m6 =>
 some ((⟨y3a,y3n,y3c⟩:Sl),m6)) k p0a p0n p0c none 0 0 1 0 m
def patinaref02_Syndromes_cs (k:Nat):Cs Tryz.prog:=cC (patinaref01_Mul_ok k) <| cC (patinaref01_Eval_ok k) <| cN
def patinaref02_Syndromes_l0_L (k:Nat) (K:KT (Sl × Mem)) (n:Nat) (vs:List Value) (m:Mem):Option (Sl × Mem):=match vs with
 | [.slice x0a x0n x0c,.slice x3a x3n x3c,.int .u8 x4,.int .i64 x5] => patinaref02_Syndromes_l0 k (fun y3a y3n y3c m => K 2 [(Value.slice y3a y3n y3c)] m) n x0a x0n x0c x3a x3n x3c x4 x5 m
 | _ => none
def patinaref02_Syndromes_C (k:Nat):Ctx (Sl × Mem):=⟨tt,(patinaref02_Syndromes_cs k).call,lpOf [(0,fun K => patinaref02_Syndromes_l0_L k K k)],[(0,[0,3,4,5])],[(2,[3])]⟩
theorem patinaref02_Syndromes_l0_ok (k:Nat):LoopOk (patinaref02_Syndromes_C k) 0 (lpc Tryz.f123 0):=lpOk (k:=k) [0,3,4,5] (patinaref02_Syndromes_l0_L k) (by kernel_rfl) (fun _ _ _ => rfl) fun K n vs m r h => by
 unfold patinaref02_Syndromes_l0_L at h;split at h
 ·cases n
  ·cases h
  ·exact ⟨_,rfl,Eq.trans (by kernel_rfl) h⟩
 ·cases h
def patinaref02_Syndromes_U (k:Nat) (vs:List Value) (m:Mem):Option (Sl × Mem):=match vs with
 | [.slice p0a p0n p0c] => patinaref02_Syndromes k p0a p0n p0c m
 | _ => none
theorem patinaref02_Syndromes_ok (k:Nat):FOk Tryz.prog 123 Sh4 (patinaref02_Syndromes_U k):=by
 intro vs m r h;unfold patinaref02_Syndromes_U at h;split at h
 ·exact fnOk (C:=patinaref02_Syndromes_C k) (patinaref02_Syndromes_cs k) tOk mixed rfl Tryz.func123 (by kernel_rfl) (lps (cs:=[0]) (by kernel_rfl) ⟨patinaref02_Syndromes_l0_ok k,trivial⟩) (noRanges (by kernel_rfl)) (Eq.trans (by kernel_rfl) h)
 ·cases h
def patinaref02_turned (k:Nat) (p0a:OA) (p0n:Nat) (p0c:Nat) (p1:Int) (p2:Int) (p3:Int) (p4:Int) (m:Mem):Option (Sl × Mem) :=
 (rdSl m p0a p0n 1).bind fun l1 =>
 (appM 1 1 m none 0 0 p0n l1).bind fun r2 =>
 bif inRange p2 r2.1.len then (
 (r2.1.a).bind fun a3 =>
 (ldInt .u8 r2.2 (plus a3 (Int.toNat p2 * 1))).bind fun t4 =>
 bif inRange p2 r2.1.len then (
 (r2.1.a).bind fun a5 =>
 (st r2.2 (plus a5 (Int.toNat p2 * 1)) (Value.int .u8 (bitI .xor .u8 t4 p1))).bind fun m6 =>
 bif inRange p4 r2.1.len then (
 (r2.1.a).bind fun a7 =>
 (ldInt .u8 m6 (plus a7 (Int.toNat p4 * 1))).bind fun t8 =>
 bif inRange p4 r2.1.len then (
 (r2.1.a).bind fun a9 =>
 (st m6 (plus a9 (Int.toNat p4 * 1)) (Value.int .u8 (bitI .xor .u8 t8 p3))).bind fun m10 =>
 bif inUpto 58 r2.1.cap then (
 some ((⟨(sliceK.clear r2.1.a false),(Int.toNat 58),r2.1.cap⟩:Sl),m10)) else none) else none) else none) else none) else none
def patinaref02_turned_U (k:Nat) (vs:List Value) (m:Mem):Option (Sl × Mem):=match vs with
 | [.slice p0a p0n p0c,.int .u8 p1,.int .i64 p2,.int .u8 p3,.int .i64 p4] => patinaref02_turned k p0a p0n p0c p1 p2 p3 p4 m
 | _ => none
theorem patinaref02_turned_ok (k:Nat):FOk Tryz.prog 124 Sh4 (patinaref02_turned_U k):=by
 intro vs m r h;unfold patinaref02_turned_U at h;split at h
 ·exact ok0 (cN) Tryz.func124 (by kernel_rfl) (Eq.trans (by kernel_rfl) h)
 ·cases h
def patinaref02_tables_l0_b (k:Nat) (nx:OA → Nat → Nat → OA → Nat → Nat → Int → Int → Mem → Option (Sl × Sl × Mem)) (kx2:OA → Nat → Nat → OA → Nat → Nat → Mem → Option (Sl × Sl × Mem)) (x2a:OA) (x2n:Nat) (x2c:Nat) (x3a:OA) (x3n:Nat) (x3c:Nat) (x4:Int) (x5:Int) (m:Mem):Option (Sl × Sl × Mem) :=
 bif decide (x5 < 255) then (
 bif inRange x5 x2n then (
 (x2a).bind fun a3 =>
 (st m (plus a3 (Int.toNat x5 * 1)) (Value.int .u8 x4)).bind fun m4 =>
 bif inRange (IntKind.wrap .i64 x4) x3n then (
 (x3a).bind fun a5 =>
 (st m4 (plus a5 (Int.toNat (IntKind.wrap .i64 x4) * 1)) (Value.int .i64 x5)).bind fun m6 =>
 (patinaref01_Mul k x4 2 m6).bind fun r7 =>
 nx x2a x2n x2c x3a x3n x3c r7.1 (IntKind.wrap .i64 (x5 + 1)) r7.2) else none) else none) else (
 kx2 x2a x2n x2c x3a x3n x3c m)
def patinaref02_tables_l0 (k:Nat) kx2:=it9 fun nx => patinaref02_tables_l0_b k nx kx2
def patinaref02_tables_l0_rule (k:Nat) kx2 {P}:=it9_rule (P:=P) (f:=fun nx => patinaref02_tables_l0_b k nx kx2)
def patinaref02_tables (k:Nat) (m:Mem):Option (Sl × Sl × Mem) :=
 let m1:Mem:=m ++ [.live (repl (Int.toNat 255) [.int .u8 0])]
 let m2:Mem:=m1 ++ [.live (repl (Int.toNat 256) [.int .i64 0])]
 patinaref02_tables_l0 k (fun y2a y2n y2c y3a y3n y3c m8 =>
 some ((⟨y2a,y2n,y2c⟩:Sl),(⟨y3a,y3n,y3c⟩:Sl),m8)) k (some ⟨List.length m,0,none⟩) (Int.toNat 255) (Int.toNat 255) (some ⟨List.length m1,0,none⟩) (Int.toNat 256) (Int.toNat 256) 1 0 m2
def patinaref02_tables_cs (k:Nat):Cs Tryz.prog:=cC (patinaref01_Mul_ok k) <| cN
def patinaref02_tables_l0_L (k:Nat) (K:KT (Sl × Sl × Mem)) (n:Nat) (vs:List Value) (m:Mem):Option (Sl × Sl × Mem):=match vs with
 | [.slice x2a x2n x2c,.slice x3a x3n x3c,.int .u8 x4,.int .i64 x5] => patinaref02_tables_l0 k (fun y2a y2n y2c y3a y3n y3c m => K 2 [(Value.slice y2a y2n y2c),(Value.slice y3a y3n y3c)] m) n x2a x2n x2c x3a x3n x3c x4 x5 m
 | _ => none
def patinaref02_tables_C (k:Nat):Ctx (Sl × Sl × Mem):=⟨tt,(patinaref02_tables_cs k).call,lpOf [(0,fun K => patinaref02_tables_l0_L k K k)],[(0,[2,3,4,5])],[(2,[2,3])]⟩
theorem patinaref02_tables_l0_ok (k:Nat):LoopOk (patinaref02_tables_C k) 0 (lpc Tryz.f125 0):=lpOk (k:=k) [2,3,4,5] (patinaref02_tables_l0_L k) (by kernel_rfl) (fun _ _ _ => rfl) fun K n vs m r h => by
 unfold patinaref02_tables_l0_L at h;split at h
 ·cases n
  ·cases h
  ·exact ⟨_,rfl,Eq.trans (by kernel_rfl) h⟩
 ·cases h
def patinaref02_tables_U (k:Nat) (vs:List Value) (m:Mem):Option (Sl × Sl × Mem):=match vs with
 | [] => patinaref02_tables k  m
 | _ => none
theorem patinaref02_tables_ok (k:Nat):FOk Tryz.prog 125 Sh16 (patinaref02_tables_U k):=by
 intro vs m r h;unfold patinaref02_tables_U at h;split at h
 ·exact fnOk (C:=patinaref02_tables_C k) (patinaref02_tables_cs k) tOk mixed rfl Tryz.func125 (by kernel_rfl) (lps (cs:=[0]) (by kernel_rfl) ⟨patinaref02_tables_l0_ok k,trivial⟩) (noRanges (by kernel_rfl)) (Eq.trans (by kernel_rfl) h)
 ·cases h
def patinaref02_fits_j2 (k:Nat) (x0a:OA) (x0n:Nat) (x0c:Nat) (x1a:OA) (x1n:Nat) (x1c:Nat) (x2a:OA) (x2n:Nat) (x2c:Nat) (x3:Int) (x4:Int) (x5:Int) (x6:Int) (x15:Int) (nx:OA → Nat → Nat → OA → Nat → Nat → OA → Nat → Nat → Int → Int → Int → Int → Int → Mem → Option (Bool × Mem)) (kx0:Bool → Mem → Option (Bool × Mem)) (x16_:Int) (mj:Mem):Option (Bool × Mem) :=
 bif inRange x15 x0n then (
 (x0a).bind fun a1 =>
 (ldInt .u8 mj (plus a1 (Int.toNat x15 * 1))).bind fun t2 =>
 bif x16_ != t2 then (
 kx0 false mj) else (
 nx x0a x0n x0c x1a x1n x1c x2a x2n x2c x3 x4 x5 x6 (IntKind.wrap .i64 (x15 + 1)) mj)) else none
def patinaref02_fits_j1 (k:Nat) (x0a:OA) (x0n:Nat) (x0c:Nat) (x1a:OA) (x1n:Nat) (x1c:Nat) (x2a:OA) (x2n:Nat) (x2c:Nat) (x3:Int) (x4:Int) (x5:Int) (x6:Int) (x15:Int) (nx:OA → Nat → Nat → OA → Nat → Nat → OA → Nat → Nat → Int → Int → Int → Int → Int → Mem → Option (Bool × Mem)) (kx0:Bool → Mem → Option (Bool × Mem)) (x16_:Int) (mj:Mem):Option (Bool × Mem) :=
 bif x5 != 0 then (
 bif inRange (IntKind.wrap .i64 x5) x2n then (
 (x2a).bind fun a3 =>
 (ldInt .i64 mj (plus a3 (Int.toNat (IntKind.wrap .i64 x5) * 1))).bind fun t4 =>
 bif inRange (Int.tmod (IntKind.wrap .i64 (t4 + (IntKind.wrap .i64 (x15 * x6)))) 255) x1n then (
 (x1a).bind fun a5 =>
 (ldInt .u8 mj (plus a5 (Int.toNat (Int.tmod (IntKind.wrap .i64 (t4 + (IntKind.wrap .i64 (x15 * x6)))) 255) * 1))).bind fun t6 =>
 patinaref02_fits_j2 k x0a x0n x0c x1a x1n x1c x2a x2n x2c x3 x4 x5 x6 x15 nx kx0 (bitI .xor .u8 x16_ t6) mj) else none) else none) else (
 patinaref02_fits_j2 k x0a x0n x0c x1a x1n x1c x2a x2n x2c x3 x4 x5 x6 x15 nx kx0 x16_ mj)
def patinaref02_fits_l0_b (k:Nat) (nx:OA → Nat → Nat → OA → Nat → Nat → OA → Nat → Nat → Int → Int → Int → Int → Int → Mem → Option (Bool × Mem)) (kx0:Bool → Mem → Option (Bool × Mem)) (kx2:Mem → Option (Bool × Mem)) (x0a:OA) (x0n:Nat) (x0c:Nat) (x1a:OA) (x1n:Nat) (x1c:Nat) (x2a:OA) (x2n:Nat) (x2c:Nat) (x3:Int) (x4:Int) (x5:Int) (x6:Int) (x15:Int) (m:Mem):Option (Bool × Mem) :=
 bif decide (x15 < ((x0n:Nat):Int)) then (
 bif x3 != 0 then (
 bif inRange (IntKind.wrap .i64 x3) x2n then (
 (x2a).bind fun a7 =>
 (ldInt .i64 m (plus a7 (Int.toNat (IntKind.wrap .i64 x3) * 1))).bind fun t8 =>
 bif inRange (Int.tmod (IntKind.wrap .i64 (t8 + (IntKind.wrap .i64 (x15 * x4)))) 255) x1n then (
 (x1a).bind fun a9 =>
 (ldInt .u8 m (plus a9 (Int.toNat (Int.tmod (IntKind.wrap .i64 (t8 + (IntKind.wrap .i64 (x15 * x4)))) 255) * 1))).bind fun t10 =>
 patinaref02_fits_j1 k x0a x0n x0c x1a x1n x1c x2a x2n x2c x3 x4 x5 x6 x15 nx kx0 (bitI .xor .u8 0 t10) m) else none) else none) else (
 patinaref02_fits_j1 k x0a x0n x0c x1a x1n x1c x2a x2n x2c x3 x4 x5 x6 x15 nx kx0 0 m)) else (
 kx2  m)
def patinaref02_fits_l0 (k:Nat) kx0 kx2:=it15 fun nx => patinaref02_fits_l0_b k nx kx0 kx2
def patinaref02_fits_l0_rule (k:Nat) kx0 kx2 {P}:=it15_rule (P:=P) (f:=fun nx => patinaref02_fits_l0_b k nx kx0 kx2)
def patinaref02_fits (k:Nat) (p0a:OA) (p0n:Nat) (p0c:Nat) (p1a:OA) (p1n:Nat) (p1c:Nat) (p2a:OA) (p2n:Nat) (p2c:Nat) (p3:Int) (p4:Int) (p5:Int) (p6:Int) (m:Mem):Option (Bool × Mem) :=
 patinaref02_fits_l0 k (fun y14 m11 =>
 some (y14,m11)) (fun m12 =>
 some (true,m12)) k p0a p0n p0c p1a p1n p1c p2a p2n p2c p3 p4 p5 p6 0 m
def patinaref02_fits_cs (k:Nat):Cs Tryz.prog:=cN
def patinaref02_fits_l0_L (k:Nat) (K:KT (Bool × Mem)) (n:Nat) (vs:List Value) (m:Mem):Option (Bool × Mem):=match vs with
 | [.slice x0a x0n x0c,.slice x1a x1n x1c,.slice x2a x2n x2c,.int .u8 x3,.int .i64 x4,.int .u8 x5,.int .i64 x6,.int .i64 x15] => patinaref02_fits_l0 k (fun y14 m => K 0 [(Value.bool y14)] m) (fun m => K 2 [] m) n x0a x0n x0c x1a x1n x1c x2a x2n x2c x3 x4 x5 x6 x15 m
 | _ => none
def patinaref02_fits_C (k:Nat):Ctx (Bool × Mem):=⟨tt,(patinaref02_fits_cs k).call,lpOf [(0,fun K => patinaref02_fits_l0_L k K k)],[(0,[0,1,2,3,4,5,6,15])],[(0,[14]),(2,[])]⟩
theorem patinaref02_fits_l0_ok (k:Nat):LoopOk (patinaref02_fits_C k) 0 (lpc Tryz.f126 0):=lpOk (k:=k) [0,1,2,3,4,5,6,15] (patinaref02_fits_l0_L k) (by kernel_rfl) (fun _ _ _ => rfl) fun K n vs m r h => by
 unfold patinaref02_fits_l0_L at h;split at h
 ·cases n
  ·cases h
  ·exact ⟨_,rfl,Eq.trans (by kernel_rfl) h⟩
 ·cases h
def patinaref02_fits_U (k:Nat) (vs:List Value) (m:Mem):Option (Bool × Mem):=match vs with
 | [.slice p0a p0n p0c,.slice p1a p1n p1c,.slice p2a p2n p2c,.int .u8 p3,.int .i64 p4,.int .u8 p5,.int .i64 p6] => patinaref02_fits k p0a p0n p0c p1a p1n p1c p2a p2n p2c p3 p4 p5 p6 m
 | _ => none
theorem patinaref02_fits_ok (k:Nat):FOk Tryz.prog 126 Sh12 (patinaref02_fits_U k):=by
 intro vs m r h;unfold patinaref02_fits_U at h;split at h
 ·exact fnOk (C:=patinaref02_fits_C k) (patinaref02_fits_cs k) tOk mixed rfl Tryz.func126 (by kernel_rfl) (lps (cs:=[0]) (by kernel_rfl) ⟨patinaref02_fits_l0_ok k,trivial⟩) (noRanges (by kernel_rfl)) (Eq.trans (by kernel_rfl) h)
 ·cases h
def patinaref02_over (k:Nat) (p0a:OA) (p0n:Nat) (p0c:Nat) (p1a:OA) (p1n:Nat) (p1c:Nat) (p2:Int) (p3:Int) (m:Mem):Option (Int × Mem) :=
 bif p2 == 0 then (
 some (0,m)) else (
 bif inRange (IntKind.wrap .i64 p2) p1n then (
 (p1a).bind fun a1 =>
 (ldInt .i64 m (plus a1 (Int.toNat (IntKind.wrap .i64 p2) * 1))).bind fun t2 =>
 bif inRange (IntKind.wrap .i64 p3) p1n then (
 (p1a).bind fun a3 =>
 (ldInt .i64 m (plus a3 (Int.toNat (IntKind.wrap .i64 p3) * 1))).bind fun t4 =>
 bif inRange (Int.tmod (IntKind.wrap .i64 ((IntKind.wrap .i64 (t2 - t4)) + 255)) 255) p0n then (
 (p0a).bind fun a5 =>
 (ldInt .u8 m (plus a5 (Int.toNat (Int.tmod (IntKind.wrap .i64 ((IntKind.wrap .i64 (t2 - t4)) + 255)) 255) * 1))).bind fun t6 =>
 some (t6,m)) else none) else none) else none)
def patinaref02_over_U (k:Nat) (vs:List Value) (m:Mem):Option (Int × Mem):=match vs with
 | [.slice p0a p0n p0c,.slice p1a p1n p1c,.int .u8 p2,.int .u8 p3] => patinaref02_over k p0a p0n p0c p1a p1n p1c p2 p3 m
 | _ => none
theorem patinaref02_over_ok (k:Nat):FOk Tryz.prog 127 Sh3 (patinaref02_over_U k):=by
 intro vs m r h;unfold patinaref02_over_U at h;split at h
 ·exact ok0 (cN) Tryz.func127 (by kernel_rfl) (Eq.trans (by kernel_rfl) h)
 ·cases h
def patinaref02_Decode_l0_b (k:Nat) (nx:OA → Nat → Nat → OA → Nat → Nat → OA → Nat → Nat → OA → Nat → Nat → Int → Mem → Option (Sl × Int × Bool × Mem)) (kx0:OA → Nat → Nat → Int → Bool → Mem → Option (Sl × Int × Bool × Mem)) (kx2:OA → Nat → Nat → OA → Nat → Nat → OA → Nat → Nat → OA → Nat → Nat → Mem → Option (Sl × Int × Bool × Mem)) (x0a:OA) (x0n:Nat) (x0c:Nat) (x5a:OA) (x5n:Nat) (x5c:Nat) (x7a:OA) (x7n:Nat) (x7c:Nat) (x8a:OA) (x8n:Nat) (x8c:Nat) (x9:Int) (m:Mem):Option (Sl × Int × Bool × Mem) :=
 bif decide (x9 < 64) then (
 bif inRange 0 x5n then (
 (x5a).bind fun a6 =>
 (ldInt .u8 m (plus a6 (Int.toNat 0 * 1))).bind fun t7 =>
 (patinaref02_fits k x5a x5n x5c x7a x7n x7c x8a x8n x8c t7 (IntKind.wrap .i64 (63 - x9)) 0 0 m).bind fun r8 =>
 bif r8.1 then (
 bif inRange 0 x5n then (
 (x5a).bind fun a9 =>
 (ldInt .u8 r8.2 (plus a9 (Int.toNat 0 * 1))).bind fun t10 =>
 (patinaref02_turned k x0a x0n x0c t10 x9 0 x9 r8.2).bind fun r11 =>
 kx0 r11.1.a r11.1.len r11.1.cap 1 true r11.2) else none) else (
 nx x0a x0n x0c x5a x5n x5c x7a x7n x7c x8a x8n x8c (IntKind.wrap .i64 (x9 + 1)) r8.2)) else none) else (
 kx2 x0a x0n x0c x5a x5n x5c x7a x7n x7c x8a x8n x8c m)
def patinaref02_Decode_l0 (k:Nat) kx0 kx2:=it14 fun nx => patinaref02_Decode_l0_b k nx kx0 kx2
def patinaref02_Decode_l0_rule (k:Nat) kx0 kx2 {P}:=it14_rule (P:=P) (f:=fun nx => patinaref02_Decode_l0_b k nx kx0 kx2)
def patinaref02_Decode_j1 (k:Nat) (x0a:OA) (x0n:Nat) (x0c:Nat) (x5a:OA) (x5n:Nat) (x5c:Nat) (x7a:OA) (x7n:Nat) (x7c:Nat) (x8a:OA) (x8n:Nat) (x8c:Nat) (x11:Int) (x12:Int) (x13:Int) (nx:OA → Nat → Nat → OA → Nat → Nat → OA → Nat → Nat → OA → Nat → Nat → Int → Int → Int → Mem → Option (Sl × Int × Bool × Mem)) (mj:Mem):Option (Sl × Int × Bool × Mem) :=
 nx x0a x0n x0c x5a x5n x5c x7a x7n x7c x8a x8n x8c x11 x12 (IntKind.wrap .i64 (x13 + 1)) mj
def patinaref02_Decode_j2 (k:Nat) (x0a:OA) (x0n:Nat) (x0c:Nat) (x5a:OA) (x5n:Nat) (x5c:Nat) (x7a:OA) (x7n:Nat) (x7c:Nat) (x8a:OA) (x8n:Nat) (x8c:Nat) (x11:Int) (x12:Int) (x13:Int) (nx:OA → Nat → Nat → OA → Nat → Nat → OA → Nat → Nat → OA → Nat → Nat → Int → Int → Int → Mem → Option (Sl × Int × Bool × Mem)) (kx0:OA → Nat → Nat → Int → Bool → Mem → Option (Sl × Int × Bool × Mem)) (x15_:Int) (mj:Mem):Option (Sl × Int × Bool × Mem) :=
 bif inRange 1 x5n then (
 (x5a).bind fun a14 =>
 (ldInt .u8 mj (plus a14 (Int.toNat 1 * 1))).bind fun t15 =>
 bif inRange x12 x7n then (
 (x7a).bind fun a16 =>
 (ldInt .u8 mj (plus a16 (Int.toNat x12 * 1))).bind fun t17 =>
 bif inRange (IntKind.wrap .i64 (63 - x13)) x7n then (
 (x7a).bind fun a18 =>
 (ldInt .u8 mj (plus a18 (Int.toNat (IntKind.wrap .i64 (63 - x13)) * 1))).bind fun t19 =>
 (patinaref02_over k x7a x7n x7c x8a x8n x8c (bitI .xor .u8 t15 x15_) (bitI .xor .u8 t17 t19) mj).bind fun r20 =>
 bif inRange 0 x5n then (
 (x5a).bind fun a21 =>
 (ldInt .u8 r20.2 (plus a21 (Int.toNat 0 * 1))).bind fun t22 =>
 bif r20.1 == 0 then (
 patinaref02_Decode_j1 k x0a x0n x0c x5a x5n x5c x7a x7n x7c x8a x8n x8c x11 x12 x13 nx r20.2) else (
 bif (bitI .xor .u8 t22 r20.1) == 0 then (
 patinaref02_Decode_j1 k x0a x0n x0c x5a x5n x5c x7a x7n x7c x8a x8n x8c x11 x12 x13 nx r20.2) else (
 (patinaref02_fits k x5a x5n x5c x7a x7n x7c x8a x8n x8c r20.1 x12 (bitI .xor .u8 t22 r20.1) (IntKind.wrap .i64 (63 - x13)) r20.2).bind fun r23 =>
 bif r23.1 then (
 (patinaref02_turned k x0a x0n x0c r20.1 x11 (bitI .xor .u8 t22 r20.1) x13 r23.2).bind fun r24 =>
 kx0 r24.1.a r24.1.len r24.1.cap 2 true r24.2) else (
 patinaref02_Decode_j1 k x0a x0n x0c x5a x5n x5c x7a x7n x7c x8a x8n x8c x11 x12 x13 nx r23.2)))) else none) else none) else none) else none
def patinaref02_Decode_l4_b (k:Nat) (nx:OA → Nat → Nat → OA → Nat → Nat → OA → Nat → Nat → OA → Nat → Nat → Int → Int → Int → Mem → Option (Sl × Int × Bool × Mem)) (kx0:OA → Nat → Nat → Int → Bool → Mem → Option (Sl × Int × Bool × Mem)) (kx6:OA → Nat → Nat → OA → Nat → Nat → OA → Nat → Nat → OA → Nat → Nat → Int → Mem → Option (Sl × Int × Bool × Mem)) (x0a:OA) (x0n:Nat) (x0c:Nat) (x5a:OA) (x5n:Nat) (x5c:Nat) (x7a:OA) (x7n:Nat) (x7c:Nat) (x8a:OA) (x8n:Nat) (x8c:Nat) (x11:Int) (x12:Int) (x13:Int) (m:Mem):Option (Sl × Int × Bool × Mem) :=
 bif decide (x13 < 64) then (
 bif inRange 0 x5n then (
 (x5a).bind fun a25 =>
 (ldInt .u8 m (plus a25 (Int.toNat 0 * 1))).bind fun t26 =>
 bif t26 != 0 then (
 bif inRange 0 x5n then (
 (x5a).bind fun a27 =>
 (ldInt .u8 m (plus a27 (Int.toNat 0 * 1))).bind fun t28 =>
 bif inRange (IntKind.wrap .i64 t28) x8n then (
 (x8a).bind fun a29 =>
 (ldInt .i64 m (plus a29 (Int.toNat (IntKind.wrap .i64 t28) * 1))).bind fun t30 =>
 bif inRange (Int.tmod (IntKind.wrap .i64 (t30 + (IntKind.wrap .i64 (63 - x13)))) 255) x7n then (
 (x7a).bind fun a31 =>
 (ldInt .u8 m (plus a31 (Int.toNat (Int.tmod (IntKind.wrap .i64 (t30 + (IntKind.wrap .i64 (63 - x13)))) 255) * 1))).bind fun t32 =>
 patinaref02_Decode_j2 k x0a x0n x0c x5a x5n x5c x7a x7n x7c x8a x8n x8c x11 x12 x13 nx kx0 t32 m) else none) else none) else none) else (
 patinaref02_Decode_j2 k x0a x0n x0c x5a x5n x5c x7a x7n x7c x8a x8n x8c x11 x12 x13 nx kx0 0 m)) else none) else (
 kx6 x0a x0n x0c x5a x5n x5c x7a x7n x7c x8a x8n x8c x11 m)
def patinaref02_Decode_l4 (k:Nat) kx0 kx6:=it16 fun nx => patinaref02_Decode_l4_b k nx kx0 kx6
def patinaref02_Decode_l4_rule (k:Nat) kx0 kx6 {P}:=it16_rule (P:=P) (f:=fun nx => patinaref02_Decode_l4_b k nx kx0 kx6)
def patinaref02_Decode_l2_b (k:Nat) (nx:OA → Nat → Nat → OA → Nat → Nat → OA → Nat → Nat → OA → Nat → Nat → Int → Mem → Option (Sl × Int × Bool × Mem)) (kx0:OA → Nat → Nat → Int → Bool → Mem → Option (Sl × Int × Bool × Mem)) (kx4:Mem → Option (Sl × Int × Bool × Mem)) (x0a:OA) (x0n:Nat) (x0c:Nat) (x5a:OA) (x5n:Nat) (x5c:Nat) (x7a:OA) (x7n:Nat) (x7c:Nat) (x8a:OA) (x8n:Nat) (x8c:Nat) (x11:Int) (m:Mem):Option (Sl × Int × Bool × Mem) :=
 bif decide (x11 < 64) then (
 patinaref02_Decode_l4 k (fun y2a y2n y2c y3 y4 m33 =>
 kx0 y2a y2n y2c y3 y4 m33) (fun y0a y0n y0c y5a y5n y5c y7a y7n y7c y8a y8n y8c y11 m34 =>
 nx y0a y0n y0c y5a y5n y5c y7a y7n y7c y8a y8n y8c (IntKind.wrap .i64 (y11 + 1)) m34) k x0a x0n x0c x5a x5n x5c x7a x7n x7c x8a x8n x8c x11 (IntKind.wrap .i64 (63 - x11)) (IntKind.wrap .i64 (x11 + 1)) m) else (
 kx4  m)
def patinaref02_Decode_l2 (k:Nat) kx0 kx4:=it14 fun nx => patinaref02_Decode_l2_b k nx kx0 kx4
def patinaref02_Decode_l2_rule (k:Nat) kx0 kx4 {P}:=it14_rule (P:=P) (f:=fun nx => patinaref02_Decode_l2_b k nx kx0 kx4)
def patinaref02_Decode (k:Nat) (p0a:OA) (p0n:Nat) (p0c:Nat) (m:Mem):Option (Sl × Int × Bool × Mem) :=
 (patinaref02_Syndromes k p0a p0n p0c m).bind fun r1 =>
 let m2:Mem:=r1.2 ++ [.live (repl (Int.toNat 6) [.int .u8 0])]
 (patinaref01_Same k r1.1.a r1.1.len r1.1.cap (some ⟨List.length r1.2,0,none⟩) (Int.toNat 6) (Int.toNat 6) m2).bind fun r3 =>
 bif r3.1 then (
 (patinaref02_turned k p0a p0n p0c 0 0 0 0 r3.2).bind fun r4 =>
 some ((⟨r4.1.a,r4.1.len,r4.1.cap⟩:Sl),0,true,r4.2)) else (
 (patinaref02_tables k  r3.2).bind fun r5 =>
 patinaref02_Decode_l0 k (fun y2a y2n y2c y3 y4 m12 =>
 some ((⟨y2a,y2n,y2c⟩:Sl),y3,y4,m12)) (fun y0a y0n y0c y5a y5n y5c y7a y7n y7c y8a y8n y8c m13 =>
 patinaref02_Decode_l2 k (fun y2a y2n y2c y3 y4 m35 =>
 some ((⟨y2a,y2n,y2c⟩:Sl),y3,y4,m35)) (fun m36 =>
 some ((⟨none,0,0⟩:Sl),0,false,m36)) k y0a y0n y0c y5a y5n y5c y7a y7n y7c y8a y8n y8c 0 m13) k p0a p0n p0c r1.1.a r1.1.len r1.1.cap r5.1.a r5.1.len r5.1.cap r5.2.1.a r5.2.1.len r5.2.1.cap 0 r5.2.2)
def patinaref02_Decode_cs (k:Nat):Cs Tryz.prog:=cC (patinaref01_Same_ok k) <| cC (patinaref02_Syndromes_ok k) <| cC (patinaref02_turned_ok k) <| cC (patinaref02_tables_ok k) <| cC (patinaref02_fits_ok k) <| cC (patinaref02_over_ok k) <| cN
def patinaref02_Decode_l0_L (k:Nat) (K:KT (Sl × Int × Bool × Mem)) (n:Nat) (vs:List Value) (m:Mem):Option (Sl × Int × Bool × Mem):=match vs with
 | [.slice x0a x0n x0c,.slice x5a x5n x5c,.slice x7a x7n x7c,.slice x8a x8n x8c,.int .i64 x9] => patinaref02_Decode_l0 k (fun y2a y2n y2c y3 y4 m => K 0 [(Value.slice y2a y2n y2c),(Value.int .i64 y3),(Value.bool y4)] m) (fun y0a y0n y0c y5a y5n y5c y7a y7n y7c y8a y8n y8c m => K 2 [(Value.slice y0a y0n y0c),(Value.slice y5a y5n y5c),(Value.slice y7a y7n y7c),(Value.slice y8a y8n y8c)] m) n x0a x0n x0c x5a x5n x5c x7a x7n x7c x8a x8n x8c x9 m
 | _ => none
def patinaref02_Decode_l2_L (k:Nat) (K:KT (Sl × Int × Bool × Mem)) (n:Nat) (vs:List Value) (m:Mem):Option (Sl × Int × Bool × Mem):=match vs with
 | [.slice x0a x0n x0c,.slice x5a x5n x5c,.slice x7a x7n x7c,.slice x8a x8n x8c,.int .i64 x11] => patinaref02_Decode_l2 k (fun y2a y2n y2c y3 y4 m => K 0 [(Value.slice y2a y2n y2c),(Value.int .i64 y3),(Value.bool y4)] m) (fun m => K 4 [] m) n x0a x0n x0c x5a x5n x5c x7a x7n x7c x8a x8n x8c x11 m
 | _ => none
def patinaref02_Decode_l4_L (k:Nat) (K:KT (Sl × Int × Bool × Mem)) (n:Nat) (vs:List Value) (m:Mem):Option (Sl × Int × Bool × Mem):=match vs with
 | [.slice x0a x0n x0c,.slice x5a x5n x5c,.slice x7a x7n x7c,.slice x8a x8n x8c,.int .i64 x11,.int .i64 x12,.int .i64 x13] => patinaref02_Decode_l4 k (fun y2a y2n y2c y3 y4 m => K 0 [(Value.slice y2a y2n y2c),(Value.int .i64 y3),(Value.bool y4)] m) (fun y0a y0n y0c y5a y5n y5c y7a y7n y7c y8a y8n y8c y11 m => K 6 [(Value.slice y0a y0n y0c),(Value.slice y5a y5n y5c),(Value.slice y7a y7n y7c),(Value.slice y8a y8n y8c),(Value.int .i64 y11)] m) n x0a x0n x0c x5a x5n x5c x7a x7n x7c x8a x8n x8c x11 x12 x13 m
 | _ => none
def patinaref02_Decode_C (k:Nat):Ctx (Sl × Int × Bool × Mem):=⟨tt,(patinaref02_Decode_cs k).call,lpOf [(0,fun K => patinaref02_Decode_l0_L k K k),(2,fun K => patinaref02_Decode_l2_L k K k),(4,fun K => patinaref02_Decode_l4_L k K k)],[(0,[0,5,7,8,9]),(2,[0,5,7,8,11]),(4,[0,5,7,8,11,12,13])],[(0,[2,3,4]),(2,[0,5,7,8]),(4,[]),(6,[0,5,7,8,11])]⟩
theorem patinaref02_Decode_l0_ok (k:Nat):LoopOk (patinaref02_Decode_C k) 0 (lpc Tryz.f112 0):=lpOk (k:=k) [0,5,7,8,9] (patinaref02_Decode_l0_L k) (by kernel_rfl) (fun _ _ _ => rfl) fun K n vs m r h => by
 unfold patinaref02_Decode_l0_L at h;split at h
 ·cases n
  ·cases h
  ·exact ⟨_,rfl,Eq.trans (by kernel_rfl) h⟩
 ·cases h
theorem patinaref02_Decode_l2_ok (k:Nat):LoopOk (patinaref02_Decode_C k) 2 (lpc Tryz.f112 1):=lpOk (k:=k) [0,5,7,8,11] (patinaref02_Decode_l2_L k) (by kernel_rfl) (fun _ _ _ => rfl) fun K n vs m r h => by
 unfold patinaref02_Decode_l2_L at h;split at h
 ·cases n
  ·cases h
  ·exact ⟨_,rfl,Eq.trans (by kernel_rfl) h⟩
 ·cases h
theorem patinaref02_Decode_l4_ok (k:Nat):LoopOk (patinaref02_Decode_C k) 4 (lpc Tryz.f112 2):=lpOk (k:=k) [0,5,7,8,11,12,13] (patinaref02_Decode_l4_L k) (by kernel_rfl) (fun _ _ _ => rfl) fun K n vs m r h => by
 unfold patinaref02_Decode_l4_L at h;split at h
 ·cases n
  ·cases h
  ·exact ⟨_,rfl,Eq.trans (by kernel_rfl) h⟩
 ·cases h
def patinaref02_Decode_U (k:Nat) (vs:List Value) (m:Mem):Option (Sl × Int × Bool × Mem):=match vs with
 | [.slice p0a p0n p0c] => patinaref02_Decode k p0a p0n p0c m
 | _ => none
theorem patinaref02_Decode_ok (k:Nat):FOk Tryz.prog 112 Sh17 (patinaref02_Decode_U k):=by
 intro vs m r h;unfold patinaref02_Decode_U at h;split at h
 ·exact fnOk (C:=patinaref02_Decode_C k) (patinaref02_Decode_cs k) tOk mixed rfl Tryz.func112 (by kernel_rfl) (lps (cs:=[0,2,4]) (by kernel_rfl) ⟨patinaref02_Decode_l0_ok k,patinaref02_Decode_l2_ok k,patinaref02_Decode_l4_ok k,trivial⟩) (noRanges (by kernel_rfl)) (Eq.trans (by kernel_rfl) h)
 ·cases h
def patinaref02_rule_l0_b (k:Nat) (nx:OA → Nat → Nat → Int → Int → Mem → Option (Sl × Mem)) (kx2:OA → Nat → Nat → Mem → Option (Sl × Mem)) (x1a:OA) (x1n:Nat) (x1c:Nat) (x2:Int) (x3:Int) (m:Mem):Option (Sl × Mem) :=
 bif decide (x3 < 6) then (
 let m2:Mem:=m ++ [.live [(Value.int .u8 1),(Value.int .u8 x2)]]
 (patinaref01_Times k x1a x1n x1c (some ⟨List.length m,0,none⟩) 2 2 m2).bind fun r3 =>
 (patinaref01_Mul k x2 2 r3.2).bind fun r4 =>
 nx r3.1.a r3.1.len r3.1.cap r4.1 (IntKind.wrap .i64 (x3 + 1)) r4.2) else (
 kx2 x1a x1n x1c m)
def patinaref02_rule_l0 (k:Nat) kx2:=it6 fun nx => patinaref02_rule_l0_b k nx kx2
def patinaref02_rule_l0_rule (k:Nat) kx2 {P}:=it6_rule (P:=P) (f:=fun nx => patinaref02_rule_l0_b k nx kx2)
def patinaref02_rule (k:Nat) (m:Mem):Option (Sl × Mem) :=
 let m1:Mem:=m ++ [.live [(Value.int .u8 1)]]
 patinaref02_rule_l0 k (fun y1a y1n y1c m5 =>
 some ((⟨y1a,y1n,y1c⟩:Sl),m5)) k (some ⟨List.length m,0,none⟩) 1 1 1 0 m1
def patinaref02_rule_cs (k:Nat):Cs Tryz.prog:=cC (patinaref01_Mul_ok k) <| cC (patinaref01_Times_ok k) <| cN
def patinaref02_rule_l0_L (k:Nat) (K:KT (Sl × Mem)) (n:Nat) (vs:List Value) (m:Mem):Option (Sl × Mem):=match vs with
 | [.slice x1a x1n x1c,.int .u8 x2,.int .i64 x3] => patinaref02_rule_l0 k (fun y1a y1n y1c m => K 2 [(Value.slice y1a y1n y1c)] m) n x1a x1n x1c x2 x3 m
 | _ => none
def patinaref02_rule_C (k:Nat):Ctx (Sl × Mem):=⟨tt,(patinaref02_rule_cs k).call,lpOf [(0,fun K => patinaref02_rule_l0_L k K k)],[(0,[1,2,3])],[(2,[1])]⟩
theorem patinaref02_rule_l0_ok (k:Nat):LoopOk (patinaref02_rule_C k) 0 (lpc Tryz.f109 0):=lpOk (k:=k) [1,2,3] (patinaref02_rule_l0_L k) (by kernel_rfl) (fun _ _ _ => rfl) fun K n vs m r h => by
 unfold patinaref02_rule_l0_L at h;split at h
 ·cases n
  ·cases h
  ·exact ⟨_,rfl,Eq.trans (by kernel_rfl) h⟩
 ·cases h
def patinaref02_rule_U (k:Nat) (vs:List Value) (m:Mem):Option (Sl × Mem):=match vs with
 | [] => patinaref02_rule k  m
 | _ => none
theorem patinaref02_rule_ok (k:Nat):FOk Tryz.prog 109 Sh4 (patinaref02_rule_U k):=by
 intro vs m r h;unfold patinaref02_rule_U at h;split at h
 ·exact fnOk (C:=patinaref02_rule_C k) (patinaref02_rule_cs k) tOk mixed rfl Tryz.func109 (by kernel_rfl) (lps (cs:=[0]) (by kernel_rfl) ⟨patinaref02_rule_l0_ok k,trivial⟩) (noRanges (by kernel_rfl)) (Eq.trans (by kernel_rfl) h)
 ·cases h
def patinaref02_Encode_l2_b (k:Nat) (nx:OA → Nat → Nat → OA → Nat → Nat → OA → Nat → Nat → Int → Int → Int → Mem → Option (Sl × Mem)) (kx4:OA → Nat → Nat → OA → Nat → Nat → OA → Nat → Nat → Int → Mem → Option (Sl × Mem)) (x0a:OA) (x0n:Nat) (x0c:Nat) (x3a:OA) (x3n:Nat) (x3c:Nat) (x4a:OA) (x4n:Nat) (x4c:Nat) (x5:Int) (x6:Int) (x7:Int) (m:Mem):Option (Sl × Mem) :=
 bif decide (x7 < ((x4n:Nat):Int)) then (
 bif inRange (IntKind.wrap .i64 (x5 + x7)) x3n then (
 (x3a).bind fun a9 =>
 (ldInt .u8 m (plus a9 (Int.toNat (IntKind.wrap .i64 (x5 + x7)) * 1))).bind fun t10 =>
 bif inRange x7 x4n then (
 (x4a).bind fun a11 =>
 (ldInt .u8 m (plus a11 (Int.toNat x7 * 1))).bind fun t12 =>
 (patinaref01_Mul k x6 t12 m).bind fun r13 =>
 bif inRange (IntKind.wrap .i64 (x5 + x7)) x3n then (
 (x3a).bind fun a14 =>
 (st r13.2 (plus a14 (Int.toNat (IntKind.wrap .i64 (x5 + x7)) * 1)) (Value.int .u8 (bitI .xor .u8 t10 r13.1))).bind fun m15 =>
 (ldInt .u8 r13.2 (plus a9 (Int.toNat (IntKind.wrap .i64 (x5 + x7)) * 1))).bind fun t16 =>
 bif t16 == t10 then (
 nx x0a x0n x0c x3a x3n x3c x4a x4n x4c x5 x6 (IntKind.wrap .i64 (x7 + 1)) m15) else none) else none) else none) else none) else (
 kx4 x0a x0n x0c x3a x3n x3c x4a x4n x4c x5 m)
def patinaref02_Encode_l2 (k:Nat) kx4:=it13 fun nx => patinaref02_Encode_l2_b k nx kx4
def patinaref02_Encode_l2_rule (k:Nat) kx4 {P}:=it13_rule (P:=P) (f:=fun nx => patinaref02_Encode_l2_b k nx kx4)
def patinaref02_Encode_l0_b (k:Nat) (nx:OA → Nat → Nat → OA → Nat → Nat → OA → Nat → Nat → Int → Mem → Option (Sl × Mem)) (kx2:OA → Nat → Nat → OA → Nat → Nat → Mem → Option (Sl × Mem)) (x0a:OA) (x0n:Nat) (x0c:Nat) (x3a:OA) (x3n:Nat) (x3c:Nat) (x4a:OA) (x4n:Nat) (x4c:Nat) (x5:Int) (m:Mem):Option (Sl × Mem) :=
 bif decide (x5 < 58) then (
 bif inRange x5 x3n then (
 (x3a).bind fun a7 =>
 (ldInt .u8 m (plus a7 (Int.toNat x5 * 1))).bind fun t8 =>
 patinaref02_Encode_l2 k (fun y0a y0n y0c y3a y3n y3c y4a y4n y4c y5 m17 =>
 nx y0a y0n y0c y3a y3n y3c y4a y4n y4c (IntKind.wrap .i64 (y5 + 1)) m17) k x0a x0n x0c x3a x3n x3c x4a x4n x4c x5 t8 0 m) else none) else (
 kx2 x0a x0n x0c x3a x3n x3c m)
def patinaref02_Encode_l0 (k:Nat) kx2:=it11 fun nx => patinaref02_Encode_l0_b k nx kx2
def patinaref02_Encode_l0_rule (k:Nat) kx2 {P}:=it11_rule (P:=P) (f:=fun nx => patinaref02_Encode_l0_b k nx kx2)
def patinaref02_Encode (k:Nat) (p0a:OA) (p0n:Nat) (p0c:Nat) (m:Mem):Option (Sl × Mem) :=
 (rdSl m p0a p0n 1).bind fun l1 =>
 (appM 1 1 m none 0 0 p0n l1).bind fun r2 =>
 let m3:Mem:=r2.2 ++ [.live [(Value.int .u8 0),(Value.int .u8 0),(Value.int .u8 0),(Value.int .u8 0),(Value.int .u8 0),(Value.int .u8 0)]]
 (rdSl m3 (some ⟨List.length r2.2,0,none⟩) 6 1).bind fun l4 =>
 (appM 1 1 m3 r2.1.a r2.1.len r2.1.cap 6 l4).bind fun r5 =>
 (patinaref02_rule k  r5.2).bind fun r6 =>
 patinaref02_Encode_l0 k (fun y0a y0n y0c y3a y3n y3c m18 =>
 (rdSl m18 y0a y0n 1).bind fun l19 =>
 (appM 1 1 m18 none 0 0 y0n l19).bind fun r20 =>
 bif sliceK.okZ y3a 1 false && inUpto 58 y3n then (
 (rdSl r20.2 ((sliceK.clear y3a false).map fun a => plus a ((Int.toNat 58) * 1)) (y3n - (Int.toNat 58)) 1).bind fun l21 =>
 (appM 1 1 r20.2 r20.1.a r20.1.len r20.1.cap (y3n - (Int.toNat 58)) l21).bind fun r22 =>
 some ((⟨r22.1.a,r22.1.len,r22.1.cap⟩:Sl),r22.2)) else none) k p0a p0n p0c r5.1.a r5.1.len r5.1.cap r6.1.a r6.1.len r6.1.cap 0 r6.2
def patinaref02_Encode_cs (k:Nat):Cs Tryz.prog:=cC (patinaref02_rule_ok k) <| cC (patinaref01_Mul_ok k) <| cN
def patinaref02_Encode_l0_L (k:Nat) (K:KT (Sl × Mem)) (n:Nat) (vs:List Value) (m:Mem):Option (Sl × Mem):=match vs with
 | [.slice x0a x0n x0c,.slice x3a x3n x3c,.slice x4a x4n x4c,.int .i64 x5] => patinaref02_Encode_l0 k (fun y0a y0n y0c y3a y3n y3c m => K 2 [(Value.slice y0a y0n y0c),(Value.slice y3a y3n y3c)] m) n x0a x0n x0c x3a x3n x3c x4a x4n x4c x5 m
 | _ => none
def patinaref02_Encode_l2_L (k:Nat) (K:KT (Sl × Mem)) (n:Nat) (vs:List Value) (m:Mem):Option (Sl × Mem):=match vs with
 | [.slice x0a x0n x0c,.slice x3a x3n x3c,.slice x4a x4n x4c,.int .i64 x5,.int .u8 x6,.int .i64 x7] => patinaref02_Encode_l2 k (fun y0a y0n y0c y3a y3n y3c y4a y4n y4c y5 m => K 4 [(Value.slice y0a y0n y0c),(Value.slice y3a y3n y3c),(Value.slice y4a y4n y4c),(Value.int .i64 y5)] m) n x0a x0n x0c x3a x3n x3c x4a x4n x4c x5 x6 x7 m
 | _ => none
def patinaref02_Encode_C (k:Nat):Ctx (Sl × Mem):=⟨tt,(patinaref02_Encode_cs k).call,lpOf [(0,fun K => patinaref02_Encode_l0_L k K k),(2,fun K => patinaref02_Encode_l2_L k K k)],[(0,[0,3,4,5]),(2,[0,3,4,5,6,7])],[(2,[0,3]),(4,[0,3,4,5])]⟩
theorem patinaref02_Encode_l0_ok (k:Nat):LoopOk (patinaref02_Encode_C k) 0 (lpc Tryz.f87 0):=lpOk (k:=k) [0,3,4,5] (patinaref02_Encode_l0_L k) (by kernel_rfl) (fun _ _ _ => rfl) fun K n vs m r h => by
 unfold patinaref02_Encode_l0_L at h;split at h
 ·cases n
  ·cases h
  ·exact ⟨_,rfl,Eq.trans (by kernel_rfl) h⟩
 ·cases h
theorem patinaref02_Encode_l2_ok (k:Nat):LoopOk (patinaref02_Encode_C k) 2 (lpc Tryz.f87 1):=lpOk (k:=k) [0,3,4,5,6,7] (patinaref02_Encode_l2_L k) (by kernel_rfl) (fun _ _ _ => rfl) fun K n vs m r h => by
 unfold patinaref02_Encode_l2_L at h;split at h
 ·cases n
  ·cases h
  ·exact ⟨_,rfl,Eq.trans (by kernel_rfl) h⟩
 ·cases h
def patinaref02_Encode_U (k:Nat) (vs:List Value) (m:Mem):Option (Sl × Mem):=match vs with
 | [.slice p0a p0n p0c] => patinaref02_Encode k p0a p0n p0c m
 | _ => none
theorem patinaref02_Encode_ok (k:Nat):FOk Tryz.prog 87 Sh4 (patinaref02_Encode_U k):=by
 intro vs m r h;unfold patinaref02_Encode_U at h;split at h
 ·exact fnOk (C:=patinaref02_Encode_C k) (patinaref02_Encode_cs k) tOk mixed rfl Tryz.func87 (by kernel_rfl) (lps (cs:=[0,2]) (by kernel_rfl) ⟨patinaref02_Encode_l0_ok k,patinaref02_Encode_l2_ok k,trivial⟩) (noRanges (by kernel_rfl)) (Eq.trans (by kernel_rfl) h)
 ·cases h
end Go.Proofs.YtchonnaoojpdoaaGreat
