import Derived.Test.YtchonnaoojpdoaaGreatF1
import Derived.Test.YtchonnaoojpdoaaGreatFmedia
import Derived.Test.YtchonnaoojpdoaaGreatFnand
import Derived.Test.YtchonnaoojpdoaaGreatFpatinalaw08
import Derived.Test.YtchonnaoojpdoaaGreatFpatinaref05
set_option linter.unusedVariables false
set_option linter.defProp false
set_option maxRecDepth 100000
namespace Go.Proofs.YtchonnaoojpdoaaGreat
open Go.Mx
def patinalaw08_MediaPlays_l0_b (k:Nat) (nx:OA → Nat → Nat → Bool → OA → Int → Mem → Option (Bool × Mem)) (kx0:Bool → Mem → Option (Bool × Mem)) (kx2:OA → Nat → Nat → Bool → OA → Mem → Option (Bool × Mem)) (x0a:OA) (x0n:Nat) (x0c:Nat) (x3:Bool) (x4:OA) (x5:Int) (m:Mem):Option (Bool × Mem) :=
 bif decide (x5 < ((x0n:Nat):Int)) then (
 bif inRange x5 x0n then (
 (x0a).bind fun a3 =>
 (ldCells m (plus a3 (Int.toNat x5 * 9)) 9).bind fun t4 =>
 (patinalaw08_Both_step k x4 t4 m).bind fun r5 =>
 bif !r5.1 then (
 kx0 false r5.2) else (
 nx x0a x0n x0c x3 x4 (IntKind.wrap .i64 (x5 + 1)) r5.2)) else none) else (
 kx2 x0a x0n x0c x3 x4 m)
def patinalaw08_MediaPlays_l0 (k:Nat) kx0 kx2:=it7 fun nx => patinalaw08_MediaPlays_l0_b k nx kx0 kx2
def patinalaw08_MediaPlays_l0_rule (k:Nat) kx0 kx2 {P}:=it7_rule (P:=P) (f:=fun nx => patinalaw08_MediaPlays_l0_b k nx kx0 kx2)
def patinalaw08_MediaPlays_l2_b (k:Nat) (nx:OA → Nat → Nat → Bool → OA → Int → Mem → Option (Bool × Mem)) (kx0:Bool → Mem → Option (Bool × Mem)) (kx4:OA → Nat → Nat → Bool → OA → Mem → Option (Bool × Mem)) (x0a:OA) (x0n:Nat) (x0c:Nat) (x3:Bool) (x4:OA) (x7:Int) (m:Mem):Option (Bool × Mem) :=
 bif decide (x7 < 12) then (
 (x4).bind fun a8 =>
 (ldPtr m (plus a8 0)).bind fun t9 =>
 (nand_Chip_Reads k t9 x7 m).bind fun r10 =>
 (x4).bind fun a11 =>
 (ldPtr r10.2.2 (plus a11 2)).bind fun t12 =>
 (t12).bind fun a13 =>
 (ldPtr r10.2.2 (plus a13 0)).bind fun t14 =>
 (patinaref05_Chip_Reads k t14 x7 r10.2.2).bind fun r15 =>
 (x4).bind fun a16 =>
 (ldPtr r15.2.2 (plus a16 0)).bind fun t17 =>
 (nand_Chip_Failed k t17 x7 r15.2.2).bind fun r18 =>
 (x4).bind fun a19 =>
 (ldPtr r18.2.2 (plus a19 2)).bind fun t20 =>
 (t20).bind fun a21 =>
 (ldPtr r18.2.2 (plus a21 0)).bind fun t22 =>
 (patinaref05_Chip_Failed k t22 x7 r18.2.2).bind fun r23 =>
 (isNil r10.2.1).bind fun b24 =>
 bif !b24 then (
 kx0 false r23.2.2) else (
 (isNil r18.2.1).bind fun b25 =>
 bif !b25 then (
 kx0 false r23.2.2) else (
 bif r10.1 != r15.1 then (
 kx0 false r23.2.2) else (
 bif !(r18.1 == r23.1) then (
 kx0 false r23.2.2) else (
 nx x0a x0n x0c x3 x4 (IntKind.wrap .i64 (x7 + 1)) r23.2.2))))) else (
 kx4 x0a x0n x0c x3 x4 m)
def patinalaw08_MediaPlays_l2 (k:Nat) kx0 kx4:=it7 fun nx => patinalaw08_MediaPlays_l2_b k nx kx0 kx4
def patinalaw08_MediaPlays_l2_rule (k:Nat) kx0 kx4 {P}:=it7_rule (P:=P) (f:=fun nx => patinalaw08_MediaPlays_l2_b k nx kx0 kx4)
def patinalaw08_MediaPlays_j1 (k:Nat) (x0a:OA) (x0n:Nat) (x0c:Nat) (x3:Bool) (x4:OA) (x16:Bool) (x17:Int) (nx:OA → Nat → Nat → Bool → OA → Bool → Int → Mem → Option (Bool × Mem)) (kx0:Bool → Mem → Option (Bool × Mem)) (x18_:Int) (mj:Mem):Option (Bool × Mem) :=
 (patinalaw08_Both_step k x4 [(Value.int .i64 1),(Value.int .i64 x18_),.int .i64 0,.int .i64 0,.int .i64 0,.int .i64 0,.int .i64 0,.bool false,.int .u8 0] mj).bind fun r48 =>
 bif !r48.1 then (
 kx0 false r48.2) else (
 nx x0a x0n x0c x3 x4 x16 (IntKind.wrap .i64 (x17 + 1)) r48.2)
def patinalaw08_MediaPlays_l4_b (k:Nat) (nx:OA → Nat → Nat → Bool → OA → Bool → Int → Mem → Option (Bool × Mem)) (kx0:Bool → Mem → Option (Bool × Mem)) (kx6:OA → Nat → Nat → Bool → OA → Bool → Mem → Option (Bool × Mem)) (x0a:OA) (x0n:Nat) (x0c:Nat) (x3:Bool) (x4:OA) (x16:Bool) (x17:Int) (m:Mem):Option (Bool × Mem) :=
 bif decide (x17 < 20) then (
 bif decide (x17 ≥ 16) then (
 patinalaw08_MediaPlays_j1 k x0a x0n x0c x3 x4 x16 x17 nx kx0 (IntKind.wrap .i64 (95 - (IntKind.wrap .i64 (23 * (IntKind.wrap .i64 (x17 - 16)))))) m) else (
 patinalaw08_MediaPlays_j1 k x0a x0n x0c x3 x4 x16 x17 nx kx0 x17 m)) else (
 kx6 x0a x0n x0c x3 x4 x16 m)
def patinalaw08_MediaPlays_l4 (k:Nat) kx0 kx6:=it8 fun nx => patinalaw08_MediaPlays_l4_b k nx kx0 kx6
def patinalaw08_MediaPlays_l4_rule (k:Nat) kx0 kx6 {P}:=it8_rule (P:=P) (f:=fun nx => patinalaw08_MediaPlays_l4_b k nx kx0 kx6)
def patinalaw08_MediaPlays_l6_b (k:Nat) (nx:OA → Nat → Nat → Bool → OA → Bool → Int → Mem → Option (Bool × Mem)) (kx0:Bool → Mem → Option (Bool × Mem)) (kx8:Bool → OA → Bool → Mem → Option (Bool × Mem)) (x0a:OA) (x0n:Nat) (x0c:Nat) (x3:Bool) (x4:OA) (x16:Bool) (x20:Int) (m:Mem):Option (Bool × Mem) :=
 bif decide (x20 < ((x0n:Nat):Int)) then (
 bif inRange x20 x0n then (
 (x0a).bind fun a51 =>
 (ldInt .i64 m (plus (plus a51 (Int.toNat x20 * 9)) 1)).bind fun t52 =>
 (patinalaw08_Both_step k x4 [(Value.int .i64 1),(Value.int .i64 t52),.int .i64 0,.int .i64 0,.int .i64 0,.int .i64 0,.int .i64 0,.bool false,.int .u8 0] m).bind fun r53 =>
 bif !r53.1 then (
 kx0 false r53.2) else (
 nx x0a x0n x0c x3 x4 x16 (IntKind.wrap .i64 (x20 + 1)) r53.2)) else none) else (
 kx8 x3 x4 x16 m)
def patinalaw08_MediaPlays_l6 (k:Nat) kx0 kx8:=it8 fun nx => patinalaw08_MediaPlays_l6_b k nx kx0 kx8
def patinalaw08_MediaPlays_l6_rule (k:Nat) kx0 kx8 {P}:=it8_rule (P:=P) (f:=fun nx => patinalaw08_MediaPlays_l6_b k nx kx0 kx8)
def patinalaw08_MediaPlays (k:Nat) (p0a:OA) (p0n:Nat) (p0c:Nat) (m:Mem):Option (Bool × Mem) :=
 (patinalaw08_shown k  m).bind fun r1 =>
 (patinalaw08_begun k  r1.2).bind fun r2 =>
 bif Option.isNone r2.1 then (
 some (false,r2.2)) else (
 patinalaw08_MediaPlays_l0 k (fun y2 m6 =>
 some (y2,m6)) (fun y0a y0n y0c y3 y4 m7 =>
 patinalaw08_MediaPlays_l2 k (fun y2 m26 =>
 some (y2,m26)) (fun y0a y0n y0c y3 y4 m27 =>
 (y4).bind fun a28 =>
 (ldPtr m27 (plus a28 0)).bind fun t29 =>
 (nand_Chip_Steps k t29 m27).bind fun r30 =>
 (y4).bind fun a31 =>
 (ldPtr r30.2 (plus a31 2)).bind fun t32 =>
 (t32).bind fun a33 =>
 (ldPtr r30.2 (plus a33 0)).bind fun t34 =>
 (t34).bind fun a35 =>
 (ldInt .i64 r30.2 (plus a35 3)).bind fun t36 =>
 (ldPtr m27 (plus a31 2)).bind fun t37 =>
 bif decide (t37 = t32) then (
 (ldPtr m27 (plus a33 0)).bind fun t38 =>
 bif decide (t38 = t34) then (
 (ldInt .i64 m27 (plus a35 3)).bind fun t39 =>
 bif t39 == t36 then (
 (y4).bind fun a40 =>
 (ldPtr r30.2 (plus a40 0)).bind fun t41 =>
 (nand_Chip_Power k t41 r30.2).bind fun r42 =>
 (y4).bind fun a43 =>
 (ldPtr r42 (plus a43 2)).bind fun t44 =>
 (t44).bind fun a45 =>
 (ldPtr r42 (plus a45 0)).bind fun t46 =>
 (patinaref05_Chip_Again k t46 r42).bind fun r47 =>
 patinalaw08_MediaPlays_l4 k (fun y2 m49 =>
 some (y2,m49)) (fun y0a y0n y0c y3 y4 y16 m50 =>
 patinalaw08_MediaPlays_l6 k (fun y2 m54 =>
 some (y2,m54)) (fun y3 y4 y16 m55 =>
 bif y3 then (
 bif y16 then (
 (y4).bind fun a56 =>
 (ldPtr m55 (plus a56 1)).bind fun t57 =>
 (media_Media_Reads k t57 m55).bind fun r58 =>
 (y4).bind fun a59 =>
 (ldPtr r58.2 (plus a59 2)).bind fun t60 =>
 (t60).bind fun a61 =>
 (ldInt .i64 r58.2 (plus a61 1)).bind fun t62 =>
 (ldPtr m55 (plus a59 2)).bind fun t63 =>
 bif decide (t63 = t60) then (
 (ldInt .i64 m55 (plus a61 1)).bind fun t64 =>
 bif t64 == t62 then (
 some (r58.1 == t62,r58.2)) else none) else none) else (
 some (false,m55))) else (
 some (false,m55))) k y0a y0n y0c y3 y4 y16 0 m50) k y0a y0n y0c y3 y4 (r30.1 == t36) 0 r47) else none) else none) else none) k y0a y0n y0c y3 y4 0 m7) k p0a p0n p0c r1.1 r2.1 0 r2.2)
def patinalaw08_MediaPlays_cs (k:Nat):Cs Tryz.prog:=cC (patinalaw08_shown_ok k) <| cC (patinalaw08_begun_ok k) <| cC (patinalaw08_Both_step_ok k) <| cC (nand_Chip_Reads_ok k) <| cC (patinaref05_Chip_Reads_ok k) <| cC (nand_Chip_Failed_ok k) <| cC (patinaref05_Chip_Failed_ok k) <| cC (nand_Chip_Steps_ok k) <| cC (nand_Chip_Power_ok k) <| cC (patinaref05_Chip_Again_ok k) <| cC (media_Media_Reads_ok k) <| cN
def patinalaw08_MediaPlays_l0_L (k:Nat) (K:KT (Bool × Mem)) (n:Nat) (vs:List Value) (m:Mem):Option (Bool × Mem):=match vs with
 | [.slice x0a x0n x0c,.bool x3,.pointer x4,.int .i64 x5] => patinalaw08_MediaPlays_l0 k (fun y2 m => K 0 [(Value.bool y2)] m) (fun y0a y0n y0c y3 y4 m => K 2 [(Value.slice y0a y0n y0c),(Value.bool y3),(Value.pointer y4)] m) n x0a x0n x0c x3 x4 x5 m
 | _ => none
def patinalaw08_MediaPlays_l2_L (k:Nat) (K:KT (Bool × Mem)) (n:Nat) (vs:List Value) (m:Mem):Option (Bool × Mem):=match vs with
 | [.slice x0a x0n x0c,.bool x3,.pointer x4,.int .i64 x7] => patinalaw08_MediaPlays_l2 k (fun y2 m => K 0 [(Value.bool y2)] m) (fun y0a y0n y0c y3 y4 m => K 4 [(Value.slice y0a y0n y0c),(Value.bool y3),(Value.pointer y4)] m) n x0a x0n x0c x3 x4 x7 m
 | _ => none
def patinalaw08_MediaPlays_l4_L (k:Nat) (K:KT (Bool × Mem)) (n:Nat) (vs:List Value) (m:Mem):Option (Bool × Mem):=match vs with
 | [.slice x0a x0n x0c,.bool x3,.pointer x4,.bool x16,.int .i64 x17] => patinalaw08_MediaPlays_l4 k (fun y2 m => K 0 [(Value.bool y2)] m) (fun y0a y0n y0c y3 y4 y16 m => K 6 [(Value.slice y0a y0n y0c),(Value.bool y3),(Value.pointer y4),(Value.bool y16)] m) n x0a x0n x0c x3 x4 x16 x17 m
 | _ => none
def patinalaw08_MediaPlays_l6_L (k:Nat) (K:KT (Bool × Mem)) (n:Nat) (vs:List Value) (m:Mem):Option (Bool × Mem):=match vs with
 | [.slice x0a x0n x0c,.bool x3,.pointer x4,.bool x16,.int .i64 x20] => patinalaw08_MediaPlays_l6 k (fun y2 m => K 0 [(Value.bool y2)] m) (fun y3 y4 y16 m => K 8 [(Value.bool y3),(Value.pointer y4),(Value.bool y16)] m) n x0a x0n x0c x3 x4 x16 x20 m
 | _ => none
def patinalaw08_MediaPlays_C (k:Nat):Ctx (Bool × Mem):=⟨tt,(patinalaw08_MediaPlays_cs k).call,lpOf [(0,fun K => patinalaw08_MediaPlays_l0_L k K k),(2,fun K => patinalaw08_MediaPlays_l2_L k K k),(4,fun K => patinalaw08_MediaPlays_l4_L k K k),(6,fun K => patinalaw08_MediaPlays_l6_L k K k)],[(0,[0,3,4,5]),(2,[0,3,4,7]),(4,[0,3,4,16,17]),(6,[0,3,4,16,20])],[(0,[2]),(2,[0,3,4]),(4,[0,3,4]),(6,[0,3,4,16]),(8,[3,4,16])]⟩
theorem patinalaw08_MediaPlays_l0_ok (k:Nat):LoopOk (patinalaw08_MediaPlays_C k) 0 (lpc Tryz.f3 0):=lpOk (k:=k) [0,3,4,5] (patinalaw08_MediaPlays_l0_L k) (by kernel_rfl) (fun _ _ _ => rfl) fun K n vs m r h => by
 unfold patinalaw08_MediaPlays_l0_L at h;split at h
 ·cases n
  ·cases h
  ·exact ⟨_,rfl,Eq.trans (by kernel_rfl) h⟩
 ·cases h
theorem patinalaw08_MediaPlays_l2_ok (k:Nat):LoopOk (patinalaw08_MediaPlays_C k) 2 (lpc Tryz.f3 1):=lpOk (k:=k) [0,3,4,7] (patinalaw08_MediaPlays_l2_L k) (by kernel_rfl) (fun _ _ _ => rfl) fun K n vs m r h => by
 unfold patinalaw08_MediaPlays_l2_L at h;split at h
 ·cases n
  ·cases h
  ·exact ⟨_,rfl,Eq.trans (by kernel_rfl) h⟩
 ·cases h
theorem patinalaw08_MediaPlays_l4_ok (k:Nat):LoopOk (patinalaw08_MediaPlays_C k) 4 (lpc Tryz.f3 2):=lpOk (k:=k) [0,3,4,16,17] (patinalaw08_MediaPlays_l4_L k) (by kernel_rfl) (fun _ _ _ => rfl) fun K n vs m r h => by
 unfold patinalaw08_MediaPlays_l4_L at h;split at h
 ·cases n
  ·cases h
  ·exact ⟨_,rfl,Eq.trans (by kernel_rfl) h⟩
 ·cases h
theorem patinalaw08_MediaPlays_l6_ok (k:Nat):LoopOk (patinalaw08_MediaPlays_C k) 6 (lpc Tryz.f3 3):=lpOk (k:=k) [0,3,4,16,20] (patinalaw08_MediaPlays_l6_L k) (by kernel_rfl) (fun _ _ _ => rfl) fun K n vs m r h => by
 unfold patinalaw08_MediaPlays_l6_L at h;split at h
 ·cases n
  ·cases h
  ·exact ⟨_,rfl,Eq.trans (by kernel_rfl) h⟩
 ·cases h
def patinalaw08_MediaPlays_U (k:Nat) (vs:List Value) (m:Mem):Option (Bool × Mem):=match vs with
 | [.slice p0a p0n p0c] => patinalaw08_MediaPlays k p0a p0n p0c m
 | _ => none
theorem patinalaw08_MediaPlays_ok (k:Nat):FOk Tryz.prog 3 Sh12 (patinalaw08_MediaPlays_U k):=by
 intro vs m r h;unfold patinalaw08_MediaPlays_U at h;split at h
 ·exact fnOk (C:=patinalaw08_MediaPlays_C k) (patinalaw08_MediaPlays_cs k) tOk mixed rfl Tryz.func3 (by kernel_rfl) (lps (cs:=[0,2,4,6]) (by kernel_rfl) ⟨patinalaw08_MediaPlays_l0_ok k,patinalaw08_MediaPlays_l2_ok k,patinalaw08_MediaPlays_l4_ok k,patinalaw08_MediaPlays_l6_ok k,trivial⟩) (noRanges (by kernel_rfl)) (Eq.trans (by kernel_rfl) h)
 ·cases h
end Go.Proofs.YtchonnaoojpdoaaGreat
