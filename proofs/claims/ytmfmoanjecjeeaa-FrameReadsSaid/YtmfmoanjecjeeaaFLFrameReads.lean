/- The program's functions as plain Lean functions over a clean memory, each held against the program by the kernel. Written by mx.py. -/
import Derived.Test.YtmfmoanjecjeeaaF0
import Derived.Test.YtmfmoanjecjeeaaFframe
import Derived.Test.YtmfmoanjecjeeaaFpatinalaw00
import Derived.Test.YtmfmoanjecjeeaaFpatinalaw06
import Derived.Test.YtmfmoanjecjeeaaFpatinaref01
import Derived.Test.YtmfmoanjecjeeaaFpatinaref06
set_option linter.unusedVariables false
set_option maxRecDepth 100000
namespace Go.Proofs.Ytmfmoanjecjeeaa
open Go.Mx

/-! ### patinalaw06_FrameReads -/
def patinalaw06_FrameReads (k : Nat) (p0a : Option Addr) (p0n : Nat) (p0c : Nat) (p1 : Int) (m : Mem) : Option (Bool × Mem) :=
  (patinalaw06_shown k  m).bind fun r1 =>
  (frame_New k  r1.2).bind fun r2 =>
  bif Option.isNone r2.1 then (
  some (false, r2.2)) else (
  (patinaref01_Lend k p0a p0n p0c r2.2).bind fun r3 =>
  (patinaref01_Lent_Bytes k r3.1 r3.2).bind fun r4 =>
  (frame_Frame_Message k r2.1 r4.1.a r4.1.len r4.1.cap p1 r4.2).bind fun r5 =>
  (patinaref01_Lent_Bytes k r3.1 r5.2.2.2).bind fun r6 =>
  (frame_Frame_Data k r2.1 r6.1.a r6.1.len r6.1.cap r6.2).bind fun r7 =>
  (patinaref01_Lent_Bytes k r3.1 r7.2.2.2).bind fun r8 =>
  (frame_Frame_Body k r2.1 r8.1.a r8.1.len r8.1.cap r8.2).bind fun r9 =>
  (patinaref01_Lent_Kept k r3.1 r9.2.2.2).bind fun r10 =>
  (patinaref01_Lent_Turn k r3.1 r10.2).bind fun r11 =>
  (patinaref06_Message k p0a p0n p0c p1 r11).bind fun r12 =>
  (patinaref06_Data k p0a p0n p0c r12.2.2.2).bind fun r13 =>
  (patinaref06_Body k p0a p0n p0c r13.2.2.2).bind fun r14 =>
  (patinaref01_Same k r5.1.a r5.1.len r5.1.cap r12.1.a r12.1.len r12.1.cap r14.2.2.2).bind fun r15 =>
  bif r15.1 then (
  bif r5.2.1 == r12.2.1 then (
  (patinalaw00_Code k r5.2.2.1 r15.2).bind fun r16 =>
  (patinaref01_Same k r7.1.a r7.1.len r7.1.cap r13.1.a r13.1.len r13.1.cap r16.2).bind fun r17 =>
  bif r17.1 then (
  bif r7.2.1 == r13.2.1 then (
  (patinalaw00_Code k r7.2.2.1 r17.2).bind fun r18 =>
  (patinaref01_Same k r9.1.a r9.1.len r9.1.cap r14.1.a r14.1.len r14.1.cap r18.2).bind fun r19 =>
  bif r19.1 then (
  bif r9.2.1 == r14.2.1 then (
  (patinalaw00_Code k r9.2.2.1 r19.2).bind fun r20 =>
  let m21 : Mem := r20.2 ++ [.live [(Value.slice r5.1.a r5.1.len r5.1.cap), (Value.slice r7.1.a r7.1.len r7.1.cap), (Value.slice r9.1.a r9.1.len r9.1.cap)]]
  (patinaref01_Apart k (some ⟨List.length r20.2, 0, Option.none⟩) 3 3 m21).bind fun r22 =>
  (patinaref01_Lent_Kept k r3.1 r22.2).bind fun r23 =>
  bif r1.1 then (
  bif r10.1 then (
  bif r16.1 == r12.2.2.1 then (
  bif r18.1 == r13.2.2.1 then (
  bif r20.1 == r14.2.2.1 then (
  bif r22.1 then (
  some (r23.1, r23.2)) else (
  some (false, r23.2))) else (
  some (false, r23.2))) else (
  some (false, r23.2))) else (
  some (false, r23.2))) else (
  some (false, r23.2))) else (
  some (false, r23.2))) else (
  let m24 : Mem := r19.2 ++ [.live [(Value.slice r5.1.a r5.1.len r5.1.cap), (Value.slice r7.1.a r7.1.len r7.1.cap), (Value.slice r9.1.a r9.1.len r9.1.cap)]]
  (patinaref01_Apart k (some ⟨List.length r19.2, 0, Option.none⟩) 3 3 m24).bind fun r25 =>
  (patinaref01_Lent_Kept k r3.1 r25.2).bind fun r26 =>
  bif r1.1 then (
  bif r10.1 then (
  bif r16.1 == r12.2.2.1 then (
  bif r18.1 == r13.2.2.1 then (
  some (false, r26.2)) else (
  some (false, r26.2))) else (
  some (false, r26.2))) else (
  some (false, r26.2))) else (
  some (false, r26.2)))) else (
  let m27 : Mem := r19.2 ++ [.live [(Value.slice r5.1.a r5.1.len r5.1.cap), (Value.slice r7.1.a r7.1.len r7.1.cap), (Value.slice r9.1.a r9.1.len r9.1.cap)]]
  (patinaref01_Apart k (some ⟨List.length r19.2, 0, Option.none⟩) 3 3 m27).bind fun r28 =>
  (patinaref01_Lent_Kept k r3.1 r28.2).bind fun r29 =>
  bif r1.1 then (
  bif r10.1 then (
  bif r16.1 == r12.2.2.1 then (
  bif r18.1 == r13.2.2.1 then (
  some (false, r29.2)) else (
  some (false, r29.2))) else (
  some (false, r29.2))) else (
  some (false, r29.2))) else (
  some (false, r29.2)))) else (
  (patinaref01_Same k r9.1.a r9.1.len r9.1.cap r14.1.a r14.1.len r14.1.cap r17.2).bind fun r30 =>
  bif r30.1 then (
  bif r9.2.1 == r14.2.1 then (
  (patinalaw00_Code k r9.2.2.1 r30.2).bind fun r31 =>
  let m32 : Mem := r31.2 ++ [.live [(Value.slice r5.1.a r5.1.len r5.1.cap), (Value.slice r7.1.a r7.1.len r7.1.cap), (Value.slice r9.1.a r9.1.len r9.1.cap)]]
  (patinaref01_Apart k (some ⟨List.length r31.2, 0, Option.none⟩) 3 3 m32).bind fun r33 =>
  (patinaref01_Lent_Kept k r3.1 r33.2).bind fun r34 =>
  bif r1.1 then (
  bif r10.1 then (
  bif r16.1 == r12.2.2.1 then (
  some (false, r34.2)) else (
  some (false, r34.2))) else (
  some (false, r34.2))) else (
  some (false, r34.2))) else (
  let m35 : Mem := r30.2 ++ [.live [(Value.slice r5.1.a r5.1.len r5.1.cap), (Value.slice r7.1.a r7.1.len r7.1.cap), (Value.slice r9.1.a r9.1.len r9.1.cap)]]
  (patinaref01_Apart k (some ⟨List.length r30.2, 0, Option.none⟩) 3 3 m35).bind fun r36 =>
  (patinaref01_Lent_Kept k r3.1 r36.2).bind fun r37 =>
  bif r1.1 then (
  bif r10.1 then (
  bif r16.1 == r12.2.2.1 then (
  some (false, r37.2)) else (
  some (false, r37.2))) else (
  some (false, r37.2))) else (
  some (false, r37.2)))) else (
  let m38 : Mem := r30.2 ++ [.live [(Value.slice r5.1.a r5.1.len r5.1.cap), (Value.slice r7.1.a r7.1.len r7.1.cap), (Value.slice r9.1.a r9.1.len r9.1.cap)]]
  (patinaref01_Apart k (some ⟨List.length r30.2, 0, Option.none⟩) 3 3 m38).bind fun r39 =>
  (patinaref01_Lent_Kept k r3.1 r39.2).bind fun r40 =>
  bif r1.1 then (
  bif r10.1 then (
  bif r16.1 == r12.2.2.1 then (
  some (false, r40.2)) else (
  some (false, r40.2))) else (
  some (false, r40.2))) else (
  some (false, r40.2))))) else (
  (patinaref01_Same k r9.1.a r9.1.len r9.1.cap r14.1.a r14.1.len r14.1.cap r17.2).bind fun r41 =>
  bif r41.1 then (
  bif r9.2.1 == r14.2.1 then (
  (patinalaw00_Code k r9.2.2.1 r41.2).bind fun r42 =>
  let m43 : Mem := r42.2 ++ [.live [(Value.slice r5.1.a r5.1.len r5.1.cap), (Value.slice r7.1.a r7.1.len r7.1.cap), (Value.slice r9.1.a r9.1.len r9.1.cap)]]
  (patinaref01_Apart k (some ⟨List.length r42.2, 0, Option.none⟩) 3 3 m43).bind fun r44 =>
  (patinaref01_Lent_Kept k r3.1 r44.2).bind fun r45 =>
  bif r1.1 then (
  bif r10.1 then (
  bif r16.1 == r12.2.2.1 then (
  some (false, r45.2)) else (
  some (false, r45.2))) else (
  some (false, r45.2))) else (
  some (false, r45.2))) else (
  let m46 : Mem := r41.2 ++ [.live [(Value.slice r5.1.a r5.1.len r5.1.cap), (Value.slice r7.1.a r7.1.len r7.1.cap), (Value.slice r9.1.a r9.1.len r9.1.cap)]]
  (patinaref01_Apart k (some ⟨List.length r41.2, 0, Option.none⟩) 3 3 m46).bind fun r47 =>
  (patinaref01_Lent_Kept k r3.1 r47.2).bind fun r48 =>
  bif r1.1 then (
  bif r10.1 then (
  bif r16.1 == r12.2.2.1 then (
  some (false, r48.2)) else (
  some (false, r48.2))) else (
  some (false, r48.2))) else (
  some (false, r48.2)))) else (
  let m49 : Mem := r41.2 ++ [.live [(Value.slice r5.1.a r5.1.len r5.1.cap), (Value.slice r7.1.a r7.1.len r7.1.cap), (Value.slice r9.1.a r9.1.len r9.1.cap)]]
  (patinaref01_Apart k (some ⟨List.length r41.2, 0, Option.none⟩) 3 3 m49).bind fun r50 =>
  (patinaref01_Lent_Kept k r3.1 r50.2).bind fun r51 =>
  bif r1.1 then (
  bif r10.1 then (
  bif r16.1 == r12.2.2.1 then (
  some (false, r51.2)) else (
  some (false, r51.2))) else (
  some (false, r51.2))) else (
  some (false, r51.2))))) else (
  (patinaref01_Same k r7.1.a r7.1.len r7.1.cap r13.1.a r13.1.len r13.1.cap r15.2).bind fun r52 =>
  bif r52.1 then (
  bif r7.2.1 == r13.2.1 then (
  (patinalaw00_Code k r7.2.2.1 r52.2).bind fun r53 =>
  (patinaref01_Same k r9.1.a r9.1.len r9.1.cap r14.1.a r14.1.len r14.1.cap r53.2).bind fun r54 =>
  bif r54.1 then (
  bif r9.2.1 == r14.2.1 then (
  (patinalaw00_Code k r9.2.2.1 r54.2).bind fun r55 =>
  let m56 : Mem := r55.2 ++ [.live [(Value.slice r5.1.a r5.1.len r5.1.cap), (Value.slice r7.1.a r7.1.len r7.1.cap), (Value.slice r9.1.a r9.1.len r9.1.cap)]]
  (patinaref01_Apart k (some ⟨List.length r55.2, 0, Option.none⟩) 3 3 m56).bind fun r57 =>
  (patinaref01_Lent_Kept k r3.1 r57.2).bind fun r58 =>
  bif r1.1 then (
  bif r10.1 then (
  some (false, r58.2)) else (
  some (false, r58.2))) else (
  some (false, r58.2))) else (
  let m59 : Mem := r54.2 ++ [.live [(Value.slice r5.1.a r5.1.len r5.1.cap), (Value.slice r7.1.a r7.1.len r7.1.cap), (Value.slice r9.1.a r9.1.len r9.1.cap)]]
  (patinaref01_Apart k (some ⟨List.length r54.2, 0, Option.none⟩) 3 3 m59).bind fun r60 =>
  (patinaref01_Lent_Kept k r3.1 r60.2).bind fun r61 =>
  bif r1.1 then (
  bif r10.1 then (
  some (false, r61.2)) else (
  some (false, r61.2))) else (
  some (false, r61.2)))) else (
  let m62 : Mem := r54.2 ++ [.live [(Value.slice r5.1.a r5.1.len r5.1.cap), (Value.slice r7.1.a r7.1.len r7.1.cap), (Value.slice r9.1.a r9.1.len r9.1.cap)]]
  (patinaref01_Apart k (some ⟨List.length r54.2, 0, Option.none⟩) 3 3 m62).bind fun r63 =>
  (patinaref01_Lent_Kept k r3.1 r63.2).bind fun r64 =>
  bif r1.1 then (
  bif r10.1 then (
  some (false, r64.2)) else (
  some (false, r64.2))) else (
  some (false, r64.2)))) else (
  (patinaref01_Same k r9.1.a r9.1.len r9.1.cap r14.1.a r14.1.len r14.1.cap r52.2).bind fun r65 =>
  bif r65.1 then (
  bif r9.2.1 == r14.2.1 then (
  (patinalaw00_Code k r9.2.2.1 r65.2).bind fun r66 =>
  let m67 : Mem := r66.2 ++ [.live [(Value.slice r5.1.a r5.1.len r5.1.cap), (Value.slice r7.1.a r7.1.len r7.1.cap), (Value.slice r9.1.a r9.1.len r9.1.cap)]]
  (patinaref01_Apart k (some ⟨List.length r66.2, 0, Option.none⟩) 3 3 m67).bind fun r68 =>
  (patinaref01_Lent_Kept k r3.1 r68.2).bind fun r69 =>
  bif r1.1 then (
  bif r10.1 then (
  some (false, r69.2)) else (
  some (false, r69.2))) else (
  some (false, r69.2))) else (
  let m70 : Mem := r65.2 ++ [.live [(Value.slice r5.1.a r5.1.len r5.1.cap), (Value.slice r7.1.a r7.1.len r7.1.cap), (Value.slice r9.1.a r9.1.len r9.1.cap)]]
  (patinaref01_Apart k (some ⟨List.length r65.2, 0, Option.none⟩) 3 3 m70).bind fun r71 =>
  (patinaref01_Lent_Kept k r3.1 r71.2).bind fun r72 =>
  bif r1.1 then (
  bif r10.1 then (
  some (false, r72.2)) else (
  some (false, r72.2))) else (
  some (false, r72.2)))) else (
  let m73 : Mem := r65.2 ++ [.live [(Value.slice r5.1.a r5.1.len r5.1.cap), (Value.slice r7.1.a r7.1.len r7.1.cap), (Value.slice r9.1.a r9.1.len r9.1.cap)]]
  (patinaref01_Apart k (some ⟨List.length r65.2, 0, Option.none⟩) 3 3 m73).bind fun r74 =>
  (patinaref01_Lent_Kept k r3.1 r74.2).bind fun r75 =>
  bif r1.1 then (
  bif r10.1 then (
  some (false, r75.2)) else (
  some (false, r75.2))) else (
  some (false, r75.2))))) else (
  (patinaref01_Same k r9.1.a r9.1.len r9.1.cap r14.1.a r14.1.len r14.1.cap r52.2).bind fun r76 =>
  bif r76.1 then (
  bif r9.2.1 == r14.2.1 then (
  (patinalaw00_Code k r9.2.2.1 r76.2).bind fun r77 =>
  let m78 : Mem := r77.2 ++ [.live [(Value.slice r5.1.a r5.1.len r5.1.cap), (Value.slice r7.1.a r7.1.len r7.1.cap), (Value.slice r9.1.a r9.1.len r9.1.cap)]]
  (patinaref01_Apart k (some ⟨List.length r77.2, 0, Option.none⟩) 3 3 m78).bind fun r79 =>
  (patinaref01_Lent_Kept k r3.1 r79.2).bind fun r80 =>
  bif r1.1 then (
  bif r10.1 then (
  some (false, r80.2)) else (
  some (false, r80.2))) else (
  some (false, r80.2))) else (
  let m81 : Mem := r76.2 ++ [.live [(Value.slice r5.1.a r5.1.len r5.1.cap), (Value.slice r7.1.a r7.1.len r7.1.cap), (Value.slice r9.1.a r9.1.len r9.1.cap)]]
  (patinaref01_Apart k (some ⟨List.length r76.2, 0, Option.none⟩) 3 3 m81).bind fun r82 =>
  (patinaref01_Lent_Kept k r3.1 r82.2).bind fun r83 =>
  bif r1.1 then (
  bif r10.1 then (
  some (false, r83.2)) else (
  some (false, r83.2))) else (
  some (false, r83.2)))) else (
  let m84 : Mem := r76.2 ++ [.live [(Value.slice r5.1.a r5.1.len r5.1.cap), (Value.slice r7.1.a r7.1.len r7.1.cap), (Value.slice r9.1.a r9.1.len r9.1.cap)]]
  (patinaref01_Apart k (some ⟨List.length r76.2, 0, Option.none⟩) 3 3 m84).bind fun r85 =>
  (patinaref01_Lent_Kept k r3.1 r85.2).bind fun r86 =>
  bif r1.1 then (
  bif r10.1 then (
  some (false, r86.2)) else (
  some (false, r86.2))) else (
  some (false, r86.2)))))) else (
  (patinaref01_Same k r7.1.a r7.1.len r7.1.cap r13.1.a r13.1.len r13.1.cap r15.2).bind fun r87 =>
  bif r87.1 then (
  bif r7.2.1 == r13.2.1 then (
  (patinalaw00_Code k r7.2.2.1 r87.2).bind fun r88 =>
  (patinaref01_Same k r9.1.a r9.1.len r9.1.cap r14.1.a r14.1.len r14.1.cap r88.2).bind fun r89 =>
  bif r89.1 then (
  bif r9.2.1 == r14.2.1 then (
  (patinalaw00_Code k r9.2.2.1 r89.2).bind fun r90 =>
  let m91 : Mem := r90.2 ++ [.live [(Value.slice r5.1.a r5.1.len r5.1.cap), (Value.slice r7.1.a r7.1.len r7.1.cap), (Value.slice r9.1.a r9.1.len r9.1.cap)]]
  (patinaref01_Apart k (some ⟨List.length r90.2, 0, Option.none⟩) 3 3 m91).bind fun r92 =>
  (patinaref01_Lent_Kept k r3.1 r92.2).bind fun r93 =>
  bif r1.1 then (
  bif r10.1 then (
  some (false, r93.2)) else (
  some (false, r93.2))) else (
  some (false, r93.2))) else (
  let m94 : Mem := r89.2 ++ [.live [(Value.slice r5.1.a r5.1.len r5.1.cap), (Value.slice r7.1.a r7.1.len r7.1.cap), (Value.slice r9.1.a r9.1.len r9.1.cap)]]
  (patinaref01_Apart k (some ⟨List.length r89.2, 0, Option.none⟩) 3 3 m94).bind fun r95 =>
  (patinaref01_Lent_Kept k r3.1 r95.2).bind fun r96 =>
  bif r1.1 then (
  bif r10.1 then (
  some (false, r96.2)) else (
  some (false, r96.2))) else (
  some (false, r96.2)))) else (
  let m97 : Mem := r89.2 ++ [.live [(Value.slice r5.1.a r5.1.len r5.1.cap), (Value.slice r7.1.a r7.1.len r7.1.cap), (Value.slice r9.1.a r9.1.len r9.1.cap)]]
  (patinaref01_Apart k (some ⟨List.length r89.2, 0, Option.none⟩) 3 3 m97).bind fun r98 =>
  (patinaref01_Lent_Kept k r3.1 r98.2).bind fun r99 =>
  bif r1.1 then (
  bif r10.1 then (
  some (false, r99.2)) else (
  some (false, r99.2))) else (
  some (false, r99.2)))) else (
  (patinaref01_Same k r9.1.a r9.1.len r9.1.cap r14.1.a r14.1.len r14.1.cap r87.2).bind fun r100 =>
  bif r100.1 then (
  bif r9.2.1 == r14.2.1 then (
  (patinalaw00_Code k r9.2.2.1 r100.2).bind fun r101 =>
  let m102 : Mem := r101.2 ++ [.live [(Value.slice r5.1.a r5.1.len r5.1.cap), (Value.slice r7.1.a r7.1.len r7.1.cap), (Value.slice r9.1.a r9.1.len r9.1.cap)]]
  (patinaref01_Apart k (some ⟨List.length r101.2, 0, Option.none⟩) 3 3 m102).bind fun r103 =>
  (patinaref01_Lent_Kept k r3.1 r103.2).bind fun r104 =>
  bif r1.1 then (
  bif r10.1 then (
  some (false, r104.2)) else (
  some (false, r104.2))) else (
  some (false, r104.2))) else (
  let m105 : Mem := r100.2 ++ [.live [(Value.slice r5.1.a r5.1.len r5.1.cap), (Value.slice r7.1.a r7.1.len r7.1.cap), (Value.slice r9.1.a r9.1.len r9.1.cap)]]
  (patinaref01_Apart k (some ⟨List.length r100.2, 0, Option.none⟩) 3 3 m105).bind fun r106 =>
  (patinaref01_Lent_Kept k r3.1 r106.2).bind fun r107 =>
  bif r1.1 then (
  bif r10.1 then (
  some (false, r107.2)) else (
  some (false, r107.2))) else (
  some (false, r107.2)))) else (
  let m108 : Mem := r100.2 ++ [.live [(Value.slice r5.1.a r5.1.len r5.1.cap), (Value.slice r7.1.a r7.1.len r7.1.cap), (Value.slice r9.1.a r9.1.len r9.1.cap)]]
  (patinaref01_Apart k (some ⟨List.length r100.2, 0, Option.none⟩) 3 3 m108).bind fun r109 =>
  (patinaref01_Lent_Kept k r3.1 r109.2).bind fun r110 =>
  bif r1.1 then (
  bif r10.1 then (
  some (false, r110.2)) else (
  some (false, r110.2))) else (
  some (false, r110.2))))) else (
  (patinaref01_Same k r9.1.a r9.1.len r9.1.cap r14.1.a r14.1.len r14.1.cap r87.2).bind fun r111 =>
  bif r111.1 then (
  bif r9.2.1 == r14.2.1 then (
  (patinalaw00_Code k r9.2.2.1 r111.2).bind fun r112 =>
  let m113 : Mem := r112.2 ++ [.live [(Value.slice r5.1.a r5.1.len r5.1.cap), (Value.slice r7.1.a r7.1.len r7.1.cap), (Value.slice r9.1.a r9.1.len r9.1.cap)]]
  (patinaref01_Apart k (some ⟨List.length r112.2, 0, Option.none⟩) 3 3 m113).bind fun r114 =>
  (patinaref01_Lent_Kept k r3.1 r114.2).bind fun r115 =>
  bif r1.1 then (
  bif r10.1 then (
  some (false, r115.2)) else (
  some (false, r115.2))) else (
  some (false, r115.2))) else (
  let m116 : Mem := r111.2 ++ [.live [(Value.slice r5.1.a r5.1.len r5.1.cap), (Value.slice r7.1.a r7.1.len r7.1.cap), (Value.slice r9.1.a r9.1.len r9.1.cap)]]
  (patinaref01_Apart k (some ⟨List.length r111.2, 0, Option.none⟩) 3 3 m116).bind fun r117 =>
  (patinaref01_Lent_Kept k r3.1 r117.2).bind fun r118 =>
  bif r1.1 then (
  bif r10.1 then (
  some (false, r118.2)) else (
  some (false, r118.2))) else (
  some (false, r118.2)))) else (
  let m119 : Mem := r111.2 ++ [.live [(Value.slice r5.1.a r5.1.len r5.1.cap), (Value.slice r7.1.a r7.1.len r7.1.cap), (Value.slice r9.1.a r9.1.len r9.1.cap)]]
  (patinaref01_Apart k (some ⟨List.length r111.2, 0, Option.none⟩) 3 3 m119).bind fun r120 =>
  (patinaref01_Lent_Kept k r3.1 r120.2).bind fun r121 =>
  bif r1.1 then (
  bif r10.1 then (
  some (false, r121.2)) else (
  some (false, r121.2))) else (
  some (false, r121.2))))))

def patinalaw06_FrameReads_call {R : Type} (k : Nat) : Fun R := callCons 7 (patinalaw06_shown_arm k) (callCons 8 (frame_New_arm k) (callCons 9 (patinaref01_Lend_arm k) (callCons 11 (patinaref01_Lent_Bytes_arm k) (callCons 12 (patinaref01_Lent_Kept_arm k) (callCons 13 (patinaref01_Lent_Turn_arm k) (callCons 15 (patinaref01_Same_arm k) (callCons 16 (patinaref01_Apart_arm k) (callCons 17 (frame_Frame_Message_arm k) (callCons 18 (frame_Frame_Data_arm k) (callCons 19 (frame_Frame_Body_arm k) (callCons 20 (patinaref06_Message_arm k) (callCons 21 (patinaref06_Data_arm k) (callCons 22 (patinaref06_Body_arm k) (callCons 23 (patinalaw00_Code_arm k) (callNil)))))))))))))))

theorem patinalaw06_FrameReads_callOk {R : Type} (k : Nat) : CallOk Try.prog (patinalaw06_FrameReads_call (R := R) k) := callOk_cons (patinalaw06_shown_armOk k) (callOk_cons (frame_New_armOk k) (callOk_cons (patinaref01_Lend_armOk k) (callOk_cons (patinaref01_Lent_Bytes_armOk k) (callOk_cons (patinaref01_Lent_Kept_armOk k) (callOk_cons (patinaref01_Lent_Turn_armOk k) (callOk_cons (patinaref01_Same_armOk k) (callOk_cons (patinaref01_Apart_armOk k) (callOk_cons (frame_Frame_Message_armOk k) (callOk_cons (frame_Frame_Data_armOk k) (callOk_cons (frame_Frame_Body_armOk k) (callOk_cons (patinaref06_Message_armOk k) (callOk_cons (patinaref06_Data_armOk k) (callOk_cons (patinaref06_Body_armOk k) (callOk_cons (patinalaw00_Code_armOk k) (callOk_nil)))))))))))))))

def patinalaw06_FrameReads_loop (k : Nat) : Nat → List Value → Mem → (Nat → List Value → Mem → Option (Bool × Mem)) → Option (Bool × Mem) := fun _ _ _ _ => none

def patinalaw06_FrameReads_C (k : Nat) : Ctx (Bool × Mem) := ⟨tt, patinalaw06_FrameReads_call k, patinalaw06_FrameReads_loop k, [], []⟩

def patinalaw06_FrameReads_dec : Value → Mem → Option (Bool × Mem) := fun v m => match v with
  | .bool q0 => some (q0, m)
  | _ => none

theorem patinalaw06_FrameReads_eq (k : Nat) (p0a : Option Addr) (p0n : Nat) (p0c : Nat) (p1 : Int) (m : Mem) : fnX (patinalaw06_FrameReads_C k) Try.f4 [(Value.slice p0a p0n p0c), (Value.int .i64 p1)] m patinalaw06_FrameReads_dec = patinalaw06_FrameReads k p0a p0n p0c p1 m := by kernel_rfl

theorem patinalaw06_FrameReads_ok {k : Nat} {p0a : Option Addr} {p0n : Nat} {p0c : Nat} {p1 : Int} {m : Mem} {r : (Bool × Mem)} (h : patinalaw06_FrameReads k p0a p0n p0c p1 m = some r) : CallP Try.prog 4 [(Value.slice p0a p0n p0c), (Value.int .i64 p1)] m fun v m' => v = (Value.bool r.1) ∧ m' = r.2 := by
  refine (fn_sound (C := patinalaw06_FrameReads_C k) (c := body Try.f4) tOk mixed (patinalaw06_FrameReads_callOk k) Try.func4 (by kernel_rfl) (by kernel_rfl) (by kernel_rfl) (by kernel_rfl) ?_ ?_ (Eq.trans (patinalaw06_FrameReads_eq k p0a p0n p0c p1 m) h)).mono ?_
  · intro p hp; rw [show loopsOf 0 (body Try.f4) = [] by kernel_rfl] at hp; cases hp
  · intro p hp; rw [show rangesOf 0 (body Try.f4) = [] by kernel_rfl] at hp; cases hp
  · intro v m' hp
    unfold patinalaw06_FrameReads_dec at hp
    split at hp
    · simp only [Option.some.injEq] at hp; subst hp; exact ⟨rfl, rfl⟩
    · cases hp

def patinalaw06_FrameReads_arm {R : Type} (k : Nat) : Arm R := fun vs m K => match vs with
  | [.slice p0a p0n p0c, .int .i64 p1] => (patinalaw06_FrameReads k p0a p0n p0c p1 m).bind fun r => K (Value.bool r.1) r.2
  | _ => none

theorem patinalaw06_FrameReads_armOk {R : Type} (k : Nat) : ArmOk Try.prog 4 (patinalaw06_FrameReads_arm (R := R) k) := by
  intro vs m K r h
  unfold patinalaw06_FrameReads_arm at h
  split at h
  · obtain ⟨r, h1, h2⟩ := Option.bind_eq_some_iff.1 h; exact ⟨_, _, h2, fun K' => by simp only [patinalaw06_FrameReads_arm, h1, Option.bind_some], patinalaw06_FrameReads_ok h1⟩
  · cases h

end Go.Proofs.Ytmfmoanjecjeeaa
