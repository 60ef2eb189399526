import Derived.Test.YtchonnaoojpdoaaGreatF1
set_option linter.unusedVariables false
set_option maxRecDepth 100000
namespace Go.Proofs.YtchonnaoojpdoaaGreat
open Go.Mx
def patinalaw00_further (k:Nat) (p0:Value) (m:Mem):Option (Int × Mem) :=
 (ifEq tt p0 (Value.iface ty_api_Code (Value.int .i64 12))).bind fun b1 =>
 bif b1 then (
 some (12,m)) else (
 (ifEq tt p0 (Value.iface ty_api_Code (Value.int .i64 13))).bind fun b2 =>
 bif b2 then (
 some (13,m)) else (
 (ifEq tt p0 (Value.iface ty_api_Code (Value.int .i64 14))).bind fun b3 =>
 bif b3 then (
 some (14,m)) else (
 (ifEq tt p0 (Value.iface ty_api_Code (Value.int .i64 15))).bind fun b4 =>
 bif b4 then (
 some (15,m)) else (
 (ifEq tt p0 (Value.iface ty_api_Code (Value.int .i64 16))).bind fun b5 =>
 bif b5 then (
 some (16,m)) else (
 (ifEq tt p0 (Value.iface ty_api_Code (Value.int .i64 17))).bind fun b6 =>
 bif b6 then (
 some (17,m)) else (
 (ifEq tt p0 (Value.iface ty_api_Code (Value.int .i64 18))).bind fun b7 =>
 bif b7 then (
 some (18,m)) else (
 (ifEq tt p0 (Value.iface ty_api_Code (Value.int .i64 19))).bind fun b8 =>
 bif b8 then (
 some (19,m)) else (
 some ((-1),m)))))))))
def patinalaw00_further_U (k:Nat) (vs:List Value) (m:Mem):Option (Int × Mem):=match vs with
 | [p0] => patinalaw00_further k p0 m
 | _ => none
theorem patinalaw00_further_ok (k:Nat):FOk Tryz.prog 53 Sh0 (patinalaw00_further_U k):=by
 intro vs m r h;unfold patinalaw00_further_U at h;split at h
 ·exact ok0 (cN) Tryz.func53 (by kernel_rfl) (Eq.trans (by kernel_rfl) h)
 ·cases h
def patinalaw00_Code (k:Nat) (p0:Value) (m:Mem):Option (Int × Mem) :=
 (isNil p0).bind fun b1 =>
 bif b1 then (
 some (0,m)) else (
 (ifEq tt p0 (Value.iface ty_api_Code (Value.int .i64 1))).bind fun b2 =>
 bif b2 then (
 some (1,m)) else (
 (ifEq tt p0 (Value.iface ty_api_Code (Value.int .i64 2))).bind fun b3 =>
 bif b3 then (
 some (2,m)) else (
 (ifEq tt p0 (Value.iface ty_api_Code (Value.int .i64 3))).bind fun b4 =>
 bif b4 then (
 some (3,m)) else (
 (ifEq tt p0 (Value.iface ty_api_Code (Value.int .i64 4))).bind fun b5 =>
 bif b5 then (
 some (4,m)) else (
 (ifEq tt p0 (Value.iface ty_api_Code (Value.int .i64 5))).bind fun b6 =>
 bif b6 then (
 some (5,m)) else (
 (ifEq tt p0 (Value.iface ty_api_Code (Value.int .i64 6))).bind fun b7 =>
 bif b7 then (
 some (6,m)) else (
 (ifEq tt p0 (Value.iface ty_api_Code (Value.int .i64 7))).bind fun b8 =>
 bif b8 then (
 some (7,m)) else (
 (ifEq tt p0 (Value.iface ty_api_Code (Value.int .i64 8))).bind fun b9 =>
 bif b9 then (
 some (8,m)) else (
 (ifEq tt p0 (Value.iface ty_api_Code (Value.int .i64 9))).bind fun b10 =>
 bif b10 then (
 some (9,m)) else (
 (ifEq tt p0 (Value.iface ty_api_Code (Value.int .i64 10))).bind fun b11 =>
 bif b11 then (
 some (10,m)) else (
 (ifEq tt p0 (Value.iface ty_api_Code (Value.int .i64 11))).bind fun b12 =>
 bif b12 then (
 some (11,m)) else (
 (patinalaw00_further k p0 m).bind fun r13 =>
 some (r13.1,r13.2)))))))))))))
def patinalaw00_Code_U (k:Nat) (vs:List Value) (m:Mem):Option (Int × Mem):=match vs with
 | [p0] => patinalaw00_Code k p0 m
 | _ => none
theorem patinalaw00_Code_ok (k:Nat):FOk Tryz.prog 27 Sh0 (patinalaw00_Code_U k):=by
 intro vs m r h;unfold patinalaw00_Code_U at h;split at h
 ·exact ok0 (cC (patinalaw00_further_ok k) <| cN) Tryz.func27 (by kernel_rfl) (Eq.trans (by kernel_rfl) h)
 ·cases h
end Go.Proofs.YtchonnaoojpdoaaGreat
