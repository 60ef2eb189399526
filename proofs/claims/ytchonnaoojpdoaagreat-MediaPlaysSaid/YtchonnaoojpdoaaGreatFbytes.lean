import Derived.Test.YtchonnaoojpdoaaGreatF1
set_option linter.unusedVariables false
set_option maxRecDepth 100000
namespace Go.Proofs.YtchonnaoojpdoaaGreat
open Go.Mx
def bytes_Clone (k:Nat) (p0a:OA) (p0n:Nat) (p0c:Nat) (m:Mem):Option (Sl × Mem) :=
 bif Option.isNone p0a then (
 some ((⟨none,0,0⟩:Sl),m)) else (
 let m1:Mem:=m ++ [.live []]
 (rdSl m1 p0a p0n 1).bind fun l2 =>
 (appM 1 1 m1 (some ⟨List.length m,0,none⟩) 0 0 p0n l2).bind fun r3 =>
 some ((⟨r3.1.a,r3.1.len,r3.1.cap⟩:Sl),r3.2))
def bytes_Clone_U (k:Nat) (vs:List Value) (m:Mem):Option (Sl × Mem):=match vs with
 | [.slice p0a p0n p0c] => bytes_Clone k p0a p0n p0c m
 | _ => none
theorem bytes_Clone_ok (k:Nat):FOk Tryz.prog 105 Sh4 (bytes_Clone_U k):=by
 intro vs m r h;unfold bytes_Clone_U at h;split at h
 ·exact ok0 (cN) Tryz.func105 (by kernel_rfl) (Eq.trans (by kernel_rfl) h)
 ·cases h
def bytes_Equal (k:Nat) (p0a:OA) (p0n:Nat) (p0c:Nat) (p1a:OA) (p1n:Nat) (p1c:Nat) (m:Mem):Option (Bool × Mem) :=
 (rdSl m p0a p0n 1).bind fun l1 =>
 (strOf l1).bind fun s2 =>
 (rdSl m p1a p1n 1).bind fun l3 =>
 (strOf l3).bind fun s4 =>
 some (strEq s2 s4,m)
def bytes_Equal_U (k:Nat) (vs:List Value) (m:Mem):Option (Bool × Mem):=match vs with
 | [.slice p0a p0n p0c,.slice p1a p1n p1c] => bytes_Equal k p0a p0n p0c p1a p1n p1c m
 | _ => none
theorem bytes_Equal_ok (k:Nat):FOk Tryz.prog 48 Sh12 (bytes_Equal_U k):=by
 intro vs m r h;unfold bytes_Equal_U at h;split at h
 ·exact ok0 (cN) Tryz.func48 (by kernel_rfl) (Eq.trans (by kernel_rfl) h)
 ·cases h
end Go.Proofs.YtchonnaoojpdoaaGreat
