import Derived.Test.YtchonnaoojpdoaaGreatF1
set_option linter.unusedVariables false
set_option maxRecDepth 100000
namespace Go.Proofs.YtchonnaoojpdoaaGreat
open Go.Mx
def sync_atomic_LoadInt64 (k:Nat) (p0:OA) (m:Mem):Option (Int × Mem):=atLoad m p0
def sync_atomic_LoadInt64_U (k:Nat) (vs:List Value) (m:Mem):Option (Int × Mem):=match vs with
 | [.pointer p0] => sync_atomic_LoadInt64 k p0 m
 | _ => none
theorem sync_atomic_LoadInt64_ok (k:Nat):FOk Tryz.prog 69 Sh0 (sync_atomic_LoadInt64_U k):=by
 intro vs m r h;unfold sync_atomic_LoadInt64_U at h;split at h
 ·exact atLoad_ok Tryz.func69 (by kernel_rfl) (by kernel_rfl) (by kernel_rfl) (by kernel_rfl) h
 ·cases h
def sync_atomic_Int64_Load (k:Nat) (p0:OA) (m:Mem):Option (Int × Mem) :=
 (p0).bind fun a1 =>
 (sync_atomic_LoadInt64 k (some (plus a1 0)) m).bind fun r2 =>
 some (r2.1,r2.2)
def sync_atomic_Int64_Load_U (k:Nat) (vs:List Value) (m:Mem):Option (Int × Mem):=match vs with
 | [.pointer p0] => sync_atomic_Int64_Load k p0 m
 | _ => none
theorem sync_atomic_Int64_Load_ok (k:Nat):FOk Tryz.prog 35 Sh0 (sync_atomic_Int64_Load_U k):=by
 intro vs m r h;unfold sync_atomic_Int64_Load_U at h;split at h
 ·exact ok0 (cC (sync_atomic_LoadInt64_ok k) <| cN) Tryz.func35 (by kernel_rfl) (Eq.trans (by kernel_rfl) h)
 ·cases h
def sync_atomic_StoreInt64 (k:Nat) (p0:OA) (p1:Int) (m:Mem):Option Mem:=atStore m p0 p1
def sync_atomic_StoreInt64_U (k:Nat) (vs:List Value) (m:Mem):Option Mem:=match vs with
 | [.pointer p0,.int .i64 p1] => sync_atomic_StoreInt64 k p0 p1 m
 | _ => none
theorem sync_atomic_StoreInt64_ok (k:Nat):FOk Tryz.prog 98 Sh1 (sync_atomic_StoreInt64_U k):=by
 intro vs m r h;unfold sync_atomic_StoreInt64_U at h;split at h
 ·exact atStore_ok Tryz.func98 (by kernel_rfl) (by kernel_rfl) (by kernel_rfl) (by kernel_rfl) h
 ·cases h
def sync_atomic_Int64_Store (k:Nat) (p0:OA) (p1:Int) (m:Mem):Option Mem :=
 (p0).bind fun a1 =>
 (sync_atomic_StoreInt64 k (some (plus a1 0)) p1 m).bind fun r2 =>
 some (r2)
def sync_atomic_Int64_Store_U (k:Nat) (vs:List Value) (m:Mem):Option Mem:=match vs with
 | [.pointer p0,.int .i64 p1] => sync_atomic_Int64_Store k p0 p1 m
 | _ => none
theorem sync_atomic_Int64_Store_ok (k:Nat):FOk Tryz.prog 70 Sh1 (sync_atomic_Int64_Store_U k):=by
 intro vs m r h;unfold sync_atomic_Int64_Store_U at h;split at h
 ·exact ok0 (cC (sync_atomic_StoreInt64_ok k) <| cN) Tryz.func70 (by kernel_rfl) (Eq.trans (by kernel_rfl) h)
 ·cases h
def sync_atomic_AddInt64 (k:Nat) (p0:OA) (p1:Int) (m:Mem):Option (Int × Mem):=atAdd m p0 p1
def sync_atomic_AddInt64_U (k:Nat) (vs:List Value) (m:Mem):Option (Int × Mem):=match vs with
 | [.pointer p0,.int .i64 p1] => sync_atomic_AddInt64 k p0 p1 m
 | _ => none
theorem sync_atomic_AddInt64_ok (k:Nat):FOk Tryz.prog 72 Sh0 (sync_atomic_AddInt64_U k):=by
 intro vs m r h;unfold sync_atomic_AddInt64_U at h;split at h
 ·exact atAdd_ok Tryz.func72 (by kernel_rfl) (by kernel_rfl) (by kernel_rfl) (by kernel_rfl) h
 ·cases h
def sync_atomic_Int64_Add (k:Nat) (p0:OA) (p1:Int) (m:Mem):Option (Int × Mem) :=
 (p0).bind fun a1 =>
 (sync_atomic_AddInt64 k (some (plus a1 0)) p1 m).bind fun r2 =>
 some (r2.1,r2.2)
def sync_atomic_Int64_Add_U (k:Nat) (vs:List Value) (m:Mem):Option (Int × Mem):=match vs with
 | [.pointer p0,.int .i64 p1] => sync_atomic_Int64_Add k p0 p1 m
 | _ => none
theorem sync_atomic_Int64_Add_ok (k:Nat):FOk Tryz.prog 40 Sh0 (sync_atomic_Int64_Add_U k):=by
 intro vs m r h;unfold sync_atomic_Int64_Add_U at h;split at h
 ·exact ok0 (cC (sync_atomic_AddInt64_ok k) <| cN) Tryz.func40 (by kernel_rfl) (Eq.trans (by kernel_rfl) h)
 ·cases h
end Go.Proofs.YtchonnaoojpdoaaGreat
