import Derived.Test.YtchonnaoojpdoaaGreatF0
import Derived.Test.YtchonnaoojpdoaaGreatMxFn
set_option linter.unusedVariables false
set_option maxRecDepth 100000
namespace Go.Proofs.YtchonnaoojpdoaaGreat
open Go.Mx
def Sh0:Shape (Int × Mem):=⟨fun r => (Value.int .i64 r.1),fun r => r.2,fun v m => match v with
 | .int .i64 q0 => some (q0,m)
 | _ => none,by intro v m r h;split at h <;> cases h;exact ⟨rfl,rfl⟩⟩
def Sh1:Shape (Mem):=⟨fun r => (Value.tuple ⟨[]⟩),fun r => r,fun v m => match v with
 | .tuple ⟨[]⟩ => some (m)
 | _ => none,by intro v m r h;split at h <;> cases h;exact ⟨rfl,rfl⟩⟩
def Sh2:Shape ((OA) × Mem):=⟨fun r => (Value.pointer r.1),fun r => r.2,fun v m => match v with
 | .pointer q0 => some (q0,m)
 | _ => none,by intro v m r h;split at h <;> cases h;exact ⟨rfl,rfl⟩⟩
def Sh3:Shape (Int × Mem):=⟨fun r => (Value.int .u8 r.1),fun r => r.2,fun v m => match v with
 | .int .u8 q0 => some (q0,m)
 | _ => none,by intro v m r h;split at h <;> cases h;exact ⟨rfl,rfl⟩⟩
def Sh4:Shape (Sl × Mem):=⟨fun r => (Value.slice r.1.a r.1.len r.1.cap),fun r => r.2,fun v m => match v with
 | .slice q0a q0n q0c => some ((⟨q0a,q0n,q0c⟩:Sl),m)
 | _ => none,by intro v m r h;split at h <;> cases h;exact ⟨rfl,rfl⟩⟩
def Sh5:Shape ((OA) × Value × Mem):=⟨fun r => (Value.tuple ⟨[(Value.pointer r.1),r.2.1]⟩),fun r => r.2.2,fun v m => match v with
 | .tuple ⟨[.pointer q0,q1]⟩ => some (q0,q1,m)
 | _ => none,by intro v m r h;split at h <;> cases h;exact ⟨rfl,rfl⟩⟩
def Sh6:Shape (Sl × Value × Mem):=⟨fun r => (Value.tuple ⟨[(Value.slice r.1.a r.1.len r.1.cap),r.2.1]⟩),fun r => r.2.2,fun v m => match v with
 | .tuple ⟨[.slice q0a q0n q0c,q1]⟩ => some ((⟨q0a,q0n,q0c⟩:Sl),q1,m)
 | _ => none,by intro v m r h;split at h <;> cases h;exact ⟨rfl,rfl⟩⟩
def Sh7:Shape ((List Value) × Mem):=⟨fun r => (Value.agg ⟨r.1⟩),fun r => r.2,fun v m => match v with
 | .agg ⟨q0⟩ => some (q0,m)
 | _ => none,by intro v m r h;split at h <;> cases h;exact ⟨rfl,rfl⟩⟩
def Sh8:Shape (Int × Value × Mem):=⟨fun r => (Value.tuple ⟨[(Value.int .u8 r.1),r.2.1]⟩),fun r => r.2.2,fun v m => match v with
 | .tuple ⟨[.int .u8 q0,q1]⟩ => some (q0,q1,m)
 | _ => none,by intro v m r h;split at h <;> cases h;exact ⟨rfl,rfl⟩⟩
def Sh9:Shape (Int × Value × Mem):=⟨fun r => (Value.tuple ⟨[(Value.int .i64 r.1),r.2.1]⟩),fun r => r.2.2,fun v m => match v with
 | .tuple ⟨[.int .i64 q0,q1]⟩ => some (q0,q1,m)
 | _ => none,by intro v m r h;split at h <;> cases h;exact ⟨rfl,rfl⟩⟩
def Sh10:Shape (Sl × Int × Value × Mem):=⟨fun r => (Value.tuple ⟨[(Value.slice r.1.a r.1.len r.1.cap),(Value.int .i64 r.2.1),r.2.2.1]⟩),fun r => r.2.2.2,fun v m => match v with
 | .tuple ⟨[.slice q0a q0n q0c,.int .i64 q1,q2]⟩ => some ((⟨q0a,q0n,q0c⟩:Sl),q1,q2,m)
 | _ => none,by intro v m r h;split at h <;> cases h;exact ⟨rfl,rfl⟩⟩
def Sh11:Shape (Value × Mem):=⟨fun r => r.1,fun r => r.2,fun v m => match v with
 | q0 => some (q0,m),by intro v m r h;cases h;exact ⟨rfl,rfl⟩⟩
def Sh12:Shape (Bool × Mem):=⟨fun r => (Value.bool r.1),fun r => r.2,fun v m => match v with
 | .bool q0 => some (q0,m)
 | _ => none,by intro v m r h;split at h <;> cases h;exact ⟨rfl,rfl⟩⟩
def Sh13:Shape (Int × Value × Mem):=⟨fun r => (Value.tuple ⟨[(Value.int .u64 r.1),r.2.1]⟩),fun r => r.2.2,fun v m => match v with
 | .tuple ⟨[.int .u64 q0,q1]⟩ => some (q0,q1,m)
 | _ => none,by intro v m r h;split at h <;> cases h;exact ⟨rfl,rfl⟩⟩
def Sh14:Shape ((List Value) × Value × Mem):=⟨fun r => (Value.tuple ⟨[(Value.agg ⟨r.1⟩),r.2.1]⟩),fun r => r.2.2,fun v m => match v with
 | .tuple ⟨[.agg ⟨q0⟩,q1]⟩ => some (q0,q1,m)
 | _ => none,by intro v m r h;split at h <;> cases h;exact ⟨rfl,rfl⟩⟩
def Sh15:Shape (Sl × Int × Mem):=⟨fun r => (Value.tuple ⟨[(Value.slice r.1.a r.1.len r.1.cap),(Value.int .i64 r.2.1)]⟩),fun r => r.2.2,fun v m => match v with
 | .tuple ⟨[.slice q0a q0n q0c,.int .i64 q1]⟩ => some ((⟨q0a,q0n,q0c⟩:Sl),q1,m)
 | _ => none,by intro v m r h;split at h <;> cases h;exact ⟨rfl,rfl⟩⟩
def Sh16:Shape (Sl × Sl × Mem):=⟨fun r => (Value.tuple ⟨[(Value.slice r.1.a r.1.len r.1.cap),(Value.slice r.2.1.a r.2.1.len r.2.1.cap)]⟩),fun r => r.2.2,fun v m => match v with
 | .tuple ⟨[.slice q0a q0n q0c,.slice q1a q1n q1c]⟩ => some ((⟨q0a,q0n,q0c⟩:Sl),(⟨q1a,q1n,q1c⟩:Sl),m)
 | _ => none,by intro v m r h;split at h <;> cases h;exact ⟨rfl,rfl⟩⟩
def Sh17:Shape (Sl × Int × Bool × Mem):=⟨fun r => (Value.tuple ⟨[(Value.slice r.1.a r.1.len r.1.cap),(Value.int .i64 r.2.1),(Value.bool r.2.2.1)]⟩),fun r => r.2.2.2,fun v m => match v with
 | .tuple ⟨[.slice q0a q0n q0c,.int .i64 q1,.bool q2]⟩ => some ((⟨q0a,q0n,q0c⟩:Sl),q1,q2,m)
 | _ => none,by intro v m r h;split at h <;> cases h;exact ⟨rfl,rfl⟩⟩
def Sh18:Shape (Sl × Int × Int × Mem):=⟨fun r => (Value.tuple ⟨[(Value.slice r.1.a r.1.len r.1.cap),(Value.int .i64 r.2.1),(Value.int .i64 r.2.2.1)]⟩),fun r => r.2.2.2,fun v m => match v with
 | .tuple ⟨[.slice q0a q0n q0c,.int .i64 q1,.int .i64 q2]⟩ => some ((⟨q0a,q0n,q0c⟩:Sl),q1,q2,m)
 | _ => none,by intro v m r h;split at h <;> cases h;exact ⟨rfl,rfl⟩⟩
def Sh19:Shape (Sl × Bool × Mem):=⟨fun r => (Value.tuple ⟨[(Value.slice r.1.a r.1.len r.1.cap),(Value.bool r.2.1)]⟩),fun r => r.2.2,fun v m => match v with
 | .tuple ⟨[.slice q0a q0n q0c,.bool q1]⟩ => some ((⟨q0a,q0n,q0c⟩:Sl),q1,m)
 | _ => none,by intro v m r h;split at h <;> cases h;exact ⟨rfl,rfl⟩⟩
def Sh20:Shape (Int × Mem):=⟨fun r => (Value.int .u64 r.1),fun r => r.2,fun v m => match v with
 | .int .u64 q0 => some (q0,m)
 | _ => none,by intro v m r h;split at h <;> cases h;exact ⟨rfl,rfl⟩⟩
def Sh21:Shape ((List Value) × Bool × Mem):=⟨fun r => (Value.tuple ⟨[(Value.agg ⟨r.1⟩),(Value.bool r.2.1)]⟩),fun r => r.2.2,fun v m => match v with
 | .tuple ⟨[.agg ⟨q0⟩,.bool q1]⟩ => some (q0,q1,m)
 | _ => none,by intro v m r h;split at h <;> cases h;exact ⟨rfl,rfl⟩⟩
def Sh22:Shape ((List Value) × Int × Mem):=⟨fun r => (Value.tuple ⟨[(Value.agg ⟨r.1⟩),(Value.int .i64 r.2.1)]⟩),fun r => r.2.2,fun v m => match v with
 | .tuple ⟨[.agg ⟨q0⟩,.int .i64 q1]⟩ => some (q0,q1,m)
 | _ => none,by intro v m r h;split at h <;> cases h;exact ⟨rfl,rfl⟩⟩
def Sh23:Shape (Int × Int × Mem):=⟨fun r => (Value.tuple ⟨[(Value.int .i64 r.1),(Value.int .i64 r.2.1)]⟩),fun r => r.2.2,fun v m => match v with
 | .tuple ⟨[.int .i64 q0,.int .i64 q1]⟩ => some (q0,q1,m)
 | _ => none,by intro v m r h;split at h <;> cases h;exact ⟨rfl,rfl⟩⟩
def Sh24:Shape (Bool × Value × Mem):=⟨fun r => (Value.tuple ⟨[(Value.bool r.1),r.2.1]⟩),fun r => r.2.2,fun v m => match v with
 | .tuple ⟨[.bool q0,q1]⟩ => some (q0,q1,m)
 | _ => none,by intro v m r h;split at h <;> cases h;exact ⟨rfl,rfl⟩⟩
def Sh25:Shape (Bool × Int × Mem):=⟨fun r => (Value.tuple ⟨[(Value.bool r.1),(Value.int .i64 r.2.1)]⟩),fun r => r.2.2,fun v m => match v with
 | .tuple ⟨[.bool q0,.int .i64 q1]⟩ => some (q0,q1,m)
 | _ => none,by intro v m r h;split at h <;> cases h;exact ⟨rfl,rfl⟩⟩
def it3 {a0 a1 a2 R:Type} (f:(a0 → a1 → a2 → Option R) → a0 → a1 → a2 → Option R):Nat → a0 → a1 → a2 → Option R
 | 0,_,_,_ => none
 | n + 1,x0,x1,x2 => f (it3 f n) x0 x1 x2
theorem it3_rule {a0 a1 a2 R:Type} {f:(a0 → a1 → a2 → Option R) → a0 → a1 → a2 → Option R} {P:R → Prop} (I:Nat → a0 → a1 → a2 → Prop)
 (step:∀ d (nx:a0 → a1 → a2 → Option R) x0 x1 x2,I d x0 x1 x2 → (∀ d' x0 x1 x2,d' < d → I d' x0 x1 x2 → Ok (nx x0 x1 x2) P) → Ok (f nx x0 x1 x2) P) :
 ∀ n d (x0:a0) (x1:a1) (x2:a2),d < n → I d x0 x1 x2 → Ok (it3 f n x0 x1 x2) P
 | 0,d,x0,x1,x2,h,_ => absurd h (Nat.not_lt_zero _)
 | n + 1,d,x0,x1,x2,h,hI => step d _ x0 x1 x2 hI fun d' x0 x1 x2 h' hI' => it3_rule I step n d' x0 x1 x2 (by omega) hI'
def it4 {a0 a1 a2 a3 R:Type} (f:(a0 → a1 → a2 → a3 → Option R) → a0 → a1 → a2 → a3 → Option R):Nat → a0 → a1 → a2 → a3 → Option R
 | 0,_,_,_,_ => none
 | n + 1,x0,x1,x2,x3 => f (it4 f n) x0 x1 x2 x3
theorem it4_rule {a0 a1 a2 a3 R:Type} {f:(a0 → a1 → a2 → a3 → Option R) → a0 → a1 → a2 → a3 → Option R} {P:R → Prop} (I:Nat → a0 → a1 → a2 → a3 → Prop)
 (step:∀ d (nx:a0 → a1 → a2 → a3 → Option R) x0 x1 x2 x3,I d x0 x1 x2 x3 → (∀ d' x0 x1 x2 x3,d' < d → I d' x0 x1 x2 x3 → Ok (nx x0 x1 x2 x3) P) → Ok (f nx x0 x1 x2 x3) P) :
 ∀ n d (x0:a0) (x1:a1) (x2:a2) (x3:a3),d < n → I d x0 x1 x2 x3 → Ok (it4 f n x0 x1 x2 x3) P
 | 0,d,x0,x1,x2,x3,h,_ => absurd h (Nat.not_lt_zero _)
 | n + 1,d,x0,x1,x2,x3,h,hI => step d _ x0 x1 x2 x3 hI fun d' x0 x1 x2 x3 h' hI' => it4_rule I step n d' x0 x1 x2 x3 (by omega) hI'
def it5 {a0 a1 a2 a3 a4 R:Type} (f:(a0 → a1 → a2 → a3 → a4 → Option R) → a0 → a1 → a2 → a3 → a4 → Option R):Nat → a0 → a1 → a2 → a3 → a4 → Option R
 | 0,_,_,_,_,_ => none
 | n + 1,x0,x1,x2,x3,x4 => f (it5 f n) x0 x1 x2 x3 x4
theorem it5_rule {a0 a1 a2 a3 a4 R:Type} {f:(a0 → a1 → a2 → a3 → a4 → Option R) → a0 → a1 → a2 → a3 → a4 → Option R} {P:R → Prop} (I:Nat → a0 → a1 → a2 → a3 → a4 → Prop)
 (step:∀ d (nx:a0 → a1 → a2 → a3 → a4 → Option R) x0 x1 x2 x3 x4,I d x0 x1 x2 x3 x4 → (∀ d' x0 x1 x2 x3 x4,d' < d → I d' x0 x1 x2 x3 x4 → Ok (nx x0 x1 x2 x3 x4) P) → Ok (f nx x0 x1 x2 x3 x4) P) :
 ∀ n d (x0:a0) (x1:a1) (x2:a2) (x3:a3) (x4:a4),d < n → I d x0 x1 x2 x3 x4 → Ok (it5 f n x0 x1 x2 x3 x4) P
 | 0,d,x0,x1,x2,x3,x4,h,_ => absurd h (Nat.not_lt_zero _)
 | n + 1,d,x0,x1,x2,x3,x4,h,hI => step d _ x0 x1 x2 x3 x4 hI fun d' x0 x1 x2 x3 x4 h' hI' => it5_rule I step n d' x0 x1 x2 x3 x4 (by omega) hI'
def it6 {a0 a1 a2 a3 a4 a5 R:Type} (f:(a0 → a1 → a2 → a3 → a4 → a5 → Option R) → a0 → a1 → a2 → a3 → a4 → a5 → Option R):Nat → a0 → a1 → a2 → a3 → a4 → a5 → Option R
 | 0,_,_,_,_,_,_ => none
 | n + 1,x0,x1,x2,x3,x4,x5 => f (it6 f n) x0 x1 x2 x3 x4 x5
theorem it6_rule {a0 a1 a2 a3 a4 a5 R:Type} {f:(a0 → a1 → a2 → a3 → a4 → a5 → Option R) → a0 → a1 → a2 → a3 → a4 → a5 → Option R} {P:R → Prop} (I:Nat → a0 → a1 → a2 → a3 → a4 → a5 → Prop)
 (step:∀ d (nx:a0 → a1 → a2 → a3 → a4 → a5 → Option R) x0 x1 x2 x3 x4 x5,I d x0 x1 x2 x3 x4 x5 → (∀ d' x0 x1 x2 x3 x4 x5,d' < d → I d' x0 x1 x2 x3 x4 x5 → Ok (nx x0 x1 x2 x3 x4 x5) P) → Ok (f nx x0 x1 x2 x3 x4 x5) P) :
 ∀ n d (x0:a0) (x1:a1) (x2:a2) (x3:a3) (x4:a4) (x5:a5),d < n → I d x0 x1 x2 x3 x4 x5 → Ok (it6 f n x0 x1 x2 x3 x4 x5) P
 | 0,d,x0,x1,x2,x3,x4,x5,h,_ => absurd h (Nat.not_lt_zero _)
 | n + 1,d,x0,x1,x2,x3,x4,x5,h,hI => step d _ x0 x1 x2 x3 x4 x5 hI fun d' x0 x1 x2 x3 x4 x5 h' hI' => it6_rule I step n d' x0 x1 x2 x3 x4 x5 (by omega) hI'
def it7 {a0 a1 a2 a3 a4 a5 a6 R:Type} (f:(a0 → a1 → a2 → a3 → a4 → a5 → a6 → Option R) → a0 → a1 → a2 → a3 → a4 → a5 → a6 → Option R):Nat → a0 → a1 → a2 → a3 → a4 → a5 → a6 → Option R
 | 0,_,_,_,_,_,_,_ => none
 | n + 1,x0,x1,x2,x3,x4,x5,x6 => f (it7 f n) x0 x1 x2 x3 x4 x5 x6
theorem it7_rule {a0 a1 a2 a3 a4 a5 a6 R:Type} {f:(a0 → a1 → a2 → a3 → a4 → a5 → a6 → Option R) → a0 → a1 → a2 → a3 → a4 → a5 → a6 → Option R} {P:R → Prop} (I:Nat → a0 → a1 → a2 → a3 → a4 → a5 → a6 → Prop)
 (step:∀ d (nx:a0 → a1 → a2 → a3 → a4 → a5 → a6 → Option R) x0 x1 x2 x3 x4 x5 x6,I d x0 x1 x2 x3 x4 x5 x6 → (∀ d' x0 x1 x2 x3 x4 x5 x6,d' < d → I d' x0 x1 x2 x3 x4 x5 x6 → Ok (nx x0 x1 x2 x3 x4 x5 x6) P) → Ok (f nx x0 x1 x2 x3 x4 x5 x6) P) :
 ∀ n d (x0:a0) (x1:a1) (x2:a2) (x3:a3) (x4:a4) (x5:a5) (x6:a6),d < n → I d x0 x1 x2 x3 x4 x5 x6 → Ok (it7 f n x0 x1 x2 x3 x4 x5 x6) P
 | 0,d,x0,x1,x2,x3,x4,x5,x6,h,_ => absurd h (Nat.not_lt_zero _)
 | n + 1,d,x0,x1,x2,x3,x4,x5,x6,h,hI => step d _ x0 x1 x2 x3 x4 x5 x6 hI fun d' x0 x1 x2 x3 x4 x5 x6 h' hI' => it7_rule I step n d' x0 x1 x2 x3 x4 x5 x6 (by omega) hI'
def it8 {a0 a1 a2 a3 a4 a5 a6 a7 R:Type} (f:(a0 → a1 → a2 → a3 → a4 → a5 → a6 → a7 → Option R) → a0 → a1 → a2 → a3 → a4 → a5 → a6 → a7 → Option R):Nat → a0 → a1 → a2 → a3 → a4 → a5 → a6 → a7 → Option R
 | 0,_,_,_,_,_,_,_,_ => none
 | n + 1,x0,x1,x2,x3,x4,x5,x6,x7 => f (it8 f n) x0 x1 x2 x3 x4 x5 x6 x7
theorem it8_rule {a0 a1 a2 a3 a4 a5 a6 a7 R:Type} {f:(a0 → a1 → a2 → a3 → a4 → a5 → a6 → a7 → Option R) → a0 → a1 → a2 → a3 → a4 → a5 → a6 → a7 → Option R} {P:R → Prop} (I:Nat → a0 → a1 → a2 → a3 → a4 → a5 → a6 → a7 → Prop)
 (step:∀ d (nx:a0 → a1 → a2 → a3 → a4 → a5 → a6 → a7 → Option R) x0 x1 x2 x3 x4 x5 x6 x7,I d x0 x1 x2 x3 x4 x5 x6 x7 → (∀ d' x0 x1 x2 x3 x4 x5 x6 x7,d' < d → I d' x0 x1 x2 x3 x4 x5 x6 x7 → Ok (nx x0 x1 x2 x3 x4 x5 x6 x7) P) → Ok (f nx x0 x1 x2 x3 x4 x5 x6 x7) P) :
 ∀ n d (x0:a0) (x1:a1) (x2:a2) (x3:a3) (x4:a4) (x5:a5) (x6:a6) (x7:a7),d < n → I d x0 x1 x2 x3 x4 x5 x6 x7 → Ok (it8 f n x0 x1 x2 x3 x4 x5 x6 x7) P
 | 0,d,x0,x1,x2,x3,x4,x5,x6,x7,h,_ => absurd h (Nat.not_lt_zero _)
 | n + 1,d,x0,x1,x2,x3,x4,x5,x6,x7,h,hI => step d _ x0 x1 x2 x3 x4 x5 x6 x7 hI fun d' x0 x1 x2 x3 x4 x5 x6 x7 h' hI' => it8_rule I step n d' x0 x1 x2 x3 x4 x5 x6 x7 (by omega) hI'
def it9 {a0 a1 a2 a3 a4 a5 a6 a7 a8 R:Type} (f:(a0 → a1 → a2 → a3 → a4 → a5 → a6 → a7 → a8 → Option R) → a0 → a1 → a2 → a3 → a4 → a5 → a6 → a7 → a8 → Option R):Nat → a0 → a1 → a2 → a3 → a4 → a5 → a6 → a7 → a8 → Option R
 | 0,_,_,_,_,_,_,_,_,_ => none
 | n + 1,x0,x1,x2,x3,x4,x5,x6,x7,x8 => f (it9 f n) x0 x1 x2 x3 x4 x5 x6 x7 x8
theorem it9_rule {a0 a1 a2 a3 a4 a5 a6 a7 a8 R:Type} {f:(a0 → a1 → a2 → a3 → a4 → a5 → a6 → a7 → a8 → Option R) → a0 → a1 → a2 → a3 → a4 → a5 → a6 → a7 → a8 → Option R} {P:R → Prop} (I:Nat → a0 → a1 → a2 → a3 → a4 → a5 → a6 → a7 → a8 → Prop)
 (step:∀ d (nx:a0 → a1 → a2 → a3 → a4 → a5 → a6 → a7 → a8 → Option R) x0 x1 x2 x3 x4 x5 x6 x7 x8,I d x0 x1 x2 x3 x4 x5 x6 x7 x8 → (∀ d' x0 x1 x2 x3 x4 x5 x6 x7 x8,d' < d → I d' x0 x1 x2 x3 x4 x5 x6 x7 x8 → Ok (nx x0 x1 x2 x3 x4 x5 x6 x7 x8) P) → Ok (f nx x0 x1 x2 x3 x4 x5 x6 x7 x8) P) :
 ∀ n d (x0:a0) (x1:a1) (x2:a2) (x3:a3) (x4:a4) (x5:a5) (x6:a6) (x7:a7) (x8:a8),d < n → I d x0 x1 x2 x3 x4 x5 x6 x7 x8 → Ok (it9 f n x0 x1 x2 x3 x4 x5 x6 x7 x8) P
 | 0,d,x0,x1,x2,x3,x4,x5,x6,x7,x8,h,_ => absurd h (Nat.not_lt_zero _)
 | n + 1,d,x0,x1,x2,x3,x4,x5,x6,x7,x8,h,hI => step d _ x0 x1 x2 x3 x4 x5 x6 x7 x8 hI fun d' x0 x1 x2 x3 x4 x5 x6 x7 x8 h' hI' => it9_rule I step n d' x0 x1 x2 x3 x4 x5 x6 x7 x8 (by omega) hI'
def it11 {a0 a1 a2 a3 a4 a5 a6 a7 a8 a9 a10 R:Type} (f:(a0 → a1 → a2 → a3 → a4 → a5 → a6 → a7 → a8 → a9 → a10 → Option R) → a0 → a1 → a2 → a3 → a4 → a5 → a6 → a7 → a8 → a9 → a10 → Option R):Nat → a0 → a1 → a2 → a3 → a4 → a5 → a6 → a7 → a8 → a9 → a10 → Option R
 | 0,_,_,_,_,_,_,_,_,_,_,_ => none
 | n + 1,x0,x1,x2,x3,x4,x5,x6,x7,x8,x9,x10 => f (it11 f n) x0 x1 x2 x3 x4 x5 x6 x7 x8 x9 x10
theorem it11_rule {a0 a1 a2 a3 a4 a5 a6 a7 a8 a9 a10 R:Type} {f:(a0 → a1 → a2 → a3 → a4 → a5 → a6 → a7 → a8 → a9 → a10 → Option R) → a0 → a1 → a2 → a3 → a4 → a5 → a6 → a7 → a8 → a9 → a10 → Option R} {P:R → Prop} (I:Nat → a0 → a1 → a2 → a3 → a4 → a5 → a6 → a7 → a8 → a9 → a10 → Prop)
 (step:∀ d (nx:a0 → a1 → a2 → a3 → a4 → a5 → a6 → a7 → a8 → a9 → a10 → Option R) x0 x1 x2 x3 x4 x5 x6 x7 x8 x9 x10,I d x0 x1 x2 x3 x4 x5 x6 x7 x8 x9 x10 → (∀ d' x0 x1 x2 x3 x4 x5 x6 x7 x8 x9 x10,d' < d → I d' x0 x1 x2 x3 x4 x5 x6 x7 x8 x9 x10 → Ok (nx x0 x1 x2 x3 x4 x5 x6 x7 x8 x9 x10) P) → Ok (f nx x0 x1 x2 x3 x4 x5 x6 x7 x8 x9 x10) P) :
 ∀ n d (x0:a0) (x1:a1) (x2:a2) (x3:a3) (x4:a4) (x5:a5) (x6:a6) (x7:a7) (x8:a8) (x9:a9) (x10:a10),d < n → I d x0 x1 x2 x3 x4 x5 x6 x7 x8 x9 x10 → Ok (it11 f n x0 x1 x2 x3 x4 x5 x6 x7 x8 x9 x10) P
 | 0,d,x0,x1,x2,x3,x4,x5,x6,x7,x8,x9,x10,h,_ => absurd h (Nat.not_lt_zero _)
 | n + 1,d,x0,x1,x2,x3,x4,x5,x6,x7,x8,x9,x10,h,hI => step d _ x0 x1 x2 x3 x4 x5 x6 x7 x8 x9 x10 hI fun d' x0 x1 x2 x3 x4 x5 x6 x7 x8 x9 x10 h' hI' => it11_rule I step n d' x0 x1 x2 x3 x4 x5 x6 x7 x8 x9 x10 (by omega) hI'
def it12 {a0 a1 a2 a3 a4 a5 a6 a7 a8 a9 a10 a11 R:Type} (f:(a0 → a1 → a2 → a3 → a4 → a5 → a6 → a7 → a8 → a9 → a10 → a11 → Option R) → a0 → a1 → a2 → a3 → a4 → a5 → a6 → a7 → a8 → a9 → a10 → a11 → Option R):Nat → a0 → a1 → a2 → a3 → a4 → a5 → a6 → a7 → a8 → a9 → a10 → a11 → Option R
 | 0,_,_,_,_,_,_,_,_,_,_,_,_ => none
 | n + 1,x0,x1,x2,x3,x4,x5,x6,x7,x8,x9,x10,x11 => f (it12 f n) x0 x1 x2 x3 x4 x5 x6 x7 x8 x9 x10 x11
theorem it12_rule {a0 a1 a2 a3 a4 a5 a6 a7 a8 a9 a10 a11 R:Type} {f:(a0 → a1 → a2 → a3 → a4 → a5 → a6 → a7 → a8 → a9 → a10 → a11 → Option R) → a0 → a1 → a2 → a3 → a4 → a5 → a6 → a7 → a8 → a9 → a10 → a11 → Option R} {P:R → Prop} (I:Nat → a0 → a1 → a2 → a3 → a4 → a5 → a6 → a7 → a8 → a9 → a10 → a11 → Prop)
 (step:∀ d (nx:a0 → a1 → a2 → a3 → a4 → a5 → a6 → a7 → a8 → a9 → a10 → a11 → Option R) x0 x1 x2 x3 x4 x5 x6 x7 x8 x9 x10 x11,I d x0 x1 x2 x3 x4 x5 x6 x7 x8 x9 x10 x11 → (∀ d' x0 x1 x2 x3 x4 x5 x6 x7 x8 x9 x10 x11,d' < d → I d' x0 x1 x2 x3 x4 x5 x6 x7 x8 x9 x10 x11 → Ok (nx x0 x1 x2 x3 x4 x5 x6 x7 x8 x9 x10 x11) P) → Ok (f nx x0 x1 x2 x3 x4 x5 x6 x7 x8 x9 x10 x11) P) :
 ∀ n d (x0:a0) (x1:a1) (x2:a2) (x3:a3) (x4:a4) (x5:a5) (x6:a6) (x7:a7) (x8:a8) (x9:a9) (x10:a10) (x11:a11),d < n → I d x0 x1 x2 x3 x4 x5 x6 x7 x8 x9 x10 x11 → Ok (it12 f n x0 x1 x2 x3 x4 x5 x6 x7 x8 x9 x10 x11) P
 | 0,d,x0,x1,x2,x3,x4,x5,x6,x7,x8,x9,x10,x11,h,_ => absurd h (Nat.not_lt_zero _)
 | n + 1,d,x0,x1,x2,x3,x4,x5,x6,x7,x8,x9,x10,x11,h,hI => step d _ x0 x1 x2 x3 x4 x5 x6 x7 x8 x9 x10 x11 hI fun d' x0 x1 x2 x3 x4 x5 x6 x7 x8 x9 x10 x11 h' hI' => it12_rule I step n d' x0 x1 x2 x3 x4 x5 x6 x7 x8 x9 x10 x11 (by omega) hI'
def it13 {a0 a1 a2 a3 a4 a5 a6 a7 a8 a9 a10 a11 a12 R:Type} (f:(a0 → a1 → a2 → a3 → a4 → a5 → a6 → a7 → a8 → a9 → a10 → a11 → a12 → Option R) → a0 → a1 → a2 → a3 → a4 → a5 → a6 → a7 → a8 → a9 → a10 → a11 → a12 → Option R):Nat → a0 → a1 → a2 → a3 → a4 → a5 → a6 → a7 → a8 → a9 → a10 → a11 → a12 → Option R
 | 0,_,_,_,_,_,_,_,_,_,_,_,_,_ => none
 | n + 1,x0,x1,x2,x3,x4,x5,x6,x7,x8,x9,x10,x11,x12 => f (it13 f n) x0 x1 x2 x3 x4 x5 x6 x7 x8 x9 x10 x11 x12
theorem it13_rule {a0 a1 a2 a3 a4 a5 a6 a7 a8 a9 a10 a11 a12 R:Type} {f:(a0 → a1 → a2 → a3 → a4 → a5 → a6 → a7 → a8 → a9 → a10 → a11 → a12 → Option R) → a0 → a1 → a2 → a3 → a4 → a5 → a6 → a7 → a8 → a9 → a10 → a11 → a12 → Option R} {P:R → Prop} (I:Nat → a0 → a1 → a2 → a3 → a4 → a5 → a6 → a7 → a8 → a9 → a10 → a11 → a12 → Prop)
 (step:∀ d (nx:a0 → a1 → a2 → a3 → a4 → a5 → a6 → a7 → a8 → a9 → a10 → a11 → a12 → Option R) x0 x1 x2 x3 x4 x5 x6 x7 x8 x9 x10 x11 x12,I d x0 x1 x2 x3 x4 x5 x6 x7 x8 x9 x10 x11 x12 → (∀ d' x0 x1 x2 x3 x4 x5 x6 x7 x8 x9 x10 x11 x12,d' < d → I d' x0 x1 x2 x3 x4 x5 x6 x7 x8 x9 x10 x11 x12 → Ok (nx x0 x1 x2 x3 x4 x5 x6 x7 x8 x9 x10 x11 x12) P) → Ok (f nx x0 x1 x2 x3 x4 x5 x6 x7 x8 x9 x10 x11 x12) P) :
 ∀ n d (x0:a0) (x1:a1) (x2:a2) (x3:a3) (x4:a4) (x5:a5) (x6:a6) (x7:a7) (x8:a8) (x9:a9) (x10:a10) (x11:a11) (x12:a12),d < n → I d x0 x1 x2 x3 x4 x5 x6 x7 x8 x9 x10 x11 x12 → Ok (it13 f n x0 x1 x2 x3 x4 x5 x6 x7 x8 x9 x10 x11 x12) P
 | 0,d,x0,x1,x2,x3,x4,x5,x6,x7,x8,x9,x10,x11,x12,h,_ => absurd h (Nat.not_lt_zero _)
 | n + 1,d,x0,x1,x2,x3,x4,x5,x6,x7,x8,x9,x10,x11,x12,h,hI => step d _ x0 x1 x2 x3 x4 x5 x6 x7 x8 x9 x10 x11 x12 hI fun d' x0 x1 x2 x3 x4 x5 x6 x7 x8 x9 x10 x11 x12 h' hI' => it13_rule I step n d' x0 x1 x2 x3 x4 x5 x6 x7 x8 x9 x10 x11 x12 (by omega) hI'
def it14 {a0 a1 a2 a3 a4 a5 a6 a7 a8 a9 a10 a11 a12 a13 R:Type} (f:(a0 → a1 → a2 → a3 → a4 → a5 → a6 → a7 → a8 → a9 → a10 → a11 → a12 → a13 → Option R) → a0 → a1 → a2 → a3 → a4 → a5 → a6 → a7 → a8 → a9 → a10 → a11 → a12 → a13 → Option R):Nat → a0 → a1 → a2 → a3 → a4 → a5 → a6 → a7 → a8 → a9 → a10 → a11 → a12 → a13 → Option R
 | 0,_,_,_,_,_,_,_,_,_,_,_,_,_,_ => none
 | n + 1,x0,x1,x2,x3,x4,x5,x6,x7,x8,x9,x10,x11,x12,x13 => f (it14 f n) x0 x1 x2 x3 x4 x5 x6 x7 x8 x9 x10 x11 x12 x13
theorem it14_rule {a0 a1 a2 a3 a4 a5 a6 a7 a8 a9 a10 a11 a12 a13 R:Type} {f:(a0 → a1 → a2 → a3 → a4 → a5 → a6 → a7 → a8 → a9 → a10 → a11 → a12 → a13 → Option R) → a0 → a1 → a2 → a3 → a4 → a5 → a6 → a7 → a8 → a9 → a10 → a11 → a12 → a13 → Option R} {P:R → Prop} (I:Nat → a0 → a1 → a2 → a3 → a4 → a5 → a6 → a7 → a8 → a9 → a10 → a11 → a12 → a13 → Prop)
 (step:∀ d (nx:a0 → a1 → a2 → a3 → a4 → a5 → a6 → a7 → a8 → a9 → a10 → a11 → a12 → a13 → Option R) x0 x1 x2 x3 x4 x5 x6 x7 x8 x9 x10 x11 x12 x13,I d x0 x1 x2 x3 x4 x5 x6 x7 x8 x9 x10 x11 x12 x13 → (∀ d' x0 x1 x2 x3 x4 x5 x6 x7 x8 x9 x10 x11 x12 x13,d' < d → I d' x0 x1 x2 x3 x4 x5 x6 x7 x8 x9 x10 x11 x12 x13 → Ok (nx x0 x1 x2 x3 x4 x5 x6 x7 x8 x9 x10 x11 x12 x13) P) → Ok (f nx x0 x1 x2 x3 x4 x5 x6 x7 x8 x9 x10 x11 x12 x13) P) :
 ∀ n d (x0:a0) (x1:a1) (x2:a2) (x3:a3) (x4:a4) (x5:a5) (x6:a6) (x7:a7) (x8:a8) (x9:a9) (x10:a10) (x11:a11) (x12:a12) (x13:a13),d < n → I d x0 x1 x2 x3 x4 x5 x6 x7 x8 x9 x10 x11 x12 x13 → Ok (it14 f n x0 x1 x2 x3 x4 x5 x6 x7 x8 x9 x10 x11 x12 x13) P
 | 0,d,x0,x1,x2,x3,x4,x5,x6,x7,x8,x9,x10,x11,x12,x13,h,_ => absurd h (Nat.not_lt_zero _)
 | n + 1,d,x0,x1,x2,x3,x4,x5,x6,x7,x8,x9,x10,x11,x12,x13,h,hI => step d _ x0 x1 x2 x3 x4 x5 x6 x7 x8 x9 x10 x11 x12 x13 hI fun d' x0 x1 x2 x3 x4 x5 x6 x7 x8 x9 x10 x11 x12 x13 h' hI' => it14_rule I step n d' x0 x1 x2 x3 x4 x5 x6 x7 x8 x9 x10 x11 x12 x13 (by omega) hI'
def it15 {a0 a1 a2 a3 a4 a5 a6 a7 a8 a9 a10 a11 a12 a13 a14 R:Type} (f:(a0 → a1 → a2 → a3 → a4 → a5 → a6 → a7 → a8 → a9 → a10 → a11 → a12 → a13 → a14 → Option R) → a0 → a1 → a2 → a3 → a4 → a5 → a6 → a7 → a8 → a9 → a10 → a11 → a12 → a13 → a14 → Option R):Nat → a0 → a1 → a2 → a3 → a4 → a5 → a6 → a7 → a8 → a9 → a10 → a11 → a12 → a13 → a14 → Option R
 | 0,_,_,_,_,_,_,_,_,_,_,_,_,_,_,_ => none
 | n + 1,x0,x1,x2,x3,x4,x5,x6,x7,x8,x9,x10,x11,x12,x13,x14 => f (it15 f n) x0 x1 x2 x3 x4 x5 x6 x7 x8 x9 x10 x11 x12 x13 x14
theorem it15_rule {a0 a1 a2 a3 a4 a5 a6 a7 a8 a9 a10 a11 a12 a13 a14 R:Type} {f:(a0 → a1 → a2 → a3 → a4 → a5 → a6 → a7 → a8 → a9 → a10 → a11 → a12 → a13 → a14 → Option R) → a0 → a1 → a2 → a3 → a4 → a5 → a6 → a7 → a8 → a9 → a10 → a11 → a12 → a13 → a14 → Option R} {P:R → Prop} (I:Nat → a0 → a1 → a2 → a3 → a4 → a5 → a6 → a7 → a8 → a9 → a10 → a11 → a12 → a13 → a14 → Prop)
 (step:∀ d (nx:a0 → a1 → a2 → a3 → a4 → a5 → a6 → a7 → a8 → a9 → a10 → a11 → a12 → a13 → a14 → Option R) x0 x1 x2 x3 x4 x5 x6 x7 x8 x9 x10 x11 x12 x13 x14,I d x0 x1 x2 x3 x4 x5 x6 x7 x8 x9 x10 x11 x12 x13 x14 → (∀ d' x0 x1 x2 x3 x4 x5 x6 x7 x8 x9 x10 x11 x12 x13 x14,d' < d → I d' x0 x1 x2 x3 x4 x5 x6 x7 x8 x9 x10 x11 x12 x13 x14 → Ok (nx x0 x1 x2 x3 x4 x5 x6 x7 x8 x9 x10 x11 x12 x13 x14) P) → Ok (f nx x0 x1 x2 x3 x4 x5 x6 x7 x8 x9 x10 x11 x12 x13 x14) P) :
 ∀ n d (x0:a0) (x1:a1) (x2:a2) (x3:a3) (x4:a4) (x5:a5) (x6:a6) (x7:a7) (x8:a8) (x9:a9) (x10:a10) (x11:a11) (x12:a12) (x13:a13) (x14:a14),d < n → I d x0 x1 x2 x3 x4 x5 x6 x7 x8 x9 x10 x11 x12 x13 x14 → Ok (it15 f n x0 x1 x2 x3 x4 x5 x6 x7 x8 x9 x10 x11 x12 x13 x14) P
 | 0,d,x0,x1,x2,x3,x4,x5,x6,x7,x8,x9,x10,x11,x12,x13,x14,h,_ => absurd h (Nat.not_lt_zero _)
 | n + 1,d,x0,x1,x2,x3,x4,x5,x6,x7,x8,x9,x10,x11,x12,x13,x14,h,hI => step d _ x0 x1 x2 x3 x4 x5 x6 x7 x8 x9 x10 x11 x12 x13 x14 hI fun d' x0 x1 x2 x3 x4 x5 x6 x7 x8 x9 x10 x11 x12 x13 x14 h' hI' => it15_rule I step n d' x0 x1 x2 x3 x4 x5 x6 x7 x8 x9 x10 x11 x12 x13 x14 (by omega) hI'
def it16 {a0 a1 a2 a3 a4 a5 a6 a7 a8 a9 a10 a11 a12 a13 a14 a15 R:Type} (f:(a0 → a1 → a2 → a3 → a4 → a5 → a6 → a7 → a8 → a9 → a10 → a11 → a12 → a13 → a14 → a15 → Option R) → a0 → a1 → a2 → a3 → a4 → a5 → a6 → a7 → a8 → a9 → a10 → a11 → a12 → a13 → a14 → a15 → Option R):Nat → a0 → a1 → a2 → a3 → a4 → a5 → a6 → a7 → a8 → a9 → a10 → a11 → a12 → a13 → a14 → a15 → Option R
 | 0,_,_,_,_,_,_,_,_,_,_,_,_,_,_,_,_ => none
 | n + 1,x0,x1,x2,x3,x4,x5,x6,x7,x8,x9,x10,x11,x12,x13,x14,x15 => f (it16 f n) x0 x1 x2 x3 x4 x5 x6 x7 x8 x9 x10 x11 x12 x13 x14 x15
theorem it16_rule {a0 a1 a2 a3 a4 a5 a6 a7 a8 a9 a10 a11 a12 a13 a14 a15 R:Type} {f:(a0 → a1 → a2 → a3 → a4 → a5 → a6 → a7 → a8 → a9 → a10 → a11 → a12 → a13 → a14 → a15 → Option R) → a0 → a1 → a2 → a3 → a4 → a5 → a6 → a7 → a8 → a9 → a10 → a11 → a12 → a13 → a14 → a15 → Option R} {P:R → Prop} (I:Nat → a0 → a1 → a2 → a3 → a4 → a5 → a6 → a7 → a8 → a9 → a10 → a11 → a12 → a13 → a14 → a15 → Prop)
 (step:∀ d (nx:a0 → a1 → a2 → a3 → a4 → a5 → a6 → a7 → a8 → a9 → a10 → a11 → a12 → a13 → a14 → a15 → Option R) x0 x1 x2 x3 x4 x5 x6 x7 x8 x9 x10 x11 x12 x13 x14 x15,I d x0 x1 x2 x3 x4 x5 x6 x7 x8 x9 x10 x11 x12 x13 x14 x15 → (∀ d' x0 x1 x2 x3 x4 x5 x6 x7 x8 x9 x10 x11 x12 x13 x14 x15,d' < d → I d' x0 x1 x2 x3 x4 x5 x6 x7 x8 x9 x10 x11 x12 x13 x14 x15 → Ok (nx x0 x1 x2 x3 x4 x5 x6 x7 x8 x9 x10 x11 x12 x13 x14 x15) P) → Ok (f nx x0 x1 x2 x3 x4 x5 x6 x7 x8 x9 x10 x11 x12 x13 x14 x15) P) :
 ∀ n d (x0:a0) (x1:a1) (x2:a2) (x3:a3) (x4:a4) (x5:a5) (x6:a6) (x7:a7) (x8:a8) (x9:a9) (x10:a10) (x11:a11) (x12:a12) (x13:a13) (x14:a14) (x15:a15),d < n → I d x0 x1 x2 x3 x4 x5 x6 x7 x8 x9 x10 x11 x12 x13 x14 x15 → Ok (it16 f n x0 x1 x2 x3 x4 x5 x6 x7 x8 x9 x10 x11 x12 x13 x14 x15) P
 | 0,d,x0,x1,x2,x3,x4,x5,x6,x7,x8,x9,x10,x11,x12,x13,x14,x15,h,_ => absurd h (Nat.not_lt_zero _)
 | n + 1,d,x0,x1,x2,x3,x4,x5,x6,x7,x8,x9,x10,x11,x12,x13,x14,x15,h,hI => step d _ x0 x1 x2 x3 x4 x5 x6 x7 x8 x9 x10 x11 x12 x13 x14 x15 hI fun d' x0 x1 x2 x3 x4 x5 x6 x7 x8 x9 x10 x11 x12 x13 x14 x15 h' hI' => it16_rule I step n d' x0 x1 x2 x3 x4 x5 x6 x7 x8 x9 x10 x11 x12 x13 x14 x15 (by omega) hI'
def it17 {a0 a1 a2 a3 a4 a5 a6 a7 a8 a9 a10 a11 a12 a13 a14 a15 a16 R:Type} (f:(a0 → a1 → a2 → a3 → a4 → a5 → a6 → a7 → a8 → a9 → a10 → a11 → a12 → a13 → a14 → a15 → a16 → Option R) → a0 → a1 → a2 → a3 → a4 → a5 → a6 → a7 → a8 → a9 → a10 → a11 → a12 → a13 → a14 → a15 → a16 → Option R):Nat → a0 → a1 → a2 → a3 → a4 → a5 → a6 → a7 → a8 → a9 → a10 → a11 → a12 → a13 → a14 → a15 → a16 → Option R
 | 0,_,_,_,_,_,_,_,_,_,_,_,_,_,_,_,_,_ => none
 | n + 1,x0,x1,x2,x3,x4,x5,x6,x7,x8,x9,x10,x11,x12,x13,x14,x15,x16 => f (it17 f n) x0 x1 x2 x3 x4 x5 x6 x7 x8 x9 x10 x11 x12 x13 x14 x15 x16
theorem it17_rule {a0 a1 a2 a3 a4 a5 a6 a7 a8 a9 a10 a11 a12 a13 a14 a15 a16 R:Type} {f:(a0 → a1 → a2 → a3 → a4 → a5 → a6 → a7 → a8 → a9 → a10 → a11 → a12 → a13 → a14 → a15 → a16 → Option R) → a0 → a1 → a2 → a3 → a4 → a5 → a6 → a7 → a8 → a9 → a10 → a11 → a12 → a13 → a14 → a15 → a16 → Option R} {P:R → Prop} (I:Nat → a0 → a1 → a2 → a3 → a4 → a5 → a6 → a7 → a8 → a9 → a10 → a11 → a12 → a13 → a14 → a15 → a16 → Prop)
 (step:∀ d (nx:a0 → a1 → a2 → a3 → a4 → a5 → a6 → a7 → a8 → a9 → a10 → a11 → a12 → a13 → a14 → a15 → a16 → Option R) x0 x1 x2 x3 x4 x5 x6 x7 x8 x9 x10 x11 x12 x13 x14 x15 x16,I d x0 x1 x2 x3 x4 x5 x6 x7 x8 x9 x10 x11 x12 x13 x14 x15 x16 → (∀ d' x0 x1 x2 x3 x4 x5 x6 x7 x8 x9 x10 x11 x12 x13 x14 x15 x16,d' < d → I d' x0 x1 x2 x3 x4 x5 x6 x7 x8 x9 x10 x11 x12 x13 x14 x15 x16 → Ok (nx x0 x1 x2 x3 x4 x5 x6 x7 x8 x9 x10 x11 x12 x13 x14 x15 x16) P) → Ok (f nx x0 x1 x2 x3 x4 x5 x6 x7 x8 x9 x10 x11 x12 x13 x14 x15 x16) P) :
 ∀ n d (x0:a0) (x1:a1) (x2:a2) (x3:a3) (x4:a4) (x5:a5) (x6:a6) (x7:a7) (x8:a8) (x9:a9) (x10:a10) (x11:a11) (x12:a12) (x13:a13) (x14:a14) (x15:a15) (x16:a16),d < n → I d x0 x1 x2 x3 x4 x5 x6 x7 x8 x9 x10 x11 x12 x13 x14 x15 x16 → Ok (it17 f n x0 x1 x2 x3 x4 x5 x6 x7 x8 x9 x10 x11 x12 x13 x14 x15 x16) P
 | 0,d,x0,x1,x2,x3,x4,x5,x6,x7,x8,x9,x10,x11,x12,x13,x14,x15,x16,h,_ => absurd h (Nat.not_lt_zero _)
 | n + 1,d,x0,x1,x2,x3,x4,x5,x6,x7,x8,x9,x10,x11,x12,x13,x14,x15,x16,h,hI => step d _ x0 x1 x2 x3 x4 x5 x6 x7 x8 x9 x10 x11 x12 x13 x14 x15 x16 hI fun d' x0 x1 x2 x3 x4 x5 x6 x7 x8 x9 x10 x11 x12 x13 x14 x15 x16 h' hI' => it17_rule I step n d' x0 x1 x2 x3 x4 x5 x6 x7 x8 x9 x10 x11 x12 x13 x14 x15 x16 (by omega) hI'
def it20 {a0 a1 a2 a3 a4 a5 a6 a7 a8 a9 a10 a11 a12 a13 a14 a15 a16 a17 a18 a19 R:Type} (f:(a0 → a1 → a2 → a3 → a4 → a5 → a6 → a7 → a8 → a9 → a10 → a11 → a12 → a13 → a14 → a15 → a16 → a17 → a18 → a19 → Option R) → a0 → a1 → a2 → a3 → a4 → a5 → a6 → a7 → a8 → a9 → a10 → a11 → a12 → a13 → a14 → a15 → a16 → a17 → a18 → a19 → Option R):Nat → a0 → a1 → a2 → a3 → a4 → a5 → a6 → a7 → a8 → a9 → a10 → a11 → a12 → a13 → a14 → a15 → a16 → a17 → a18 → a19 → Option R
 | 0,_,_,_,_,_,_,_,_,_,_,_,_,_,_,_,_,_,_,_,_ => none
 | n + 1,x0,x1,x2,x3,x4,x5,x6,x7,x8,x9,x10,x11,x12,x13,x14,x15,x16,x17,x18,x19 => f (it20 f n) x0 x1 x2 x3 x4 x5 x6 x7 x8 x9 x10 x11 x12 x13 x14 x15 x16 x17 x18 x19
theorem it20_rule {a0 a1 a2 a3 a4 a5 a6 a7 a8 a9 a10 a11 a12 a13 a14 a15 a16 a17 a18 a19 R:Type} {f:(a0 → a1 → a2 → a3 → a4 → a5 → a6 → a7 → a8 → a9 → a10 → a11 → a12 → a13 → a14 → a15 → a16 → a17 → a18 → a19 → Option R) → a0 → a1 → a2 → a3 → a4 → a5 → a6 → a7 → a8 → a9 → a10 → a11 → a12 → a13 → a14 → a15 → a16 → a17 → a18 → a19 → Option R} {P:R → Prop} (I:Nat → a0 → a1 → a2 → a3 → a4 → a5 → a6 → a7 → a8 → a9 → a10 → a11 → a12 → a13 → a14 → a15 → a16 → a17 → a18 → a19 → Prop)
 (step:∀ d (nx:a0 → a1 → a2 → a3 → a4 → a5 → a6 → a7 → a8 → a9 → a10 → a11 → a12 → a13 → a14 → a15 → a16 → a17 → a18 → a19 → Option R) x0 x1 x2 x3 x4 x5 x6 x7 x8 x9 x10 x11 x12 x13 x14 x15 x16 x17 x18 x19,I d x0 x1 x2 x3 x4 x5 x6 x7 x8 x9 x10 x11 x12 x13 x14 x15 x16 x17 x18 x19 → (∀ d' x0 x1 x2 x3 x4 x5 x6 x7 x8 x9 x10 x11 x12 x13 x14 x15 x16 x17 x18 x19,d' < d → I d' x0 x1 x2 x3 x4 x5 x6 x7 x8 x9 x10 x11 x12 x13 x14 x15 x16 x17 x18 x19 → Ok (nx x0 x1 x2 x3 x4 x5 x6 x7 x8 x9 x10 x11 x12 x13 x14 x15 x16 x17 x18 x19) P) → Ok (f nx x0 x1 x2 x3 x4 x5 x6 x7 x8 x9 x10 x11 x12 x13 x14 x15 x16 x17 x18 x19) P) :
 ∀ n d (x0:a0) (x1:a1) (x2:a2) (x3:a3) (x4:a4) (x5:a5) (x6:a6) (x7:a7) (x8:a8) (x9:a9) (x10:a10) (x11:a11) (x12:a12) (x13:a13) (x14:a14) (x15:a15) (x16:a16) (x17:a17) (x18:a18) (x19:a19),d < n → I d x0 x1 x2 x3 x4 x5 x6 x7 x8 x9 x10 x11 x12 x13 x14 x15 x16 x17 x18 x19 → Ok (it20 f n x0 x1 x2 x3 x4 x5 x6 x7 x8 x9 x10 x11 x12 x13 x14 x15 x16 x17 x18 x19) P
 | 0,d,x0,x1,x2,x3,x4,x5,x6,x7,x8,x9,x10,x11,x12,x13,x14,x15,x16,x17,x18,x19,h,_ => absurd h (Nat.not_lt_zero _)
 | n + 1,d,x0,x1,x2,x3,x4,x5,x6,x7,x8,x9,x10,x11,x12,x13,x14,x15,x16,x17,x18,x19,h,hI => step d _ x0 x1 x2 x3 x4 x5 x6 x7 x8 x9 x10 x11 x12 x13 x14 x15 x16 x17 x18 x19 hI fun d' x0 x1 x2 x3 x4 x5 x6 x7 x8 x9 x10 x11 x12 x13 x14 x15 x16 x17 x18 x19 h' hI' => it20_rule I step n d' x0 x1 x2 x3 x4 x5 x6 x7 x8 x9 x10 x11 x12 x13 x14 x15 x16 x17 x18 x19 (by omega) hI'
theorem ok0 {ρ:Type} {S:Shape ρ} {F:Func} {n:Nat} (cs:Cs Tryz.prog) (hf:Tryz.prog.funcs[n]? = some F) {args:List Value} {m:Mem} {r:ρ} (hc:chk0 F args.length = true) (h:fnX ⟨tt,cs.call,fun _ _ _ _ => none,[],[]⟩ F args m S.dec = some r):CallP Tryz.prog n args m fun v m' => v = S.enc r ∧ m' = S.mem r:=fnOk0 tOk mixed cs hf hc h
end Go.Proofs.YtchonnaoojpdoaaGreat
