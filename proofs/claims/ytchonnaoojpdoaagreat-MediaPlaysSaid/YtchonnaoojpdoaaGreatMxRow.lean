import Derived.Test.YtchonnaoojpdoaaGreatMxTab
import Derived.Below
import Derived.SizedLaws
import Derived.ChangeSlices
import Derived.IntWalk
set_option linter.unusedVariables false
set_option linter.unusedSimpArgs false
namespace Go.Mx
open Go.RowKit
theorem Evo.below {ρ:Rn} {m:Mem} {w:World} {ρ':Rn} {m':Mem} {w':World} (h:Evo ρ m w ρ' m' w') (hm:∀ (n:Nat) cs,m[n]? ≠ some (MObj.live cs)):Below w.heap.size w w' :=
 ⟨h.os,h.tape,h.out,h.size,fun k hk => h.frame k hk fun n cs hn => absurd hn (hm n cs)⟩
theorem law_walk {P:Program} {f:FuncId} {fn:Func} {vs:List Value} {m:Mem} {Post:Value → Mem → Prop} (h:CallP P f vs m Post) (hf1:P.funcs[f]? = some fn) (hf2:(fn.name == "runtime.NumGoroutine") = false) (hf3:fn.body.isSome = true) (hp:∀ v m',Post v m' → v = .bool true) {ρ:Rn} {w:World} (hm:MRep ρ m w) (hro:∀ (n:Nat) cs,m[n]? ≠ some (MObj.live cs))
 {args:List Value} (hl:args.length = vs.length) (ha:∀ (i:Nat) v,vs[i]? = some v → ∃ v',args[i]? = some v' ∧ VR ρ m.length v v') :
 Calls P f ⟨args⟩ w fun e w' => e = .returned (.bool true) ∧ Below w.heap.size w w':=by
 refine (h.calls hf1 hf2 hf3 hm hl ha).mono ?_
 rintro en w' ⟨v,m',v',ρ',rfl,h1,h2,h3,h4⟩
 rw [hp v m' h1] at h2
 rw [h2.bool_inv]
 exact ⟨rfl,h4.below hro⟩
theorem args_nil {ρ:Rn} {L:Nat}:∀ (i:Nat) v,([]:List Value)[i]? = some v → ∃ v',([]:List Value)[i]? = some v' ∧ VR ρ L v v':=by
 intro i v h;simp at h
theorem args_cons {ρ:Rn} {L:Nat} {v v':Value} {vs vs':List Value} (h:VR ρ L v v') (t:∀ (i:Nat) u,vs[i]? = some u → ∃ u',vs'[i]? = some u' ∧ VR ρ L u u') :
 ∀ (i:Nat) u,(v :: vs)[i]? = some u → ∃ u',(v' :: vs')[i]? = some u' ∧ VR ρ L u u':=by
 intro i u hi
 cases i with
 | zero => simp at hi;subst hi;exact ⟨v',rfl,h⟩
 | succ i => simpa using t i u (by simpa using hi)
theorem wrap_small {x:Int} (h1:-9223372036854775808 ≤ x) (h2:x < 9223372036854775808):IntKind.wrap .i64 x = x:=by
 rw [IntKind.wrap_i64];omega
end Go.Mx
