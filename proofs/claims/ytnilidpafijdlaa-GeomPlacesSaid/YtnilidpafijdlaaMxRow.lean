/- From a law's function to the walk that its row asks for. -/
import Derived.Test.YtnilidpafijdlaaMxTab
import Derived.Below
set_option linter.unusedVariables false
set_option linter.unusedSimpArgs false
namespace Go.Mx
open Go.RowKit

theorem Evo.below {ρ : Rn} {m : Mem} {w : World} {ρ' : Rn} {m' : Mem} {w' : World} (h : Evo ρ m w ρ' m' w') (hm : ∀ (n : Nat) cs, m[n]? ≠ some (MObj.live cs)) : Below w.heap.size w w' :=
  ⟨h.os, h.tape, h.out, h.size, fun k hk => h.frame k hk fun n cs hn => absurd hn (hm n cs)⟩

theorem MRep.empty (ρ : Rn) (w : World) : MRep ρ [] w := ⟨by simp, by simp, by simp⟩

theorem law_walk {P : Program} {f : FuncId} {vs : List Value} {m : Mem} {Post : Value → Mem → Prop} (h : CallP P f vs m Post) (hp : ∀ v m', Post v m' → v = .bool true) {ρ : Rn} {w : World} (hm : MRep ρ m w) (hro : ∀ (n : Nat) cs, m[n]? ≠ some (MObj.live cs))
    {args : List Value} (hl : args.length = vs.length) (ha : ∀ (i : Nat) v, vs[i]? = some v → ∃ v', args[i]? = some v' ∧ VR ρ m.length v v') :
    Calls P f ⟨args⟩ w fun e w' => e = .returned (.bool true) ∧ Below w.heap.size w w' := by
  refine (h.2 ρ w args hm hl ha).mono ?_
  rintro en w' ⟨v, m', v', ρ', rfl, h1, h2, h3, h4⟩
  rw [hp v m' h1] at h2
  rw [h2.bool_inv]
  exact ⟨rfl, h4.below hro⟩

/-- plain arguments alone -/
theorem law_walk_plain {P : Program} {f : FuncId} {vs : List Value} {Post : Value → Mem → Prop} (h : CallP P f vs [] Post) (hp : ∀ v m', Post v m' → v = .bool true) (hpl : vs.all plainV = true) (w : World) :
    Calls P f ⟨vs⟩ w fun e w' => e = .returned (.bool true) ∧ Below w.heap.size w w' := by
  refine law_walk h hp (MRep.empty ⟨fun _ => 0, fun _ => 0, fun _ => 0⟩ w) (by simp) rfl fun i v hi => ⟨v, hi, ?_⟩
  exact VR.plain (List.all_eq_true.1 hpl v (List.mem_of_getElem? hi))
end Go.Mx
