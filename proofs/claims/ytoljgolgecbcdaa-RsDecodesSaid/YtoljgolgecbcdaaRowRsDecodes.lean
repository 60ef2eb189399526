/- The statement RsDecodes holds for every input: its printed function answers true. -/
import Derived.Test.YtoljgolgecbcdaaRows
import Derived.Test.YtoljgolgecbcdaaRsDecodes
import Derived.Test.YtoljgolgecbcdaaMxNest
import Derived.WalkKit
import Derived.ProofKit
import Derived.OpenShut
import Derived.ShutString
import Derived.ChangeOld
import Derived.Below
import Derived.SizedLaws
namespace Go.Proofs.Ytoljgolgecbcdaa.rsDecodes
open Go.ChangeShapes Go.WideShapes Go.ChangeAt Go.RowKit Go.Mx
open Go.ChangeMaps (open_string shut_string)
set_option linter.unusedVariables false
theorem own : ownKnob Try.prog.godebug = none := by kernel_rfl
theorem laidOut : laidOutB Try.prog = true := by kernel_rfl
set_option maxRecDepth 100000 in
theorem lifted (os : Os) (started : os.Started) (H : Type) (enc : TypeId × Value → H) :
    ReturnsInHanded {} Try.checked os 7 .any (Rows.rsDecodesSpec.pre6 enc Try.prog Try.f7 Rows.rsDecodesRow.domain false) (Rows.rsDecodesSpec.post enc Try.prog Try.f7 false true false false) := by
  refine returnsInHanded_of_change_sized (C := Try.checked) own started (by kernel_rfl) Try.func7
    (ChangeSpec.witness6 (enc := enc) (C := Try.checked) false ⟨#[], #[.slice none 0 0], []⟩ 8 (by kernel_rfl) (by kernel_rfl) (by kernel_rfl) (by kernel_rfl)) ?_
  intro W base args ds gs before hval0 hW hcnd hsz0 _
  have hsz : (DataW.weightsEach Try.prog (Try.f7.params.toList ++ Rows.rsDecodesSpec.plain.varTypes Try.prog) (ds ++ gs)).all (· ≤ reachBytes) = true := hsz0
  have hval : ∀ (j : Nat) t v, Try.f7.params[j]? = some t → args[j]? = some v → Value.okWide Try.prog W .any base t v := hval0
  have hW' := hW
  obtain ⟨p, q, hA0, hV, rfl, hfz, hnd⟩ := hW
  have hA : DataW.TrodAll enc Try.prog W 0 (fun _ => true) true Try.f7.params.toList args.toList ds p := hA0
  rw [Try.params7] at hA hval hsz
  obtain ⟨v0, vs0, d0, ds0, p0, q0, hargs, rfl, rfl, h0, r0⟩ := trodAll_cons hA
  obtain ⟨rfl, rfl, rfl⟩ := trodAll_nil r0
  obtain rfl : args = #[v0] := by cases args; simp_all
  obtain ⟨rfl, rfl⟩ := trodVars_none hV
  obtain ⟨a0, len0, cap0, rfl⟩ := okWide_slice Try.underlying30 (hval 0 30 v0 rfl rfl)
  have k0 := h0
  have lt0 : ∀ x ∈ p0, x.block < W.heap.size := by obtain ⟨m, hm⟩ := k0; exact DataW.trod_lt m _ _ _ hm
  obtain ⟨A0, c0, cs0, ok0, hc0, y0, arg0⟩ := slice_arg (f := 8) (ks := [.int .u8]) hsz (j := 0) (t := 30) rfl rfl Try.underlying30 (by kernel_rfl) (by kernel_rfl) (by decide) h0
  rw [show Try.prog.bytesOf 5 = 1 by kernel_rfl] at y0
  obtain ⟨b0, vr0, hh0⟩ := arg0 [A0] 0 rfl
  clear hA0 hval0 hsz0 hsz
  obtain ⟨k, m', hrun⟩ := rsDecodes_run A0.o b0 len0 c0 cs0 hh0 hc0 y0
  refine (law_walk (patinalaw02_RsDecodes_ok hrun) Try.func7 (by kernel_rfl) (by kernel_rfl) (fun v m' hp => hp.1) (args_rep (l := [A0]) (fun a ha => by simp only [List.mem_cons, List.not_mem_nil, or_false] at ha; rcases ha with rfl <;> assumption)) (args_still (l := [A0]) (fun a ha => by simp only [List.mem_cons, List.not_mem_nil, or_false] at ha; rcases ha with rfl <;> assumption)) (args := [.slice a0 len0 cap0]) rfl (args_cons vr0 args_nil)).mono fun e W' ⟨he, bel⟩ => ?_
  subst he
  exact ⟨_, rfl, _, _, _, [], _, [], hW', trodAll_mk1 (shut_bool Try.underlying4 _), (trodAll_cons_mk (Below.trod laidOut (by kernel_rfl) (of_decide_eq_true (by kernel_rfl)) k0 bel lt0) trodAll_mk0), rfl, bel.frame _, fun h => by cases h⟩
theorem over : Rows.rsDecodesRow.holds Try.pinned (OpenSpec.ofChange Rows.rsDecodesSpec) :=
  OpenClaim.holds_of_wide 7 Try.f7 rfl rfl rfl rfl rfl rfl rfl ⟨rfl, rfl, rfl, rfl, rfl⟩ rfl rfl rfl rfl rfl (by kernel_rfl) Try.func7 (by kernel_rfl)
    (of_decide_eq_true (by kernel_rfl)) (by unfold Func.isWrapper; first | (rw [if_pos (by decide +kernel)]; kernel_rfl) | (rw [if_neg (by decide +kernel)]; exact ⟨rfl, rfl⟩))
    (fun os started H enc _ => lifted os started H enc)
theorem proved : Rows.RsDecodesSaid := over
#print axioms proved
end Go.Proofs.Ytoljgolgecbcdaa.rsDecodes
namespace Go.Proofs.Ytoljgolgecbcdaa
/-- The row, under a short name, for the claim. -/
theorem rsDecodes_holds : Rows.RsDecodesSaid := rsDecodes.proved
end Go.Proofs.Ytoljgolgecbcdaa
