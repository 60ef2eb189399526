/- The statement MediaCuts holds for every input: its printed function answers true. -/
import Derived.Test.YtchonnaoojpdoaaRows
import Derived.Test.YtchonnaoojpdoaaBMediaCuts3
import Derived.Test.YtchonnaoojpdoaaMxNest
import Derived.WalkKit
import Derived.ProofKit
import Derived.OpenShut
import Derived.ShutString
import Derived.ChangeOld
import Derived.Below
import Derived.SizedLaws
namespace Go.Proofs.Ytchonnaoojpdoaa.mediaCuts
open Go.ChangeShapes Go.WideShapes Go.ChangeAt Go.RowKit Go.Mx
open Go.ChangeMaps (open_string shut_string)
set_option linter.unusedVariables false
theorem own : ownKnob Try.prog.godebug = none := by kernel_rfl
theorem laidOut : laidOutB Try.prog = true := by kernel_rfl
set_option maxRecDepth 100000 in
theorem lifted (os : Os) (started : os.Started) (H : Type) (enc : TypeId × Value → H) :
    ReturnsInHanded {} Try.checked os 4 .any (Rows.mediaCutsSpec.pre6 enc Try.prog Try.f4 Rows.mediaCutsRow.domain false) (Rows.mediaCutsSpec.post enc Try.prog Try.f4 false true false false) := by
  refine returnsInHanded_of_change_sized (C := Try.checked) own started (by kernel_rfl) Try.func4
    (ChangeSpec.witness6 (enc := enc) (C := Try.checked) false ⟨#[], #[.agg #[.int .i64 0, .int .i64 0, .int .i64 0, .int .i64 0, .bool false], .int .i64 0, .slice none 0 0], []⟩ 8 (by kernel_rfl) (by kernel_rfl) (by kernel_rfl) (by kernel_rfl)) ?_
  intro W base args ds gs before hval0 hW hcnd hsz0 _
  have hsz : (DataW.weightsEach Try.prog (Try.f4.params.toList ++ Rows.mediaCutsSpec.plain.varTypes Try.prog) (ds ++ gs)).all (· ≤ reachBytes) = true := hsz0
  have hval : ∀ (j : Nat) t v, Try.f4.params[j]? = some t → args[j]? = some v → Value.okWide Try.prog W .any base t v := hval0
  have hW' := hW
  obtain ⟨p, q, hA0, hV, rfl, hfz, hnd⟩ := hW
  have hA : DataW.TrodAll enc Try.prog W 0 (fun _ => true) true Try.f4.params.toList args.toList ds p := hA0
  rw [Try.params4] at hA hval hsz
  obtain ⟨v0, vs0, d0, ds0, p0, q0, hargs, rfl, rfl, h0, r0⟩ := trodAll_cons hA
  obtain ⟨v1, vs1, d1, ds1, p1, q1, rfl, rfl, rfl, h1, r1⟩ := trodAll_cons r0
  obtain ⟨v2, vs2, d2, ds2, p2, q2, rfl, rfl, rfl, h2, r2⟩ := trodAll_cons r1
  obtain ⟨rfl, rfl, rfl⟩ := trodAll_nil r2
  obtain rfl : args = #[v0, v1, v2] := by cases args; simp_all
  obtain ⟨rfl, rfl⟩ := trodVars_none hV
  obtain ⟨⟨l0⟩, rfl, hz0⟩ := okWide_struct Try.underlying23 (hval 0 23 v0 rfl rfl)
  have k0 := h0
  have lt0 : ∀ x ∈ p0, x.block < W.heap.size := by obtain ⟨m, hm⟩ := k0; exact DataW.trod_lt m _ _ _ hm
  have fl0 : FlatOk [.int .i64, .int .i64, .int .i64, .int .i64, .bool] l0 := flat_arg (f := 8) (by kernel_rfl) h0
  obtain ⟨a1, rfl, rfl, rfl, w1⟩ := open_int Try.underlying3 (hval 1 3 v1 rfl rfl) h1
  obtain ⟨a2, len2, cap2, rfl⟩ := okWide_slice Try.underlying24 (hval 2 24 v2 rfl rfl)
  have k2 := h2
  have lt2 : ∀ x ∈ p2, x.block < W.heap.size := by obtain ⟨m, hm⟩ := k2; exact DataW.trod_lt m _ _ _ hm
  obtain ⟨A2, c2, cs2, ok2, hc2, y2, arg2⟩ := slice_arg (f := 8) (ks := [.int .i64]) hsz (j := 2) (t := 24) rfl rfl Try.underlying24 (by kernel_rfl) (by kernel_rfl) (by decide) h2
  rw [show Try.prog.bytesOf 3 = 8 by kernel_rfl] at y2
  obtain ⟨b2, vr2, hh2⟩ := arg2 [A2] 0 rfl
  clear hA0 hval0 hsz0 hsz
  obtain ⟨k, m', hrun⟩ := mediaCuts_run A2.o l0 a1 b2 len2 c2 cs2 fl0 w1 hh2 hc2 y2
  refine (law_walk (patinalaw08_MediaCuts_ok hrun) Try.func4 (by kernel_rfl) (by kernel_rfl) (fun v m' hp => hp.1) (args_rep (l := [A2]) (fun a ha => by simp only [List.mem_cons, List.not_mem_nil, or_false] at ha; rcases ha with rfl <;> assumption)) (args_still (l := [A2]) (fun a ha => by simp only [List.mem_cons, List.not_mem_nil, or_false] at ha; rcases ha with rfl <;> assumption)) (args := [.agg ⟨l0⟩, .int .i64 a1, .slice a2 len2 cap2]) rfl (args_cons fl0.vr (args_cons (.int _ _) (args_cons vr2 args_nil)))).mono fun e W' ⟨he, bel⟩ => ?_
  subst he
  exact ⟨_, rfl, _, _, _, [], _, [], hW', trodAll_mk1 (shut_bool Try.underlying4 _), (trodAll_cons_mk (Below.trod laidOut (by kernel_rfl) (of_decide_eq_true (by kernel_rfl)) k0 bel lt0) (trodAll_cons_mk (shut_int Try.underlying3 w1) (trodAll_cons_mk (Below.trod laidOut (by kernel_rfl) (of_decide_eq_true (by kernel_rfl)) k2 bel lt2) trodAll_mk0))), rfl, bel.frame _, fun h => by cases h⟩
theorem over : Rows.mediaCutsRow.holds Try.pinned (OpenSpec.ofChange Rows.mediaCutsSpec) :=
  OpenClaim.holds_of_wide 4 Try.f4 rfl rfl rfl rfl rfl rfl rfl ⟨rfl, rfl, rfl, rfl, rfl⟩ rfl rfl rfl rfl rfl (by kernel_rfl) Try.func4 (by kernel_rfl)
    (of_decide_eq_true (by kernel_rfl)) (by unfold Func.isWrapper; first | (rw [if_pos (by decide +kernel)]; kernel_rfl) | (rw [if_neg (by decide +kernel)]; exact ⟨rfl, rfl⟩))
    (fun os started H enc _ => lifted os started H enc)
theorem proved : Rows.MediaCutsSaid := over
#print axioms proved
end Go.Proofs.Ytchonnaoojpdoaa.mediaCuts
namespace Go.Proofs.Ytchonnaoojpdoaa
/-- The row, under a short name, for the claim. -/
theorem mediaCuts_holds : Rows.MediaCutsSaid := mediaCuts.proved
end Go.Proofs.Ytchonnaoojpdoaa
