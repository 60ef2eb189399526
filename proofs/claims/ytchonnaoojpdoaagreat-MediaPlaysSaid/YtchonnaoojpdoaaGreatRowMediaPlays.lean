import Derived.Test.YtchonnaoojpdoaaGreatRows
import Derived.Test.YtchonnaoojpdoaaGreatBMediaPlays4
import Derived.Test.YtchonnaoojpdoaaGreatMxArgs
import Derived.WalkKit
import Derived.ProofKit
import Derived.OpenShut
import Derived.ShutString
import Derived.ChangeOld
import Derived.Below
import Derived.SizedLaws
namespace Go.Proofs.YtchonnaoojpdoaaGreat.mediaPlays
open Go.ChangeShapes Go.WideShapes Go.ChangeAt Go.RowKit Go.Mx
open Go.ChangeMaps (open_string shut_string)
set_option linter.unusedVariables false
theorem own:ownKnob Tryz.prog.godebug = none:=by kernel_rfl
theorem laidOut:laidOutB Tryz.prog = true:=by kernel_rfl
set_option maxRecDepth 100000 in
theorem lifted (os:Os) (started:os.Started) (H:Type) (enc:TypeId × Value → H) :
 ReturnsInHanded {} Tryz.checked os 3 .any (Rows.mediaPlaysSpec.pre6 enc Tryz.prog Tryz.f3 Rows.mediaPlaysRow.domain false) (Rows.mediaPlaysSpec.post enc Tryz.prog Tryz.f3 false true false false):=by
 refine returnsInHanded_of_change_sized (C:=Tryz.checked) own started (by kernel_rfl) Tryz.func3
  (ChangeSpec.witness6 (enc:=enc) (C:=Tryz.checked) false ⟨#[],#[.slice none 0 0],[]⟩ 8 (by kernel_rfl) (by kernel_rfl) (by kernel_rfl) (by kernel_rfl)) ?_
 intro W base args ds gs before hval0 hW hcnd hsz0 _
 have hsz:(DataW.weightsEach Tryz.prog (Tryz.f3.params.toList ++ Rows.mediaPlaysSpec.plain.varTypes Tryz.prog) (ds ++ gs)).all (· ≤ reachBytes) = true:=hsz0
 have hval:∀ (j:Nat) t v,Tryz.f3.params[j]? = some t → args[j]? = some v → Value.okWide Tryz.prog W .any base t v:=hval0
 have hW':=hW
 obtain ⟨p,q,hA0,hV,rfl,hfz,hnd⟩:=hW
 have hA:DataW.TrodAll enc Tryz.prog W 0 (fun _ => true) true Tryz.f3.params.toList args.toList ds p:=hA0
 rw [Tryz.params3] at hA hval hsz
 obtain ⟨v0,vs0,d0,ds0,p0,q0,hargs,rfl,rfl,h0,r0⟩:=trodAll_cons hA
 obtain ⟨rfl,rfl,rfl⟩:=trodAll_nil r0
 obtain rfl:args = #[v0]:=by cases args;simp_all
 obtain ⟨rfl,rfl⟩:=trodVars_none hV
 obtain ⟨a0,len0,cap0,rfl⟩:=okWide_slice Tryz.underlying22 (hval 0 22 v0 rfl rfl)
 have k0:=h0
 have lt0:∀ x ∈ p0,x.block < W.heap.size:=by obtain ⟨m,hm⟩:=k0;exact DataW.trod_lt m _ _ _ hm
 obtain ⟨A0,c0,cs0,ok0,hc0,y0,arg0⟩:=slice_arg (f:=8) (ks:=[.int .i64,.int .i64,.int .i64,.int .i64,.int .i64,.int .i64,.int .i64,.bool,.int .u8]) hsz (j:=0) (t:=22) rfl rfl Tryz.underlying22 (by kernel_rfl) (by kernel_rfl) (by decide) h0
 rw [show Tryz.prog.bytesOf 30 = 72 by kernel_rfl] at y0
 obtain ⟨b0,vr0,hh0⟩:=arg0 [A0] 0 rfl
 clear hA0 hval0 hsz0 hsz
 obtain ⟨k,m',hrun⟩:=mediaPlays_run A0.o b0 len0 c0 cs0 hh0 hc0 y0
 refine (law_walk (patinalaw08_MediaPlays_ok k [.slice b0 len0 c0] _ _ hrun) Tryz.func3 (by kernel_rfl) (by kernel_rfl) (fun v m' hp => hp.1) (args_rep (l:=[A0]) (fun a ha => by simp only [List.mem_cons,List.not_mem_nil,or_false] at ha;rcases ha with rfl <;> assumption)) (args_still (l:=[A0]) (fun a ha => by simp only [List.mem_cons,List.not_mem_nil,or_false] at ha;rcases ha with rfl <;> assumption)) (args:=[.slice a0 len0 cap0]) rfl (args_cons vr0 args_nil)).mono fun e W' ⟨he,bel⟩ => ?_
 subst he
 exact ⟨_,rfl,_,_,_,[],_,[],hW',trodAll_mk1 (shut_bool Tryz.underlying4 _),(trodAll_cons_mk (Below.trod laidOut (by kernel_rfl) (of_decide_eq_true (by kernel_rfl)) k0 bel lt0) trodAll_mk0),rfl,bel.frame _,fun h => by cases h⟩
theorem over:Rows.mediaPlaysRow.holds Tryz.pinned (OpenSpec.ofChange Rows.mediaPlaysSpec) :=
 OpenClaim.holds_of_wide 3 Tryz.f3 rfl rfl rfl rfl rfl rfl rfl ⟨rfl,rfl,rfl,rfl,rfl⟩ rfl rfl rfl rfl rfl (by kernel_rfl) Tryz.func3 (by kernel_rfl)
  (of_decide_eq_true (by kernel_rfl)) (by unfold Func.isWrapper;first | (rw [if_pos (by decide +kernel)];kernel_rfl) | (rw [if_neg (by decide +kernel)];exact ⟨rfl,rfl⟩))
  (fun os started H enc _ => lifted os started H enc)
theorem proved:Rows.MediaPlaysSaid:=over
#print axioms proved
end Go.Proofs.YtchonnaoojpdoaaGreat.mediaPlays
namespace Go.Proofs.YtchonnaoojpdoaaGreat
theorem mediaPlays_holds:Rows.MediaPlaysSaid:=mediaPlays.proved
end Go.Proofs.YtchonnaoojpdoaaGreat
