import Derived.Test.YtchonnaoojpdoaaGreatMxRow
import Derived.Deep.Slices
import Derived.OpenShut
set_option linter.unusedVariables false
set_option linter.unusedSimpArgs false
namespace Go.Mx
open Go.RowKit
inductive Leaf where
 | int (k:IntKind) | bool | str
 deriving DecidableEq
def Leaf.Ok:Leaf → Value → Prop
 | .int k,v => ∃ n,v = .int k n ∧ (Lit.int k n).wf = true
 | .bool,v => ∃ b,v = .bool b
 | .str,v => ∃ s,v = .string s ∧ s.size ≤ maxLen
def flatB (P:Program):Nat → TypeId → List Leaf → Bool
 | 0,_,_ => false
 | f + 1,t,ks => match P.underlying t with
  | some .bool => decide (ks = [.bool])
  | some (.int k) => decide (ks = [.int k])
  | some .string => decide (ks = [.str])
  | some (.struct fs) => Nat.beq ks.length (P.cellsOf t) && (List.range ks.length).all fun i => fs.toList.any fun g => Nat.ble g.offset i && Nat.blt i (g.offset + P.cellsOf g.type) && Nat.beq ((ks.drop g.offset).take (P.cellsOf g.type)).length (P.cellsOf g.type) && flatB P f g.type ((ks.drop g.offset).take (P.cellsOf g.type))
  | some (.array n e) => Nat.beq ks.length (P.cellsOf t) && (List.range ks.length).all fun i => (List.range n).any fun j => Nat.ble (j * P.cellsOf e) i && Nat.blt i (j * P.cellsOf e + P.cellsOf e) && flatB P f e ((ks.drop (j * P.cellsOf e)).take (P.cellsOf e))
  | _ => false
section
variable {H:Type} {enc:TypeId × Value → H} {P:Program} {w:World} {base:Nat} {spare:Nat → Bool} {held:Bool}
theorem get_sub {α:Type} {l:List α} {o z i:Nat} (h1:o ≤ i) (h2:i < o + z):((l.drop o).take z)[i - o]? = l[i]?:=by
 rw [List.getElem?_take,if_pos (by omega),List.getElem?_drop]
 congr 1;omega
theorem flat_open:∀ (f:Nat) {t:TypeId} {ks:List Leaf} {fuel:Nat} {cs:List Value} {x:DataW H × List MemPlace},flatB P f t ks = true → DataW.trod enc P w base spare held fuel t cs = some x →
 cs.length = ks.length ∧ ∀ (i:Nat) (k:Leaf),ks[i]? = some k → ∃ v,cs[i]? = some v ∧ k.Ok v
 | 0,t,ks,fuel,cs,x,hb,h => by simp [flatB] at hb
 | f + 1,t,ks,fuel,cs,x,hb,h => by
  unfold flatB at hb
  split at hb
  ·rename_i hu
   simp only [decide_eq_true_eq] at hb;subst hb
   cases fuel with
   | zero => simp [DataW.trod] at h
   | succ n =>
    unfold DataW.trod at h
    simp only [hu] at h
    split at h <;> simp_all
    intro i k hi
    cases i with
    | zero => simp at hi;subst hi;exact ⟨_,rfl,_,rfl⟩
    | succ i => simp at hi
  ·rename_i k0 hu
   simp only [decide_eq_true_eq] at hb;subst hb
   cases fuel with
   | zero => simp [DataW.trod] at h
   | succ n =>
    unfold DataW.trod at h
    simp only [hu] at h
    split at h <;> simp_all
    intro i k hi
    cases i with
    | zero =>
     simp at hi;subst hi
     exact ⟨_,rfl,_,rfl,h.1.2⟩
    | succ i => simp at hi
  ·rename_i hu
   simp only [decide_eq_true_eq] at hb;subst hb
   cases fuel with
   | zero => simp [DataW.trod] at h
   | succ n =>
    unfold DataW.trod at h
    simp only [hu] at h
    split at h <;> simp_all
    intro i k hi
    cases i with
    | zero => simp at hi;subst hi;exact ⟨_,rfl,_,rfl,h.1⟩
    | succ i => simp at hi
  ·rename_i fs hu
   simp only [Bool.and_eq_true,List.all_eq_true,List.any_eq_true,List.mem_range] at hb
   obtain ⟨hl,hall⟩:=hb
   obtain ⟨xs,n,_,rfl,hlen,hxs,hf⟩:=DataW.trod_struct hu h
   have hl':ks.length = P.cellsOf t:=Nat.eq_of_beq_eq_true hl
   refine ⟨by rw [hlen,hl'],fun i k hi => ?_⟩
   have hik:i < ks.length:=(List.getElem?_eq_some_iff.1 hi).1
   obtain ⟨g,hg,⟨⟨h1,h2⟩,h3⟩,h4⟩:=hall i hik
   obtain ⟨j,hj⟩:=List.mem_iff_getElem?.1 hg
   have h1':g.offset ≤ i:=Nat.le_of_ble_eq_true h1
   have h2':i < g.offset + P.cellsOf g.type:=by have:=h2;simp [Nat.blt] at this;omega
   have hj':fs[j]? = some g:=by rw [← Array.getElem?_toList];exact hj
   have hjl:j < xs.length:=by rw [hxs];exact (Array.getElem?_eq_some_iff.1 hj').1
   have h5:=hf j g hj'
   rw [List.getElem?_eq_getElem hjl] at h5
   obtain ⟨h6,h7⟩:=flat_open f h4 h5
   obtain ⟨v,h8,h9⟩:=h7 (i - g.offset) k (by rw [get_sub h1' h2'];exact hi)
   exact ⟨v,by rw [get_sub h1' h2'] at h8;exact h8,h9⟩
  ·rename_i m e hu
   simp only [Bool.and_eq_true,List.all_eq_true,List.any_eq_true,List.mem_range] at hb
   obtain ⟨hl,hall⟩:=hb
   obtain ⟨xs,n,_,rfl,hlen,hxs,hf⟩:=DataW.trod_array hu h
   have hl':ks.length = P.cellsOf t:=Nat.eq_of_beq_eq_true hl
   refine ⟨by rw [hlen,hl'],fun i k hi => ?_⟩
   have hik:i < ks.length:=(List.getElem?_eq_some_iff.1 hi).1
   obtain ⟨j,hj,⟨h1,h2⟩,h4⟩:=hall i hik
   have h1':j * P.cellsOf e ≤ i:=Nat.le_of_ble_eq_true h1
   have h2':i < j * P.cellsOf e + P.cellsOf e:=by have:=h2;simp [Nat.blt] at this;omega
   have h5:=hf j hj
   rw [List.getElem?_eq_getElem (by rw [hxs];exact hj)] at h5
   obtain ⟨h6,h7⟩:=flat_open f h4 h5
   obtain ⟨v,h8,h9⟩:=h7 (i - j * P.cellsOf e) k (by rw [get_sub h1' h2'];exact hi)
   exact ⟨v,by rw [get_sub h1' h2'] at h8;exact h8,h9⟩
  ·cases hb
end
structure Arg where
 o:MObj
 blk:Nat
 sh:Nat
def Arg.Ok (w:World) (a:Arg):Prop:=a.o = .dead ∨ ∃ cs,a.o = .ro cs ∧ (∀ v ∈ cs,plainV v = true ∧ isOne v = true) ∧ a.blk < w.heap.size ∧ ∀ (j:Nat) v,cs[j]? = some v → w.cell? ⟨a.blk,a.sh + j,none⟩ = some v
def noArg:Arg:=⟨.dead,0,0⟩
def rnOf (l:List Arg):Rn:=⟨fun n => (l.getD n noArg).blk,fun _ => 0,fun n => (l.getD n noArg).sh⟩
def memOf (l:List Arg):Mem:=l.map (·.o)
theorem memOf_get {l:List Arg} {n:Nat} {o:MObj} (h:(memOf l)[n]? = some o):∃ a,l[n]? = some a ∧ a.o = o ∧ l.getD n noArg = a:=by
 unfold memOf at h
 rw [List.getElem?_map] at h
 obtain ⟨a,h1,h2⟩:=Option.map_eq_some_iff.1 h
 exact ⟨a,h1,h2,by simp [List.getD,h1]⟩
theorem args_still {l:List Arg} {w:World} (h:∀ a ∈ l,a.Ok w):∀ (n:Nat) cs,(memOf l)[n]? ≠ some (MObj.live cs):=by
 intro n cs hn
 obtain ⟨a,h1,h2,_⟩:=memOf_get hn
 rcases h a (List.mem_of_getElem? h1) with h3 | ⟨cs',h3,_⟩ <;> rw [h3] at h2 <;> cases h2
theorem args_rep {l:List Arg} {w:World} (h:∀ a ∈ l,a.Ok w):MRep (rnOf l) (memOf l) w:=by
 refine ⟨fun n cs hn => absurd hn (args_still h n cs),fun n n' cs cs' hn => absurd hn (args_still h n cs),fun n cs hn0 => ?_⟩
 have hn:(memOf l)[n]? = some (.ro cs):=by
  rcases hn0 with hn | ⟨q,hn,_⟩
  ·exact hn
  ·obtain ⟨a,h1,h2,h3⟩:=memOf_get hn
   rcases h a (List.mem_of_getElem? h1) with h4 | h4
   ·rw [h4] at h2;cases h2
   ·obtain ⟨_,h4⟩:=h4;first | (rw [h4.1] at h2;cases h2) | (obtain ⟨_,h4⟩:=h4;rw [h4.1] at h2;cases h2)
 obtain ⟨a,h1,h2,h3⟩:=memOf_get hn
 rcases h a (List.mem_of_getElem? h1) with h4 | ⟨cs',h4,h5,h6,h7⟩
 ·rw [h4] at h2;cases h2
 ·rw [h4] at h2
  simp only [MObj.ro.injEq] at h2
  subst h2
  simp only [rnOf,h3]
  exact ⟨h6,fun n' cs'' hn' => absurd hn' (args_still h n' cs''),cs',⟨rfl,fun v hv => (h5 v hv).2,fun i v hi => ⟨v,hi,VR.plain (h5 v (List.mem_of_getElem? hi)).1⟩⟩,h7⟩
def Holds (o:MObj) (i:Nat) (p:Option Addr) (n:Nat) (ks:List Leaf) (cs:List Value):Prop :=
 cs.length = n * ks.length ∧ (∀ (j k:Nat) q,j < n → ks[k]? = some q → q.Ok (cs.getD (j * ks.length + k) undef)) ∧
  (0 < n → p = some ⟨i,0,none⟩ ∧ ∃ cs',o = .ro cs' ∧ ∀ j,j < n * ks.length → cs'[j]? = some (cs.getD j undef))
theorem Leaf.plain {q:Leaf} {v:Value} (h:q.Ok v):plainV v = true ∧ isOne v = true:=by
 cases q
 ·obtain ⟨n,rfl,_⟩:=h;exact ⟨rfl,rfl⟩
 ·obtain ⟨n,rfl⟩:=h;exact ⟨rfl,rfl⟩
 ·obtain ⟨n,rfl,_⟩:=h;exact ⟨rfl,rfl⟩
theorem plain_add {x:Addr} (hs:x.spot = none) (j:Nat):x.add j = ⟨x.block,x.off + j,none⟩:=by
 obtain ⟨b,off,sp⟩:=x
 simp only at hs;subst hs
 unfold Addr.add
 split
 ·rename_i h;rw [h];rfl
 ·rfl
def ptrIf (b:Bool) (i:Nat):Option Addr:=bif b then none else some ⟨i,0,none⟩
theorem slice_arg2 {H:Type} {enc:TypeId × Value → H} {P:Program} {W:World} {t e:TypeId} {f:Nat} {ks:List Leaf} {a:Option Addr} {len cap:Nat} {d:DataW H} {ps:List MemPlace}
 (hsz:∀ n ∈ d.weights P t,n ≤ reachBytes) (hu:P.underlying t = some (.slice e)) (hk:flatB P f e ks = true) (hc:P.cellsOf e = ks.length) (hk0:0 < ks.length)
 (h:DataW.Trod enc P W 0 (fun _ => true) true t (.slice a len cap) d ps) :
 ∃ (A:Arg) (c:Nat) (cs:List Value) (nl:Bool),A.Ok W ∧ len ≤ c ∧ len * P.bytesOf e ≤ 140737488351232 ∧
  ∀ (l:List Arg) (i:Nat),l[i]? = some A → VR (rnOf l) (memOf l).length (.slice (ptrIf nl i) len c) (.slice a len cap) ∧ Holds A.o i (ptrIf nl i) len ks cs:=by
 obtain ⟨fuel,hf⟩:=h
 rcases Deep.open_slice hu hf with ⟨hcs,_⟩ | ⟨x,l,c,m,n,D,Pl,hcs,_,hl,hm,hmm,hx,hel⟩
 ·simp [Value.cells] at hcs
  obtain ⟨rfl,rfl,rfl⟩:=hcs
  exact ⟨noArg,0,[],true,.inl rfl,Nat.le_refl _,by simp,fun l i _ => ⟨.sl0,by simp,fun j k q hj => by omega,fun h => by omega⟩⟩
 ·simp [Value.cells] at hcs
  obtain ⟨rfl,rfl,rfl⟩:=hcs
  simp only [if_true] at hmm
  subst hmm
  have hshort:len * P.bytesOf e ≤ 140737488351232:=by
   obtain ⟨hx,_⟩:=Prod.mk.inj hx
   subst hx
   refine Nat.le_trans (Nat.mul_le_mul_right _ ?_) (hsz _ (show (((List.range len).map D).length + ((List.range (m - len)).map fun j => D (len + j)).length) * P.bytesOf e ∈ _ by simp [DataW.weights,hu]))
   simp
  rcases Nat.eq_zero_or_pos m with h0 | h0
  ·subst h0
   have h1:len = 0:=by omega
   subst h1
   refine ⟨noArg,0,[],false,.inl rfl,Nat.le_refl _,hshort,fun l i hi => ⟨.sl _ _ _ _ _ ?_ ⟨.inl rfl,Nat.le_refl _,fun _ => rfl,fun z hz => by cases hz⟩,by simp,fun j k q hj => by omega,fun h => by omega⟩⟩
   simp only [memOf,List.length_map]
   exact (List.getElem?_eq_some_iff.1 hi).1
  ·rw [hc] at hel
   have hx0:W.cell? x ≠ none:=by
    obtain ⟨cs',h1,h2⟩:=hel 0 h0
    obtain ⟨_,h3,h4⟩:=World.cells?_some h1
    have h5:=h4 0 hk0
    simp only [Nat.zero_mul,Addr.add,if_true] at h5
    rw [h5,List.getElem?_eq_getElem (by omega)];simp
   have hsp:x.spot = none:=by
    cases hs:x.spot with
    | none => rfl
    | some z => exfalso;apply hx0;unfold World.cell?;split <;> simp [hs]
   have hbk:x.block < W.heap.size:=by
    apply Classical.byContradiction
    intro hno
    apply hx0;unfold World.cell?;simp [Array.getElem?_eq_none (Nat.le_of_not_lt hno)]
   have cell:∀ i k,i < m → k < ks.length → ∃ v,(∀ q,ks[k]? = some q → q.Ok v) ∧ W.cell? ⟨x.block,x.off + (i * ks.length + k),none⟩ = some v:=by
    intro i k hi hk1
    obtain ⟨cs',h1,h2⟩:=hel i hi
    obtain ⟨_,h3,h4⟩:=World.cells?_some h1
    obtain ⟨h5,h6⟩:=flat_open f hk h2
    obtain ⟨v,h7,h8⟩:=h6 k _ (List.getElem?_eq_getElem hk1)
    refine ⟨v,fun q hq => ?_,?_⟩
    ·rw [List.getElem?_eq_getElem hk1] at hq;simp only [Option.some.injEq] at hq;subst hq;exact h8
    ·have h9:=h4 k hk1
     rw [plain_add hsp,plain_add rfl,h7] at h9
     rw [← Nat.add_assoc];exact h9
   have cellj:∀ j,j < m * ks.length → ∃ v,(∀ q,ks[j % ks.length]? = some q → q.Ok v) ∧ W.cell? ⟨x.block,x.off + j,none⟩ = some v:=by
    intro j hj
    have h1:=cell (j / ks.length) (j % ks.length) (Nat.div_lt_of_lt_mul (by rw [Nat.mul_comm];exact hj)) (Nat.mod_lt _ hk0)
    rwa [show j / ks.length * ks.length + j % ks.length = j by rw [Nat.mul_comm];exact Nat.div_add_mod _ _] at h1
   let full:List Value:=(List.range (m * ks.length)).map fun j => (W.cell? ⟨x.block,x.off + j,none⟩).getD undef
   have hfull:∀ j v,full[j]? = some v → j < m * ks.length ∧ W.cell? ⟨x.block,x.off + j,none⟩ = some v:=by
    intro j v hv
    have hj:j < m * ks.length:=by simpa [full] using (List.getElem?_eq_some_iff.1 hv).1
    obtain ⟨v',_,h2⟩:=cellj j hj
    simp [full,hj,h2] at hv
    subst hv
    exact ⟨hj,h2⟩
   have hlz:len * ks.length ≤ m * ks.length:=Nat.mul_le_mul_right _ hl
   refine ⟨⟨.ro full,x.block,x.off⟩,m,full.take (len * ks.length),false,.inr ⟨full,rfl,?_,hbk,fun j v hv => (hfull j v hv).2⟩,hl,hshort,fun l i hi => ⟨?_,?_⟩⟩
   ·intro v hv
    obtain ⟨j,hj⟩:=List.mem_iff_getElem?.1 hv
    obtain ⟨h1,h2⟩:=hfull j v hj
    obtain ⟨v',h3,h4⟩:=cellj j h1
    rw [h2] at h4;simp only [Option.some.injEq] at h4;subst h4
    exact Leaf.plain (h3 _ (List.getElem?_eq_getElem (Nat.mod_lt _ hk0)))
   ·refine .sl _ _ _ _ _ ?_ ⟨.inr ?_,hl,fun _ => rfl,fun z hz => by cases hz⟩
    ·simp only [memOf,List.length_map];exact (List.getElem?_eq_some_iff.1 hi).1
    ·obtain ⟨b,off,sp⟩:=x
     simp only at hsp;subst hsp
     simp [toR,rnOf,List.getD,hi]
   ·refine ⟨by simp [full];rw [Nat.min_eq_left hl],?_,fun _ => ⟨rfl,full,rfl,?_⟩⟩
    ·intro j k q hj hq
     have hk1:k < ks.length:=(List.getElem?_eq_some_iff.1 hq).1
     obtain ⟨v,h1,h2⟩:=cell j k (by omega) hk1
     have h3:j * ks.length + k < len * ks.length:=by
      have:=Nat.mul_le_mul_right ks.length (show j + 1 ≤ len by omega)
      rw [Nat.succ_mul] at this;omega
     have h4:(full.take (len * ks.length)).getD (j * ks.length + k) undef = v:=by
      rw [List.getD_eq_getElem?_getD,List.getElem?_take,if_pos h3]
      simp [full,show j * ks.length + k < m * ks.length by omega,h2]
     rw [h4];exact h1 q hq
    ·intro j hj
     rw [List.getD_eq_getElem?_getD,List.getElem?_take,if_pos hj]
     have:j < full.length:=by simp [full];omega
     rw [List.getElem?_eq_getElem this];simp
theorem slice_arg {H:Type} {enc:TypeId × Value → H} {P:Program} {W:World} {t e:TypeId} {f:Nat} {ks:List Leaf} {a:Option Addr} {len cap:Nat} {d:DataW H} {ps:List MemPlace} {ts:List TypeId} {ds:List (DataW H)} {j:Nat}
 (hsz:(DataW.weightsEach P ts ds).all (· ≤ reachBytes) = true) (ht:ts[j]? = some t) (hd:ds[j]? = some d) (hu:P.underlying t = some (.slice e)) (hk:flatB P f e ks = true) (hc:P.cellsOf e = ks.length) (hk0:0 < ks.length)
 (h:DataW.Trod enc P W 0 (fun _ => true) true t (.slice a len cap) d ps) :
 ∃ (A:Arg) (c:Nat) (cs:List Value),A.Ok W ∧ len ≤ c ∧ len * P.bytesOf e ≤ 140737488351232 ∧
  ∀ (l:List Arg) (i:Nat),l[i]? = some A → ∃ p,VR (rnOf l) (memOf l).length (.slice p len c) (.slice a len cap) ∧ Holds A.o i p len ks cs:=by
 obtain ⟨A,c,cs,nl,h1,h2,h3,h4⟩:=slice_arg2 (fun n hn => of_decide_eq_true (List.all_eq_true.1 hsz _ (DataW.weights_mem_each ht hd n hn))) hu hk hc hk0 h
 exact ⟨A,c,cs,h1,h2,h3,fun l i hi => ⟨_,h4 l i hi⟩⟩
def intAt:Value → Int
 | .int _ z => z
 | _ => 0
section
variable {o:MObj} {i:Nat} {p:Option Addr} {n:Nat} {ks:List Leaf} {cs:List Value} {m:Mem}
theorem Holds.ptr (h:Holds o i p n ks cs) {j:Nat} (hj:j < n):p = some ⟨i,0,none⟩:=(h.2.2 (by omega)).1
theorem Holds.cell (h:Holds o i p n ks cs) (hm:m[i]? = some o) {j q:Nat} (hj:j < n) {k:Leaf} (hq:ks[q]? = some k) :
 ∃ cs',(m.cells i) = some cs' ∧ cs'[j * ks.length + q]? = some (cs.getD (j * ks.length + q) undef):=by
 obtain ⟨_,cs',h1,h2⟩:=h.2.2 (by omega)
 have hq':q < ks.length:=(List.getElem?_eq_some_iff.1 hq).1
 refine ⟨cs',by simp [Mem.cells,hm,h1,MObj.cells],h2 _ ?_⟩
 have:=Nat.mul_le_mul_right ks.length (show j + 1 ≤ n by omega)
 rw [Nat.succ_mul] at this;omega
theorem Holds.int (h:Holds o i p n ks cs) {j q:Nat} (hj:j < n) {k:IntKind} (hq:ks[q]? = some (.int k)):(Lit.int k (intAt (cs.getD (j * ks.length + q) undef))).wf = true ∧ cs.getD (j * ks.length + q) undef = .int k (intAt (cs.getD (j * ks.length + q) undef)):=by
 obtain ⟨z,h1,h2⟩:=h.2.1 j q _ hj hq
 rw [h1];exact ⟨h2,rfl⟩
theorem Holds.ldInt (h:Holds o i p n ks cs) (hm:m[i]? = some o) {j q:Nat} (hj:j < n) {k:IntKind} (hq:ks[q]? = some (.int k)) {off:Nat} (ho:off = j * ks.length + q) :
 ldInt k m ⟨i,off,none⟩ = some (intAt (cs.getD (j * ks.length + q) undef)):=by
 subst ho
 obtain ⟨cs',h1,h2⟩:=h.cell hm hj hq
 have h3:=(h.int hj hq).2
 rw [h3] at h2
 simp only [Mx.ldInt,h1,Option.bind_some,cInt,h2,if_true]
theorem Holds.ldCells (h:Holds o i p n ks cs) (hm:m[i]? = some o) {j:Nat} (hj:j < n) (hk0:0 < ks.length) :
 ldCells m ⟨i,j * ks.length,none⟩ ks.length = some ((List.range ks.length).map fun q => cs.getD (j * ks.length + q) undef):=by
 obtain ⟨_,cs',h1,h2⟩:=h.2.2 (by omega)
 have hlt:∀ q,q < ks.length → j * ks.length + q < n * ks.length:=by
  intro q hq
  have:=Nat.mul_le_mul_right ks.length (show j + 1 ≤ n by omega)
  rw [Nat.succ_mul] at this;omega
 have h3:m.cells i = some cs':=by simp [Mem.cells,hm,h1,MObj.cells]
 have hlen:j * ks.length + ks.length ≤ cs'.length:=by
  have:=h2 _ (hlt (ks.length - 1) (by omega))
  have:=(List.getElem?_eq_some_iff.1 this).1
  omega
 simp only [Mx.ldCells,h3,Option.bind_some,cCells,if_pos hlen,Option.some.injEq]
 apply List.ext_getElem?
 intro q
 rw [List.getElem?_take]
 by_cases hq:q < ks.length
 ·rw [if_pos hq,List.getElem?_drop,h2 _ (hlt q hq)]
  simp [hq]
 ·rw [if_neg hq]
  simp [hq]
end
end Go.Mx
