/- The library over a clean memory: MxRow. -/
import Derived.Test.YtchonnaoojpdoaaMxTab
import Derived.Below
import Derived.SizedLaws
import Derived.ChangeSlices
import Derived.IntWalk
/- From a law's function to the walk that its row asks for. -/
set_option linter.unusedVariables false
set_option linter.unusedSimpArgs false
namespace Go.Mx
open Go.RowKit

theorem Evo.below {ρ : Rn} {m : Mem} {w : World} {ρ' : Rn} {m' : Mem} {w' : World} (h : Evo ρ m w ρ' m' w') (hm : ∀ (n : Nat) cs, m[n]? ≠ some (MObj.live cs)) : Below w.heap.size w w' :=
  ⟨h.os, h.tape, h.out, h.size, fun k hk => h.frame k hk fun n cs hn => absurd hn (hm n cs)⟩

theorem MRep.empty (ρ : Rn) (w : World) : MRep ρ [] w := ⟨by simp, by simp, fun n cs h => by rcases h with h | ⟨_, h, _⟩ <;> simp at h⟩

theorem law_walk {P : Program} {f : FuncId} {fn : Func} {vs : List Value} {m : Mem} {Post : Value → Mem → Prop} (h : CallP P f vs m Post) (hf1 : P.funcs[f]? = some fn) (hf2 : (fn.name == "runtime.NumGoroutine") = false) (hf3 : fn.body.isSome = true) (hp : ∀ v m', Post v m' → v = .bool true) {ρ : Rn} {w : World} (hm : MRep ρ m w) (hro : ∀ (n : Nat) cs, m[n]? ≠ some (MObj.live cs))
    {args : List Value} (hl : args.length = vs.length) (ha : ∀ (i : Nat) v, vs[i]? = some v → ∃ v', args[i]? = some v' ∧ VR ρ m.length v v') :
    Calls P f ⟨args⟩ w fun e w' => e = .returned (.bool true) ∧ Below w.heap.size w w' := by
  refine (h.calls hf1 hf2 hf3 hm hl ha).mono ?_
  rintro en w' ⟨v, m', v', ρ', rfl, h1, h2, h3, h4⟩
  rw [hp v m' h1] at h2
  rw [h2.bool_inv]
  exact ⟨rfl, h4.below hro⟩

/-- plain arguments alone -/
theorem law_walk_plain {P : Program} {f : FuncId} {fn : Func} {vs : List Value} {Post : Value → Mem → Prop} (h : CallP P f vs [] Post) (hf1 : P.funcs[f]? = some fn) (hf2 : (fn.name == "runtime.NumGoroutine") = false) (hf3 : fn.body.isSome = true) (hp : ∀ v m', Post v m' → v = .bool true) (hpl : vs.all plainV = true) (w : World) :
    Calls P f ⟨vs⟩ w fun e w' => e = .returned (.bool true) ∧ Below w.heap.size w w' := by
  refine law_walk h hf1 hf2 hf3 hp (MRep.empty ⟨fun _ => 0, fun _ => 0, fun _ => 0⟩ w) (by simp) rfl fun i v hi => ⟨v, hi, ?_⟩
  exact VR.plain (List.all_eq_true.1 hpl v (List.mem_of_getElem? hi))

theorem args_nil {ρ : Rn} {L : Nat} : ∀ (i : Nat) v, ([] : List Value)[i]? = some v → ∃ v', ([] : List Value)[i]? = some v' ∧ VR ρ L v v' := by
  intro i v h; simp at h
theorem args_cons {ρ : Rn} {L : Nat} {v v' : Value} {vs vs' : List Value} (h : VR ρ L v v') (t : ∀ (i : Nat) u, vs[i]? = some u → ∃ u', vs'[i]? = some u' ∧ VR ρ L u u') :
    ∀ (i : Nat) u, (v :: vs)[i]? = some u → ∃ u', (v' :: vs')[i]? = some u' ∧ VR ρ L u u' := by
  intro i u hi
  cases i with
  | zero => simp at hi; subst hi; exact ⟨v', rfl, h⟩
  | succ i => simpa using t i u (by simpa using hi)

/-- a slice of whole numbers in a memory that nothing writes -/
def HoldsI (k : IntKind) (o : MObj) (p : Option Addr) (n : Nat) (zs : List Int) : Prop :=
  zs.length = n ∧ (0 < n → ∃ cs, p = some ⟨0, 0, none⟩ ∧ o = .ro cs ∧ ∀ i, i < n → cs[i]? = some (.int k (zs.getD i 0)))

/-- what a row knows of such an argument -/
def IsInts (k : IntKind) (w : World) (a : Option Addr) (len cap : Nat) (zs : List Int) : Prop :=
  (a = none ∧ len = 0 ∧ cap = 0 ∧ zs = []) ∨
  ∃ x, a = some x ∧ len ≤ cap ∧ zs.length = cap ∧ (∀ i, i < zs.length → w.cell? (x.add i) = some (.int k (zs.getD i 0))) ∧ ∀ n ∈ zs, (Lit.int k n).wf = true

theorem row_ints {k : IntKind} {w : World} {a : Option Addr} {len cap : Nat} {zs : List Int} (h : IsInts k w a len cap zs) :
    ∃ (ρ : Rn) (o : MObj) (p : Option Addr) (c : Nat), MRep ρ [o] w ∧ (∀ (n : Nat) cs, ([o] : Mem)[n]? ≠ some (MObj.live cs)) ∧ VR ρ ([o] : Mem).length (.slice p len c) (.slice a len cap) ∧ HoldsI k o p len (zs.take len) ∧ len ≤ c ∧
      ∀ z ∈ zs.take len, (Lit.int k z).wf = true := by
  rcases h with ⟨rfl, rfl, rfl, rfl⟩ | ⟨x, rfl, hl, hz, hc, hw⟩
  · refine ⟨⟨fun _ => 0, fun _ => 0, fun _ => 0⟩, .dead, none, 0, ⟨?_, ?_, ?_⟩, ?_, .sl0, ⟨by simp, by simp⟩, Nat.le_refl _, by simp⟩
    · intro n cs hn; cases n <;> simp at hn
    · intro n n' cs cs' hn; cases n <;> simp at hn
    · intro n cs hn; rcases hn with hn | ⟨_, hn, _⟩ <;> cases n <;> simp at hn
    · intro n cs hn; cases n <;> simp at hn
  · rcases Nat.eq_zero_or_pos cap with h0 | h0
    · subst h0
      have h1 : len = 0 := by omega
      subst h1
      refine ⟨⟨fun _ => 0, fun _ => 0, fun _ => 0⟩, .dead, some ⟨0, 0, none⟩, 0, ⟨?_, ?_, ?_⟩, ?_, .sl _ _ _ _ _ (by simp) ⟨.inl rfl, Nat.le_refl _, fun _ => rfl, fun z hz => by cases hz⟩, ⟨by simp, by simp⟩, Nat.le_refl _, by simp⟩
      · intro n cs hn; cases n <;> simp at hn
      · intro n n' cs cs' hn; cases n <;> simp at hn
      · intro n cs hn; rcases hn with hn | ⟨_, hn, _⟩ <;> cases n <;> simp at hn
      · intro n cs hn; cases n <;> simp at hn
    · have hx := hc 0 (by omega)
      simp only [Addr.add, if_true] at hx
      obtain ⟨b, off, spot⟩ := x
      have hsp : spot = none := by
        cases spot with
        | none => rfl
        | some z => unfold World.cell? at hx; split at hx <;> simp at hx
      subst hsp
      have hb : b < w.heap.size := by
        apply Classical.byContradiction
        intro hno
        unfold World.cell? at hx
        simp [Array.getElem?_eq_none (Nat.le_of_not_lt hno)] at hx
      refine ⟨⟨fun _ => b, fun _ => 0, fun _ => off⟩, .ro (zs.map (Value.int k)), some ⟨0, 0, none⟩, cap, ⟨?_, ?_, ?_⟩, ?_, .sl _ _ _ _ _ (by simp) ⟨.inr rfl, hl, fun _ => rfl, fun z hz => by cases hz⟩, ⟨by simp; omega, ?_⟩, hl, fun z hz => hw z (List.mem_of_mem_take hz)⟩
      · intro n cs hn; cases n <;> simp at hn
      · intro n n' cs cs' hn; cases n <;> simp at hn
      · intro n cs hn0
        have hn : ([.ro (zs.map (Value.int k))] : Mem)[n]? = some (.ro cs) := by
          rcases hn0 with hn | ⟨_, hn, _⟩
          · exact hn
          · cases n <;> simp at hn
        cases n with
        | succ n => simp at hn
        | zero =>
          simp only [List.getElem?_cons_zero, Option.some.injEq, MObj.ro.injEq] at hn
          subst hn
          refine ⟨hb, ?_, zs.map (Value.int k), ⟨rfl, ?_, ?_⟩, ?_⟩
          · intro n' cs' hn'; cases n' <;> simp at hn'
          · intro v hv; obtain ⟨z, _, rfl⟩ := List.mem_map.1 hv; rfl
          · intro i v hv
            refine ⟨v, hv, ?_⟩
            obtain ⟨z, _, rfl⟩ := List.mem_map.1 (List.mem_of_getElem? hv)
            exact .int k z
          · intro j v hv
            rw [List.getElem?_map] at hv
            obtain ⟨z, hz1, rfl⟩ := Option.map_eq_some_iff.1 hv
            have hj : j < zs.length := (List.getElem?_eq_some_iff.1 hz1).1
            have h2 := hc j hj
            have h3 : (⟨b, off, none⟩ : Addr).add j = ⟨b, off + j, none⟩ := by
              unfold Addr.add
              split
              · rename_i h4; rw [h4]; rfl
              · rfl
            rw [h3] at h2
            rw [h2]; simp [List.getD, hz1]
      · intro n cs hn; cases n <;> simp at hn
      · intro hn
        refine ⟨_, rfl, rfl, fun i hi => ?_⟩
        have hi2 : i < zs.length := by omega
        rw [List.getElem?_map, List.getElem?_eq_getElem hi2]
        simp [List.getD, List.getElem?_take, hi, hi2]

/-- such an argument is no longer than its weight allows -/
theorem ints_short {H : Type} {enc : TypeId × Value → H} {P : Program} {W : World} {t e : TypeId} {k : IntKind} {a : Option Addr} {len cap : Nat} {d : DataW H} {ps : List MemPlace} {ts : List TypeId} {ds : List (DataW H)} {j : Nat}
    (hsz : (DataW.weightsEach P ts ds).all (· ≤ reachBytes) = true) (ht : ts[j]? = some t) (hd : ds[j]? = some d) (hu : P.underlying t = some (.slice e)) (he : P.underlying e = some (.int k)) (hc : P.cellsOf e = 1)
    (h : DataW.Trod enc P W 0 (fun _ => true) true t (.slice a len cap) d ps) : (∃ zs, IsInts k W a len cap zs) ∧ len * P.bytesOf e ≤ 140737488351232 := by
  obtain ⟨fuel, hf⟩ := h
  rcases ChangeShapes.open_ints hu he hc hf with ⟨hcs, _⟩ | ⟨x, l, c, zs, hcs, _, hl, hm, hz, hx, hcell, hwz⟩
  · simp [Value.cells] at hcs
    obtain ⟨rfl, rfl, rfl⟩ := hcs
    exact ⟨⟨[], .inl ⟨rfl, rfl, rfl, rfl⟩⟩, by simp⟩
  · simp [Value.cells] at hcs
    obtain ⟨rfl, rfl, rfl⟩ := hcs
    simp only [if_true] at hz
    refine ⟨⟨zs, .inr ⟨x, rfl, hl, hz, hcell, hwz⟩⟩, ?_⟩
    obtain ⟨hx, _⟩ := Prod.mk.inj hx
    subst hx
    refine Nat.le_trans (Nat.mul_le_mul_right _ ?_) (sized_slice hsz ht hd hu)
    simp [ChangeShapes.lits]; omega

theorem HoldsI.ld {k : IntKind} {o : MObj} {p : Option Addr} {n : Nat} {zs : List Int} (h : HoldsI k o p n zs) {i : Nat} (hi : i < n) (g : Mem) : ∃ a, p = some a ∧ ldInt k (o :: g) (plus a (i * 1)) = some (zs.getD i 0) := by
  obtain ⟨h1, h2⟩ := h
  obtain ⟨cs, rfl, rfl, h3⟩ := h2 (by omega)
  refine ⟨_, rfl, ?_⟩
  have := h3 i hi
  simp [ldInt, plus, Mem.cells, cInt, this, MObj.cells]

theorem wrap_small {x : Int} (h1 : -9223372036854775808 ≤ x) (h2 : x < 9223372036854775808) : IntKind.wrap .i64 x = x := by
  rw [IntKind.wrap_i64]; omega
theorem wf_i64 {x : Int} (h : (Lit.int .i64 x).wf = true) : -9223372036854775808 ≤ x ∧ x < 9223372036854775808 := by
  simp only [Lit.wf, Bool.and_eq_true, decide_eq_true_eq] at h
  have h1 : (IntKind.min .i64) = -9223372036854775808 := by decide
  have h2 : (IntKind.max .i64) = 9223372036854775807 := by decide
  omega
end Go.Mx
