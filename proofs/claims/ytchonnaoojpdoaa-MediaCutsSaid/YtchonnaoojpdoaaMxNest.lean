/- The library over a clean memory: MxNest. -/
import Derived.Test.YtchonnaoojpdoaaMxArgs
/- A law's argument that is a row of structs with slices in them: an object for the row, one more for each inner slice. -/
set_option linter.unusedVariables false
set_option linter.unusedSimpArgs false
namespace Go.Mx
open Go.RowKit

inductive NLeaf where
  | flat (k : Leaf) | sl (ks : List Leaf)

def nestB (P : Program) : Nat → TypeId → List NLeaf → Bool
  | 0, _, _ => false
  | f + 1, t, ls => match P.underlying t with
    | some .bool => match ls with | [.flat .bool] => true | _ => false
    | some (.int k) => match ls with | [.flat (.int k')] => decide (k' = k) | _ => false
    | some .string => match ls with | [.flat .str] => true | _ => false
    | some (.slice e) => match ls with | [.sl ks] => flatB P 8 e ks && Nat.beq (P.cellsOf e) ks.length && Nat.ble 1 ks.length && Nat.ble 1 (P.bytesOf e) | _ => false
    | some (.struct fs) => Nat.beq ls.length (P.cellsOf t) && (List.range ls.length).all fun i => fs.toList.any fun g => Nat.ble g.offset i && Nat.blt i (g.offset + P.cellsOf g.type) && nestB P f g.type ((ls.drop g.offset).take (P.cellsOf g.type))
    | _ => false

/-- what is known of a cell -/
def NCell {H : Type} (enc : TypeId × Value → H) (P : Program) (W : World) (ws : List Nat) : NLeaf → Value → Prop
  | .flat k, v => k.Ok v
  | .sl ks, v => ∃ t e a len cap d ps, v = .slice a len cap ∧ P.underlying t = some (.slice e) ∧ flatB P 8 e ks = true ∧ P.cellsOf e = ks.length ∧ 0 < ks.length ∧ 0 < P.bytesOf e ∧ DataW.Trod enc P W 0 (fun _ => true) true t (.slice a len cap) d ps ∧ ∀ n ∈ d.weights P t, n ∈ ws

section
variable {H : Type} {enc : TypeId × Value → H} {P : Program} {w : World}

theorem NCell.mono {ws ws' : List Nat} {L : NLeaf} {v : Value} (h : NCell enc P w ws L v) (hs : ∀ n ∈ ws, n ∈ ws') : NCell enc P w ws' L v := by
  cases L with
  | flat k => exact h
  | sl ks =>
    obtain ⟨t, e, a, len, cap, d, ps, h1, h2, h3, h4, h5, hby, h6, h7⟩ := h
    exact ⟨t, e, a, len, cap, d, ps, h1, h2, h3, h4, h5, hby, h6, fun n hn => hs n (h7 n hn)⟩

theorem nest_open : ∀ (f : Nat) {t : TypeId} {ls : List NLeaf} {fuel : Nat} {cs : List Value} {x : DataW H × List MemPlace}, nestB P f t ls = true → DataW.trod enc P w 0 (fun _ => true) true fuel t cs = some x →
    cs.length = ls.length ∧ ∀ (i : Nat) (L : NLeaf), ls[i]? = some L → ∃ v, cs[i]? = some v ∧ NCell enc P w (x.1.weights P t) L v
  | 0, t, ls, fuel, cs, x, hb, h => by simp [nestB] at hb
  | f + 1, t, ls, fuel, cs, x, hb, h => by
    have one : ∀ k : Leaf, flatB P 1 t [k] = true → ls = [.flat k] → cs.length = ls.length ∧ ∀ (i : Nat) (L : NLeaf), ls[i]? = some L → ∃ v, cs[i]? = some v ∧ NCell enc P w (x.1.weights P t) L v := by
      rintro k hk rfl
      obtain ⟨h1, h2⟩ := flat_open 1 hk h
      refine ⟨h1, fun i L hi => ?_⟩
      cases i with
      | succ i => simp at hi
      | zero =>
        simp at hi; subst hi
        exact h2 0 k rfl
    unfold nestB at hb
    split at hb
    · rename_i hu
      split at hb
      · exact one .bool (by simp [flatB, hu]) rfl
      · cases hb
    · rename_i k0 hu
      split at hb
      · rename_i k'
        have e : k' = k0 := of_decide_eq_true hb
        subst e
        exact one (.int k') (by simp [flatB, hu]) rfl
      · cases hb
    · rename_i hu
      split at hb
      · exact one .str (by simp [flatB, hu]) rfl
      · cases hb
    · rename_i e hu
      split at hb
      · rename_i ks
        simp only [Bool.and_eq_true] at hb
        obtain ⟨⟨⟨b1, b2⟩, b3⟩, b4⟩ := hb
        have b2' := Nat.eq_of_beq_eq_true b2
        have b3' : 0 < ks.length := Nat.le_of_ble_eq_true b3
        have b4' : 0 < P.bytesOf e := Nat.le_of_ble_eq_true b4
        have key : ∀ a len cap, cs = [.slice a len cap] → cs.length = [NLeaf.sl ks].length ∧ ∀ (i : Nat) (L : NLeaf), [NLeaf.sl ks][i]? = some L → ∃ v, cs[i]? = some v ∧ NCell enc P w (x.1.weights P t) L v := by
          rintro a len cap rfl
          refine ⟨rfl, fun i L hi => ?_⟩
          cases i with
          | succ i => simp at hi
          | zero =>
            simp at hi; subst hi
            exact ⟨_, rfl, t, e, a, len, cap, x.1, x.2, rfl, hu, b1, b2', b3', b4', ⟨fuel, h⟩, fun n hn => hn⟩
        rcases Deep.open_slice hu h with ⟨hcs, _⟩ | ⟨x', l, c, m, n, D, Pl, hcs, _⟩
        · exact key _ _ _ hcs
        · exact key _ _ _ hcs
      · cases hb
    · rename_i fs hu
      simp only [Bool.and_eq_true, List.all_eq_true, List.any_eq_true, List.mem_range] at hb
      obtain ⟨hl, hall⟩ := hb
      obtain ⟨xs, n, _, rfl, hlen, hxs, hf⟩ := DataW.trod_struct hu h
      have hl' : ls.length = P.cellsOf t := Nat.eq_of_beq_eq_true hl
      refine ⟨by rw [hlen, hl'], fun i L hi => ?_⟩
      have hik : i < ls.length := (List.getElem?_eq_some_iff.1 hi).1
      obtain ⟨g, hg, ⟨h1, h2⟩, h4⟩ := hall i hik
      obtain ⟨j, hj⟩ := List.mem_iff_getElem?.1 hg
      have h1' : g.offset ≤ i := Nat.le_of_ble_eq_true h1
      have h2' : i < g.offset + P.cellsOf g.type := by have := h2; simp [Nat.blt] at this; omega
      have hj' : fs[j]? = some g := by rw [← Array.getElem?_toList]; exact hj
      have hjl : j < xs.length := by rw [hxs]; exact (Array.getElem?_eq_some_iff.1 hj').1
      have h5 := hf j g hj'
      rw [List.getElem?_eq_getElem hjl] at h5
      obtain ⟨h6, h7⟩ := nest_open f h4 h5
      obtain ⟨v, h8, h9⟩ := h7 (i - g.offset) L (by rw [get_sub h1' h2']; exact hi)
      refine ⟨v, by rw [get_sub h1' h2'] at h8; exact h8, h9.mono fun n hn => ?_⟩
      simp only [DataW.weights, hu]
      refine DataW.weights_mem_each (j := j) (t := g.type) (d := xs[j].1) ?_ ?_ n hn
      · rw [List.getElem?_map, hj]; rfl
      · rw [List.getElem?_map, List.getElem?_eq_getElem hjl]; rfl
    · cases hb
end

/-- arguments that may lead to one another -/
def ArgsOk (w : World) (l : List Arg) : Prop := ∀ a ∈ l, a.o = .dead ∨ ∃ cs cs', a.o = .ro cs ∧ VRs (rnOf l) l.length cs cs' ∧ a.blk < w.heap.size ∧ ∀ (j : Nat) v, cs'[j]? = some v → w.cell? ⟨a.blk, a.sh + j, none⟩ = some v
theorem memOf_len {l : List Arg} : (memOf l).length = l.length := by simp [memOf]
theorem argsOk_still {l : List Arg} {w : World} (h : ArgsOk w l) : ∀ (n : Nat) cs, (memOf l)[n]? ≠ some (MObj.live cs) := by
  intro n cs hn
  obtain ⟨a, h1, h2, _⟩ := memOf_get hn
  rcases h a (List.mem_of_getElem? h1) with h3 | ⟨cs', _, h3, _⟩ <;> rw [h3] at h2 <;> cases h2
theorem argsOk_rep {l : List Arg} {w : World} (h : ArgsOk w l) : MRep (rnOf l) (memOf l) w := by
  refine ⟨fun n cs hn => absurd hn (argsOk_still h n cs), fun n n' cs cs' hn => absurd hn (argsOk_still h n cs), fun n cs hn0 => ?_⟩
  have hn : (memOf l)[n]? = some (.ro cs) := by
    rcases hn0 with hn | ⟨q, hn, _⟩
    · exact hn
    · obtain ⟨a, h1, h2, h3⟩ := memOf_get hn
      rcases h a (List.mem_of_getElem? h1) with h4 | h4
      · rw [h4] at h2; cases h2
      · obtain ⟨_, h4⟩ := h4; first | (rw [h4.1] at h2; cases h2) | (obtain ⟨_, h4⟩ := h4; rw [h4.1] at h2; cases h2)
  obtain ⟨a, h1, h2, h3⟩ := memOf_get hn
  rcases h a (List.mem_of_getElem? h1) with h4 | ⟨cs0, cs', h4, h5, h6, h7⟩
  · rw [h4] at h2; cases h2
  · rw [h4] at h2
    simp only [MObj.ro.injEq] at h2
    subst h2
    simp only [rnOf, h3]
    exact ⟨h6, fun n' cs'' hn' => absurd hn' (argsOk_still h n' cs''), cs', by rw [memOf_len]; exact h5, h7⟩
theorem Arg.Ok.args {w : World} {a : Arg} (h : a.Ok w) (l : List Arg) : a.o = .dead ∨ ∃ cs cs', a.o = .ro cs ∧ VRs (rnOf l) l.length cs cs' ∧ a.blk < w.heap.size ∧ ∀ (j : Nat) v, cs'[j]? = some v → w.cell? ⟨a.blk, a.sh + j, none⟩ = some v := by
  rcases h with h | ⟨cs, h1, h2, h3, h4⟩
  · exact .inl h
  · exact .inr ⟨cs, cs, h1, .plain fun v hv => (h2 v hv).1, h3, h4⟩

/-- a cell of the clean row: q in a memory m -/
def NOk (m : Mem) : NLeaf → Value → Prop
  | .flat k, v => k.Ok v
  | .sl ks, v => ∃ p len c cs, v = .slice p len c ∧ len ≤ c ∧ len ≤ 140737488351232 ∧ (len = 0 ∨ ∃ i, p = some ⟨i, 0, none⟩) ∧ rdSl m p len ks.length = some cs ∧ cs.length = len * ks.length ∧ ∀ (j k : Nat) q, j < len → ks[k]? = some q → q.Ok (cs.getD (j * ks.length + k) undef)

/-- what a law knows of such an argument: its row lies in object 0 -/
def NHolds (m : Mem) (p : Option Addr) (n : Nat) (ls : List NLeaf) : Prop :=
  (0 < n → p = some ⟨0, 0, none⟩) ∧ ∀ i, i < n → ∃ vs, ldCells m ⟨0, i * ls.length, none⟩ ls.length = some vs ∧ vs.length = ls.length ∧ ∀ (q : Nat) L, ls[q]? = some L → ∃ v, vs[q]? = some v ∧ NOk m L v

theorem rdSl_ld' {m : Mem} {b : Addr} {n z : Nat} {old : List Value} (h : Mx.ldCells m b (n * z) = some old) : rdSl m (some b) n z = some old := by
  unfold rdSl
  by_cases h0 : n * z = 0
  · simp only [if_pos h0]
    rw [h0] at h
    simp only [Mx.ldCells, Option.bind_eq_some_iff] at h
    obtain ⟨cs, _, h⟩ := h
    unfold cCells at h
    split at h
    · simpa using h
    · simp at h
  · simp only [if_neg h0]; exact h
theorem Holds.rd {m : Mem} {o : MObj} {i : Nat} {p : Option Addr} {n : Nat} {ks : List Leaf} {cs : List Value} (h : Holds o i p n ks cs) (hm : m[i]? = some o) : rdSl m p n ks.length = some cs := by
  rcases Nat.eq_zero_or_pos (n * ks.length) with h0 | h0
  · have : cs = [] := List.eq_nil_of_length_eq_zero (by rw [h.1, h0])
    subst this
    cases p with
    | none =>
      simp only [rdSl]
      split
      · rfl
      · rename_i hn
        have := (h.2.2 (by omega)).1
        cases this
    | some a => simp only [rdSl, if_pos h0]
  · obtain ⟨hp, cs', h1, h2⟩ := h.2.2 (Nat.pos_of_mul_pos_right h0)
    subst hp
    apply rdSl_ld'
    have h3 : m.cells i = some cs' := by simp [Mem.cells, hm, h1, MObj.cells]
    have hlen : n * ks.length ≤ cs'.length := by
      have := h2 (n * ks.length - 1) (by omega)
      have := (List.getElem?_eq_some_iff.1 this).1
      omega
    simp only [Mx.ldCells, h3, Option.bind_some, cCells, Nat.zero_add, if_pos hlen, List.drop_zero, Option.some.injEq]
    apply List.ext_getElem?
    intro j
    rw [List.getElem?_take]
    by_cases hj : j < n * ks.length
    · rw [if_pos hj, h2 j hj, List.getD_eq_getElem?_getD, List.getElem?_eq_getElem (by rw [h.1]; exact hj)]; rfl
    · rw [if_neg hj, List.getElem?_eq_none (by rw [h.1]; omega)]

theorem nest_cell {H : Type} {enc : TypeId × Value → H} {P : Program} {W : World} {ws : List Nat} {L : NLeaf} {v : Value} (hw : ∀ n ∈ ws, n ≤ reachBytes) (h : NCell enc P W ws L v) :
    ∃ (A : Arg) (u : Nat → Value), A.Ok W ∧ (∀ i, isOne (u i) = true) ∧ ∀ (l : List Arg) (i : Nat), l[i]? = some A → VR (rnOf l) l.length (u i) v ∧ NOk (memOf l) L (u i) := by
  cases L with
  | flat k =>
    have := Leaf.plain h
    exact ⟨noArg, fun _ => v, .inl rfl, fun _ => this.2, fun l i hi => ⟨VR.plain this.1, h⟩⟩
  | sl ks =>
    obtain ⟨t, e, a, len, cap, d, ps, rfl, h2, h3, h4, h5, hby, h6, h7⟩ := h
    obtain ⟨A, c, cs, nl, g1, g2, g3, g4⟩ := slice_arg2 (fun n hn => hw n (h7 n hn)) h2 h3 h4 h5 h6
    refine ⟨A, fun i => .slice (ptrIf nl i) len c, g1, fun _ => rfl, fun l i hi => ?_⟩
    obtain ⟨k1, k2⟩ := g4 l i hi
    rw [memOf_len] at k1
    refine ⟨k1, _, len, c, cs, rfl, g2, ?_, ?_, k2.rd ?_, k2.1, k2.2.1⟩
    · have := Nat.le_mul_of_pos_right len hby
      omega
    · rcases Nat.eq_zero_or_pos len with h0 | h0
      · exact .inl h0
      · exact .inr ⟨i, (k2.2.2 h0).1⟩
    · unfold memOf
      rw [List.getElem?_map, hi]; rfl

theorem nest_arg {H : Type} {enc : TypeId × Value → H} {P : Program} {W : World} {t e : TypeId} {f : Nat} {ls : List NLeaf} {a : Option Addr} {len cap : Nat} {d : DataW H} {ps : List MemPlace} {ts : List TypeId} {ds : List (DataW H)} {j : Nat}
    (hsz : (DataW.weightsEach P ts ds).all (· ≤ reachBytes) = true) (ht : ts[j]? = some t) (hd : ds[j]? = some d) (hu : P.underlying t = some (.slice e)) (hk : nestB P f e ls = true) (hc : P.cellsOf e = ls.length) (hk0 : 0 < ls.length)
    (h : DataW.Trod enc P W 0 (fun _ => true) true t (.slice a len cap) d ps) :
    ∃ (l : List Arg) (p : Option Addr) (c : Nat), ArgsOk W l ∧ len ≤ c ∧ len * P.bytesOf e ≤ 140737488351232 ∧ VR (rnOf l) (memOf l).length (.slice p len c) (.slice a len cap) ∧ NHolds (memOf l) p len ls := by
  have hw : ∀ n ∈ d.weights P t, n ≤ reachBytes := fun n hn => of_decide_eq_true (List.all_eq_true.1 hsz _ (DataW.weights_mem_each ht hd n hn))
  have hno : ArgsOk W [noArg] := fun a ha => by
    simp only [List.mem_cons, List.not_mem_nil, or_false] at ha
    subst ha; exact .inl rfl
  obtain ⟨fuel, hf⟩ := h
  rcases Deep.open_slice hu hf with ⟨hcs, _⟩ | ⟨x, l, c, m, n, D, Pl, hcs, _, hl, hm, hmm, hx, hel⟩
  · simp [Value.cells] at hcs
    obtain ⟨rfl, rfl, rfl⟩ := hcs
    exact ⟨[noArg], none, 0, hno, Nat.le_refl _, by simp, .sl0, fun h => by omega, fun i hi => by omega⟩
  · simp [Value.cells] at hcs
    obtain ⟨rfl, rfl, rfl⟩ := hcs
    simp only [if_true] at hmm
    subst hmm
    obtain ⟨hx, _⟩ := Prod.mk.inj hx
    have hshort : len * P.bytesOf e ≤ 140737488351232 := by
      subst hx
      refine Nat.le_trans (Nat.mul_le_mul_right _ ?_) (hw _ (show (((List.range len).map D).length + ((List.range (m - len)).map fun j => D (len + j)).length) * P.bytesOf e ∈ _ by simp [DataW.weights, hu]))
      simp
    have hD : ∀ i, i < len → ∀ n ∈ (D i).weights P e, n ≤ reachBytes := by
      intro i hi n hn
      apply hw
      subst hx
      simp only [DataW.weights, hu, List.mem_cons, List.mem_append]
      refine .inr (.inl ?_)
      have : ∀ (l : List (DataW H)), D i ∈ l → n ∈ DataW.weightsAll P e l := by
        intro l
        induction l with
        | nil => intro h; cases h
        | cons y l ih =>
          intro h
          simp only [DataW.weightsAll, List.mem_append]
          rcases List.mem_cons.1 h with h | h
          · subst h; exact .inl hn
          · exact .inr (ih h)
      exact this _ (List.mem_map.2 ⟨i, List.mem_range.2 hi, rfl⟩)
    rcases Nat.eq_zero_or_pos m with h0 | h0
    · subst h0
      have h1 : len = 0 := by omega
      subst h1
      exact ⟨[noArg], some ⟨0, 0, none⟩, 0, hno, Nat.le_refl _, hshort, .sl _ _ _ _ _ (by simp [memOf]) ⟨.inl rfl, Nat.le_refl _, fun _ => rfl, fun z hz => by cases hz⟩, fun h => by omega, fun i hi => by omega⟩
    · rw [hc] at hel
      have hx0 : W.cell? x ≠ none := by
        obtain ⟨cs', h1, h2⟩ := hel 0 h0
        obtain ⟨_, h3, h4⟩ := World.cells?_some h1
        have h5 := h4 0 hk0
        simp only [Nat.zero_mul, Addr.add, if_true] at h5
        rw [h5, List.getElem?_eq_getElem (by omega)]; simp
      have hsp : x.spot = none := by
        cases hs : x.spot with
        | none => rfl
        | some z => exfalso; apply hx0; unfold World.cell?; split <;> simp [hs]
      have hbk : x.block < W.heap.size := by
        apply Classical.byContradiction
        intro hno
        apply hx0; unfold World.cell?; simp [Array.getElem?_eq_none (Nat.le_of_not_lt hno)]
      have cell : ∀ j, j < len * ls.length → ∃ v, ∃ (A : Arg) (u : Nat → Value), W.cell? ⟨x.block, x.off + j, none⟩ = some v ∧ A.Ok W ∧ (∀ i, isOne (u i) = true) ∧ ∀ (l : List Arg) (i : Nat), l[i]? = some A → VR (rnOf l) l.length (u i) v ∧ ∀ L, ls[j % ls.length]? = some L → NOk (memOf l) L (u i) := by
        intro j hj
        have hq : j % ls.length < ls.length := Nat.mod_lt _ hk0
        have hi : j / ls.length < len := Nat.div_lt_of_lt_mul (by rw [Nat.mul_comm]; exact hj)
        obtain ⟨cs', h1, h2⟩ := hel (j / ls.length) (by omega)
        obtain ⟨_, h3, h4⟩ := World.cells?_some h1
        obtain ⟨h5, h6⟩ := nest_open f hk h2
        obtain ⟨v, h7, h8⟩ := h6 _ _ (List.getElem?_eq_getElem hq)
        obtain ⟨A, u, g1, g2, g3⟩ := nest_cell (hD _ hi) h8
        refine ⟨v, A, u, ?_, g1, g2, fun l i hi => ⟨(g3 l i hi).1, fun L hL => ?_⟩⟩
        · have h9 := h4 _ hq
          rw [plain_add hsp, plain_add rfl, h7] at h9
          rw [show j = j / ls.length * ls.length + j % ls.length by rw [Nat.mul_comm]; exact (Nat.div_add_mod _ _).symm, ← Nat.add_assoc]
          simpa [Nat.mul_add_mod_of_lt hq] using h9
        · rw [List.getElem?_eq_getElem hq] at hL
          simp only [Option.some.injEq] at hL
          subst hL; exact (g3 l i hi).2
      let VV : Nat → Value := fun j => if hj : j < len * ls.length then Classical.choose (cell j hj) else undef
      let AA : Nat → Arg := fun j => if hj : j < len * ls.length then Classical.choose (Classical.choose_spec (cell j hj)) else noArg
      let UU : Nat → Nat → Value := fun j => if hj : j < len * ls.length then Classical.choose (Classical.choose_spec (Classical.choose_spec (cell j hj))) else fun _ => undef
      have spec : ∀ j, j < len * ls.length → W.cell? ⟨x.block, x.off + j, none⟩ = some (VV j) ∧ (AA j).Ok W ∧ (∀ i, isOne (UU j i) = true) ∧ ∀ (l : List Arg) (i : Nat), l[i]? = some (AA j) → VR (rnOf l) l.length (UU j i) (VV j) ∧ ∀ L, ls[j % ls.length]? = some L → NOk (memOf l) L (UU j i) := by
        intro j hj
        have := Classical.choose_spec (Classical.choose_spec (Classical.choose_spec (cell j hj)))
        simp only [VV, AA, UU, dif_pos hj]
        exact this
      clear_value VV AA UU
      generalize hN : len * ls.length = N at *
      let top : List Value := (List.range N).map fun j => UU j (j + 1)
      let l : List Arg := ⟨.ro top, x.block, x.off⟩ :: (List.range N).map AA
      have hl1 : ∀ j, j < N → l[j + 1]? = some (AA j) := fun j hj => by simp [l, hj]
      have hl0 : l[0]? = some ⟨.ro top, x.block, x.off⟩ := rfl
      have htop : top.length = N := by simp [top]
      have hget : ∀ j, j < N → top[j]? = some (UU j (j + 1)) := fun j hj => by simp [top, hj]
      refine ⟨l, some ⟨0, 0, none⟩, m, ?_, hl, hshort, ?_, fun _ => rfl, ?_⟩
      · intro b hb
        rcases List.mem_cons.1 hb with rfl | hb
        · refine .inr ⟨top, (List.range N).map VV, rfl, ⟨by simp [top], fun v hv => ?_, fun i v hi => ?_⟩, hbk, fun j v hv => ?_⟩
          · obtain ⟨j, hj, rfl⟩ := List.mem_map.1 hv
            exact (spec j (List.mem_range.1 hj)).2.2.1 _
          · have hiN : i < N := by rw [← htop]; exact (List.getElem?_eq_some_iff.1 hi).1
            rw [hget i hiN] at hi
            simp only [Option.some.injEq] at hi
            subst hi
            exact ⟨VV i, by simp [hiN], ((spec i hiN).2.2.2 l (i + 1) (hl1 i hiN)).1⟩
          · have hjN : j < N := by simpa using (List.getElem?_eq_some_iff.1 hv).1
            have : ((List.range N).map VV)[j]? = some (VV j) := by simp [hjN]
            rw [this] at hv; simp only [Option.some.injEq] at hv; subst hv
            exact (spec j hjN).1
        · obtain ⟨j, hj, rfl⟩ := List.mem_map.1 hb
          exact (spec j (List.mem_range.1 hj)).2.1.args l
      · refine .sl _ _ _ _ _ (by simp [memOf, l]) ⟨.inr ?_, hl, fun _ => rfl, fun z hz => by cases hz⟩
        obtain ⟨b, off, sp⟩ := x
        simp only at hsp; subst hsp
        simp [toR, rnOf, List.getD, hl0]
      · intro i hi
        have hlt : i * ls.length + ls.length ≤ N := by
          rw [← hN, ← Nat.succ_mul]
          exact Nat.mul_le_mul_right _ hi
        have hm0 : (memOf l).cells 0 = some top := by simp [Mem.cells, memOf, l, MObj.cells]
        refine ⟨(top.drop (i * ls.length)).take ls.length, ?_, by rw [List.length_take, List.length_drop, htop]; omega, fun q L hL => ?_⟩
        · simp only [Mx.ldCells, hm0, Option.bind_some, cCells, htop, if_pos hlt]
        · have hq : q < ls.length := (List.getElem?_eq_some_iff.1 hL).1
          refine ⟨UU (i * ls.length + q) (i * ls.length + q + 1), ?_, ?_⟩
          · rw [List.getElem?_take, if_pos hq, List.getElem?_drop, hget _ (by omega)]
          · refine ((spec _ (by omega)).2.2.2 l _ (hl1 _ (by omega))).2 L ?_
            rw [Nat.mul_add_mod_of_lt hq]; exact hL
end Go.Mx
