/- Lists that came out, each its owner's: the document's test of them, whoever made them. -/
import Derived.Test.YtlbbcgjfkpnilaaApart
set_option linter.unusedVariables false
set_option linter.unusedSectionVars false
set_option linter.unusedSimpArgs false
namespace Go.Proofs.Ytlbbcgjfkpnilaa
open Go.Mx

/-! ## rows that were appended onto -/
/-- what came of a row, append by append -/
def Chn (m : Mem) : List Value → Nat → Nat → Nat → Prop
  | cs, 0, q, e => q = e ∧ ∃ cs', m[q]? = some (.live cs') ∧ preB cs cs' = true
  | cs, n + 1, q, e => ∃ cs' q', m[q]? = some (.old cs' q') ∧ preB cs cs' = true ∧ q < q' ∧ Chn m cs' n q' e
theorem Chn.le {m : Mem} : ∀ {cs : List Value} {n q e : Nat}, Chn m cs n q e → q + n ≤ e
  | _, 0, q, e, h => by have := h.1; omega
  | _, n + 1, q, e, ⟨_, q', _, _, h1, h2⟩ => by have := h2.le; omega
theorem Chn.keep {m m' : Mem} : ∀ {cs : List Value} {n q e : Nat}, Chn m cs n q e → (∀ p, q ≤ p → p ≤ e → m'[p]? = m[p]?) → Chn m' cs n q e
  | _, 0, q, e, ⟨h1, cs', h2, h3⟩, hk => ⟨h1, cs', by rw [hk q (Nat.le_refl _) (by omega)]; exact h2, h3⟩
  | _, n + 1, q, e, ⟨cs', q', h1, h2, h3, h4⟩, hk => ⟨cs', q', by rw [hk q (Nat.le_refl _) (by have := h4.le; omega)]; exact h1, h2, h3, h4.keep fun p hp hp' => hk p (by omega) hp'⟩
theorem Chn.get {m : Mem} : ∀ {cs : List Value} {n q e : Nat}, Chn m cs n q e → e < m.length
  | _, 0, q, e, ⟨h1, cs', h2, h3⟩ => by have := get_lt h2; omega
  | _, n + 1, q, e, ⟨cs', q', h1, h2, h3, h4⟩ => h4.get
theorem Chn.old {m : Mem} : ∀ {f n : Nat} {cs : List Value} {q e : Nat}, Chn m cs n q e → n < f → oldB m f cs q = true
  | 0, _, _, _, _, _, hf => by omega
  | f + 1, 0, cs, q, e, ⟨h1, cs', h2, h3⟩, _ => by unfold oldB; rw [h2]; exact h3
  | f + 1, n + 1, cs, q, e, ⟨cs', q', h1, h2, h3, h4⟩, hf => by
    have := h4.old (f := f) (by omega)
    unfold oldB; rw [h1]; simp only [h2, Bool.true_and]; exact this
/-- its last object is appended onto -/
theorem Chn.more {m m' : Mem} {ce cn : List Value} {e e' : Nat} (he : m[e]? = some (.live ce)) (ho : m'[e]? = some (.old ce e')) (hn : m'[e']? = some (.live cn)) (hlt : e < e') (hp : preB ce cn = true)
    (hk : ∀ p, p < e → m'[p]? = m[p]?) : ∀ {n q : Nat} {cs : List Value}, Chn m cs n q e → Chn m' cs (n + 1) q e'
  | 0, q, cs, ⟨h1, cs', h2, h3⟩ => by
    subst h1
    rw [he] at h2; cases h2
    exact ⟨ce, e', ho, h3, hlt, rfl, cn, hn, hp⟩
  | n + 1, q, cs, ⟨cs', q', h1, h2, h3, h4⟩ => ⟨cs', q', by rw [hk q (by have := h4.le; omega)]; exact h1, h2, h3, Chn.more he ho hn hlt hp hk h4⟩
theorem veqs_bys {n : Nat} {u w : Nat → GF} (h : ∀ i, i < n → u i = w i) : veqs (bys n u) (bys n w) = true := by
  rw [bys_congr h]
  have key : ∀ l : List Value, (∀ v ∈ l, veq1 v v = true) → veqs l l = true := by
    intro l
    induction l with
    | nil => intro _; rfl
    | cons v l ih => intro h; simp only [veqs, h v (by simp), Bool.true_and]; exact ih fun x hx => h x (by simp [hx])
  refine key _ fun v hv => ?_
  obtain ⟨i, hi⟩ := List.mem_iff_getElem?.1 hv
  have h1 : i < n := by
    rcases Nat.lt_or_ge i n with h | h
    · exact h
    · rw [List.getElem?_eq_none (by rw [bys_len]; exact h)] at hi; cases hi
  have h2 := bys_get (w := w) h1
  rw [hi, Option.some.injEq] at h2
  rw [h2]
  simp [veq1]
theorem preB_bys {n n' : Nat} {u w : Nat → GF} (hl : n ≤ n') (h : ∀ i, i < n → u i = w i) : preB (bys n u) (bys n' w) = true := by
  unfold preB
  have := bys_sub (n := n') (o := 0) (l := n) (w := w) (by omega)
  rw [List.drop_zero] at this
  rw [bys_len, this]
  exact veqs_bys fun i hi => by rw [Nat.zero_add]; exact h i hi
theorem Chn.src {m : Mem} {n q e D l : Nat} {u : Nat → GF} {sp : Option Nat} (hD : m[D]? = some (.old (bys l u) q)) (h : Chn m (bys l u) n q e) (hn : n < m.length) : Src m (some ⟨D, 0, sp⟩) l u := by
  have hc : m.cells D = some (bys l u) := cells_iff.2 (.inr (.inr ⟨q, hD, h.old hn⟩))
  refine rdSl_ld ?_
  simp only [ldCells, hc, Option.bind_some, cCells]
  have ht := List.take_length (l := bys l u)
  rw [bys_len] at ht
  rw [if_pos (by rw [bys_len]; omega), List.drop_zero, Nat.mul_one, ht]

/-! ## the rows -/
/-- where a row lies; did an append make it? -/
abbrev RA := Option (Nat × Bool)
def rowA : RA → Option Addr
  | none => none
  | some (D, false) => some ⟨D, 0, none⟩
  | some (D, true) => some ⟨D, 0, some 1⟩
def slr (N : Nat) (R : Nat → RA) (nn : Nat → Nat) : List Value := (List.range N).map fun i => .slice (rowA (R i)) (nn i) (nn i)
theorem slr_len {N : Nat} {R : Nat → RA} {nn : Nat → Nat} : (slr N R nn).length = N := by simp [slr]
theorem slr_get {N : Nat} {R : Nat → RA} {nn : Nat → Nat} {i : Nat} (h : i < N) : (slr N R nn)[i]? = some (.slice (rowA (R i)) (nn i) (nn i)) := by simp [slr, h]
theorem slr_snoc {N : Nat} {R : Nat → RA} {nn : Nat → Nat} : slr N R nn ++ [.slice (rowA (R N)) (nn N) (nn N)] = slr (N + 1) R nn := by
  unfold slr; rw [List.range_succ, List.map_append]; rfl
theorem slr_congr {N : Nat} {R R' : Nat → RA} {nn nn' : Nat → Nat} (h : ∀ i, i < N → R i = R' i ∧ nn i = nn' i) : slr N R nn = slr N R' nn' := by
  unfold slr
  apply List.map_congr_left
  intro i hi
  rw [(h i (List.mem_range.1 hi)).1, (h i (List.mem_range.1 hi)).2]
/-- a row that is its owner's: D its object -/
def RowLive (m : Mem) (r : RA) (n L : Nat) (P : (Nat → GF) → Prop) : Prop := match r with
  | none => n = 0
  | some (D, a) => ∃ u, m[D]? = some (.live (bys L u)) ∧ P u ∧ n ≤ L ∧ (a = true → n = L)
/-- a row that was grown: lo: where its followers begin, e: the last one -/
def RowGrown (m : Mem) (r : RA) (n L lo e C : Nat) (P : (Nat → GF) → Prop) : Prop := match r with
  | none => n = 0
  | some (D, false) => ∃ u, m[D]? = some (.live (bys L u)) ∧ P u ∧ n ≤ L
  | some (D, true) => ∃ u q c, m[D]? = some (.old (bys n u) q) ∧ P u ∧ lo ≤ q ∧ c ≤ C ∧ Chn m (bys n u) c q e
def rowD : RA → Option Nat := fun r => r.map (·.1)

theorem RowLive.keep {m m' : Mem} {r : RA} {n L : Nat} {P : (Nat → GF) → Prop} (h : RowLive m r n L P) (hk : ∀ D, rowD r = some D → m'[D]? = m[D]?) : RowLive m' r n L P := by
  cases r with
  | none => exact h
  | some x =>
    obtain ⟨D, a⟩ := x
    obtain ⟨u, h1, h2⟩ := h
    exact ⟨u, by rw [hk D rfl]; exact h1, h2⟩
theorem RowGrown.keep {m m' : Mem} {r : RA} {n L lo e C : Nat} {P : (Nat → GF) → Prop} (h : RowGrown m r n L lo e C P) (hk : ∀ D, rowD r = some D → m'[D]? = m[D]?) (hc : ∀ p, lo ≤ p → p ≤ e → m'[p]? = m[p]?) : RowGrown m' r n L lo e C P := by
  cases r with
  | none => exact h
  | some x =>
    obtain ⟨D, a⟩ := x
    cases a with
    | false =>
      obtain ⟨u, h1, h2⟩ := h
      exact ⟨u, by rw [hk D rfl]; exact h1, h2⟩
    | true =>
      obtain ⟨u, q, c, h1, h2, h3, h4, h5⟩ := h
      exact ⟨u, q, c, by rw [hk D rfl]; exact h1, h2, h3, h4, h5.keep fun p hp hp' => hc p (by omega) hp'⟩
theorem RowGrown.src {m : Mem} {r : RA} {n L lo e C : Nat} {P : (Nat → GF) → Prop} (h : RowGrown m r n L lo e C P) : ∃ u, (r = none ∨ P u) ∧ Src m (rowA r) n u := by
  cases r with
  | none => exact ⟨fun _ => 0, .inl rfl, by have h0 : n = 0 := h; subst h0; rfl⟩
  | some x =>
    obtain ⟨D, a⟩ := x
    cases a with
    | false =>
      obtain ⟨u, h1, h2, h3⟩ := h
      exact ⟨u, .inr h2, Src.take (sp := none) h1 h3⟩
    | true =>
      obtain ⟨u, q, c, h1, h2, h3, h4, h5⟩ := h
      exact ⟨u, .inr h2, h5.src h1 (by have := h5.le; have := h5.get; omega)⟩
end Go.Proofs.Ytlbbcgjfkpnilaa
