/- Slices: what is read of them, what an append makes. -/
import Derived.Test.YtnilidpafijdlabMxOwn
set_option linter.unusedVariables false
set_option linter.unusedSimpArgs false
namespace Go.Mx

section
variable {m g : Mem} {a : Addr} {p : Option Addr} {b off n z l y c : Nat} {sp : Option Nat} {cs vs new old : List Value}

theorem cells_grow {cs : List Value} (h : m.cells b = some cs) : (m ++ g).cells b = some cs := by
  unfold Mem.cells at *
  obtain ⟨o, h1, h2⟩ := Option.bind_eq_some_iff.1 h
  rw [get_grow h1]; exact h2
theorem ldCells_grow (h : ldCells m a n = some vs) : ldCells (m ++ g) a n = some vs := by
  unfold ldCells at *
  obtain ⟨cs, h1, h2⟩ := Option.bind_eq_some_iff.1 h
  rw [cells_grow h1]; exact h2
theorem rdSl_grow (h : rdSl m p n z = some vs) : rdSl (m ++ g) p n z = some vs := by
  unfold rdSl at *
  cases p with
  | none => exact h
  | some a => exact ldCells_grow h
theorem rdSl_live (h : m[b]? = some (.live cs)) (hc : off + n * z ≤ cs.length) : rdSl m (some ⟨b, off, sp⟩) n z = some ((cs.drop off).take (n * z)) := ldCells_of h hc
theorem rdSl_all (h : m[b]? = some (.live cs)) (hc : n * z = cs.length) : rdSl m (some ⟨b, 0, sp⟩) n z = some cs := by
  rw [rdSl_live h (by omega)]; simp [hc]
theorem rdSl_none : rdSl m none 0 z = some [] := rfl
theorem cells_live (h : m[b]? = some (.live cs)) : m.cells b = some cs := by simp [Mem.cells, h, MObj.cells]
theorem wcells_live (h : m[b]? = some (.live cs)) : m.wcells b = some cs := by simp [Mem.wcells, h, MObj.wcells]

/-- an append that makes a new row, onto a row of no cells that was made by make -/
theorem appM_make (hb : m[b]? = some (.live cs)) (hl : 0 < l) (h1 : l * y ≤ most) (h2 : l ≤ most) :
    appM z y m (some ⟨b, 0, none⟩) 0 0 l new = some (⟨some ⟨m.length, 0, some z⟩, l, l⟩, m ++ [.live new]) := by
  unfold appM
  rw [if_neg (by omega), if_pos (by simp [h1, h2])]
  have h3 : ldCells m ⟨b, 0, none⟩ 0 = some [] := by rw [ldCells_of hb (by simp)]; simp
  simp [h3]
/-- an append of nothing -/
theorem appM_zero {s : Addr} (hn : n ≤ c) (h : stCells m (plus s (n * z)) [] = some m) : appM z y m (some s) n c 0 [] = some (⟨some s, n, c⟩, m) := by
  unfold appM
  rw [if_pos (by omega)]
  simp [h]
theorem stCells_nil (hb : m[b]? = some (.live cs)) (hc : off ≤ cs.length) : stCells m ⟨b, off, sp⟩ [] = some m := by
  rw [stCells_of hb (by simpa using hc)]
  simp only [List.length_nil, Nat.add_zero, List.append_nil, List.take_append_drop, Option.some.injEq]
  obtain ⟨h1, h2⟩ := List.getElem?_eq_some_iff.1 hb
  rw [← h2]; simp
/-- an append in place -/
theorem appM_room {s : Addr} (hn : n + l ≤ c) : appM z y m (some s) n c l new = (stCells m (plus s (n * z)) new).bind fun m' => some (⟨some s, n + l, c⟩, m') := by
  unfold appM
  rw [if_pos hn]
/-- an append onto a full row that was made by an append -/
theorem appM_grow (hb : m[b]? = some (.live old)) (ho : old.length = n * z) (hl : 0 < l) (h1 : (n + l) * y ≤ most) (h2 : n + l ≤ most) :
    appM z y m (some ⟨b, 0, some z⟩) n n l new = some (⟨some ⟨m.length, 0, some z⟩, n + l, n + l⟩, m.set b .dead ++ [.live (old ++ new)]) := appM_full hl h1 h2 hb ho
end

/-- three whole numbers of a row's element -/
theorem Holds.ld3 {o : MObj} {i : Nat} {p : Option Addr} {n : Nat} {cs : List Value} {m : Mem} {k : IntKind} (h : Holds o i p n [.int k, .int k, .int k] cs) (hm : m[i]? = some o) {x : Int} (h0 : 0 ≤ x) (hx : x < n) :
    ∃ u v w, Mx.ldCells m ⟨i, x.toNat * 3, none⟩ 3 = some [.int k u, .int k v, .int k w] ∧ (Lit.int k u).wf = true ∧ (Lit.int k v).wf = true ∧ (Lit.int k w).wf = true := by
  have hj : x.toNat < n := by omega
  have := h.ldCells hm (j := x.toNat) hj (by simp)
  simp only [List.length_cons, List.length_nil, Nat.zero_add, Nat.reduceAdd, List.range, List.range.loop, List.map_cons, List.map_nil] at this
  have i0 := h.int hj (q := 0) (k := k) rfl
  have i1 := h.int hj (q := 1) (k := k) rfl
  have i2 := h.int hj (q := 2) (k := k) rfl
  simp only [List.length_cons, List.length_nil, Nat.zero_add, Nat.reduceAdd] at i0 i1 i2
  rw [i0.2, i1.2, i2.2] at this
  exact ⟨_, _, _, this, i0.1, i1.1, i2.1⟩
theorem Holds.ld2 {o : MObj} {i : Nat} {p : Option Addr} {n : Nat} {cs : List Value} {m : Mem} {k : IntKind} (h : Holds o i p n [.int k, .int k] cs) (hm : m[i]? = some o) {x : Int} (h0 : 0 ≤ x) (hx : x < n) :
    ∃ u v, Mx.ldCells m ⟨i, x.toNat * 2, none⟩ 2 = some [.int k u, .int k v] ∧ (Lit.int k u).wf = true ∧ (Lit.int k v).wf = true := by
  have hj : x.toNat < n := by omega
  have := h.ldCells hm (j := x.toNat) hj (by simp)
  simp only [List.length_cons, List.length_nil, Nat.zero_add, Nat.reduceAdd, List.range, List.range.loop, List.map_cons, List.map_nil] at this
  have i0 := h.int hj (q := 0) (k := k) rfl
  have i1 := h.int hj (q := 1) (k := k) rfl
  simp only [List.length_cons, List.length_nil, Nat.zero_add, Nat.reduceAdd] at i0 i1
  rw [i0.2, i1.2] at this
  exact ⟨_, _, this, i0.1, i1.1⟩
end Go.Mx
