/- The library over a clean memory: MxSl. -/
import Derived.Test.YtchonnaoojpdoaaMxOwn
/- Slices: what is read of them, what an append makes. -/
set_option linter.unusedVariables false
set_option linter.unusedSimpArgs false
namespace Go.Mx

section
variable {m g : Mem} {a : Addr} {p : Option Addr} {b off n z l y c : Nat} {sp : Option Nat} {cs vs new old : List Value}

theorem oldB_mono : ∀ {f f' : Nat} {m m' : Mem} {cs : List Value} {q : Nat}, f ≤ f' → (∀ (n : Nat) (o : MObj), m[n]? = some o → m'[n]? = some o) → oldB m f cs q = true → oldB m' f' cs q = true
  | 0, _, _, _, _, _, _, _, h => by simp [oldB] at h
  | f + 1, 0, _, _, _, _, hf, _, _ => by omega
  | f + 1, f' + 1, m, m', cs, q, hf, hm, h => by
    unfold oldB at h ⊢
    split at h
    · rename_i cs1 hq
      rw [hm _ _ hq]; exact h
    · rename_i cs1 q1 hq
      rw [Bool.and_eq_true] at h
      simp only [hm _ _ hq, h.1, Bool.true_and]
      exact oldB_mono (by omega) hm h.2
    · cases h
theorem cells_grow {cs : List Value} (h : m.cells b = some cs) : (m ++ g).cells b = some cs := by
  rcases cells_iff.1 h with h | h | ⟨q, h, h2⟩
  · exact cells_iff.2 (.inl (get_grow h))
  · exact cells_iff.2 (.inr (.inl (get_grow h)))
  · exact cells_iff.2 (.inr (.inr ⟨q, get_grow h, oldB_mono (by simp) (fun n o ho => get_grow ho) h2⟩))
theorem ldCells_grow (h : ldCells m a n = some vs) : ldCells (m ++ g) a n = some vs := by
  unfold ldCells at *
  obtain ⟨cs, h1, h2⟩ := Option.bind_eq_some_iff.1 h
  rw [cells_grow h1]; exact h2
theorem rdSl_grow (h : rdSl m p n z = some vs) : rdSl (m ++ g) p n z = some vs := by
  unfold rdSl at *
  cases p with
  | none => exact h
  | some a =>
    simp only at h ⊢
    split
    · rename_i h0; rwa [if_pos h0] at h
    · rename_i h0; rw [if_neg h0] at h; exact ldCells_grow h
theorem rdSl_live (h : m[b]? = some (.live cs)) (hc : off + n * z ≤ cs.length) : rdSl m (some ⟨b, off, sp⟩) n z = some ((cs.drop off).take (n * z)) := rdSl_ld (ldCells_of h hc)
theorem rdSl_all (h : m[b]? = some (.live cs)) (hc : n * z = cs.length) : rdSl m (some ⟨b, 0, sp⟩) n z = some cs := by
  rw [rdSl_live h (by omega)]; simp [hc]
theorem rdSl_none : rdSl m none 0 z = some [] := rfl
theorem cells_live (h : m[b]? = some (.live cs)) : m.cells b = some cs := by simp [Mem.cells, h, MObj.cells]
theorem wcells_live (h : m[b]? = some (.live cs)) : m.wcells b = some cs := by simp [Mem.wcells, h, MObj.wcells]

/-- an append that makes a new row, onto a row of no cells that was made by make -/
theorem appM_make (hb : m[b]? = some (.live cs)) (hl : 0 < l) (h1 : l * y ≤ most) (h2 : l ≤ most) :
    appM z y m (some ⟨b, 0, none⟩) 0 0 l new = some (⟨some ⟨m.length, 0, some z⟩, l, l⟩, m ++ [.live new]) := by
  unfold appM
  rw [if_neg (by omega), if_pos (by simp [h1, h2])]
  have h3 : ldCells m ⟨b, 0, none⟩ 0 = some [] := by rw [ldCells_of hb (by simp)]; simp
  simp [h3]
/-- an append of nothing -/
theorem appM_zero {s : Addr} (hn : n ≤ c) (h : stCells m (plus s (n * z)) [] = some m) : appM z y m (some s) n c 0 [] = some (⟨some s, n, c⟩, m) := by
  unfold appM
  rw [if_pos (by omega)]
  simp [h]
theorem stCells_nil (hb : m[b]? = some (.live cs)) (hc : off ≤ cs.length) : stCells m ⟨b, off, sp⟩ [] = some m := by
  rw [stCells_of hb (by simpa using hc)]
  simp only [List.length_nil, Nat.add_zero, List.append_nil, List.take_append_drop, Option.some.injEq]
  obtain ⟨h1, h2⟩ := List.getElem?_eq_some_iff.1 hb
  rw [← h2]; simp
/-- an append in place -/
theorem appM_room {s : Addr} (hn : n + l ≤ c) : appM z y m (some s) n c l new = (stCells m (plus s (n * z)) new).bind fun m' => some (⟨some s, n + l, c⟩, m') := by
  unfold appM
  rw [if_pos hn]
/-- an append onto a full row that was made by an append -/
theorem appM_grow (hb : m[b]? = some (.live old)) (ho : old.length = n * z) (hl : 0 < l) (h1 : (n + l) * y ≤ most) (h2 : n + l ≤ most) :
    appM z y m (some ⟨b, 0, some z⟩) n n l new = some (⟨some ⟨m.length, 0, some z⟩, n + l, n + l⟩, m.set b (.old old m.length) ++ [.live (old ++ new)]) := appM_full hl h1 h2 hb ho
end

/-! ## rows that appends make -/
def slH (a : Option Addr) (vs : List Value) : Heap := match a with
  | none => []
  | some x => [(x.block, .live vs)]
/-- a slice over the whole of a row whose elements are one cell each -/
def Row (a : Option Addr) (n : Nat) (vs : List Value) : Prop := (a = none ∧ n = 0 ∧ vs = []) ∨ ∃ b sp, a = some ⟨b, 0, sp⟩ ∧ vs.length = n
/-- .. that appends have made -/
def App (z : Nat) (a : Option Addr) (n c : Nat) (vs : List Value) : Prop := (a = none ∧ n = 0 ∧ c = 0 ∧ vs = []) ∨ ∃ b, a = some ⟨b, 0, some z⟩ ∧ c = n ∧ vs.length = n * z
theorem App.nil {z : Nat} : App z none 0 0 [] := .inl ⟨rfl, rfl, rfl, rfl⟩
theorem App.row {a : Option Addr} {n c : Nat} {vs : List Value} (h : App 1 a n c vs) : Row a n vs := by
  rcases h with ⟨h1, h2, _, h3⟩ | ⟨b, h1, _, h2⟩
  · exact .inl ⟨h1, h2, h3⟩
  · exact .inr ⟨b, _, h1, by omega⟩
theorem App.len {z : Nat} {a : Option Addr} {n c : Nat} {vs : List Value} (h : App z a n c vs) : vs.length = n * z := by
  rcases h with ⟨_, h2, _, h3⟩ | ⟨b, h1, _, h2⟩
  · simp [h2, h3]
  · exact h2
theorem App.app {z y : Nat} {m : Mem} {a : Option Addr} {n c l : Nat} {vs new : List Value} {F : Heap} (h : App z a n c vs) (hO : Own m (slH a vs ++ F)) (hl : 0 < l) (hn : new.length = l * z) (h1 : (n + l) * y ≤ most) (h2 : n + l ≤ most) :
    ∃ a' m', appM z y m a n c l new = some (⟨a', n + l, n + l⟩, m') ∧ App z a' (n + l) (n + l) (vs ++ new) ∧ Own m' (slH a' (vs ++ new) ++ F) := by
  rcases h with ⟨rfl, rfl, rfl, rfl⟩ | ⟨b, rfl, rfl, h3⟩
  · refine ⟨some ⟨m.length, 0, some z⟩, m ++ [.live new], ?_, .inr ⟨_, rfl, rfl, by simp [hn]⟩, by simpa [slH] using hO.new (.live new)⟩
    rw [Nat.zero_add] at *
    exact appM_first hl h1 h2
  · refine ⟨some ⟨m.length, 0, some z⟩, m.set b (.old vs m.length) ++ [.live (vs ++ new)], appM_grow (hO.at 0 rfl) h3 hl h1 h2, .inr ⟨_, rfl, rfl, by simp [hn, h3, Nat.add_mul]⟩, ?_⟩
    have := ((hO.put 0 rfl (.old vs m.length)).tail).new (.live (vs ++ new))
    simpa [slH] using this
/-- an append of one cell that a literal makes -/
theorem App.one {y : Nat} {m : Mem} {a : Option Addr} {n c : Nat} {vs : List Value} {v : Value} {F : Heap} (h : App 1 a n c vs) (hO : Own m (slH a vs ++ F)) (h1 : (n + 1) * y ≤ most) (h2 : n + 1 ≤ most) :
    ∃ a' m', appM 1 y (m ++ [.live [v]]) a n c 1 [v] = some (⟨a', n + 1, n + 1⟩, m') ∧ App 1 a' (n + 1) (n + 1) (vs ++ [v]) ∧ Own m' (slH a' (vs ++ [v]) ++ F) :=
  h.app (hO.grow _) (by omega) rfl h1 h2

def ints (l : List Int) : List Value := l.map (Value.int .i64)
@[simp] theorem ints_length {l : List Int} : (ints l).length = l.length := by simp [ints]
theorem ints_get {l : List Int} {i : Nat} (h : i < l.length) : (ints l)[i]? = some (.int .i64 l[i]) := by simp [ints, h]
theorem ints_set {l : List Int} {i : Nat} {v : Int} : (ints l).set i (.int .i64 v) = ints (l.set i v) := by simp [ints]
theorem ints_append {l l' : List Int} : ints (l ++ l') = ints l ++ ints l' := by simp [ints]

/-- any slice that is full: its cells are those of a part of an object -/
def Vec (z : Nat) (a : Option Addr) (n : Nat) (vs : List Value) (H : Heap) : Prop :=
  (a = none ∧ n = 0 ∧ vs = [] ∧ H = []) ∨ ∃ b off sp cs, a = some ⟨b, off, sp⟩ ∧ H = [(b, .live cs)] ∧ vs.length = n * z ∧ off + n * z ≤ cs.length ∧ (cs.drop off).take (n * z) = vs ∧ (sp = none ∨ sp = some z)
theorem Vec.nil {z : Nat} : Vec z none 0 [] [] := .inl ⟨rfl, rfl, rfl, rfl⟩
theorem App.vec {z : Nat} {a : Option Addr} {n c : Nat} {vs : List Value} (h : App z a n c vs) : Vec z a n vs (slH a vs) := by
  rcases h with ⟨rfl, rfl, _, rfl⟩ | ⟨b, rfl, _, h2⟩
  · exact .nil
  · exact .inr ⟨b, 0, some z, vs, rfl, rfl, h2, by omega, by simp [← h2], .inr rfl⟩
theorem App.cap {z : Nat} {a : Option Addr} {n c : Nat} {vs : List Value} (h : App z a n c vs) : c = n := by
  rcases h with ⟨_, h1, h2, _⟩ | ⟨b, _, h2, _⟩
  · omega
  · exact h2
theorem Vec.len {z : Nat} {a : Option Addr} {n : Nat} {vs : List Value} {H : Heap} (h : Vec z a n vs H) : vs.length = n * z := by
  rcases h with ⟨_, h1, h2, _⟩ | ⟨b, off, sp, cs, _, _, h2, _⟩
  · simp [h1, h2]
  · exact h2
theorem Vec.app {z y : Nat} {m : Mem} {a : Option Addr} {n l : Nat} {vs new : List Value} {H F : Heap} (h : Vec z a n vs H) (hO : Own m (H ++ F)) (hl : 0 < l) (hn : new.length = l * z) (h1 : (n + l) * y ≤ most) (h2 : n + l ≤ most) :
    ∃ a' m', appM z y m a n n l new = some (⟨a', n + l, n + l⟩, m') ∧ App z a' (n + l) (n + l) (vs ++ new) ∧ Own m' (slH a' (vs ++ new) ++ F) := by
  rcases h with ⟨rfl, rfl, rfl, rfl⟩ | ⟨b, off, sp, cs, rfl, rfl, h3, h4, h5, h6⟩
  · exact App.nil.app (F := F) (by simpa [slH] using hO) hl hn h1 h2
  · rcases h6 with rfl | rfl
    · refine ⟨some ⟨m.length, 0, some z⟩, m ++ [.live (vs ++ new)], ?_, .inr ⟨_, rfl, rfl, by simp [hn, h3, Nat.add_mul]⟩, by simpa [slH] using hO.tail.new (.live (vs ++ new))⟩
      unfold appM
      rw [if_neg (by omega), if_pos ⟨h1, h2⟩]
      simp only
      rw [ldCells_of (hO.at 0 rfl) h4, h5]
      rfl
    · refine ⟨some ⟨m.length, 0, some z⟩, m.set b (bif Nat.beq off 0 then .old vs m.length else .dead) ++ [.live (vs ++ new)], ?_, .inr ⟨_, rfl, rfl, by simp [hn, h3, Nat.add_mul]⟩, ?_⟩
      · unfold appM
        rw [if_neg (by omega), if_pos ⟨h1, h2⟩]
        simp only
        rw [ldCells_of (hO.at 0 rfl) h4, h5]
        simp [wcells_live (hO.at 0 rfl)]
      · have := ((hO.put 0 rfl (bif Nat.beq off 0 then .old vs m.length else .dead)).tail).new (.live (vs ++ new))
        simpa [slH] using this
theorem Vec.one {y : Nat} {m : Mem} {a : Option Addr} {n : Nat} {vs : List Value} {v : Value} {H F : Heap} (h : Vec 1 a n vs H) (hO : Own m (H ++ F)) (h1 : (n + 1) * y ≤ most) (h2 : n + 1 ≤ most) :
    ∃ a' m', appM 1 y (m ++ [.live [v]]) a n n 1 [v] = some (⟨a', n + 1, n + 1⟩, m') ∧ App 1 a' (n + 1) (n + 1) (vs ++ [v]) ∧ Own m' (slH a' (vs ++ [v]) ++ F) :=
  h.app (hO.grow _) (by omega) rfl h1 h2
/-- what lies at a place of it -/
theorem Vec.get {a : Option Addr} {n : Nat} {vs : List Value} {H F : Heap} {m : Mem} (h : Vec 1 a n vs H) (hO : Own m (H ++ F)) {i : Nat} (hi : i < n) {v : Value} (hv : vs[i]? = some v) :
    ∃ b off sp cs, a = some ⟨b, off, sp⟩ ∧ m[b]? = some (.live cs) ∧ cs[off + i]? = some v := by
  rcases h with ⟨_, h1, _, _⟩ | ⟨b, off, sp, cs, rfl, rfl, h2, h3, h4, _⟩
  · omega
  · refine ⟨b, off, sp, cs, rfl, hO.at 0 rfl, ?_⟩
    rw [← h4, List.getElem?_take, if_pos (by omega), List.getElem?_drop] at hv
    exact hv
theorem Vec.rd {z : Nat} {a : Option Addr} {n : Nat} {vs : List Value} {H F : Heap} {m : Mem} (h : Vec z a n vs H) (hO : Own m (H ++ F)) : rdSl m a n z = some vs := by
  rcases h with ⟨rfl, rfl, rfl, _⟩ | ⟨b, off, sp, cs, rfl, rfl, h2, h3, h4, _⟩
  · rfl
  · rw [rdSl_live (hO.at 0 rfl) h3, h4]

theorem nodup_le : ∀ (n : Nat) (l : List Int), l.Nodup → (∀ x ∈ l, 0 ≤ x ∧ x < n) → l.length ≤ n
  | 0, l, _, h => by
    cases l with
    | nil => simp
    | cons x l => have := h x (by simp); omega
  | n + 1, l, hn, h => by
    by_cases hm : (n : Int) ∈ l
    · have h1 := nodup_le n (l.erase n) (hn.erase _) (fun x hx => by
        have h2 := (hn.mem_erase_iff).1 hx
        have := h x h2.2
        have := h2.1
        omega)
      rw [List.length_erase_of_mem hm] at h1
      omega
    · have := nodup_le n l hn (fun x hx => by
        have := h x hx
        have : x ≠ n := fun h2 => hm (h2 ▸ hx)
        omega)
      omega

/-- three whole numbers of a row's element -/
theorem Holds.ld3 {o : MObj} {i : Nat} {p : Option Addr} {n : Nat} {cs : List Value} {m : Mem} {k : IntKind} (h : Holds o i p n [.int k, .int k, .int k] cs) (hm : m[i]? = some o) {x : Int} (h0 : 0 ≤ x) (hx : x < n) :
    ∃ u v w, Mx.ldCells m ⟨i, x.toNat * 3, none⟩ 3 = some [.int k u, .int k v, .int k w] ∧ (Lit.int k u).wf = true ∧ (Lit.int k v).wf = true ∧ (Lit.int k w).wf = true := by
  have hj : x.toNat < n := by omega
  have := h.ldCells hm (j := x.toNat) hj (by simp)
  simp only [List.length_cons, List.length_nil, Nat.zero_add, Nat.reduceAdd, List.range, List.range.loop, List.map_cons, List.map_nil] at this
  have i0 := h.int hj (q := 0) (k := k) rfl
  have i1 := h.int hj (q := 1) (k := k) rfl
  have i2 := h.int hj (q := 2) (k := k) rfl
  simp only [List.length_cons, List.length_nil, Nat.zero_add, Nat.reduceAdd] at i0 i1 i2
  rw [i0.2, i1.2, i2.2] at this
  exact ⟨_, _, _, this, i0.1, i1.1, i2.1⟩
theorem Holds.ld2 {o : MObj} {i : Nat} {p : Option Addr} {n : Nat} {cs : List Value} {m : Mem} {k : IntKind} (h : Holds o i p n [.int k, .int k] cs) (hm : m[i]? = some o) {x : Int} (h0 : 0 ≤ x) (hx : x < n) :
    ∃ u v, Mx.ldCells m ⟨i, x.toNat * 2, none⟩ 2 = some [.int k u, .int k v] ∧ (Lit.int k u).wf = true ∧ (Lit.int k v).wf = true := by
  have hj : x.toNat < n := by omega
  have := h.ldCells hm (j := x.toNat) hj (by simp)
  simp only [List.length_cons, List.length_nil, Nat.zero_add, Nat.reduceAdd, List.range, List.range.loop, List.map_cons, List.map_nil] at this
  have i0 := h.int hj (q := 0) (k := k) rfl
  have i1 := h.int hj (q := 1) (k := k) rfl
  simp only [List.length_cons, List.length_nil, Nat.zero_add, Nat.reduceAdd] at i0 i1
  rw [i0.2, i1.2] at this
  exact ⟨_, _, this, i0.1, i1.1⟩
end Go.Mx
