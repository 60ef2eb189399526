/- The library over a clean memory: MxLaw. -/
import Derived.Test.YtchonnaoojpdoaaMxArgs
/- Words for the plain laws: what a load and a store do where an object is known. -/
set_option linter.unusedVariables false
set_option linter.unusedSimpArgs false
namespace Go.Mx

section
variable {m : Mem} {b : Nat} {cs : List Value} {off : Nat} {sp : Option Nat}

theorem ldInt_of {k : IntKind} {z : Int} (h : m[b]? = some (.live cs)) (hc : cs[off]? = some (.int k z)) : ldInt k m ⟨b, off, sp⟩ = some z := by
  simp [ldInt, Mem.cells, h, MObj.cells, cInt, hc]
theorem ldBool_of {z : Bool} (h : m[b]? = some (.live cs)) (hc : cs[off]? = some (.bool z)) : ldBool m ⟨b, off, sp⟩ = some z := by
  simp [ldBool, Mem.cells, h, MObj.cells, cBool, hc]
theorem ldSl_of {a : Option Addr} {n c : Nat} (h : m[b]? = some (.live cs)) (hc : cs[off]? = some (.slice a n c)) : ldSl m ⟨b, off, sp⟩ = some ⟨a, n, c⟩ := by
  simp [ldSl, Mem.cells, h, MObj.cells, cSl, hc]
theorem ldPtr_of {a : Option Addr} (h : m[b]? = some (.live cs)) (hc : cs[off]? = some (.pointer a)) : ldPtr m ⟨b, off, sp⟩ = some a := by
  simp [ldPtr, Mem.cells, h, MObj.cells, cPtr, hc]
theorem ldCells_of {n : Nat} (h : m[b]? = some (.live cs)) (hc : off + n ≤ cs.length) : ldCells m ⟨b, off, sp⟩ n = some ((cs.drop off).take n) := by
  simp [ldCells, Mem.cells, h, MObj.cells, cCells, hc]
theorem st_of {v : Value} (h : m[b]? = some (.live cs)) (hc : off < cs.length) : st m ⟨b, off, sp⟩ v = some (m.set b (.live (cs.set off v))) := by
  simp [st, Mem.wcells, h, MObj.wcells, setCell, hc]
theorem stCells_of {vs : List Value} (h : m[b]? = some (.live cs)) (hc : off + vs.length ≤ cs.length) : stCells m ⟨b, off, sp⟩ vs = some (m.set b (.live (cs.take off ++ vs ++ cs.drop (off + vs.length)))) := by
  simp [stCells, Mem.wcells, h, MObj.wcells, setCells, hc]
theorem get_set_eq {x : MObj} (h : b < m.length) : (m.set b x)[b]? = some x := by simp [h]
theorem get_set_ne {x : MObj} {b' : Nat} (h : b ≠ b') : (m.set b x)[b']? = m[b']? := by simp [h]
theorem get_app_lt {l : Mem} (h : b < m.length) : (m ++ l)[b]? = m[b]? := List.getElem?_append_left h
theorem get_app_len {x : MObj} {l : Mem} : (m ++ x :: l)[m.length]? = some x := by simp
end

/-- everything but the objects in the list stays, and what is new comes behind -/
def Kept (bs : List Nat) (m m' : Mem) : Prop := m.length ≤ m'.length ∧ ∀ b, b < m.length → b ∉ bs → m'[b]? = m[b]?
theorem Kept.refl (bs : List Nat) (m : Mem) : Kept bs m m := ⟨Nat.le_refl _, fun _ _ _ => rfl⟩
theorem Kept.trans {bs : List Nat} {m m' m'' : Mem} (h : Kept bs m m') (h' : Kept bs m' m'') : Kept bs m m'' :=
  ⟨Nat.le_trans h.1 h'.1, fun b hb hn => (h'.2 b (Nat.lt_of_lt_of_le hb h.1) hn).trans (h.2 b hb hn)⟩
theorem Kept.mono {bs bs' : List Nat} {m m' : Mem} (h : Kept bs m m') (hs : ∀ b ∈ bs, b ∈ bs') : Kept bs' m m' := ⟨h.1, fun b hb hn => h.2 b hb fun hm => hn (hs b hm)⟩
theorem Kept.get {bs : List Nat} {m m' : Mem} {b : Nat} {x : MObj} (h : Kept bs m m') (hg : m[b]? = some x) (hn : b ∉ bs) : m'[b]? = some x := (h.2 b ((List.getElem?_eq_some_iff.1 hg).1) hn).trans hg
theorem Kept.set {bs : List Nat} {m : Mem} {b : Nat} {x : MObj} (hb : b ∈ bs) : Kept bs m (m.set b x) :=
  ⟨by simp, fun b' _ hn => get_set_ne fun h => hn (h ▸ hb)⟩
theorem Kept.app {bs : List Nat} {m l : Mem} : Kept bs m (m ++ l) := ⟨by simp, fun b' hb _ => get_app_lt hb⟩
/-- a new object may be written -/
theorem Kept.new {bs : List Nat} {m m' : Mem} {b : Nat} {x : MObj} (h : Kept bs m m') (hb : m.length ≤ b) : Kept bs m (m'.set b x) :=
  ⟨by simpa using h.1, fun b' h1 h2 => by rw [get_set_ne (by omega)]; exact h.2 b' h1 h2⟩

theorem pick_core {n : Int} (hn : 0 < n) {x : Int} (hx : 0 ≤ x) : 0 ≤ Int.tmod x n ∧ Int.tmod x n < n := ⟨Int.tmod_nonneg _ hx, Int.tmod_lt_of_pos _ hn⟩

/-- an append that takes a new row: onto no row yet -/
theorem appM_first {z y : Nat} {m : Mem} {l : Nat} {new : List Value} (hl : 0 < l) (h : l * y ≤ most) (h2 : l ≤ most) : appM z y m none 0 0 l new = some (⟨some ⟨m.length, 0, some z⟩, l, l⟩, m ++ [.live new]) := by
  unfold appM
  rw [if_neg (by omega), Nat.zero_add, if_pos ⟨h, h2⟩]
  rfl
/-- .. onto one that is full -/
theorem appM_full {z y : Nat} {m : Mem} {b n l : Nat} {old new : List Value} (hl : 0 < l) (h : (n + l) * y ≤ most) (h2 : n + l ≤ most) (hb : m[b]? = some (.live old)) (ho : old.length = n * z) :
    appM z y m (some ⟨b, 0, some z⟩) n n l new = some (⟨some ⟨m.length, 0, some z⟩, n + l, n + l⟩, m.set b (.old old m.length) ++ [.live (old ++ new)]) := by
  unfold appM
  rw [if_neg (by omega), if_pos ⟨h, h2⟩]
  have h3 : ldCells m ⟨b, 0, some z⟩ (n * z) = some old := by
    rw [ldCells_of hb (by omega)]
    simp [← ho]
  simp [h3, Mem.wcells, hb, MObj.wcells]
/-- one cell, just made, read as a row -/
theorem rdSl_new {m : Mem} {v : Value} : rdSl (m ++ [.live [v]]) (some ⟨m.length, 0, none⟩) 1 1 = some [v] := by
  refine rdSl_ld ?_
  rw [ldCells_of (get_app_len (l := [])) (by simp)]
  rfl
end Go.Mx
