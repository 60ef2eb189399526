/- The library over a clean memory: MxOwn. -/
import Derived.Test.YtchonnaoojpdoaaMxLaw
/- What is known of a memory: a list of objects and where they lie; the rest is whatever it is. Total results of an Option. -/
set_option linter.unusedVariables false
set_option linter.unusedSimpArgs false
namespace Go.Mx

abbrev Heap := List (Nat × MObj)
structure Own (m : Mem) (L : Heap) : Prop where
  nd : (L.map (·.1)).Nodup
  get : ∀ x ∈ L, m[x.1]? = some x.2

theorem nodup_inj {α : Type} {l : List α} (h : l.Nodup) {i j : Nat} {a : α} (h1 : l[i]? = some a) (h2 : l[j]? = some a) : i = j := by
  obtain ⟨a1, b1⟩ := List.getElem?_eq_some_iff.1 h1
  obtain ⟨a2, b2⟩ := List.getElem?_eq_some_iff.1 h2
  have h3 := List.pairwise_iff_getElem.1 h
  rcases Nat.lt_trichotomy i j with h4 | h4 | h4
  · exact absurd (b1.trans b2.symm) (h3 i j a1 a2 h4)
  · exact h4
  · exact absurd (b2.trans b1.symm) (h3 j i a2 a1 h4)
theorem Own.nil (m : Mem) : Own m [] := ⟨by simp, by simp⟩
theorem Own.at {m : Mem} {L : Heap} (h : Own m L) (n : Nat) {b : Nat} {o : MObj} (hn : L[n]? = some (b, o)) : m[b]? = some o :=
  h.get (b, o) (List.mem_of_getElem? hn)
theorem Own.lt {m : Mem} {L : Heap} (h : Own m L) (n : Nat) {b : Nat} {o : MObj} (hn : L[n]? = some (b, o)) : b < m.length :=
  (List.getElem?_eq_some_iff.1 (h.at n hn)).1
theorem Own.ltm {m : Mem} {L : Heap} (h : Own m L) {x : Nat × MObj} (hx : x ∈ L) : x.1 < m.length :=
  (List.getElem?_eq_some_iff.1 (h.get x hx)).1
theorem Own.put {m : Mem} {L : Heap} (h : Own m L) (n : Nat) {b : Nat} {o : MObj} (hn : L[n]? = some (b, o)) (o' : MObj) : Own (m.set b o') (L.set n (b, o')) := by
  obtain ⟨hl, he⟩ := List.getElem?_eq_some_iff.1 hn
  have e1 : (L.set n (b, o')).map (·.1) = L.map (·.1) := by
    rw [List.map_set]
    apply List.ext_getElem?
    intro i
    rw [List.getElem?_set]
    split
    · rename_i h1; subst h1; simp [hl, he]
    · rfl
  refine ⟨by rw [e1]; exact h.nd, fun x hx => ?_⟩
  obtain ⟨i, hi⟩ := List.mem_iff_getElem?.1 hx
  rw [List.getElem?_set] at hi
  split at hi
  · rename_i h1; subst h1
    simp only [hl, if_true, Option.some.injEq] at hi; subst hi
    simp [h.lt n hn]
  · rename_i h1
    have h2 : x.1 ≠ b := by
      intro h3
      have h4 := h.nd
      have a1 : (L.map (·.1))[i]? = some b := by simp [hi, h3]
      have a2 : (L.map (·.1))[n]? = some b := by simp [hn]
      exact h1 (nodup_inj h4 a2 a1)
    rw [List.getElem?_set_ne (fun h3 => h2 h3.symm)]
    exact h.get x (List.mem_of_getElem? hi)
theorem Own.new {m : Mem} {L : Heap} (h : Own m L) (o : MObj) : Own (m ++ [o]) ((m.length, o) :: L) := by
  refine ⟨?_, fun x hx => ?_⟩
  · simp only [List.map_cons, List.nodup_cons]
    refine ⟨fun hm => ?_, h.nd⟩
    obtain ⟨y, hy, h1⟩ := List.mem_map.1 hm
    have := h.ltm hy
    omega
  · rcases List.mem_cons.1 hx with rfl | hx
    · simp
    · rw [List.getElem?_append_left (h.ltm hx)]; exact h.get x hx
theorem Own.sub {m : Mem} {L L' : Heap} (h : Own m L) (hs : L'.Sublist L) : Own m L' :=
  ⟨h.nd.sublist (hs.map _), fun x hx => h.get x (hs.subset hx)⟩
theorem Own.perm {m : Mem} {L L' : Heap} (h : Own m L) (hp : L.Perm L') : Own m L' :=
  ⟨(hp.map _).nodup_iff.1 h.nd, fun x hx => h.get x (hp.mem_iff.2 hx)⟩
theorem Own.tail {m : Mem} {L : Heap} {x : Nat × MObj} (h : Own m (x :: L)) : Own m L := h.sub (List.sublist_cons_self _ _)
theorem Own.front {m : Mem} {A B : Heap} (h : Own m (A ++ B)) : Own m A := h.sub (List.sublist_append_left _ _)
theorem Own.back {m : Mem} {A B : Heap} (h : Own m (A ++ B)) : Own m B := h.sub (List.sublist_append_right _ _)
/-- some of the first n objects, in any order, and all behind them -/
def pickL (idx : List Nat) (n : Nat) (L : Heap) : Heap := idx.filterMap (fun i => L[i]?) ++ L.drop n
theorem Own.pick {m : Mem} {L : Heap} (h : Own m L) (idx : List Nat) (n : Nat) (hi : idx.Nodup ∧ ∀ i ∈ idx, i < n) : Own m (pickL idx n L) := by
  refine ⟨?_, fun x hx => ?_⟩
  · have hnd : ∀ i j, i < L.length → j < L.length → (L.map (·.1))[i]? = (L.map (·.1))[j]? → i = j := by
      intro i j h1 h2 h3
      have h4 : (L.map (·.1))[i]? = some ((L.map (·.1))[i]'(by simpa using h1)) := List.getElem?_eq_getElem (by simpa using h1)
      exact nodup_inj h.nd h4 (h3.symm.trans h4)
    unfold pickL
    rw [List.map_append, List.nodup_append]
    refine ⟨?_, (h.nd.sublist ((List.drop_sublist n L).map _)), ?_⟩
    · have h1 := hi.1
      clear hi
      induction idx with
      | nil => simp
      | cons i idx ih =>
        rw [List.nodup_cons] at h1
        cases hL : L[i]? with
        | none => simp only [List.filterMap_cons, hL]; exact ih h1.2
        | some x =>
          simp only [List.filterMap_cons, hL, List.map_cons, List.nodup_cons]
          refine ⟨fun hm => ?_, ih h1.2⟩
          obtain ⟨y, hy, h2⟩ := List.mem_map.1 hm
          obtain ⟨j, hj, h3⟩ := List.mem_filterMap.1 hy
          have := hnd i j (List.getElem?_eq_some_iff.1 hL).1 (List.getElem?_eq_some_iff.1 h3).1 (by simp [hL, h3, h2])
          exact h1.1 (this ▸ hj)
    · intro a ha b hb hab
      subst hab
      obtain ⟨y, hy, h2⟩ := List.mem_map.1 ha
      obtain ⟨i, hii, h3⟩ := List.mem_filterMap.1 hy
      obtain ⟨z, hz, h4⟩ := List.mem_map.1 hb
      obtain ⟨j, hj⟩ := List.mem_iff_getElem?.1 hz
      rw [List.getElem?_drop] at hj
      have := hnd i (n + j) (List.getElem?_eq_some_iff.1 h3).1 (List.getElem?_eq_some_iff.1 hj).1 (by simp [h3, hj, h2, h4])
      have := hi.2 i hii
      omega
  · unfold pickL at hx
    rcases List.mem_append.1 hx with hx | hx
    · obtain ⟨i, _, h3⟩ := List.mem_filterMap.1 hx
      exact h.get x (List.mem_of_getElem? h3)
    · exact h.get x (List.mem_of_mem_drop hx)

/-- heaps in another order, and some of them alone -/
theorem Own.blk {m : Mem} (LL : List Heap) (idx : List Nat) (h : Own m LL.flatten) (hi : idx.Nodup) : Own m ((idx.map fun i => LL.getD i []).flatten) := by
  refine ⟨?_, fun x hx => ?_⟩
  · have h1 := h.nd
    rw [List.map_flatten] at h1 ⊢
    unfold List.Nodup at h1 ⊢
    rw [List.pairwise_flatten] at h1 ⊢
    obtain ⟨h2, h3⟩ := h1
    refine ⟨fun l hl => ?_, ?_⟩
    · simp only [List.mem_map] at hl
      obtain ⟨_, ⟨i, _, rfl⟩, rfl⟩ := hl
      by_cases hlt : i < LL.length
      · refine h2 _ (List.mem_map.2 ⟨_, ?_, rfl⟩)
        rw [List.getD_eq_getElem?_getD, List.getElem?_eq_getElem hlt]
        exact List.getElem_mem hlt
      · rw [List.getD_eq_getElem?_getD, List.getElem?_eq_none (by omega)]; simp
    · rw [List.map_map, List.pairwise_map]
      unfold List.Nodup at hi
      refine hi.imp ?_
      intro i j hij a ha b hb
      rw [List.pairwise_map, List.pairwise_iff_getElem] at h3
      simp only [Function.comp_apply, List.getD_eq_getElem?_getD] at ha hb
      by_cases hil : i < LL.length
      · by_cases hjl : j < LL.length
        · rw [List.getElem?_eq_getElem hil] at ha
          rw [List.getElem?_eq_getElem hjl] at hb
          rcases Nat.lt_or_gt_of_ne hij with h4 | h4
          · exact h3 i j hil hjl h4 a ha b hb
          · exact fun h5 => h3 j i hjl hil h4 b hb a ha h5.symm
        · rw [List.getElem?_eq_none (by omega)] at hb; simp at hb
      · rw [List.getElem?_eq_none (by omega)] at ha; simp at ha
  · obtain ⟨l, hl, hxl⟩ := List.mem_flatten.1 hx
    obtain ⟨i, _, rfl⟩ := List.mem_map.1 hl
    refine h.get x (List.mem_flatten.2 ⟨_, ?_, hxl⟩)
    by_cases hlt : i < LL.length
    · rw [List.getD_eq_getElem?_getD, List.getElem?_eq_getElem hlt]
      exact List.getElem_mem hlt
    · rw [List.getD_eq_getElem?_getD, List.getElem?_eq_none (by omega)] at hxl; simp at hxl

/-! ## an Option that has a result -/
def Ok {α : Type} (x : Option α) (P : α → Prop) : Prop := ∃ r, x = some r ∧ P r
section
variable {α β : Type} {P : β → Prop}
theorem Ok.some {r : β} (h : P r) : Ok (some r) P := ⟨r, rfl, h⟩
theorem Ok.bind {x : Option α} {K : α → Option β} {Q : α → Prop} (hx : Ok x Q) (h : ∀ r, Q r → Ok (K r) P) : Ok (x.bind K) P := by
  obtain ⟨r, rfl, hr⟩ := hx
  exact h r hr
theorem Ok.eq {x y : Option β} (e : x = y) (h : Ok y P) : Ok x P := e ▸ h
theorem Ok.mono {x : Option β} {Q : β → Prop} (hx : Ok x Q) (h : ∀ r, Q r → P r) : Ok x P := by
  obtain ⟨r, e, hr⟩ := hx
  exact ⟨r, e, h r hr⟩
theorem Ok.then_ {x : Option α} {v : α} {K : α → Option β} (e : x = Option.some v) (h : Ok (K v) P) : Ok (x.bind K) P := by rw [e]; exact h
theorem Ok.ite {c : Bool} {x y : Option β} (h1 : c = true → Ok x P) (h2 : c = false → Ok y P) : Ok (bif c then x else y) P := by
  cases c
  · exact h2 rfl
  · exact h1 rfl
theorem Ok.yes {c : Bool} {x y : Option β} (hc : c = true) (h1 : Ok x P) : Ok (bif c then x else y) P := by subst hc; exact h1
theorem Ok.no {c : Bool} {x y : Option β} (hc : c = false) (h1 : Ok y P) : Ok (bif c then x else y) P := by subst hc; exact h1
end

/-! ## loads and stores where the object is known -/
section
variable {α : Type} {P : α → Prop} {m : Mem} {b off : Nat} {sp : Option Nat} {cs : List Value}
theorem Own.ldInt {L : Heap} (h : Own m L) (n : Nat) (hn : L[n]? = some (b, .live cs)) {k : IntKind} {z : Int} (hc : cs[off]? = some (.int k z)) : ldInt k m ⟨b, off, sp⟩ = some z := ldInt_of (h.at n hn) hc
theorem Own.ldBool {L : Heap} (h : Own m L) (n : Nat) (hn : L[n]? = some (b, .live cs)) {z : Bool} (hc : cs[off]? = some (.bool z)) : ldBool m ⟨b, off, sp⟩ = some z := ldBool_of (h.at n hn) hc
theorem Own.st {L : Heap} (h : Own m L) (n : Nat) (hn : L[n]? = some (b, .live cs)) (v : Value) (hc : off < cs.length) :
    ∃ m', st m ⟨b, off, sp⟩ v = some m' ∧ Own m' (L.set n (b, .live (cs.set off v))) := ⟨_, st_of (h.at n hn) hc, h.put n hn _⟩
end

/-! ## rows of whole numbers, told by a function -/
def arr (k : IntKind) (n : Nat) (f : Int → Int) : List Value := (List.range n).map fun i : Nat => Value.int k (f (i : Int))
def barr (n : Nat) (f : Int → Bool) : List Value := (List.range n).map fun i : Nat => Value.bool (f (i : Int))
def upd {α : Type} (f : Int → α) (x : Int) (v : α) : Int → α := fun y => if y = x then v else f y
@[simp] theorem upd_same {α : Type} (f : Int → α) (x : Int) (v : α) : upd f x v x = v := by simp [upd]
theorem upd_ne {α : Type} {f : Int → α} {x y : Int} {v : α} (h : y ≠ x) : upd f x v y = f y := by simp [upd, h]
@[simp] theorem arr_length {k : IntKind} {n : Nat} {f : Int → Int} : (arr k n f).length = n := by simp [arr]
@[simp] theorem barr_length {n : Nat} {f : Int → Bool} : (barr n f).length = n := by simp [barr]
theorem arr_get {k : IntKind} {n : Nat} {f : Int → Int} {i : Nat} (h : i < n) : (arr k n f)[i]? = some (.int k (f i)) := by simp [arr, h]
theorem barr_get {n : Nat} {f : Int → Bool} {i : Nat} (h : i < n) : (barr n f)[i]? = some (.bool (f i)) := by simp [barr, h]
theorem arr_getI {k : IntKind} {n : Nat} {f : Int → Int} {x : Int} (h0 : 0 ≤ x) (h : x < n) : (arr k n f)[x.toNat]? = some (.int k (f x)) := by
  rw [arr_get (by omega)]; simp [Int.toNat_of_nonneg h0]
theorem barr_getI {n : Nat} {f : Int → Bool} {x : Int} (h0 : 0 ≤ x) (h : x < n) : (barr n f)[x.toNat]? = some (.bool (f x)) := by
  rw [barr_get (by omega)]; simp [Int.toNat_of_nonneg h0]
theorem arr_set {k : IntKind} {n : Nat} {f : Int → Int} {x : Int} {v : Int} (h0 : 0 ≤ x) : (arr k n f).set x.toNat (.int k v) = arr k n (upd f x v) := by
  apply List.ext_getElem?
  intro i
  rw [List.getElem?_set]
  by_cases hi : i < n
  · rw [arr_get hi, arr_get hi, arr_length]
    by_cases he : x.toNat = i
    · subst he
      simp [hi, Int.toNat_of_nonneg h0]
    · rw [if_neg he, upd_ne (by omega)]
  · rw [List.getElem?_eq_none (by simp; omega), List.getElem?_eq_none (by simp; omega)]
    simp; omega
theorem barr_set {n : Nat} {f : Int → Bool} {x : Int} {v : Bool} (h0 : 0 ≤ x) : (barr n f).set x.toNat (.bool v) = barr n (upd f x v) := by
  apply List.ext_getElem?
  intro i
  rw [List.getElem?_set]
  by_cases hi : i < n
  · rw [barr_get hi, barr_get hi, barr_length]
    by_cases he : x.toNat = i
    · subst he
      simp [hi, Int.toNat_of_nonneg h0]
    · rw [if_neg he, upd_ne (by omega)]
  · rw [List.getElem?_eq_none (by simp; omega), List.getElem?_eq_none (by simp; omega)]
    simp; omega
theorem arr_congr {k : IntKind} {n : Nat} {f g : Int → Int} (h : ∀ i : Int, 0 ≤ i → i < n → f i = g i) : arr k n f = arr k n g := by
  unfold arr
  apply List.map_congr_left
  intro i hi
  rw [h i (by omega) (by have := List.mem_range.1 hi; omega)]
theorem repl_one {n : Nat} {v : Value} : repl n [v] = List.replicate n v := by
  unfold repl
  induction n with
  | zero => rfl
  | succ n ih => simp [List.replicate_succ, ih]
theorem repl_int {k : IntKind} {n : Nat} {z : Int} : repl n [.int k z] = arr k n (fun _ => z) := by
  rw [repl_one]
  apply List.ext_getElem?
  intro i
  by_cases hi : i < n
  · rw [arr_get hi]; simp [hi]
  · rw [List.getElem?_eq_none (by simp; omega), List.getElem?_eq_none (by simp; omega)]
theorem repl_bool {n : Nat} {z : Bool} : repl n [.bool z] = barr n (fun _ => z) := by
  rw [repl_one]
  apply List.ext_getElem?
  intro i
  by_cases hi : i < n
  · rw [barr_get hi]; simp [hi]
  · rw [List.getElem?_eq_none (by simp; omega), List.getElem?_eq_none (by simp; omega)]
theorem inRange_yes {x : Int} {n : Nat} (h0 : 0 ≤ x) (h : x < n) : inRange x n = true := by simp [inRange, h0, h]

theorem beqI_yes {x y : Int} (h : x = y) : (x == y) = true := by simp [h]
theorem beqI_no {x y : Int} (h : x ≠ y) : (x == y) = false := by simp [h]
theorem bneI_yes {x y : Int} (h : x ≠ y) : (x != y) = true := by simp [h]
theorem bneI_no {x y : Int} (h : x = y) : (x != y) = false := by simp [h]
theorem inRange_no {x : Int} {n : Nat} (h : x < 0 ∨ (n : Int) ≤ x) : inRange x n = false := by
  simp only [inRange, Bool.and_eq_false_iff, decide_eq_false_iff_not]; omega
theorem inUpto_yes {x : Int} {n : Nat} (h0 : 0 ≤ x) (h : x ≤ n) : inUpto x n = true := by simp [inUpto, h0, h]
theorem isZero_no {x : Int} (h : x ≠ 0) : isZero x = false := by simp [isZero, h]
theorem tmod_pos {x y : Int} (h : 0 ≤ x) : Int.tmod x y = x % y := Int.tmod_eq_emod_of_nonneg h
theorem tdiv_pos {x y : Int} (h : 0 ≤ x) : Int.tdiv x y = x / y := Int.tdiv_eq_ediv_of_nonneg h
/-- an object is written -/
def wr (m : Mem) (b : Nat) (cs : List Value) : Mem := m.set b (.live cs)
section
variable {m : Mem} {p q : Nat} {cs cs' : List Value} {o : MObj}
theorem wr_same (h : m[p]? = some (.live cs)) : wr m p cs = m := by
  obtain ⟨h1, h2⟩ := List.getElem?_eq_some_iff.1 h
  unfold wr; rw [← h2]; simp
theorem wr_get (h : m[p]? = some o) : (wr m p cs)[p]? = some (.live cs) := by
  unfold wr; exact get_set_eq (List.getElem?_eq_some_iff.1 h).1
theorem wr_wr : wr (wr m p cs) p cs' = wr m p cs' := by unfold wr; simp
theorem wr_ne (h : p ≠ q) : (wr m p cs)[q]? = m[q]? := by unfold wr; simp [h]
theorem wr_len : (wr m p cs).length = m.length := by unfold wr; simp
theorem wr_app {g : Mem} (h : p < m.length) : wr (m ++ g) p cs = wr m p cs ++ g := by unfold wr; rw [List.set_append_left _ _ h]
theorem wr_last {cs : List Value} {n : Nat} (hn : m.length = n) : wr (m ++ [o]) n cs = m ++ [.live cs] := by subst hn; unfold wr; simp
theorem get_last {n : Nat} (hn : m.length = n) : (m ++ [o])[n]? = some o := by subst hn; simp
theorem st_wr {off : Nat} {sp : Option Nat} {v : Value} (h : m[p]? = some (.live cs)) (hc : off < cs.length) : st m ⟨p, off, sp⟩ v = some (wr m p (cs.set off v)) := st_of h hc
theorem stCells_wr {off : Nat} {sp : Option Nat} {vs : List Value} (h : m[p]? = some (.live cs)) (hc : off + vs.length ≤ cs.length) : stCells m ⟨p, off, sp⟩ vs = some (wr m p (cs.take off ++ vs ++ cs.drop (off + vs.length))) := stCells_of h hc
theorem Own.wr {L : Heap} (h : Own m L) (n : Nat) {b : Nat} (hn : L[n]? = some (b, o)) (cs : List Value) : Own (wr m b cs) (L.set n (b, .live cs)) := h.put n hn _
theorem Own.grow {L : Heap} (h : Own m L) (g : Mem) : Own (m ++ g) L := ⟨h.nd, fun x hx => by rw [List.getElem?_append_left (h.ltm hx)]; exact h.get x hx⟩
theorem Own.new2 {L : Heap} (h : Own m L) (o1 o2 : MObj) : Own (m ++ [o1, o2]) ((m.length + 1, o2) :: (m.length, o1) :: L) := by
  have := (h.new o1).new o2
  rw [List.append_assoc, List.length_append] at this
  exact this
theorem get_lt (h : m[p]? = some o) : p < m.length := (List.getElem?_eq_some_iff.1 h).1
theorem get_grow {g : Mem} (h : m[p]? = some o) : (m ++ g)[p]? = some o := by rw [List.getElem?_append_left (get_lt h)]; exact h
theorem get_new {m g : Mem} {o : MObj} : (m ++ o :: g)[m.length]? = some o := by simp
end

section
variable {m : Mem} {q n : Nat} {k : IntKind} {f : Int → Int} {fb : Int → Bool} {sp : Option Nat} {x : Int}
theorem arr_ld (h : m[q]? = some (.live (arr k n f))) (h0 : 0 ≤ x) (h1 : x < n) : ldInt k m ⟨q, x.toNat, sp⟩ = some (f x) := ldInt_of h (arr_getI h0 h1)
theorem arr_ldn {i : Nat} (h : m[q]? = some (.live (arr k n f))) (h1 : i < n) : ldInt k m ⟨q, i, sp⟩ = some (f i) := ldInt_of h (arr_get h1)
theorem arr_st {v : Int} (h : m[q]? = some (.live (arr k n f))) (h0 : 0 ≤ x) (h1 : x < n) : st m ⟨q, x.toNat, sp⟩ (.int k v) = some (wr m q (arr k n (upd f x v))) := by
  rw [st_wr h (by rw [arr_length]; omega), arr_set h0]
theorem arr_stn {v : Int} {i : Nat} (h : m[q]? = some (.live (arr k n f))) (h1 : i < n) : st m ⟨q, i, sp⟩ (.int k v) = some (wr m q (arr k n (upd f i v))) := by
  have := arr_st (sp := sp) (x := (i : Int)) (v := v) h (by omega) (by omega); simpa using this
theorem barr_ld (h : m[q]? = some (.live (barr n fb))) (h0 : 0 ≤ x) (h1 : x < n) : ldBool m ⟨q, x.toNat, sp⟩ = some (fb x) := ldBool_of h (barr_getI h0 h1)
theorem barr_ldn {i : Nat} (h : m[q]? = some (.live (barr n fb))) (h1 : i < n) : ldBool m ⟨q, i, sp⟩ = some (fb i) := ldBool_of h (barr_get h1)
theorem barr_st {v : Bool} (h : m[q]? = some (.live (barr n fb))) (h0 : 0 ≤ x) (h1 : x < n) : st m ⟨q, x.toNat, sp⟩ (.bool v) = some (wr m q (barr n (upd fb x v))) := by
  rw [st_wr h (by rw [barr_length]; omega), barr_set h0]
end
/-- of a row's flat elements -/
theorem Holds.ldIntI {o : MObj} {i : Nat} {p : Option Addr} {n : Nat} {cs : List Value} {m : Mem} {k : IntKind} (h : Holds o i p n [.int k] cs) (hm : m[i]? = some o) {x : Int} (h0 : 0 ≤ x) (hx : x < n) :
    Mx.ldInt k m ⟨i, x.toNat, none⟩ = some (intAt (cs.getD x.toNat undef)) := by
  have := h.ldInt hm (j := x.toNat) (q := 0) (k := k) (by omega) rfl (off := x.toNat) (by simp)
  simpa using this
theorem Holds.wfI {o : MObj} {i : Nat} {p : Option Addr} {n : Nat} {cs : List Value} {k : IntKind} (h : Holds o i p n [.int k] cs) {x : Int} (h0 : 0 ≤ x) (hx : x < n) :
    (Lit.int k (intAt (cs.getD x.toNat undef))).wf = true := by
  have := (h.int (j := x.toNat) (q := 0) (k := k) (by omega) rfl).1
  simpa using this

def countTo (s : Int → Int) (v : Int) : Nat → Int
  | 0 => 0
  | n + 1 => countTo s v n + if s n = v then 1 else 0
theorem countTo_le (s : Int → Int) (v : Int) (n : Nat) : 0 ≤ countTo s v n ∧ countTo s v n ≤ n := by
  induction n with
  | zero => simp [countTo]
  | succ n ih => unfold countTo; split <;> omega
theorem countTo_succ (s : Int → Int) (v : Int) (n : Nat) : countTo s v (n + 1) = countTo s v n + if s n = v then 1 else 0 := rfl
theorem isNil_nil : isNil .nilIface = some true := rfl
theorem isNil_iface {t : Nat} {v : Value} : isNil (.iface t v) = some false := rfl

theorem wrap_i64 {x : Int} (h1 : -9223372036854775808 ≤ x) (h2 : x < 9223372036854775808) : IntKind.wrap .i64 x = x := wrap_small h1 h2
end Go.Mx
