/- The plain law of FrontPlays: the frontier and the document's go together, op by op. -/
import Derived.Test.YtnilidpafijdlabFpl
import Derived.Test.YtnilidpafijdlabMxArgs
set_option linter.unusedVariables false
set_option linter.unusedSimpArgs false
namespace Go.Proofs.Ytnilidpafijdlab
open Go.Mx

/-- the memory: the argument, the example's frontier, the frontier, the document's, and what is left behind -/
def sm (o u : MObj) (s : Bool) (b i rb ri : Int) (g : Mem) : Mem := o :: u :: .live [.bool s, .int .i64 b, .int .i64 i] :: .live [.bool s, .int .i64 rb, .int .i64 ri] :: g
def fa : Addr := ⟨2, 0, none⟩
def ra : Addr := ⟨3, 0, none⟩
structure Inv (s : Bool) (b i rb ri : Int) : Prop where
  same : s = true → b = rb ∧ i = ri
  b : 0 ≤ b ∧ b < 12
  i : 0 ≤ i ∧ i ≤ 8
  rb : 0 ≤ rb ∧ rb < 12
  ri : 0 ≤ ri ∧ ri ≤ 8

def errV (c : Int) : Value := if c = 0 then .nilIface else .iface 57 (.int .i64 c)
def may (t i : Int) : Bool := decide (0 ≤ t ∧ t ≤ 24 ∧ i < 8 ∧ (t = 24 ∨ i < 6))

theorem pick_eq (k : Nat) (c n : Int) (m : Mem) (h1 : -9223372036854775808 ≤ c) (h2 : c < 9223372036854775808) (hn : 0 < n) : ∃ r, patinalaw13_pick k c n m = some (r, m) ∧ 0 ≤ r ∧ r < n := by
  unfold patinalaw13_pick patinalaw13_pick_j1
  have hz : isZero n = false := by simp [isZero]; omega
  rw [hz]
  have key : ∀ x : Int, 0 ≤ x → 0 ≤ Int.tmod x n ∧ Int.tmod x n < n := fun x hx => ⟨Int.tmod_nonneg _ hx, Int.tmod_lt_of_pos _ hn⟩
  by_cases hc : c < 0
  · simp only [decide_eq_true hc, cond_true, cond_false]
    have e1 := wrap_small (x := c + 1) (by omega) (by omega)
    have e2 := wrap_small (x := 0 - (c + 1)) (by omega) (by omega)
    rw [e1, e2]
    exact ⟨_, rfl, (key _ (by omega)).1, (key _ (by omega)).2⟩
  · simp only [decide_eq_false hc, cond_true, cond_false]
    exact ⟨_, rfl, (key _ (by omega)).1, (key _ (by omega)).2⟩

theorem place_eq (k : Nat) (b i : Int) (m : Mem) (hb : 0 ≤ b ∧ b < 12) (hi : 0 ≤ i) : geom_Place k b i m = if i < 8 then some (b * 8 + i, Value.nilIface, m) else some (0, Value.iface 57 (Value.int .i64 1), m) := by
  unfold geom_Place
  simp only [decide_eq_false (show ¬ b < 0 by omega), decide_eq_false (show ¬ b ≥ 12 by omega), decide_eq_false (show ¬ i < 0 by omega), cond_false]
  by_cases h : i < 8
  · rw [if_pos h, decide_eq_false (show ¬ i ≥ 8 by omega)]
    simp only [cond_false]
    rw [wrap_small (x := b * 8) (by omega) (by omega), wrap_small (by omega) (by omega)]
  · rw [if_neg h, decide_eq_true (show i ≥ 8 by omega)]
    rfl

theorem holds_eq (k : Nat) (p t : Int) (m : Mem) (hp : 0 ≤ p ∧ p < 96) : geom_Holds k p t m = if t < 0 ∨ t > 24 then some (false, Value.iface 57 (Value.int .i64 1), m) else some (decide (t = 24 ∨ p % 8 < 6), Value.nilIface, m) := by
  unfold geom_Holds geom_is
  simp only [decide_eq_true (show p ≥ 0 by omega), decide_eq_true (show p < 96 by omega), cond_true, Option.bind_some, Bool.not_true, cond_false]
  by_cases h1 : t < 0
  · rw [decide_eq_true h1, if_pos (.inl h1)]; rfl
  · by_cases h2 : t > 24
    · rw [decide_eq_false h1, decide_eq_true h2, if_pos (.inr h2)]; rfl
    · rw [decide_eq_false h1, decide_eq_false h2, if_neg (by omega), Int.tmod_eq_emod_of_nonneg hp.1]
      by_cases h : t = 24
      · subst h; simp
      · rw [show (t == 24) = false by simpa using h]; simp [h]

theorem rholds_eq (k : Nat) (p t : Int) (m : Mem) (hp : 0 ≤ p ∧ p < 96) : patinaref04_Holds k p t m = if t < 0 ∨ t > 24 then some (false, 1, m) else some (decide (t = 24 ∨ p % 8 < 6), 0, m) := by
  unfold patinaref04_Holds patinaref04_Is
  simp only [decide_eq_true (show p ≥ 0 by omega), decide_eq_true (show p ≤ 95 by omega), cond_true, Option.bind_some, Bool.not_true, cond_false]
  by_cases h1 : t < 0
  · rw [decide_eq_true h1, if_pos (.inl h1)]; rfl
  · by_cases h2 : t > 24
    · rw [decide_eq_false h1, decide_eq_true h2, if_pos (.inr h2)]; rfl
    · rw [decide_eq_false h1, decide_eq_false h2, if_neg (by omega), Int.tmod_eq_emod_of_nonneg hp.1]
      by_cases h : t = 24
      · subst h; simp
      · rw [show (t == 24) = false by simpa using h]; simp [h]

section
variable (k : Nat) (o u : MObj) (s : Bool) (b i rb ri : Int) (g : Mem)
theorem fo : ldBool (sm o u s b i rb ri g) (plus fa 0) = some s := rfl
theorem fb : ldInt .i64 (sm o u s b i rb ri g) (plus fa 1) = some b := rfl
theorem fi : ldInt .i64 (sm o u s b i rb ri g) (plus fa 2) = some i := rfl
theorem ro : ldBool (sm o u s b i rb ri g) (plus ra 0) = some s := rfl
theorem rB : ldInt .i64 (sm o u s b i rb ri g) (plus ra 1) = some rb := rfl
theorem rI : ldInt .i64 (sm o u s b i rb ri g) (plus ra 2) = some ri := rfl

theorem room_f (h : Inv s b i rb ri) (t : Int) : front_Front_Room k (some fa) t (sm o u s b i rb ri g) = some (s && may t i, sm o u s b i rb ri g) := by
  unfold front_Front_Room
  simp only [Option.bind_some, fb, fi]
  rw [place_eq k b i _ h.b h.i.1]
  by_cases h8 : i < 8
  · simp only [if_pos h8, Option.bind_some, fo]
    cases s
    · rfl
    · simp only [Bool.not_true, cond_false, isNil, Option.bind_some]
      have hb := h.b; have hi := h.i
      rw [holds_eq k _ t _ (by omega)]
      by_cases ht : t < 0 ∨ t > 24
      · rw [if_pos ht]
        have : may t i = false := by unfold may; exact decide_eq_false (by omega)
        rw [this]; rfl
      · rw [if_neg ht]
        have : may t i = decide (t = 24 ∨ (b * 8 + i) % 8 < 6) := by unfold may; exact decide_eq_decide.2 (by omega)
        rw [this]
        simp only [Option.bind_some]
        cases decide (t = 24 ∨ (b * 8 + i) % 8 < 6) <;> rfl
  · simp only [if_neg h8, Option.bind_some, fo]
    have : may t i = false := by unfold may; exact decide_eq_false (by omega)
    rw [this]
    cases s <;> rfl

theorem room_r (hb : 0 ≤ rb ∧ rb < 12) (hi : 0 ≤ ri ∧ ri ≤ 8) (t : Int) : patinaref13_Front_Room k (some ra) t (sm o u s b i rb ri g) = some (s && may t ri, sm o u s b i rb ri g) := by
  unfold patinaref13_Front_Room
  simp only [Option.bind_some, ro, rB, rI]
  cases s
  · rfl
  · simp only [Bool.not_true, cond_false]
    by_cases h8 : ri > 7
    · rw [decide_eq_true h8]
      have : may t ri = false := by unfold may; exact decide_eq_false (by omega)
      rw [this]; rfl
    · rw [decide_eq_false h8, wrap_small (x := 8 * rb) (by omega) (by omega), wrap_small (by omega) (by omega), rholds_eq k _ t _ (by omega)]
      by_cases ht : t < 0 ∨ t > 24
      · rw [if_pos ht]
        have : may t ri = false := by unfold may; exact decide_eq_false (by omega)
        rw [this]; rfl
      · rw [if_neg ht]
        have : may t ri = decide (t = 24 ∨ (8 * rb + ri) % 8 < 6) := by unfold may; exact decide_eq_decide.2 (by omega)
        rw [this]; rfl

def tkc (t : Int) (s : Bool) (i : Int) : Int := if t < 0 ∨ t > 24 then 1 else if s = false then 11 else if may t i then 0 else 10

theorem take_f (h : Inv s b i rb ri) (t : Int) : front_Front_Take k (some fa) t (sm o u s b i rb ri g) = some (if tkc t s i = 0 then b * 8 + i else 0, errV (tkc t s i), if tkc t s i = 0 then sm o u s b (i + 1) rb ri g else sm o u s b i rb ri g) := by
  unfold front_Front_Take
  by_cases h1 : t < 0
  · rw [decide_eq_true h1, show tkc t s i = 1 from if_pos (.inl h1)]; rfl
  · by_cases h2 : t > 24
    · rw [decide_eq_false h1, decide_eq_true h2, show tkc t s i = 1 from if_pos (.inr h2)]; rfl
    · have hc : tkc t s i = if s = false then 11 else if may t i then 0 else 10 := if_neg (by omega)
      rw [decide_eq_false h1, decide_eq_false h2, hc]
      simp only [cond_false, Option.bind_some, fo]
      cases s
      · rfl
      · simp only [Bool.not_true, cond_false, room_f k o u true b i rb ri g h t, Option.bind_some, Bool.true_and]
        have hb := h.b; have hi := h.i
        cases hm : may t i
        · rfl
        · have hm' : i < 8 := by unfold may at hm; rw [decide_eq_true_eq] at hm; omega
          simp only [Bool.not_true, cond_false, fi]
          have hs : st (sm o u true b i rb ri g) (plus fa 2) (Value.int .i64 (IntKind.wrap .i64 (i + 1))) = some (sm o u true b (i + 1) rb ri g) := by
            rw [wrap_small (x := i + 1) (by omega) (by omega)]; rfl
          simp only [hs, Option.bind_some, fb, fi]
          rw [wrap_small (x := i + 1 - 1) (by omega) (by omega), show i + 1 - 1 = i by omega, place_eq k b i _ h.b h.i.1, if_pos hm']
          rfl

theorem take_r (hb : 0 ≤ rb ∧ rb < 12) (hi : 0 ≤ ri ∧ ri ≤ 8) (t : Int) : patinaref13_Front_Take k (some ra) t (sm o u s b i rb ri g) = some (if tkc t s ri = 0 then rb * 8 + ri else 0, tkc t s ri, if tkc t s ri = 0 then sm o u s b i rb (ri + 1) g else sm o u s b i rb ri g) := by
  unfold patinaref13_Front_Take
  rw [room_r k o u s b i rb ri g hb hi t]
  simp only [Option.bind_some]
  by_cases h1 : t < 0
  · rw [decide_eq_true h1, show tkc t s ri = 1 from if_pos (.inl h1)]; rfl
  · by_cases h2 : t > 24
    · rw [decide_eq_false h1, decide_eq_true h2, show tkc t s ri = 1 from if_pos (.inr h2)]; rfl
    · have hc : tkc t s ri = if s = false then 11 else if may t ri then 0 else 10 := if_neg (by omega)
      rw [decide_eq_false h1, decide_eq_false h2, hc]
      simp only [cond_false, Option.bind_some, ro]
      cases s
      · rfl
      · simp only [Bool.not_true, cond_false, Option.bind_some, Bool.true_and]
        cases hm : may t ri
        · rfl
        · have hm' : ri < 8 := by unfold may at hm; rw [decide_eq_true_eq] at hm; omega
          simp only [Bool.not_true, cond_false, rI]
          have hs : st (sm o u true b i rb ri g) (plus ra 2) (Value.int .i64 (IntKind.wrap .i64 (ri + 1))) = some (sm o u true b i rb (ri + 1) g) := by
            rw [wrap_small (x := ri + 1) (by omega) (by omega)]; rfl
          simp only [hs, Option.bind_some, rB, rI]
          rw [wrap_small (x := 8 * rb) (by omega) (by omega), wrap_small (x := 8 * rb + (ri + 1)) (by omega) (by omega), wrap_small (x := 8 * rb + (ri + 1) - 1) (by omega) (by omega), show 8 * rb + (ri + 1) - 1 = rb * 8 + ri by omega]
          rfl
end

def sq (o u : MObj) (fs : Bool) (b i : Int) (rs : Bool) (rb ri : Int) (g : Mem) : Mem := o :: u :: .live [.bool fs, .int .i64 b, .int .i64 i] :: .live [.bool rs, .int .i64 rb, .int .i64 ri] :: g
def okp (p q : Int) : Prop := 0 ≤ p ∧ p < 12 ∧ 0 ≤ q ∧ q ≤ 8

section
variable (k : Nat) (o u : MObj) (s fs : Bool) (b i rb ri : Int) (g : Mem)
theorem open_f (p q : Int) : (okp p q ∧ front_Front_Open k (some fa) p q (sm o u s b i rb ri g) = some (errV 0, sq o u true p q s rb ri g)) ∨ (¬ okp p q ∧ front_Front_Open k (some fa) p q (sm o u s b i rb ri g) = some (errV 1, sq o u s b i s rb ri g)) := by
  unfold front_Front_Open okp
  by_cases h1 : p < 0
  · right; rw [decide_eq_true h1]; exact ⟨by omega, rfl⟩
  · by_cases h2 : p ≥ 12
    · right; rw [decide_eq_false h1, decide_eq_true h2]; exact ⟨by omega, rfl⟩
    · by_cases h3 : q < 0
      · right; rw [decide_eq_false h1, decide_eq_false h2, decide_eq_true h3]; exact ⟨by omega, rfl⟩
      · by_cases h4 : q > 8
        · right; rw [decide_eq_false h1, decide_eq_false h2, decide_eq_false h3, decide_eq_true h4]; exact ⟨by omega, rfl⟩
        · left; rw [decide_eq_false h1, decide_eq_false h2, decide_eq_false h3, decide_eq_false h4]; exact ⟨by omega, rfl⟩
theorem open_r (p q : Int) : patinaref13_Front_Open k (some ra) p q (sq o u fs b i s rb ri g) = if 0 ≤ p ∧ p < 12 ∧ 0 ≤ q ∧ q ≤ 8 then some (0, sq o u fs b i true p q g) else some (1, sq o u fs b i s rb ri g) := by
  unfold patinaref13_Front_Open
  by_cases h1 : p < 0
  · rw [decide_eq_true h1, if_neg (by omega)]; rfl
  · by_cases h2 : p > 11
    · rw [decide_eq_false h1, decide_eq_true h2, if_neg (by omega)]; rfl
    · by_cases h3 : q < 0
      · rw [decide_eq_false h1, decide_eq_false h2, decide_eq_true h3, if_neg (by omega)]; rfl
      · by_cases h4 : q > 8
        · rw [decide_eq_false h1, decide_eq_false h2, decide_eq_false h3, decide_eq_true h4, if_neg (by omega)]; rfl
        · rw [decide_eq_false h1, decide_eq_false h2, decide_eq_false h3, decide_eq_false h4, if_pos (by omega)]; rfl
theorem close_f : front_Front_Close k (some fa) (sm o u s b i rb ri g) = some (sq o u false 0 0 s rb ri g) := rfl
theorem close_r : st (sq o u false 0 0 s rb ri g) (plus ra 0) (Value.bool false) = some (sm o u false 0 0 rb ri g) := rfl
end

theorem code_eq (k : Nat) (m : Mem) : ∀ c, c = 0 ∨ c = 1 ∨ c = 10 ∨ c = 11 → patinalaw00_Code k (errV c) m = some (c, m) := by
  rintro c (rfl | rfl | rfl | rfl) <;> rfl
theorem tkc_cases (t : Int) (s : Bool) (i : Int) : tkc t s i = 0 ∨ tkc t s i = 1 ∨ tkc t s i = 10 ∨ tkc t s i = 11 := by
  unfold tkc
  by_cases h : t < 0 ∨ t > 24
  · rw [if_pos h]; exact .inr (.inl rfl)
  · rw [if_neg h]
    cases s
    · exact .inr (.inr (.inr rfl))
    · cases may t i
      · exact .inr (.inr (.inl rfl))
      · exact .inl rfl
theorem tkc_zero {t : Int} {s : Bool} {i : Int} (h : tkc t s i = 0) : s = true ∧ may t i = true := by
  unfold tkc at h
  by_cases h1 : t < 0 ∨ t > 24
  · rw [if_pos h1] at h; omega
  · rw [if_neg h1] at h
    cases s
    · simp at h
    · cases hm : may t i
      · rw [hm] at h; simp at h
      · exact ⟨rfl, rfl⟩

section
variable {k : Nat} {o u : MObj} {s : Bool} {b i rb ri : Int} {g : Mem}
theorem ldl (fs rs : Bool) (b' i' rb' ri' x y z : Int) (off : Nat) : ldInt .i64 (sq o u fs b' i' rs rb' ri' (g ++ [.live [.int .i64 x, .int .i64 y, .int .i64 z]])) (plus ⟨List.length (sm o u s b i rb ri g), 0, none⟩ off) = cInt .i64 [.int .i64 x, .int .i64 y, .int .i64 z] off := by
  have : (sq o u fs b' i' rs rb' ri' (g ++ [.live [.int .i64 x, .int .i64 y, .int .i64 z]]))[(sm o u s b i rb ri g).length]? = some (.live [.int .i64 x, .int .i64 y, .int .i64 z]) := by
    simp [sq, sm]
  simp only [ldInt, plus, Mem.cells, this, Option.bind_some, MObj.cells, Nat.zero_add]

theorem j1_eq {p : Option Addr} {n c j : Nat} (nx : Option Addr → Nat → Nat → Bool → Addr → Addr → Int → Mem → Option (Bool × Mem)) (kx0 : Bool → Mem → Option (Bool × Mem)) (h : Inv s b i rb ri) (hj : (j : Int) < 9223372036854775807) :
    patinalaw13_FrontPlays_j1 k p n c true fa ra (j : Int) nx kx0 (sm o u s b i rb ri g) = nx p n c true fa ra ((j + 1 : Nat) : Int) (sm o u s b i rb ri g) := by
  unfold patinalaw13_FrontPlays_j1 patinalaw13_FrontPlays_j2 front_Front_Block
  simp only [Option.bind_some, fo, fb, ro, rB]
  have e4 : IntKind.wrap .i64 ((j : Int) + 1) = ((j + 1 : Nat) : Int) := by rw [wrap_small (by omega) (by omega)]; omega
  cases s
  · simp only [cond_false, Bool.not_false, cond_true, e4]
    rfl
  · obtain ⟨h1, h2⟩ := h.same rfl
    subst h1
    simp only [cond_true, Bool.not_true, cond_false, Option.bind_some, bne_self_eq_false, e4]

theorem round_eq (nx : Option Addr → Nat → Nat → Bool → Addr → Addr → Int → Mem → Option (Bool × Mem)) (kx0 kx2 : Bool → Mem → Option (Bool × Mem)) {p : Option Addr} {n c : Nat} {cs : List Value}
    (hh : Holds o 0 p n [.int .i64, .int .i64, .int .i64] cs) (hn : n * 24 ≤ 140737488351232) (hI : Inv s b i rb ri) {j : Nat} (hj : j < n) :
    ∃ s' b' i' rb' ri' g', Inv s' b' i' rb' ri' ∧ patinalaw13_FrontPlays_l0_b k nx kx0 kx2 p n c true fa ra (j : Int) (sm o u s b i rb ri g) = nx p n c true fa ra ((j + 1 : Nat) : Int) (sm o u s' b' i' rb' ri' g') := by
  have hp := hh.ptr hj
  subst hp
  have hcl := hh.ldCells (m := sm o u s b i rb ri g) rfl hj (by decide)
  have i0 := hh.int hj (q := 0) rfl
  have i1 := hh.int hj (q := 1) rfl
  have i2 := hh.int hj (q := 2) rfl
  simp only [List.length_cons, List.length_nil] at hcl i0 i1 i2
  generalize hx : intAt (cs.getD (j * (0 + 1 + 1 + 1) + 0) undef) = x at i0
  generalize hy : intAt (cs.getD (j * (0 + 1 + 1 + 1) + 1) undef) = y at i1
  generalize hz : intAt (cs.getD (j * (0 + 1 + 1 + 1) + 2) undef) = z at i2
  have hcl' : ldCells (sm o u s b i rb ri g) (plus ⟨0, 0, none⟩ (Int.toNat (j : Int) * 3)) 3 = some [.int .i64 x, .int .i64 y, .int .i64 z] := by
    rw [Int.toNat_natCast]
    show ldCells _ ⟨0, 0 + j * 3, none⟩ 3 = _
    rw [Nat.zero_add]
    refine hcl.trans ?_
    rw [show (List.range (0 + 1 + 1 + 1)) = [0, 1, 2] from rfl]
    simp only [List.map_cons, List.map_nil, i0.2, i1.2, i2.2]
  have w0 := wf_i64 i0.1
  have e1 : decide ((j : Int) < (n : Int)) = true := decide_eq_true (by omega)
  have e2 : inRange (j : Int) n = true := by simp [inRange]; omega
  have est : stCells (sm o u s b i rb ri g ++ [.live (tt 46).zero]) ⟨List.length (sm o u s b i rb ri g), 0, none⟩ [.int .i64 x, .int .i64 y, .int .i64 z] = some (sm o u s b i rb ri (g ++ [.live [.int .i64 x, .int .i64 y, .int .i64 z]])) := by
    have h1 : (sm o u s b i rb ri g ++ [.live (tt 46).zero])[(sm o u s b i rb ri g).length]? = some (.live (tt 46).zero) := by simp
    simp only [stCells, Mem.wcells, h1, Option.bind_some, MObj.wcells]
    show ((setCells [.int .i64 0, .int .i64 0, .int .i64 0] 0 [.int .i64 x, .int .i64 y, .int .i64 z]).bind _) = _
    simp only [setCells, List.length_cons, List.length_nil, Nat.le_refl, if_true, Option.bind_some]
    simp [sm]
  generalize hL : (⟨List.length (sm o u s b i rb ri g), 0, none⟩ : Addr) = L at est
  have l0 : ∀ fs rs b' i' rb' ri', ldInt .i64 (sq o u fs b' i' rs rb' ri' (g ++ [.live [.int .i64 x, .int .i64 y, .int .i64 z]])) (plus L 0) = some x := fun fs rs b' i' rb' ri' => by rw [← hL, ldl]; rfl
  have l1 : ∀ fs rs b' i' rb' ri', ldInt .i64 (sq o u fs b' i' rs rb' ri' (g ++ [.live [.int .i64 x, .int .i64 y, .int .i64 z]])) (plus L 1) = some y := fun fs rs b' i' rb' ri' => by rw [← hL, ldl]; rfl
  have l2 : ∀ fs rs b' i' rb' ri', ldInt .i64 (sq o u fs b' i' rs rb' ri' (g ++ [.live [.int .i64 x, .int .i64 y, .int .i64 z]])) (plus L 2) = some z := fun fs rs b' i' rb' ri' => by rw [← hL, ldl]; rfl
  generalize g ++ [.live [.int .i64 x, .int .i64 y, .int .i64 z]] = g' at est l0 l1 l2
  have m0 : ∀ s b' i' rb' ri', ldInt .i64 (sm o u s b' i' rb' ri' g') (plus L 0) = some x := fun s b' i' rb' ri' => l0 s s b' i' rb' ri'
  have m1 : ∀ s b' i' rb' ri', ldInt .i64 (sm o u s b' i' rb' ri' g') (plus L 1) = some y := fun s b' i' rb' ri' => l1 s s b' i' rb' ri'
  have m2 : ∀ s b' i' rb' ri', ldInt .i64 (sm o u s b' i' rb' ri' g') (plus L 2) = some z := fun s b' i' rb' ri' => l2 s s b' i' rb' ri'
  obtain ⟨t, hp, ht1, ht2⟩ := pick_eq k x 6 (sm o u s b i rb ri g') w0.1 w0.2 (by omega)
  have hjj : (j : Int) < 9223372036854775807 := by omega
  have J := fun s b i rb ri (h : Inv s b i rb ri) => j1_eq (k := k) (o := o) (u := u) (g := g') (p := some ⟨0, 0, none⟩) (n := n) (c := c) (j := j) nx kx0 h hjj
  unfold patinalaw13_FrontPlays_l0_b
  simp only [e1, e2, cond_true, Option.bind_some, hcl', hL, est, m0, hp]
  show ∃ s' b' i' rb' ri' g', Inv s' b' i' rb' ri' ∧ (bif t == 0 then _ else _) = _
  by_cases t0 : t = 0
  · subst t0
    simp only [beq_self_eq_true, cond_true, m1, m2, Option.bind_some]
    rcases open_f k o u s b i rb ri g' y z with ⟨hok, he⟩ | ⟨hok, he⟩
    · have hok' : 0 ≤ y ∧ y < 12 ∧ 0 ≤ z ∧ z ≤ 8 := hok
      refine ⟨true, y, z, y, z, g', ⟨fun _ => ⟨rfl, rfl⟩, ⟨hok.1, hok.2.1⟩, hok.2.2, ⟨hok.1, hok.2.1⟩, hok.2.2⟩, ?_⟩
      simp only [he, Option.bind_some, code_eq k _ 0 (.inl rfl), l1, l2, open_r, if_pos hok', beq_self_eq_true, cond_true, bne_self_eq_false, cond_false]
      exact J true y z y z ⟨fun _ => ⟨rfl, rfl⟩, ⟨hok.1, hok.2.1⟩, hok.2.2, ⟨hok.1, hok.2.1⟩, hok.2.2⟩
    · refine ⟨s, b, i, rb, ri, g', hI, ?_⟩
      have hok' : ¬ (0 ≤ y ∧ y < 12 ∧ 0 ≤ z ∧ z ≤ 8) := hok
      simp only [he, Option.bind_some, code_eq k _ 1 (.inr (.inl rfl)), l1, l2, open_r, if_neg hok', beq_self_eq_true, cond_true, bne_self_eq_false, cond_false]
      exact J s b i rb ri hI
  · have take : ∃ s' b' i' rb' ri' g'', Inv s' b' i' rb' ri' ∧ ((ldInt .i64 (sm o u s b i rb ri g') (plus L 1)).bind fun t22 =>
        (front_Front_Take k (some fa) t22 (sm o u s b i rb ri g')).bind fun r23 =>
        (ldInt .i64 r23.2.2 (plus L 1)).bind fun t24 =>
        (patinaref13_Front_Take k (some ra) t24 r23.2.2).bind fun r25 =>
        bif r23.1 != r25.1 then (
        kx0 false r25.2.2) else (
        (patinalaw00_Code k r23.2.1 r25.2.2).bind fun r26 =>
        bif r26.1 != r25.2.1 then (
        kx0 false r26.2) else (
        patinalaw13_FrontPlays_j1 k (some ⟨0, 0, none⟩) n c true fa ra (j : Int) nx kx0 r26.2))) = nx (some ⟨0, 0, none⟩) n c true fa ra ((j + 1 : Nat) : Int) (sm o u s' b' i' rb' ri' g'') := by
      simp only [m1, Option.bind_some, take_f k o u s b i rb ri g' hI y]
      have hti : tkc y s i = tkc y s ri := by
        cases s
        · rfl
        · rw [(hI.same rfl).2]
      by_cases hc : tkc y s i = 0
      · obtain ⟨hs, hm⟩ := tkc_zero hc
        subst hs
        obtain ⟨hb, hi⟩ := hI.same rfl
        subst hb; subst hi
        have hi8 : 0 ≤ i ∧ i < 8 := ⟨hI.i.1, by unfold may at hm; rw [decide_eq_true_eq] at hm; omega⟩
        refine ⟨true, b, i + 1, b, i + 1, g', ⟨fun _ => ⟨rfl, rfl⟩, hI.b, by omega, hI.b, by omega⟩, ?_⟩
        simp only [hc, if_true, Option.bind_some, m1, take_r k o u true b (i + 1) b i g' hI.rb hI.ri y, bne_self_eq_false, cond_false, code_eq k _ 0 (.inl rfl)]
        exact J true b (i + 1) b (i + 1) ⟨fun _ => ⟨rfl, rfl⟩, hI.b, by omega, hI.b, by omega⟩
      · refine ⟨s, b, i, rb, ri, g', hI, ?_⟩
        simp only [if_neg hc, Option.bind_some, m1, take_r k o u s b i rb ri g' hI.rb hI.ri y]
        rw [hti] at hc
        simp only [if_neg hc, hti, bne_self_eq_false, cond_false, code_eq k _ _ (tkc_cases y s ri), Option.bind_some]
        exact J s b i rb ri hI
    rw [show (t == 0) = false by simpa using t0]
    simp only [cond_false]
    by_cases t1 : t = 1
    · subst t1
      unfold patinalaw13_FrontPlays_j3
      simp only [hL, beq_self_eq_true, cond_true]
      exact take
    · rw [show (t == 1) = false by simpa using t1]
      simp only [cond_false]
      unfold patinalaw13_FrontPlays_j3
      by_cases t2 : t = 2
      · subst t2
        simp only [hL, beq_self_eq_true, cond_true]
        exact take
      · rw [show (t == 2) = false by simpa using t2]
        simp only [cond_false, hL]
        by_cases t3 : t = 3
        · subst t3
          refine ⟨s, b, i, rb, ri, g', hI, ?_⟩
          have hmm : (s && may y i) = (s && may y ri) := by
            cases s
            · rfl
            · rw [(hI.same rfl).2]
          simp only [beq_self_eq_true, cond_true, m1, Option.bind_some, room_f k o u s b i rb ri g' hI y, room_r k o u s b i rb ri g' hI.rb hI.ri y, hmm, Bool.not_true, cond_false]
          exact J s b i rb ri hI
        · rw [show (t == 3) = false by simpa using t3]
          simp only [cond_false]
          by_cases t4 : t = 4
          · subst t4
            refine ⟨false, 0, 0, rb, ri, g', ⟨fun h => (by cases h), by omega, by omega, hI.rb, hI.ri⟩, ?_⟩
            simp only [beq_self_eq_true, cond_true, close_f, close_r, Option.bind_some]
            exact J false 0 0 rb ri ⟨fun h => (by cases h), by omega, by omega, hI.rb, hI.ri⟩
          · rw [show (t == 4) = false by simpa using t4]
            simp only [cond_false]
            exact ⟨s, b, i, rb, ri, g', hI, J s b i rb ri hI⟩

theorem loop_eq (kx0 kx2 : Bool → Mem → Option (Bool × Mem)) {p : Option Addr} {n c : Nat} {cs : List Value}
    (hh : Holds o 0 p n [.int .i64, .int .i64, .int .i64] cs) (hn : n * 24 ≤ 140737488351232) :
    ∀ (d j f : Nat) (s : Bool) (b i rb ri : Int) (g : Mem), j + d = n → d < f → Inv s b i rb ri → ∃ m', patinalaw13_FrontPlays_l0 k kx0 kx2 f p n c true fa ra (j : Int) (sm o u s b i rb ri g) = kx2 true m'
  | 0, j, f + 1, s, b, i, rb, ri, g, h1, h2, hI => by
    refine ⟨sm o u s b i rb ri g, ?_⟩
    unfold patinalaw13_FrontPlays_l0 patinalaw13_FrontPlays_l0_b
    rw [decide_eq_false (show ¬ (j : Int) < (n : Int) by omega)]
    rfl
  | d + 1, j, f + 1, s, b, i, rb, ri, g, h1, h2, hI => by
    unfold patinalaw13_FrontPlays_l0
    obtain ⟨s', b', i', rb', ri', g', hI', h3⟩ := round_eq (k := k) (u := u) (g := g) (fun x0a x0n x0c x3 x4 x5 x6 m => patinalaw13_FrontPlays_l0 k kx0 kx2 f x0a x0n x0c x3 x4 x5 x6 m) kx0 kx2 (c := c) hh hn hI (show j < n by omega)
    rw [h3]
    exact loop_eq kx0 kx2 hh hn d (j + 1) f s' b' i' rb' ri' g' (by omega) (by omega) hI'
end

theorem up_eq (k : Nat) (o : MObj) : patinalaw13_up k [o] = some (true, [o, .live [.bool true, .int .i64 2, .int .i64 7]]) := rfl

theorem frontPlays_run (o : MObj) (p : Option Addr) (n c : Nat) (cs : List Value) (hh : Holds o 0 p n [.int .i64, .int .i64, .int .i64] cs) (hc : n ≤ c) (hn : n * 24 ≤ 140737488351232) : ∃ k m', patinalaw13_FrontPlays k p n c [o] = some (true, m') := by
  obtain ⟨m', hl⟩ := loop_eq (k := n + 1) (u := .live [.bool true, .int .i64 2, .int .i64 7]) (fun y2 m34 => some (y2, m34)) (fun y3 m35 => some (y3, m35)) (c := c) hh hn n 0 (n + 1) false 0 0 0 0 [] (by omega) (by omega) ⟨fun h => (by cases h), by omega, by omega, by omega, by omega⟩
  exact ⟨n + 1, m', hl⟩
end Go.Proofs.Ytnilidpafijdlab
