/- The plain law of PatrolPlays. -/
import Derived.Test.YtnilidpafijdlacPpl
import Derived.Test.YtnilidpafijdlacMxLaw
set_option linter.unusedVariables false
set_option linter.unusedSimpArgs false
namespace Go.Proofs.Ytnilidpafijdlac
open Go.Mx

theorem pick_eq (k : Nat) (c n : Int) (m : Mem) (h1 : -9223372036854775808 ≤ c) (h2 : c < 9223372036854775808) (hn : 0 < n) : ∃ r, patinalaw15_pick k c n m = some (r, m) ∧ 0 ≤ r ∧ r < n := by
  unfold patinalaw15_pick patinalaw15_pick_j1
  have hz : isZero n = false := by simp [isZero]; omega
  rw [hz]
  by_cases hc : c < 0
  · simp only [decide_eq_true hc, cond_true, cond_false]
    have e1 := wrap_small (x := c + 1) (by omega) (by omega)
    have e2 := wrap_small (x := 0 - (c + 1)) (by omega) (by omega)
    rw [e1, e2]
    exact ⟨_, rfl, pick_core hn (by omega)⟩
  · simp only [decide_eq_false hc, cond_true, cond_false]
    exact ⟨_, rfl, pick_core hn (by omega)⟩

theorem on_eq (k : Nat) (c : Int) (m : Mem) (hc : 0 ≤ c ∧ c < 96) : geom_On k c 1 m = some ((c + 1) % 96, Value.nilIface, m) := by
  unfold geom_On geom_is
  simp only [decide_eq_true (show c ≥ 0 by omega), decide_eq_true (show c < 96 by omega), cond_true, Option.bind_some, Bool.not_true, cond_false]
  have e : Int.tmod 1 96 = 1 := by decide
  rw [e, wrap_small (x := c + 1) (by omega) (by omega), wrap_small (x := c + 1 + 96) (by omega) (by omega), Int.tmod_eq_emod_of_nonneg (by omega)]
  congr 2; omega

/-- the row that a Step tells, from a cursor on -/
def rowOf (c : Int) (n : Nat) : List Value := (List.range n).map fun q : Nat => Value.int .i64 ((c + (q : Int)) % 96)

theorem step_round (k : Nat) (nx : Option Addr → Option Addr → Nat → Nat → Int → Int → Mem → Option (Sl × Mem)) (kx2 : Option Addr → Option Addr → Nat → Nat → Mem → Option (Sl × Mem)) {p L : Nat} {m : Mem} {c n : Int} {row : List Value} {i : Nat}
    (hpL : p ≠ L) (hp : m[p]? = some (.live [.int .i64 c, .int .i64 n])) (hL : m[L]? = some (.live row)) (hc : 0 ≤ c ∧ c < 96) (hi : i < 8) (hr : row.length = 8) :
    patrol_Patrol_Step_l0_b k nx kx2 (some ⟨p, 0, none⟩) (some ⟨L, 0, none⟩) 8 8 8 (i : Int) m =
      nx (some ⟨p, 0, none⟩) (some ⟨L, 0, none⟩) 8 8 8 ((i + 1 : Nat) : Int) ((m.set L (.live (row.set i (.int .i64 c)))).set p (.live [.int .i64 ((c + 1) % 96), .int .i64 n])) := by
  unfold patrol_Patrol_Step_l0_b
  have e1 : decide ((i : Int) < 8) = true := decide_eq_true (by omega)
  have e2 : inRange (i : Int) 8 = true := by simp [inRange]; omega
  have e4 : IntKind.wrap .i64 ((i : Int) + 1) = ((i + 1 : Nat) : Int) := by rw [wrap_small (by omega) (by omega)]; omega
  have l1 : ldInt .i64 m (plus ⟨p, 0, none⟩ 0) = some c := ldInt_of hp rfl
  have s1 : st m (plus ⟨L, 0, none⟩ (Int.toNat (i : Int) * 1)) (.int .i64 c) = some (m.set L (.live (row.set i (.int .i64 c)))) := by
    rw [Int.toNat_natCast, Nat.mul_one]
    have := st_of (sp := none) (v := Value.int .i64 c) hL (off := i) (by omega)
    simpa [plus] using this
  have hp2 : (m.set L (.live (row.set i (.int .i64 c))))[p]? = some (.live [.int .i64 c, .int .i64 n]) := (get_set_ne (Ne.symm hpL)).trans hp
  have l2 : ldInt .i64 (m.set L (.live (row.set i (.int .i64 c)))) (plus ⟨p, 0, none⟩ 0) = some c := ldInt_of hp2 rfl
  have s2 : st (m.set L (.live (row.set i (.int .i64 c)))) (plus ⟨p, 0, none⟩ 0) (.int .i64 ((c + 1) % 96)) = some ((m.set L (.live (row.set i (.int .i64 c)))).set p (.live [.int .i64 ((c + 1) % 96), .int .i64 n])) := st_of hp2 (by simp)
  simp only [e1, e2, cond_true, Option.bind_some, l1, s1, l2, on_eq k c _ hc, s2, e4]

theorem step_loop (k : Nat) (kx2 : Option Addr → Option Addr → Nat → Nat → Mem → Option (Sl × Mem)) {p L : Nat} {n c0 : Int} (hpL : p ≠ L) (hc0 : 0 ≤ c0 ∧ c0 < 96) :
    ∀ (d i f : Nat) (m : Mem) (row : List Value), i + d = 8 → d < f → m[p]? = some (.live [.int .i64 ((c0 + (i : Int)) % 96), .int .i64 n]) → m[L]? = some (.live row) → row.length = 8 → row.take i = rowOf c0 i →
      ∃ m', patrol_Patrol_Step_l0 k kx2 f (some ⟨p, 0, none⟩) (some ⟨L, 0, none⟩) 8 8 8 (i : Int) m = kx2 (some ⟨p, 0, none⟩) (some ⟨L, 0, none⟩) 8 8 m' ∧ m'[p]? = some (.live [.int .i64 ((c0 + 8) % 96), .int .i64 n]) ∧ m'[L]? = some (.live (rowOf c0 8)) ∧ m'.length = m.length ∧ ∀ b, b ≠ p → b ≠ L → m'[b]? = m[b]?
  | 0, i, f + 1, m, row, h1, h2, hp, hL, hr, ht => by
    have hi : i = 8 := by omega
    subst hi
    refine ⟨m, ?_, hp, ?_, rfl, fun _ _ _ => rfl⟩
    · unfold patrol_Patrol_Step_l0 patrol_Patrol_Step_l0_b
      rfl
    · rw [← ht, List.take_of_length_le (by omega)]; exact hL
  | d + 1, i, f + 1, m, row, h1, h2, hp, hL, hr, ht => by
    unfold patrol_Patrol_Step_l0
    rw [step_round k _ kx2 hpL hp hL (by omega) (by omega) hr]
    have hpl : p < m.length := (List.getElem?_eq_some_iff.1 hp).1
    have hLl : L < m.length := (List.getElem?_eq_some_iff.1 hL).1
    obtain ⟨m', h3, h4, h5, h6, h7⟩ := step_loop k kx2 hpL hc0 d (i + 1) f ((m.set L (.live (row.set i (.int .i64 ((c0 + (i : Int)) % 96))))).set p (.live [.int .i64 (((c0 + (i : Int)) % 96 + 1) % 96), .int .i64 n])) (row.set i (.int .i64 ((c0 + (i : Int)) % 96))) (by omega) (by omega)
      (by rw [get_set_eq (by simpa using hpl), show ((c0 + (i : Int)) % 96 + 1) % 96 = (c0 + ((i + 1 : Nat) : Int)) % 96 by omega]) (by rw [get_set_ne hpL, get_set_eq hLl]) (by simpa using hr) (by
        unfold rowOf at ht ⊢
        rw [List.range_succ, List.map_append, ← ht]
        rw [List.take_add_one, List.take_set_of_le (Nat.le_refl _)]
        simp [show i < row.length by omega])
    exact ⟨m', h3, h4, h5, by rw [h6]; simp, fun b hb1 hb2 => by rw [h7 b hb1 hb2, get_set_ne (Ne.symm hb1), get_set_ne (Ne.symm hb2)]⟩

theorem step_f (k : Nat) (hk : 9 ≤ k) {p : Nat} {m : Mem} {c n : Int} (hp : m[p]? = some (.live [.int .i64 c, .int .i64 n])) (hc : 0 ≤ c ∧ c < 96) (hn : 0 ≤ n ∧ n < 9223372036854775807) :
    ∃ m', patrol_Patrol_Step k (some ⟨p, 0, none⟩) m = some (⟨some ⟨m.length, 0, none⟩, 8, 8⟩, m') ∧ m'[p]? = some (.live [.int .i64 ((c + 8) % 96), .int .i64 (n + 1)]) ∧ m'[m.length]? = some (.live (rowOf c 8)) ∧ m'.length = m.length + 1 ∧
      ∀ b, b < m.length → b ≠ p → m'[b]? = m[b]? := by
  have hpl : p < m.length := (List.getElem?_eq_some_iff.1 hp).1
  unfold patrol_Patrol_Step
  obtain ⟨m1, h1, h2, h3, h4, h5⟩ := step_loop k (fun y0 y3a y3n y3c m11 =>
    (y0).bind fun a12 =>
    (ldInt .i64 m11 (plus a12 1)).bind fun t13 =>
    (y0).bind fun a14 =>
    (st m11 (plus a14 1) (Value.int .i64 (IntKind.wrap .i64 (t13 + 1)))).bind fun m15 =>
    some ((⟨y3a, y3n, y3c⟩ : Sl), m15)) (p := p) (L := m.length) (n := n) (c0 := c) (by omega) hc 8 0 k (m ++ [.live (repl (Int.toNat 8) (tt 3).zero)]) (repl (Int.toNat 8) (tt 3).zero) (by omega) (by omega)
    (by rw [get_app_lt hpl, hp, show (c + ((0 : Nat) : Int)) % 96 = c by omega]) get_app_len rfl rfl
  refine ⟨m1.set p (.live [.int .i64 ((c + 8) % 96), .int .i64 (n + 1)]), h1.trans ?_, ?_, ?_, ?_, ?_⟩
  · have l1 : ldInt .i64 m1 (plus ⟨p, 0, none⟩ 1) = some n := ldInt_of h2 rfl
    have s1 : st m1 (plus ⟨p, 0, none⟩ 1) (.int .i64 (n + 1)) = some (m1.set p (.live [.int .i64 ((c + 8) % 96), .int .i64 (n + 1)])) := st_of h2 (by simp)
    simp only [Option.bind_some, l1]
    rw [wrap_small (x := n + 1) (by omega) (by omega), s1]
    rfl
  · exact get_set_eq (by rw [h4]; simp; omega)
  · rw [get_set_ne (by omega)]; exact h3
  · simp [h4]
  · intro b hb hbp
    rw [get_set_ne (Ne.symm hbp), h5 b hbp (by omega), get_app_lt hb]

/-- what the document's Step has built when i are told -/
def Told (m : Mem) (c : Int) (i : Nat) (q : Option Addr) : Prop := (i = 0 ∧ q = none) ∨ (0 < i ∧ ∃ b, q = some ⟨b, 0, some 1⟩ ∧ m[b]? = some (.live (rowOf c i)))

theorem rstep_round (k : Nat) (nx : Option Addr → Option Addr → Nat → Nat → Int → Mem → Option (Sl × Mem)) (kx2 : Option Addr → Option Addr → Nat → Nat → Mem → Option (Sl × Mem)) {p : Nat} {m : Mem} {c n : Int} {i : Nat} {q : Option Addr} {B : Nat}
    (hp : m[p]? = some (.live [.int .i64 c, .int .i64 n])) (hc : 0 ≤ c ∧ c < 96) (hi : i < 8) (hq : Told m c i q) (hB : ∀ b, q = some ⟨b, 0, some 1⟩ → B ≤ b) (hBm : B ≤ m.length) (hpB : p < B) :
    ∃ m' q', patinaref15_Patrol_Step_l0_b k nx kx2 (some ⟨p, 0, none⟩) q i i (i : Int) m = nx (some ⟨p, 0, none⟩) q' (i + 1) (i + 1) ((i + 1 : Nat) : Int) m' ∧ Told m' c (i + 1) q' ∧ (∀ b, q' = some ⟨b, 0, some 1⟩ → B ≤ b) ∧ B ≤ m'.length ∧ ∀ b, b < B → m'[b]? = m[b]? := by
  have hpl : p < m.length := (List.getElem?_eq_some_iff.1 hp).1
  unfold patinaref15_Patrol_Step_l0_b
  have e1 : decide ((i : Int) < 8) = true := decide_eq_true (by omega)
  have e4 : IntKind.wrap .i64 ((i : Int) + 1) = ((i + 1 : Nat) : Int) := by rw [wrap_small (by omega) (by omega)]; omega
  have l1 : ldInt .i64 m (plus ⟨p, 0, none⟩ 0) = some c := ldInt_of hp rfl
  have e5 : Int.tmod (IntKind.wrap .i64 (c + (i : Int))) 96 = (c + (i : Int)) % 96 := by rw [wrap_small (by omega) (by omega), Int.tmod_eq_emod_of_nonneg (by omega)]
  have e6 : putAt (repl 1 (tt 3).zero) 0 1 [Value.int .i64 ((c + (i : Int)) % 96)] = [Value.int .i64 ((c + (i : Int)) % 96)] := rfl
  have hrow : rowOf c (i + 1) = rowOf c i ++ [Value.int .i64 ((c + (i : Int)) % 96)] := by unfold rowOf; rw [List.range_succ, List.map_append]; rfl
  simp only [e1, cond_true, Option.bind_some, l1, e5, e6, rdSl_new, e4]
  rcases hq with ⟨rfl, rfl⟩ | ⟨hi0, b, rfl, hb⟩
  · rw [appM_first (by omega) (by decide) (by decide)]
    refine ⟨_, _, rfl, .inr ⟨by omega, _, rfl, ?_⟩, ?_, ?_, ?_⟩
    · rw [get_app_len, hrow]; rfl
    · intro b' hb'; simp at hb'; omega
    · simp; omega
    · intro b' hb'
      refine (get_app_lt ?_).trans (get_app_lt ?_)
      · simp; omega
      · omega
  · have hbl : b < m.length := (List.getElem?_eq_some_iff.1 hb).1
    have hbB := hB b rfl
    rw [appM_full (by omega) (by unfold most; omega) (by unfold most; omega) (by rw [get_app_lt hbl]; exact hb) (by simp [rowOf])]
    refine ⟨_, _, rfl, .inr ⟨by omega, _, rfl, ?_⟩, ?_, ?_, ?_⟩
    · have hl : (m ++ [MObj.live [Value.int .i64 ((c + (i : Int)) % 96)]]).length = ((m ++ [MObj.live [Value.int .i64 ((c + (i : Int)) % 96)]]).set b .dead).length := by simp
      rw [hl, get_app_len, hrow]
    · intro b' hb'; simp at hb'; omega
    · simp; omega
    · intro b' hb'
      refine (get_app_lt ?_).trans ((get_set_ne ?_).trans (get_app_lt ?_))
      · simp; omega
      · omega
      · omega

theorem rstep_loop (k : Nat) (kx2 : Option Addr → Option Addr → Nat → Nat → Mem → Option (Sl × Mem)) {p B : Nat} {c n : Int} (hc : 0 ≤ c ∧ c < 96) (hpB : p < B) :
    ∀ (d i f : Nat) (m : Mem) (q : Option Addr), i + d = 8 → d < f → m[p]? = some (.live [.int .i64 c, .int .i64 n]) → Told m c i q → (∀ b, q = some ⟨b, 0, some 1⟩ → B ≤ b) → B ≤ m.length →
      ∃ m' b, patinaref15_Patrol_Step_l0 k kx2 f (some ⟨p, 0, none⟩) q i i (i : Int) m = kx2 (some ⟨p, 0, none⟩) (some ⟨b, 0, some 1⟩) 8 8 m' ∧ m'[b]? = some (.live (rowOf c 8)) ∧ B ≤ b ∧ B ≤ m'.length ∧ ∀ b', b' < B → m'[b']? = m[b']?
  | 0, i, f + 1, m, q, h1, h2, hp, hq, hB, hBm => by
    have hi : i = 8 := by omega
    subst hi
    rcases hq with ⟨h, _⟩ | ⟨_, b, rfl, hb⟩
    · cases h
    · refine ⟨m, b, ?_, hb, hB b rfl, hBm, fun _ _ => rfl⟩
      unfold patinaref15_Patrol_Step_l0 patinaref15_Patrol_Step_l0_b
      rfl
  | d + 1, i, f + 1, m, q, h1, h2, hp, hq, hB, hBm => by
    unfold patinaref15_Patrol_Step_l0
    obtain ⟨m1, q1, h3, h4, h5, h6, h7⟩ := rstep_round k (fun x0 x3a x3n x3c x4 m => patinaref15_Patrol_Step_l0 k kx2 f x0 x3a x3n x3c x4 m) kx2 hp hc (by omega) hq hB hBm hpB
    rw [h3]
    obtain ⟨m', b, a1, a2, a3, a4, a5⟩ := rstep_loop k kx2 hc hpB d (i + 1) f m1 q1 (by omega) (by omega) ((h7 p hpB).trans hp) h4 h5 h6
    exact ⟨m', b, a1, a2, a3, a4, fun b' hb' => (a5 b' hb').trans (h7 b' hb')⟩

theorem step_r (k : Nat) (hk : 9 ≤ k) {p : Nat} {m : Mem} {c n : Int} (hp : m[p]? = some (.live [.int .i64 c, .int .i64 n])) (hc : 0 ≤ c ∧ c < 96) (hn : 0 ≤ n ∧ n < 9223372036854775807) :
    ∃ m' b, patinaref15_Patrol_Step k (some ⟨p, 0, none⟩) m = some (⟨some ⟨b, 0, some 1⟩, 8, 8⟩, m') ∧ m'[p]? = some (.live [.int .i64 ((c + 8) % 96), .int .i64 (n + 1)]) ∧ m'[b]? = some (.live (rowOf c 8)) ∧ m.length ≤ b ∧ m.length ≤ m'.length ∧
      ∀ b', b' < m.length → b' ≠ p → m'[b']? = m[b']? := by
  have hpl : p < m.length := (List.getElem?_eq_some_iff.1 hp).1
  unfold patinaref15_Patrol_Step
  obtain ⟨m1, b, h1, h2, h3, h4, h5⟩ := rstep_loop k (fun y0 y3a y3n y3c m6 =>
    (y0).bind fun a7 =>
    (ldInt .i64 m6 (plus a7 0)).bind fun t8 =>
    (y0).bind fun a9 =>
    (st m6 (plus a9 0) (Value.int .i64 (Int.tmod (IntKind.wrap .i64 (t8 + 8)) 96))).bind fun m10 =>
    (y0).bind fun a11 =>
    (ldInt .i64 m10 (plus a11 1)).bind fun t12 =>
    (y0).bind fun a13 =>
    (st m10 (plus a13 1) (Value.int .i64 (IntKind.wrap .i64 (t12 + 1)))).bind fun m14 =>
    some ((⟨y3a, y3n, y3c⟩ : Sl), m14)) (p := p) (B := m.length) (n := n) hc hpl 8 0 k m none (by omega) (by omega) hp (.inl ⟨rfl, rfl⟩) (fun b hb => by cases hb) (Nat.le_refl _)
  have hp1 := (h5 p hpl).trans hp
  have hp1l : p < m1.length := by omega
  have hp2 : (m1.set p (.live [.int .i64 ((c + 8) % 96), .int .i64 n]))[p]? = some (.live [.int .i64 ((c + 8) % 96), .int .i64 n]) := get_set_eq hp1l
  refine ⟨(m1.set p (.live [.int .i64 ((c + 8) % 96), .int .i64 n])).set p (.live [.int .i64 ((c + 8) % 96), .int .i64 (n + 1)]), b, h1.trans ?_, ?_, ?_, h3, ?_, ?_⟩
  · have l1 : ldInt .i64 m1 (plus ⟨p, 0, none⟩ 0) = some c := ldInt_of hp1 rfl
    have e5 : Int.tmod (IntKind.wrap .i64 (c + 8)) 96 = (c + 8) % 96 := by rw [wrap_small (by omega) (by omega), Int.tmod_eq_emod_of_nonneg (by omega)]
    have s1 : st m1 (plus ⟨p, 0, none⟩ 0) (.int .i64 ((c + 8) % 96)) = some (m1.set p (.live [.int .i64 ((c + 8) % 96), .int .i64 n])) := st_of hp1 (by simp)
    have l2 : ldInt .i64 (m1.set p (.live [.int .i64 ((c + 8) % 96), .int .i64 n])) (plus ⟨p, 0, none⟩ 1) = some n := ldInt_of hp2 rfl
    have s2 : st (m1.set p (.live [.int .i64 ((c + 8) % 96), .int .i64 n])) (plus ⟨p, 0, none⟩ 1) (.int .i64 (n + 1)) = some ((m1.set p (.live [.int .i64 ((c + 8) % 96), .int .i64 n])).set p (.live [.int .i64 ((c + 8) % 96), .int .i64 (n + 1)])) := st_of hp2 (by simp)
    simp only [Option.bind_some, l1, e5, s1, l2]
    rw [wrap_small (x := n + 1) (by omega) (by omega), s2]
    rfl
  · exact get_set_eq (by simpa using hp1l)
  · rw [get_set_ne (by omega), get_set_ne (by omega)]; exact h2
  · simpa using h4
  · intro b' hb' hne
    rw [get_set_ne (Ne.symm hne), get_set_ne (Ne.symm hne)]; exact h5 b' hb'

theorem rowOf_get {c : Int} {n i : Nat} (hi : i < n) : (rowOf c n)[i]? = some (Value.int .i64 ((c + (i : Int)) % 96)) := by
  unfold rowOf; simp [hi]

theorem same_loop (k : Nat) (kx0 : Bool → Mem → Option (Bool × Mem)) (kx2 : Mem → Option (Bool × Mem)) {L b : Nat} {c : Int} (hLb : L ≠ b) :
    ∀ (d i f : Nat) (m : Mem) (row : List Value), i + d = 8 → d < f → m[L]? = some (.live row) → m[b]? = some (.live (rowOf c 8)) → row.length = 8 → (∀ q, i ≤ q → q < 8 → row[q]? = (rowOf c 8)[q]?) →
      ∃ m', patinalaw15_same_l0 k kx0 kx2 f (some ⟨L, 0, none⟩) 8 8 (some ⟨b, 0, some 1⟩) 8 8 (i : Int) m = kx2 m' ∧ m'.length = m.length ∧ ∀ b', b' ≠ L → m'[b']? = m[b']?
  | 0, i, f + 1, m, row, h1, h2, hL, hb, hr, hq => by
    have hi : i = 8 := by omega
    subst hi
    refine ⟨m, ?_, rfl, fun _ _ => rfl⟩
    unfold patinalaw15_same_l0 patinalaw15_same_l0_b
    rfl
  | d + 1, i, f + 1, m, row, h1, h2, hL, hb, hr, hq => by
    unfold patinalaw15_same_l0 patinalaw15_same_l0_b
    have e1 : decide ((i : Int) < ((8 : Nat) : Int)) = true := decide_eq_true (by omega)
    have e2 : inRange (i : Int) 8 = true := by simp [inRange]; omega
    have e4 : IntKind.wrap .i64 ((i : Int) + 1) = ((i + 1 : Nat) : Int) := by rw [wrap_small (by omega) (by omega)]; omega
    have g1 := rowOf_get (c := c) (show i < 8 by omega)
    have l1 : ldInt .i64 m (plus ⟨L, 0, none⟩ (Int.toNat (i : Int) * 1)) = some ((c + (i : Int)) % 96) := by
      rw [Int.toNat_natCast, Nat.mul_one]
      have := ldInt_of (sp := none) hL (off := i) ((hq i (Nat.le_refl _) (by omega)).trans g1)
      simpa [plus] using this
    have l2 : ldInt .i64 m (plus ⟨b, 0, some 1⟩ (Int.toNat (i : Int) * 1)) = some ((c + (i : Int)) % 96) := by
      rw [Int.toNat_natCast, Nat.mul_one]
      have := ldInt_of (sp := some 1) hb (off := i) g1
      simpa [plus] using this
    have s1 : st m (plus ⟨L, 0, none⟩ (Int.toNat (i : Int) * 1)) (.int .i64 (-9)) = some (m.set L (.live (row.set i (.int .i64 (-9))))) := by
      rw [Int.toNat_natCast, Nat.mul_one]
      have := st_of (sp := none) (v := Value.int .i64 (-9)) hL (off := i) (by omega)
      simpa [plus] using this
    simp only [e1, e2, cond_true, Option.bind_some, l1, l2, bne_self_eq_false, cond_false, s1, e4]
    obtain ⟨m', a1, a2, a3⟩ := same_loop k kx0 kx2 hLb d (i + 1) f (m.set L (.live (row.set i (.int .i64 (-9))))) (row.set i (.int .i64 (-9))) (by omega) (by omega) (get_set_eq (List.getElem?_eq_some_iff.1 hL).1) ((get_set_ne hLb).trans hb) (by simpa using hr)
      (fun q h3 h4 => by rw [List.getElem?_set_ne (by omega)]; exact hq q (by omega) h4)
    exact ⟨m', a1, by simpa using a2, fun b' hb' => (a3 b' hb').trans (get_set_ne (Ne.symm hb'))⟩

theorem same_eq (k : Nat) (hk : 9 ≤ k) {m : Mem} {L b : Nat} {c : Int} (hLb : L ≠ b) (hL : m[L]? = some (.live (rowOf c 8))) (hb : m[b]? = some (.live (rowOf c 8))) :
    ∃ m', patinalaw15_same k (some ⟨L, 0, none⟩) 8 8 (some ⟨b, 0, some 1⟩) 8 8 m = some (true, m') ∧ m'.length = m.length ∧ ∀ b', b' ≠ L → m'[b']? = m[b']? := by
  obtain ⟨m', h1, h2, h3⟩ := same_loop k (fun y4 m7 => some (y4, m7)) (fun m8 => some (true, m8)) hLb 8 0 k m (rowOf c 8) (by omega) (by omega) hL hb (by simp [rowOf]) (fun q _ _ => rfl)
  refine ⟨m', ?_, h2, h3⟩
  unfold patinalaw15_same
  exact h1

def pa : Nat := 7
def rr : Nat := 8
/-- where both stand alike -/
structure At (o : MObj) (m : Mem) (c n : Int) : Prop where
  o : m[0]? = some o
  p : m[7]? = some (.live [.int .i64 c, .int .i64 n])
  r : m[8]? = some (.live [.int .i64 c, .int .i64 n])

theorem j1_eq (k : Nat) {q : Option Addr} {N c' j : Nat} (nx : Option Addr → Nat → Nat → Bool → Option Addr → Option Addr → Int → Mem → Option (Bool × Mem)) (kx0 : Bool → Mem → Option (Bool × Mem)) {o : MObj} {m : Mem} {c n : Int} (h : At o m c n) (hj : (j : Int) < 9223372036854775807) :
    patinalaw15_PatrolPlays_j1 k q N c' true (some ⟨7, 0, none⟩) (some ⟨8, 0, none⟩) (j : Int) nx kx0 m = nx q N c' true (some ⟨7, 0, none⟩) (some ⟨8, 0, none⟩) ((j + 1 : Nat) : Int) m := by
  have e4 : IntKind.wrap .i64 ((j : Int) + 1) = ((j + 1 : Nat) : Int) := by rw [wrap_small (by omega) (by omega)]; omega
  have a0 : ldInt .i64 m (plus ⟨7, 0, none⟩ 0) = some c := ldInt_of h.p rfl
  have a1 : ldInt .i64 m (plus ⟨7, 0, none⟩ 1) = some n := ldInt_of h.p rfl
  have b0 : ldInt .i64 m (plus ⟨8, 0, none⟩ 0) = some c := ldInt_of h.r rfl
  have b1 : ldInt .i64 m (plus ⟨8, 0, none⟩ 1) = some n := ldInt_of h.r rfl
  unfold patinalaw15_PatrolPlays_j1 patrol_Patrol_Cursor patrol_Patrol_Calls patrol_Patrol_Due
  simp only [Option.bind_some, a0, a1, b0, b1, bne_self_eq_false, cond_false, beq_self_eq_true, cond_true, Bool.not_true, e4]

theorem round_eq (k : Nat) (hk : 9 ≤ k) (nx : Option Addr → Nat → Nat → Bool → Option Addr → Option Addr → Int → Mem → Option (Bool × Mem)) (kx0 kx2 : Bool → Mem → Option (Bool × Mem)) {q : Option Addr} {N c' j : Nat} {cs : List Value} {o : MObj} {m : Mem} {c n : Int}
    (hh : Holds o 0 q N [.int .i64] cs) (hN : N * 8 ≤ 140737488351232) (h : At o m c n) (hc : 0 ≤ c ∧ c < 96) (hn : 0 ≤ n ∧ n ≤ (j : Int)) (hj : j < N) :
    ∃ m' c1 n1, patinalaw15_PatrolPlays_l0_b k nx kx0 kx2 q N c' true (some ⟨7, 0, none⟩) (some ⟨8, 0, none⟩) (j : Int) m = nx q N c' true (some ⟨7, 0, none⟩) (some ⟨8, 0, none⟩) ((j + 1 : Nat) : Int) m' ∧ At o m' c1 n1 ∧ (0 ≤ c1 ∧ c1 < 96) ∧ (0 ≤ n1 ∧ n1 ≤ ((j + 1 : Nat) : Int)) := by
  have hp := hh.ptr hj
  subst hp
  have hi := hh.int hj (q := 0) rfl
  have hld := hh.ldInt h.o hj (q := 0) (k := .i64) rfl (off := j) (by simp)
  generalize intAt (cs.getD (j * [Leaf.int IntKind.i64].length + 0) undef) = x at hi hld
  have w0 := wf_i64 hi.1
  obtain ⟨t, hpk, ht1, ht2⟩ := pick_eq k x 4 m w0.1 w0.2 (by omega)
  have e1 : decide ((j : Int) < (N : Int)) = true := decide_eq_true (by omega)
  have e2 : inRange (j : Int) N = true := by simp [inRange]; omega
  have e3 : ldInt .i64 m (plus ⟨0, 0, none⟩ (Int.toNat (j : Int) * 1)) = some x := by
    rw [Int.toNat_natCast, Nat.mul_one]
    simpa [plus] using hld
  have hjj : (j : Int) < 9223372036854775807 := by omega
  have l8 : 8 < m.length := (List.getElem?_eq_some_iff.1 h.r).1
  have steps : ∃ m' c1 n1, ((patrol_Patrol_Step k (some ⟨7, 0, none⟩) m).bind fun r24 =>
      (patinaref15_Patrol_Step k (some ⟨8, 0, none⟩) r24.2).bind fun r25 =>
      (patinalaw15_same k r24.1.a r24.1.len r24.1.cap r25.1.a r25.1.len r25.1.cap r25.2).bind fun r26 =>
      bif !r26.1 then (
      kx0 false r26.2) else (
      patinalaw15_PatrolPlays_j1 k (some ⟨0, 0, none⟩) N c' true (some ⟨7, 0, none⟩) (some ⟨8, 0, none⟩) (j : Int) nx kx0 r26.2)) = nx (some ⟨0, 0, none⟩) N c' true (some ⟨7, 0, none⟩) (some ⟨8, 0, none⟩) ((j + 1 : Nat) : Int) m' ∧ At o m' c1 n1 ∧ (0 ≤ c1 ∧ c1 < 96) ∧ (0 ≤ n1 ∧ n1 ≤ ((j + 1 : Nat) : Int)) := by
    obtain ⟨m1, a1, a2, a3, a4, a5⟩ := step_f k hk h.p hc (by omega)
    have hr1 : m1[8]? = some (.live [.int .i64 c, .int .i64 n]) := (a5 8 l8 (by omega)).trans h.r
    obtain ⟨m2, b, b1, b2, b3, b4, b5, b6⟩ := step_r k hk hr1 hc (by omega)
    obtain ⟨m3, d1, d2, d3⟩ := same_eq k hk (L := m.length) (b := b) (by omega) ((b6 _ (by omega) (by omega)).trans a3) b3
    have hat : At o m3 ((c + 8) % 96) (n + 1) :=
      ⟨(d3 0 (by omega)).trans ((b6 0 (by omega) (by omega)).trans ((a5 0 (by omega) (by omega)).trans h.o)), (d3 7 (by omega)).trans ((b6 7 (by omega) (by omega)).trans a2), (d3 8 (by omega)).trans b2⟩
    refine ⟨m3, (c + 8) % 96, n + 1, ?_, hat, by omega, by omega⟩
    simp only [a1, Option.bind_some, b1, d1, Bool.not_true, cond_false]
    exact j1_eq k nx kx0 hat hjj
  unfold patinalaw15_PatrolPlays_l0_b
  simp only [e1, e2, cond_true, Option.bind_some, e3, hpk]
  unfold patinalaw15_PatrolPlays_j2
  by_cases t0 : t = 0
  · subst t0
    simp only [beq_self_eq_true, cond_true]
    exact steps
  · rw [show (t == 0) = false by simpa using t0]
    simp only [cond_false]
    by_cases t1 : t = 1
    · subst t1
      simp only [beq_self_eq_true, cond_true]
      exact steps
    · rw [show (t == 1) = false by simpa using t1]
      simp only [cond_false]
      by_cases t2 : t = 2
      · subst t2
        have s1 : st m (plus ⟨7, 0, none⟩ 1) (.int .i64 0) = some (m.set 7 (.live [.int .i64 c, .int .i64 0])) := st_of h.p (by simp)
        have h8 : (m.set 7 (.live [.int .i64 c, .int .i64 0]))[8]? = some (.live [.int .i64 c, .int .i64 n]) := (get_set_ne (by omega)).trans h.r
        have s2 : st (m.set 7 (.live [.int .i64 c, .int .i64 0])) (plus ⟨8, 0, none⟩ 1) (.int .i64 0) = some ((m.set 7 (.live [.int .i64 c, .int .i64 0])).set 8 (.live [.int .i64 c, .int .i64 0])) := st_of h8 (by simp)
        have hat : At o ((m.set 7 (.live [.int .i64 c, .int .i64 0])).set 8 (.live [.int .i64 c, .int .i64 0])) c 0 :=
          ⟨(get_set_ne (by omega)).trans ((get_set_ne (by omega)).trans h.o), (get_set_ne (by omega)).trans (get_set_eq (by omega)), get_set_eq (by simpa using l8)⟩
        refine ⟨_, c, 0, ?_, hat, hc, by omega⟩
        unfold patrol_Patrol_Noted
        simp only [beq_self_eq_true, cond_true, Option.bind_some, s1, s2]
        exact j1_eq k nx kx0 hat hjj
      · rw [show (t == 2) = false by simpa using t2]
        simp only [cond_false]
        exact ⟨m, c, n, j1_eq k nx kx0 h hjj, h, hc, by omega⟩

theorem loop_eq (k : Nat) (hk : 9 ≤ k) (kx0 kx2 : Bool → Mem → Option (Bool × Mem)) {q : Option Addr} {N c' : Nat} {cs : List Value} {o : MObj} (hh : Holds o 0 q N [.int .i64] cs) (hN : N * 8 ≤ 140737488351232) :
    ∀ (d j f : Nat) (m : Mem) (c n : Int), j + d = N → d < f → At o m c n → (0 ≤ c ∧ c < 96) → (0 ≤ n ∧ n ≤ (j : Int)) → ∃ m', patinalaw15_PatrolPlays_l0 k kx0 kx2 f q N c' true (some ⟨7, 0, none⟩) (some ⟨8, 0, none⟩) (j : Int) m = kx2 true m'
  | 0, j, f + 1, m, c, n, h1, h2, h, hc, hn => by
    refine ⟨m, ?_⟩
    unfold patinalaw15_PatrolPlays_l0 patinalaw15_PatrolPlays_l0_b
    rw [decide_eq_false (show ¬ (j : Int) < (N : Int) by omega)]
    rfl
  | d + 1, j, f + 1, m, c, n, h1, h2, h, hc, hn => by
    unfold patinalaw15_PatrolPlays_l0
    obtain ⟨m', c1, n1, a1, a2, a3, a4⟩ := round_eq k hk (fun x1a x1n x1c x5 x6 x8 x10 m => patinalaw15_PatrolPlays_l0 k kx0 kx2 f x1a x1n x1c x5 x6 x8 x10 m) kx0 kx2 (c' := c') hh hN h hc hn (show j < N by omega)
    rw [a1]
    exact loop_eq k hk kx0 kx2 hh hN d (j + 1) f m' c1 n1 (by omega) (by omega) a2 a3 a4

theorem up_1 (k : Nat) (o : MObj) : (patinalaw15_up (k + 20) [o]).map (fun r => r.1) = some true := by kernel_rfl
theorem up_2 (k : Nat) (o : MObj) : (patinalaw15_up (k + 20) [o]).map (fun r => r.2.length) = some 7 := by kernel_rfl
theorem up_3 (k : Nat) (o : MObj) : (patinalaw15_up (k + 20) [o]).map (fun r => r.2[0]?) = some (some o) := by kernel_rfl

theorem patrolPlays_run (o : MObj) (cursor : Int) (q : Option Addr) (N c' : Nat) (cs : List Value) (hw : (Lit.int .i64 cursor).wf = true) (hh : Holds o 0 q N [.int .i64] cs) (hc : N ≤ c') (hN : N * 8 ≤ 140737488351232) :
    ∃ k m', patinalaw15_PatrolPlays k cursor q N c' [o] = some (true, m') := by
  have w := wf_i64 hw
  have u1 := up_1 N o
  have u2 := up_2 N o
  have u3 := up_3 N o
  refine ⟨N + 20, ?_⟩
  unfold patinalaw15_PatrolPlays
  obtain ⟨⟨is, m⟩, h0⟩ : ∃ r, patinalaw15_up (N + 20) [o] = some r := by
    cases h : patinalaw15_up (N + 20) [o] with
    | none => rw [h] at u1; cases u1
    | some r => exact ⟨r, rfl⟩
  rw [h0] at u1 u2 u3
  simp only [Option.map_some, Option.some.injEq] at u1 u2 u3
  subst u1
  rw [h0]
  simp only [Option.bind_some]
  by_cases hin : 0 ≤ cursor ∧ cursor < 96
  · have n1 : patrol_New (N + 20) cursor m = some (some ⟨7, 0, none⟩, Value.nilIface, m ++ [.live [.int .i64 cursor, .int .i64 0]]) := by
      unfold patrol_New geom_Parts geom_is
      simp only [decide_eq_true (show cursor ≥ 0 by omega), decide_eq_true (show cursor < 96 by omega), cond_true, Option.bind_some, Bool.not_true, cond_false, isNil]
      rw [u2]; rfl
    have n2 : patinaref15_New (N + 20) cursor (m ++ [.live [.int .i64 cursor, .int .i64 0]]) = some (some ⟨8, 0, none⟩, true, (m ++ [.live [.int .i64 cursor, .int .i64 0]]) ++ [.live [.int .i64 cursor, .int .i64 0]]) := by
      unfold patinaref15_New
      rw [decide_eq_false (show ¬ cursor < 0 by omega), decide_eq_false (show ¬ cursor > 95 by omega)]
      simp only [cond_false, List.length_append, u2]; rfl
    simp only [n1, n2, Option.bind_some, Bool.not_true, cond_false, isNil, Option.isNone_some]
    obtain ⟨m', hl⟩ := loop_eq (N + 20) (by omega) (fun y4 m30 => some (y4, m30)) (fun y5 m31 => some (y5, m31)) (c' := c') hh hN N 0 (N + 20) ((m ++ [.live [.int .i64 cursor, .int .i64 0]]) ++ [.live [.int .i64 cursor, .int .i64 0]]) cursor 0 (by omega) (by omega)
      ⟨by rw [get_app_lt (by simp), get_app_lt (by omega)]; exact u3, by rw [get_app_lt (by simp; omega), ← u2]; exact get_app_len, by
        have : 8 = (m ++ [MObj.live [Value.int .i64 cursor, Value.int .i64 0]]).length := by simp [u2]
        rw [this]; exact get_app_len⟩ hin (by omega)
    exact ⟨m', hl⟩
  · have n1 : patrol_New (N + 20) cursor m = some (none, Value.iface 49 (Value.int .i64 1), m) := by
      unfold patrol_New geom_Parts geom_is
      by_cases h1 : cursor ≥ 0
      · simp only [decide_eq_true h1, decide_eq_false (show ¬ cursor < 96 by omega), cond_true, Option.bind_some, Bool.not_false, isNil]
      · simp only [decide_eq_false h1, cond_false, cond_true, Option.bind_some, Bool.not_false, isNil]
    have n2 : patinaref15_New (N + 20) cursor m = some (none, false, m) := by
      unfold patinaref15_New
      by_cases h1 : cursor < 0
      · rw [decide_eq_true h1]; rfl
      · rw [decide_eq_false h1, decide_eq_true (show cursor > 95 by omega)]; rfl
    simp only [n1, n2, Option.bind_some, Bool.not_false, cond_true, Option.isNone_none]
    exact ⟨m, rfl⟩
end Go.Proofs.Ytnilidpafijdlac
