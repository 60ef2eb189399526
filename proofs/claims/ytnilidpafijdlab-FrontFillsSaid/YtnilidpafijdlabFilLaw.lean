/- The plain law of FrontFills. -/
import Derived.Test.YtnilidpafijdlabFil
import Derived.Test.YtnilidpafijdlabMxRow
set_option linter.unusedVariables false
set_option linter.unusedSimpArgs false
namespace Go.Proofs.Ytnilidpafijdlab
open Go.Mx

/-- the memory: the argument, the example's frontier, the frontier -/
def fm (o u : MObj) (op : Bool) (b i : Int) : Mem := [o, u, .live [.bool op, .int .i64 b, .int .i64 i]]
def fa : Addr := ⟨2, 0, none⟩

theorem ldo (o u : MObj) (op : Bool) (b i : Int) : ldBool (fm o u op b i) (plus fa 0) = some op := rfl
theorem ldb (o u : MObj) (op : Bool) (b i : Int) : ldInt .i64 (fm o u op b i) (plus fa 1) = some b := rfl
theorem ldi (o u : MObj) (op : Bool) (b i : Int) : ldInt .i64 (fm o u op b i) (plus fa 2) = some i := rfl
theorem sti (o u : MObj) (op : Bool) (b i j : Int) : st (fm o u op b i) (plus fa 2) (.int .i64 j) = some (fm o u op b j) := rfl

theorem pick_eq (k : Nat) (c n : Int) (m : Mem) (h1 : -9223372036854775808 ≤ c) (h2 : c < 9223372036854775808) (hn : 0 < n) : ∃ r, patinalaw13_pick k c n m = some (r, m) ∧ 0 ≤ r ∧ r < n := by
  unfold patinalaw13_pick patinalaw13_pick_j1
  have hz : isZero n = false := by simp [isZero]; omega
  rw [hz]
  have key : ∀ x : Int, 0 ≤ x → 0 ≤ Int.tmod x n ∧ Int.tmod x n < n := fun x hx => ⟨Int.tmod_nonneg _ hx, Int.tmod_lt_of_pos _ hn⟩
  by_cases hc : c < 0
  · simp only [decide_eq_true hc, cond_true, cond_false]
    have e1 := wrap_small (x := c + 1) (by omega) (by omega)
    have e2 := wrap_small (x := 0 - (c + 1)) (by omega) (by omega)
    rw [e1, e2]
    exact ⟨_, rfl, (key _ (by omega)).1, (key _ (by omega)).2⟩
  · simp only [decide_eq_false hc, cond_true, cond_false]
    exact ⟨_, rfl, (key _ (by omega)).1, (key _ (by omega)).2⟩

theorem place_eq (k : Nat) (b i : Int) (m : Mem) (hb : 0 ≤ b ∧ b < 12) (hi : 0 ≤ i) : geom_Place k b i m = if i < 8 then some (b * 8 + i, Value.nilIface, m) else some (0, Value.iface 57 (Value.int .i64 1), m) := by
  unfold geom_Place
  simp only [decide_eq_false (show ¬ b < 0 by omega), decide_eq_false (show ¬ b ≥ 12 by omega), decide_eq_false (show ¬ i < 0 by omega), cond_false]
  by_cases h : i < 8
  · rw [if_pos h, decide_eq_false (show ¬ i ≥ 8 by omega)]
    simp only [cond_false]
    rw [wrap_small (x := b * 8) (by omega) (by omega), wrap_small (by omega) (by omega)]
  · rw [if_neg h, decide_eq_true (show i ≥ 8 by omega)]
    rfl

theorem holds_eq (k : Nat) (p t : Int) (m : Mem) (hp : 0 ≤ p ∧ p < 96) (ht : 0 ≤ t ∧ t ≤ 24) : geom_Holds k p t m = some (decide (t = 24 ∨ p % 8 < 6), Value.nilIface, m) := by
  unfold geom_Holds geom_is
  simp only [decide_eq_true (show p ≥ 0 by omega), decide_eq_true (show p < 96 by omega), cond_true, Option.bind_some, Bool.not_true, cond_false, decide_eq_false (show ¬ t < 0 by omega), decide_eq_false (show ¬ t > 24 by omega)]
  rw [Int.tmod_eq_emod_of_nonneg hp.1]
  by_cases h : t = 24
  · subst h; simp
  · rw [show (t == 24) = false by simpa using h]; simp [h]

theorem room_eq (k : Nat) (o u : MObj) (op : Bool) (b i t : Int) (hb : 0 ≤ b ∧ b < 12) (hi : 0 ≤ i) (ht : 0 ≤ t ∧ t ≤ 24) :
    front_Front_Room k (some fa) t (fm o u op b i) = some (op && decide (i < 8 ∧ (t = 24 ∨ i < 6)), fm o u op b i) := by
  unfold front_Front_Room
  simp only [Option.bind_some, ldb, ldi]
  rw [place_eq k b i _ hb hi]
  by_cases h : i < 8
  · simp only [if_pos h, Option.bind_some, ldo]
    cases op
    · rfl
    · simp only [Bool.not_true, cond_false, isNil, Option.bind_some]
      rw [holds_eq k _ t _ (by omega) ht]
      simp only [Option.bind_some]
      have : decide (t = 24 ∨ (b * 8 + i) % 8 < 6) = decide (i < 8 ∧ (t = 24 ∨ i < 6)) := decide_eq_decide.2 (by omega)
      rw [this]
      cases decide (i < 8 ∧ (t = 24 ∨ i < 6)) <;> rfl
  · simp only [if_neg h, Option.bind_some, ldo]
    rw [show decide (i < 8 ∧ (t = 24 ∨ i < 6)) = false from decide_eq_false (by omega), Bool.and_false]
    cases op <;> rfl

theorem take_eq (k : Nat) (o u : MObj) (b i t : Int) (hb : 0 ≤ b ∧ b < 12) (hi : 0 ≤ i) (ht : 0 ≤ t ∧ t ≤ 24) :
    front_Front_Take k (some fa) t (fm o u true b i) = if i < 8 ∧ (t = 24 ∨ i < 6) then some (b * 8 + i, Value.nilIface, fm o u true b (i + 1)) else some (0, Value.iface 57 (Value.int .i64 10), fm o u true b i) := by
  unfold front_Front_Take
  simp only [decide_eq_false (show ¬ t < 0 by omega), decide_eq_false (show ¬ t > 24 by omega), cond_false, Option.bind_some, ldo, Bool.not_true, room_eq k o u true b i t hb hi ht, Bool.true_and]
  by_cases h : i < 8 ∧ (t = 24 ∨ i < 6)
  · simp only [if_pos h, decide_eq_true h, Bool.not_true, cond_false, Option.bind_some, ldi]
    rw [wrap_small (x := i + 1) (by omega) (by omega)]
    simp only [sti, Option.bind_some, ldb, ldi]
    rw [wrap_small (x := i + 1 - 1) (by omega) (by omega), show i + 1 - 1 = i by omega, place_eq k b i _ hb hi, if_pos h.1]
    rfl
  · simp only [if_neg h, decide_eq_false h, Bool.not_false, cond_true]

theorem err_eq : ifEq tt (Value.iface 57 (Value.int .i64 10)) (Value.iface 57 (Value.int .i64 10)) = some true := by rfl

theorem round_eq (k : Nat) (nx : Option Addr → Nat → Nat → Addr → Int → Int → Int → Mem → Option (Bool × Mem)) (kx0 : Bool → Mem → Option (Bool × Mem)) (kx2 : Addr → Mem → Option (Bool × Mem)) {o u : MObj} {p : Option Addr} {n c : Nat} {zs : List Int}
    (hh : HoldsI .i64 o p n zs) (hw : ∀ z ∈ zs, (Lit.int .i64 z).wf = true) (hn : n * 8 ≤ 140737488351232) {b at0 : Int} (hb : 0 ≤ b ∧ b < 12) (ha : 0 ≤ at0 ∧ at0 ≤ 8) {i : Nat} (hi : i < n) :
    ∃ at1, (0 ≤ at1 ∧ at1 ≤ 8) ∧ patinalaw13_FrontFills_l0_b k nx kx0 kx2 p n c fa b at0 (i : Int) (fm o u true b at0) = nx p n c fa b at1 ((i + 1 : Nat) : Int) (fm o u true b at1) := by
  obtain ⟨a, hpa, hld⟩ := hh.ld hi [u, .live [.bool true, .int .i64 b, .int .i64 at0]]
  subst hpa
  have hz := wf_i64 (hw (zs.getD i 0) (by
    have h1 : i < zs.length := by rw [hh.1]; exact hi
    rw [List.getD_eq_getElem?_getD, List.getElem?_eq_getElem h1]; exact List.getElem_mem h1))
  obtain ⟨t, hp, ht1, ht2⟩ := pick_eq k (zs.getD i 0) 25 (fm o u true b at0) hz.1 hz.2 (by omega)
  have e1 : decide ((i : Int) < (n : Int)) = true := decide_eq_true (by omega)
  have e2 : inRange (i : Int) n = true := by simp [inRange]; omega
  have e3 : ldInt .i64 (fm o u true b at0) (plus a (Int.toNat (i : Int) * 1)) = some (zs.getD i 0) := by rw [Int.toNat_natCast]; exact hld
  have e4 : IntKind.wrap .i64 ((i : Int) + 1) = ((i + 1 : Nat) : Int) := by rw [wrap_small (by omega) (by omega)]; omega
  unfold patinalaw13_FrontFills_l0_b
  simp only [e1, e2, e3, hp, cond_true, Option.bind_some, room_eq k o u true b at0 t hb ha.1 (by omega), Bool.true_and, take_eq k o u b at0 t hb ha.1 (by omega)]
  by_cases h : at0 < 8 ∧ (t = 24 ∨ at0 < 6)
  · refine ⟨at0 + 1, by omega, ?_⟩
    simp only [if_pos h, decide_eq_true h, isNil, Option.bind_some, Bool.not_true, beq_self_eq_true, cond_false, cond_true]
    rw [wrap_small (x := b * 8) (by omega) (by omega), wrap_small (x := b * 8 + at0) (by omega) (by omega)]
    simp only [bne_self_eq_false, cond_false]
    have fin : patinalaw13_FrontFills_j2 k (some a) n c fa b at0 (i : Int) nx kx0 (t, fm o u true b at0) (true, fm o u true b at0) (fm o u true b (at0 + 1)) = nx (some a) n c fa b (at0 + 1) ((i + 1 : Nat) : Int) (fm o u true b (at0 + 1)) := by
      unfold patinalaw13_FrontFills_j2 patinalaw13_FrontFills_j3 patinalaw13_FrontFills_j1
      simp only [Bool.not_true, cond_false, cond_true, e4]
      rw [wrap_small (x := at0 + 1) (by omega) (by omega)]
    by_cases h24 : t < 24
    · simp only [decide_eq_true h24, cond_true, decide_eq_false (show ¬ at0 ≥ 6 by omega), cond_false]
      exact fin
    · simp only [decide_eq_false h24, cond_false]
      exact fin
  · refine ⟨at0, ha, ?_⟩
    simp only [if_neg h, decide_eq_false h, isNil, Option.bind_some, Bool.not_true, beq_self_eq_true, cond_false, cond_true, Bool.not_false, err_eq, bne_self_eq_false]
    unfold patinalaw13_FrontFills_j2 patinalaw13_FrontFills_j3 patinalaw13_FrontFills_j1
    simp only [Bool.not_false, cond_true, cond_false, e4]
    by_cases h24 : t = 24
    · subst h24
      simp only [beq_self_eq_true, cond_true, decide_eq_false (show ¬ at0 < 8 by omega), cond_false, decide_eq_false (show ¬ at0 < 6 by omega)]
    · rw [show (t == 24) = false by simpa using h24]
      simp only [cond_false, decide_eq_false (show ¬ at0 < 6 by omega)]

theorem end_eq (k : Nat) {o u : MObj} {b i : Int} : ∃ m', ((front_Front_Close k (some fa) (fm o u true b i)).bind fun r22 =>
  (front_Front_Block k (some fa) r22).bind fun r23 =>
  bif r23.1 == (-1) then (
  (front_Front_Room k (some fa) 0 r23.2).bind fun r24 =>
  bif !r24.1 then (
  (front_Front_Room k (some fa) 24 r24.2).bind fun r25 =>
  some (!r25.1, r25.2)) else (
  some (false, r24.2))) else (
  some (false, r23.2))) = some (true, m') := ⟨_, rfl⟩

theorem loop_eq (k : Nat) {o u : MObj} {p : Option Addr} {n c : Nat} {zs : List Int}
    (hh : HoldsI .i64 o p n zs) (hw : ∀ z ∈ zs, (Lit.int .i64 z).wf = true) (hn : n * 8 ≤ 140737488351232) {b : Int} (hb : 0 ≤ b ∧ b < 12) (kx0 : Bool → Mem → Option (Bool × Mem)) (kx2 : Addr → Mem → Option (Bool × Mem)) :
    ∀ (d i f : Nat) (at0 : Int), i + d = n → d < f → 0 ≤ at0 ∧ at0 ≤ 8 → ∃ at1, patinalaw13_FrontFills_l0 k kx0 kx2 f p n c fa b at0 (i : Int) (fm o u true b at0) = kx2 fa (fm o u true b at1)
  | 0, i, f + 1, at0, h1, h2, ha => by
    refine ⟨at0, ?_⟩
    unfold patinalaw13_FrontFills_l0 patinalaw13_FrontFills_l0_b
    rw [decide_eq_false (show ¬ (i : Int) < (n : Int) by omega)]
    rfl
  | d + 1, i, f + 1, at0, h1, h2, ha => by
    unfold patinalaw13_FrontFills_l0
    obtain ⟨at1, ha1, h3⟩ := round_eq k (fun x2a x2n x2c x8 x9 x10 x12 m => patinalaw13_FrontFills_l0 k kx0 kx2 f x2a x2n x2c x8 x9 x10 x12 m) kx0 kx2 (c := c) (u := u) hh hw hn hb ha (show i < n by omega)
    rw [h3]
    exact loop_eq k hh hw hn hb kx0 kx2 d (i + 1) f at1 (by omega) (by omega) ha1

theorem up_eq (k : Nat) (o : MObj) : patinalaw13_up k [o] = some (true, [o, .live [.bool true, .int .i64 2, .int .i64 7]]) := rfl

theorem frontFills_run (o : MObj) (raw from0 : Int) (p : Option Addr) (n c : Nat) (zs : List Int) (h1 : (Lit.int .i64 raw).wf = true) (h2 : (Lit.int .i64 from0).wf = true) (hh : HoldsI .i64 o p n zs) (hc : n ≤ c)
    (hw : ∀ z ∈ zs, (Lit.int .i64 z).wf = true) (hn : n * 8 ≤ 140737488351232) : ∃ k m', patinalaw13_FrontFills k raw from0 p n c [o] = some (true, m') := by
  have w1 := wf_i64 h1
  have w2 := wf_i64 h2
  refine ⟨n + 1, ?_⟩
  obtain ⟨b, hb, hb1, hb2⟩ := pick_eq (n + 1) raw 12 (fm o (.live [.bool true, .int .i64 2, .int .i64 7]) false 0 0) w1.1 w1.2 (by omega)
  obtain ⟨i, hi, hi1, hi2⟩ := pick_eq (n + 1) from0 9 (fm o (.live [.bool true, .int .i64 2, .int .i64 7]) false 0 0) w2.1 w2.2 (by omega)
  have hopen : front_Front_Open (n + 1) (some fa) b i (fm o (.live [.bool true, .int .i64 2, .int .i64 7]) false 0 0) = some (Value.nilIface, fm o (.live [.bool true, .int .i64 2, .int .i64 7]) true b i) := by
    unfold front_Front_Open
    rw [decide_eq_false (show ¬ b < 0 by omega), decide_eq_false (show ¬ b ≥ 12 by omega), decide_eq_false (show ¬ i < 0 by omega), decide_eq_false (show ¬ i > 8 by omega)]
    rfl
  obtain ⟨at1, hl⟩ := loop_eq (n + 1) (u := .live [.bool true, .int .i64 2, .int .i64 7]) (c := c) hh hw hn (b := b) ⟨hb1, hb2⟩ (fun y6 m20 => some (y6, m20)) (fun y8 m21 =>
    (front_Front_Close (n + 1) (some y8) m21).bind fun r22 =>
    (front_Front_Block (n + 1) (some y8) r22).bind fun r23 =>
    bif r23.1 == (-1) then (
    (front_Front_Room (n + 1) (some y8) 0 r23.2).bind fun r24 =>
    bif !r24.1 then (
    (front_Front_Room (n + 1) (some y8) 24 r24.2).bind fun r25 =>
    some (!r25.1, r25.2)) else (
    some (false, r24.2))) else (
    some (false, r23.2))) n 0 (n + 1) i (by omega) (by omega) (by omega)
  obtain ⟨m', he⟩ := end_eq (n + 1) (o := o) (u := .live [.bool true, .int .i64 2, .int .i64 7]) (b := b) (i := at1)
  refine ⟨m', ?_⟩
  unfold patinalaw13_FrontFills
  rw [up_eq]
  simp only [Option.bind_some]
  show ((patinalaw13_pick (n + 1) raw 12 (fm o (.live [.bool true, .int .i64 2, .int .i64 7]) false 0 0)).bind _) = _
  rw [hb]
  simp only [Option.bind_some]
  rw [hi]
  simp only [Option.bind_some]
  show ((front_Front_Open (n + 1) (some fa) b i (fm o (.live [.bool true, .int .i64 2, .int .i64 7]) false 0 0)).bind _) = _
  rw [hopen]
  simp only [Option.bind_some, isNil, Bool.not_true, cond_false]
  exact hl.trans he
end Go.Proofs.Ytnilidpafijdlab
