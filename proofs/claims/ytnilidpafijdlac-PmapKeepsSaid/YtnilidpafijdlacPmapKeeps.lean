/- The plain law of PmapKeeps: no page carries two numbers, no number lies at two pages; the counts agree. -/
import Derived.Test.YtnilidpafijdlacPmap
import Derived.Test.YtnilidpafijdlacFLPmapKeeps
set_option linter.unusedVariables false
set_option linter.unusedSimpArgs false
namespace Go.Proofs.Ytnilidpafijdlac
open Go.Mx

theorem pick12_eq (k : Nat) (c n : Int) (m : Mem) (h1 : -9223372036854775808 ≤ c) (h2 : c < 9223372036854775808) (hn : 0 < n) : patinalaw12_pick k c n m = some ((if c < 0 then -(c + 1) else c) % n, m) := by
  unfold patinalaw12_pick patinalaw12_pick_j1
  by_cases h : c < 0
  · simp (disch := omega) only [Option.bind_some, Option.map_some, cond_true, cond_false, wrap_i64, tmod_pos, tdiv_pos, inRange_yes, inUpto_yes, isZero_no, decide_eq_true, decide_eq_false, Bool.not_true, Bool.not_false, Int.toNat_natCast, Nat.mul_one, beqI_yes, beqI_no, bneI_yes, bneI_no, isNil_nil, isNil_iface, wr_wr, Option.isNone_none, Option.isNone_some, plus, Nat.zero_add, Nat.add_zero, if_pos h]
    simp only [show 0 - (c + 1) = -(c + 1) by omega]
  · simp (disch := omega) only [Option.bind_some, Option.map_some, cond_true, cond_false, wrap_i64, tmod_pos, tdiv_pos, inRange_yes, inUpto_yes, isZero_no, decide_eq_true, decide_eq_false, Bool.not_true, Bool.not_false, Int.toNat_natCast, Nat.mul_one, beqI_yes, beqI_no, bneI_yes, bneI_no, isNil_nil, isNil_iface, wr_wr, Option.isNone_none, Option.isNone_some, plus, Nat.zero_add, Nat.add_zero, if_neg h]
def pickI (c n : Int) : Int := (if c < 0 then -(c + 1) else c) % n
theorem pickI_range (c : Int) {n : Int} (hn : 0 < n) : 0 ≤ pickI c n ∧ pickI c n < n := ⟨Int.emod_nonneg _ (by omega), Int.emod_lt_of_pos _ hn⟩
theorem pick12_ok (k : Nat) (c n : Int) (m : Mem) (h : (Lit.int .i64 c).wf = true) (hn : 0 < n) : patinalaw12_pick k c n m = some (pickI c n, m) := by
  have := wf_i64 h
  exact pick12_eq k c n m this.1 this.2 hn

theorem up12_ok (k : Nat) (o : MObj) : ∃ m, patinalaw12_up (k + 40) [o] = some (true, m) ∧ m[0]? = some o := by
  have h : (patinalaw12_up (k + 40) [o]).map (fun r => (r.1, r.2[0]?)) = some (true, some o) := by kernel_rfl
  obtain ⟨⟨b, m⟩, h1, h2⟩ := Option.map_eq_some_iff.1 h
  simp only [Prod.mk.injEq] at h2
  exact ⟨m, by rw [h1, h2.1], h2.2⟩

def sumB (f : Int → Int) : Nat → Int
  | 0 => 0
  | n + 1 => sumB f n + f n
theorem sumB_upd (f : Int → Int) (x v : Int) (n : Nat) : sumB (upd f x v) n = sumB f n + if 0 ≤ x ∧ x < n then v - f x else 0 := by
  induction n with
  | zero => rw [if_neg (by omega)]; rfl
  | succ n ih =>
    show sumB (upd f x v) n + upd f x v n = sumB f n + f n + _
    rw [ih]
    by_cases h : (n : Int) = x
    · subst h
      rw [upd_same, if_neg (by omega), if_pos (by omega)]; omega
    · rw [upd_ne h]
      split <;> split <;> omega
/-- how many of the first n things are not 0 -/
def some_ (f : Int → Int) : Nat → Int
  | 0 => 0
  | n + 1 => some_ f n + if f n ≠ 0 then 1 else 0
theorem some_succ (f : Int → Int) (n : Nat) : some_ f (n + 1) = some_ f n + if f n ≠ 0 then 1 else 0 := rfl
theorem some_le (f : Int → Int) (n : Nat) : 0 ≤ some_ f n ∧ some_ f n ≤ n := by
  induction n with
  | zero => simp [some_]
  | succ n ih => rw [some_succ]; split <;> omega
theorem MapS.sum_live (σ : MapS) (h : σ.Wf) (n : Nat) (hn : n ≤ 25) : sumB (σ.liveTo n) 12 = some_ σ.at_ n := by
  induction n with
  | zero => rfl
  | succ n ih =>
    have ih := ih (by omega)
    have := h.a n (by omega) (by omega)
    rw [some_succ]
    by_cases h0 : σ.at_ n = 0
    · have e : σ.liveTo (n + 1) = σ.liveTo n := by show (if _ then _ else _) = _; rw [if_neg (by simp [h0])]
      rw [e, ih, if_neg (by simp [h0])]; omega
    · have e : σ.liveTo (n + 1) = upd (σ.liveTo n) ((σ.at_ n - 1) / 8) (σ.liveTo n ((σ.at_ n - 1) / 8) + 1) := by show (if _ then _ else _) = _; rw [if_pos h0]
      rw [e, sumB_upd, ih, if_pos (by omega), if_pos h0]; omega
theorem MapS.of_some (σ : MapS) (p n : Nat) : some_ σ.ow (p + n) = some_ σ.ow p + (σ.ofTo p n).length := by
  induction n with
  | zero => simp [MapS.ofTo]
  | succ n ih =>
    rw [← Nat.add_assoc, some_succ, ih]
    show _ = _ + (((σ.ofTo p n) ++ _ : List Int).length : Int)
    rw [List.length_append]
    rw [show ((p + n : Nat) : Int) = (p : Int) + n by omega]
    split <;> simp <;> omega
theorem MapS.own_live (σ : MapS) (h : σ.Wf) (b : Nat) (hb : b ≤ 12) : some_ σ.ow (8 * b) = sumB (σ.liveTo 25) b := by
  induction b with
  | zero => rfl
  | succ b ih =>
    have ih := ih (by omega)
    have e := σ.of_some (8 * b) 8
    rw [show 8 * (b + 1) = 8 * b + 8 by omega, e, ih]
    show _ = sumB (σ.liveTo 25) b + σ.liveTo 25 b
    rw [σ.live_is h b (by omega) (by omega)]
    simp
theorem MapS.all_alike (σ : MapS) (h : σ.Wf) : some_ σ.ow 96 = some_ σ.at_ 25 ∧ sumB (σ.liveTo 25) 12 = some_ σ.at_ 25 :=
  ⟨(σ.own_live h 12 (by omega)).trans (σ.sum_live h 25 (by omega)), σ.sum_live h 25 (by omega)⟩

theorem script_ok (k : Nat) (hk : 100 < k) (kx2 : Option Addr → Mem → Option (Bool × Mem)) {P : Bool × Mem → Prop} {o : MObj} {q : Option Addr} {N c' p : Nat} {cs : List Value} (hh : Holds o 0 q N [.int .i64, .int .i64, .int .i64] cs) (hN : N * 24 ≤ 140737488351232) (hkN : N < k)
    (hx : ∀ m σ, MapS.Wf σ → Own m [(p, .live (mapC σ))] → Ok (kx2 (some ⟨p, 0, none⟩) m) P) {m : Mem} (hO : Own m [(p, .live (mapC .empty)), (0, o)]) :
    Ok (patinalaw12_PmapKeeps_l0 k kx2 k q N c' (some ⟨p, 0, none⟩) 0 m) P := by
  refine patinalaw12_PmapKeeps_l0_rule k _ (fun d x0a x0n x0c x4 x5 m => q = x0a ∧ N = x0n ∧ c' = x0c ∧ some ⟨p, 0, none⟩ = x4 ∧ 0 ≤ x5 ∧ x5 + d = N ∧ ∃ σ : MapS, Own m [(p, .live (mapC σ)), (0, o)] ∧ σ.Wf)
    ?_ k N _ _ _ _ 0 _ hkN ⟨rfl, rfl, rfl, rfl, by omega, by omega, _, hO, MapS.empty_wf⟩
  rintro d nx _ _ _ _ i m ⟨rfl, rfl, rfl, rfl, hi, hd, σ, hO, hσ⟩ hnx
  unfold patinalaw12_PmapKeeps_l0_b
  by_cases h1 : i < N
  · have hp := hh.ptr (j := i.toNat) (by omega)
    subst hp
    obtain ⟨u, v, w, l, w1, w2, w3⟩ := hh.ld3 (hO.at 1 rfl) hi h1
    have hO1 := hO.new (.live [.int .i64 0, .int .i64 0, .int .i64 0])
    have e3 := stCells_wr (sp := none) (off := 0) (vs := [.int .i64 u, .int .i64 v, .int .i64 w]) (hO1.at 0 rfl) (by simp)
    have hO2 := hO1.wr 0 rfl [.int .i64 u, .int .i64 v, .int .i64 w]
    simp only [List.take, List.drop, List.nil_append, List.length_cons, List.length_nil, Nat.zero_add, Nat.reduceAdd, List.append_nil] at e3
    have l0 := hO2.ldInt (sp := none) 0 rfl (off := 0) (k := .i64) (z := u) rfl
    have l1 := hO2.ldInt (sp := none) 0 rfl (off := 1) (k := .i64) (z := v) rfl
    have l2 := hO2.ldInt (sp := none) 0 rfl (off := 2) (k := .i64) (z := w) rfl
    obtain ⟨a1, a2⟩ := pickI_range u (n := 4) (by omega)
    simp (disch := omega) only [Option.bind_some, Option.map_some, cond_true, cond_false, wrap_i64, tmod_pos, tdiv_pos, inRange_yes, inUpto_yes, isZero_no, decide_eq_true, decide_eq_false, Bool.not_true, Bool.not_false, Int.toNat_natCast, Nat.mul_one, beqI_yes, beqI_no, bneI_yes, bneI_no, isNil_nil, isNil_iface, wr_wr, Option.isNone_none, Option.isNone_some, plus, Nat.zero_add, Nat.add_zero, l, e3, l1, l0, pick12_ok k v 25 _ w2 (by omega), pick12_ok k u 4 _ w1 (by omega), show Nat.beq (List.length [Value.int .i64 u, Value.int .i64 v, Value.int .i64 w]) 3 = true from rfl, patinalaw12_PmapKeeps_j1]
    by_cases g : pickI u 4 = 0
    · simp (disch := omega) only [Option.bind_some, Option.map_some, cond_true, cond_false, wrap_i64, tmod_pos, tdiv_pos, inRange_yes, inUpto_yes, isZero_no, decide_eq_true, decide_eq_false, Bool.not_true, Bool.not_false, Int.toNat_natCast, Nat.mul_one, beqI_yes, beqI_no, bneI_yes, bneI_no, isNil_nil, isNil_iface, wr_wr, Option.isNone_none, Option.isNone_some, plus, Nat.zero_add, Nat.add_zero, pmap_Drop_is k (hO2.at 1 rfl) _ hσ]
      exact hnx (d - 1) _ _ _ _ _ _ (by omega) ⟨rfl, rfl, rfl, rfl, by omega, by omega, _, (hO2.wr 1 rfl _).tail, MapS.dropTo_wf hσ _⟩
    · simp (disch := omega) only [Option.bind_some, Option.map_some, cond_true, cond_false, wrap_i64, tmod_pos, tdiv_pos, inRange_yes, inUpto_yes, isZero_no, decide_eq_true, decide_eq_false, Bool.not_true, Bool.not_false, Int.toNat_natCast, Nat.mul_one, beqI_yes, beqI_no, bneI_yes, bneI_no, isNil_nil, isNil_iface, wr_wr, Option.isNone_none, Option.isNone_some, plus, Nat.zero_add, Nat.add_zero, l2, pick12_ok k w 96 _ w3 (by omega), pmap_Set_is k (hO2.at 1 rfl) hσ]
      exact hnx (d - 1) _ _ _ _ _ _ (by omega) ⟨rfl, rfl, rfl, rfl, by omega, by omega, _, (hO2.wr 1 rfl _).tail, MapS.setTo_wf hσ _ _⟩
  · simp (disch := omega) only [Option.bind_some, Option.map_some, cond_true, cond_false, wrap_i64, tmod_pos, tdiv_pos, inRange_yes, inUpto_yes, isZero_no, decide_eq_true, decide_eq_false, Bool.not_true, Bool.not_false, Int.toNat_natCast, Nat.mul_one, beqI_yes, beqI_no, bneI_yes, bneI_no, isNil_nil, isNil_iface, wr_wr, Option.isNone_none, Option.isNone_some, plus, Nat.zero_add, Nat.add_zero]
    exact hx m σ hσ (hO.pick [0] 2 (by decide))

theorem looks_ok (k : Nat) (hk : 100 < k) (kx0 : Bool → Mem → Option (Bool × Mem)) (kx4 : Option Addr → Int → Mem → Option (Bool × Mem)) {P : Bool × Mem → Prop} {p : Nat} {σ : MapS} (hσ : σ.Wf) {m : Mem} (h : m[p]? = some (.live (mapC σ)))
    (hx : Ok (kx4 (some ⟨p, 0, none⟩) (some_ σ.at_ 25) m) P) : Ok (patinalaw12_PmapKeeps_l2 k kx0 kx4 k (some ⟨p, 0, none⟩) 0 0 m) P := by
  refine patinalaw12_PmapKeeps_l2_rule k _ _ (fun d x4 x8 x9 m' => some ⟨p, 0, none⟩ = x4 ∧ 0 ≤ x9 ∧ x9 + d = 25 ∧ some_ σ.at_ x9.toNat = x8 ∧ m = m') ?_ k 25 _ 0 0 _ (by omega) ⟨rfl, by omega, by omega, rfl, rfl⟩
  rintro d nx _ _ i _ ⟨rfl, hi, hd, rfl, rfl⟩ hnx
  unfold patinalaw12_PmapKeeps_l2_b
  by_cases h1 : i ≤ 24
  · have ha := hσ.a i hi (by omega)
    have hs := some_le σ.at_ i.toNat
    have e : some_ σ.at_ (i + 1).toNat = some_ σ.at_ i.toNat + if σ.at_ i ≠ 0 then 1 else 0 := by
      rw [show (i + 1).toNat = i.toNat + 1 by omega, some_succ, show ((i.toNat : Nat) : Int) = i by omega]
    by_cases h2 : σ.at_ i = 0
    · have c1 : σ.atCode i = 11 := by unfold MapS.atCode; grind
      have c2 : σ.atV i = 0 := by simp [MapS.atV, c1]
      rw [if_neg (by simp [h2]), Int.add_zero] at e
      simp (disch := omega) only [Option.bind_some, Option.map_some, cond_true, cond_false, wrap_i64, tmod_pos, tdiv_pos, inRange_yes, inUpto_yes, isZero_no, decide_eq_true, decide_eq_false, Bool.not_true, Bool.not_false, Int.toNat_natCast, Nat.mul_one, beqI_yes, beqI_no, bneI_yes, bneI_no, isNil_nil, isNil_iface, wr_wr, Option.isNone_none, Option.isNone_some, plus, Nat.zero_add, Nat.add_zero, pmap_At_is k h i hσ, c1, c2, isNil_errC, ifEq_errC, patinalaw12_PmapKeeps_j2]
      exact hnx (d - 1) _ _ _ _ (by omega) ⟨rfl, by omega, by omega, e, rfl⟩
    · have c1 : σ.atCode i = 0 := by unfold MapS.atCode; grind
      have c2 : σ.atV i = σ.at_ i - 1 := by simp [MapS.atV, c1]
      have ho := (hσ.iff i (σ.at_ i - 1) hi (by omega) (by omega) (by omega)).1 (by omega)
      have c3 : σ.ownCode (σ.at_ i - 1) = 0 := by unfold MapS.ownCode; rw [if_neg (by omega), if_neg (by omega)]
      have c4 : σ.ownV (σ.at_ i - 1) = i := by simp only [MapS.ownV, c3, if_true]; omega
      have hm := hσ.may i hi (by omega) h2
      rw [if_pos h2] at e
      simp (disch := omega) only [Option.bind_some, Option.map_some, cond_true, cond_false, wrap_i64, tmod_pos, tdiv_pos, inRange_yes, inUpto_yes, isZero_no, decide_eq_true, decide_eq_false, Bool.not_true, Bool.not_false, Int.toNat_natCast, Nat.mul_one, beqI_yes, beqI_no, bneI_yes, bneI_no, isNil_nil, isNil_iface, wr_wr, Option.isNone_none, Option.isNone_some, plus, Nat.zero_add, Nat.add_zero, pmap_At_is k h i hσ, c1, c2, isNil_errC, pmap_Owner_is k h _ hσ, c3, c4, patinalaw12_PmapKeeps_j2]
      by_cases h3 : i < 24
      · simp (disch := omega) only [Option.bind_some, Option.map_some, cond_true, cond_false, wrap_i64, tmod_pos, tdiv_pos, inRange_yes, inUpto_yes, isZero_no, decide_eq_true, decide_eq_false, Bool.not_true, Bool.not_false, Int.toNat_natCast, Nat.mul_one, beqI_yes, beqI_no, bneI_yes, bneI_no, isNil_nil, isNil_iface, wr_wr, Option.isNone_none, Option.isNone_some, plus, Nat.zero_add, Nat.add_zero]
        exact hnx (d - 1) _ _ _ _ (by omega) ⟨rfl, by omega, by omega, e, rfl⟩
      · simp (disch := omega) only [Option.bind_some, Option.map_some, cond_true, cond_false, wrap_i64, tmod_pos, tdiv_pos, inRange_yes, inUpto_yes, isZero_no, decide_eq_true, decide_eq_false, Bool.not_true, Bool.not_false, Int.toNat_natCast, Nat.mul_one, beqI_yes, beqI_no, bneI_yes, bneI_no, isNil_nil, isNil_iface, wr_wr, Option.isNone_none, Option.isNone_some, plus, Nat.zero_add, Nat.add_zero]
        exact hnx (d - 1) _ _ _ _ (by omega) ⟨rfl, by omega, by omega, e, rfl⟩
  · have : i = 25 := by omega
    subst this
    simp (disch := omega) only [Option.bind_some, Option.map_some, cond_true, cond_false, wrap_i64, tmod_pos, tdiv_pos, inRange_yes, inUpto_yes, isZero_no, decide_eq_true, decide_eq_false, Bool.not_true, Bool.not_false, Int.toNat_natCast, Nat.mul_one, beqI_yes, beqI_no, bneI_yes, bneI_no, isNil_nil, isNil_iface, wr_wr, Option.isNone_none, Option.isNone_some, plus, Nat.zero_add, Nat.add_zero]
    exact hx

theorem pages_ok (k : Nat) (hk : 100 < k) (kx8 : Int → Option Addr → Nat → Nat → Int → Int → Mem → Option (Bool × Mem)) {P : Bool × Mem → Prop} {p : Nat} {σ : MapS} (hσ : σ.Wf) {m : Mem} (h : m[p]? = some (.live (mapC σ))) {a : Option Addr} {n c : Nat} {x8 x15 : Int}
    (hx : Ok (kx8 x8 a n c x15 (some_ σ.ow 96) m) P) : Ok (patinalaw12_PmapKeeps_l6 k kx8 k (some ⟨p, 0, none⟩) x8 a n c x15 0 0 m) P := by
  refine patinalaw12_PmapKeeps_l6_rule k _ (fun d x4 x8' x14a x14n x14c x15' x16 x20 m' => some ⟨p, 0, none⟩ = x4 ∧ x8 = x8' ∧ a = x14a ∧ n = x14n ∧ c = x14c ∧ x15 = x15' ∧ 0 ≤ x20 ∧ x20 + d = 96 ∧ some_ σ.ow x20.toNat = x16 ∧ m = m') ?_ k 96 _ _ _ _ _ _ 0 0 _ (by omega) ⟨rfl, rfl, rfl, rfl, rfl, rfl, by omega, by omega, rfl, rfl⟩
  rintro d nx _ _ _ _ _ _ _ i _ ⟨rfl, rfl, rfl, rfl, rfl, rfl, hi, hd, rfl, rfl⟩ hnx
  unfold patinalaw12_PmapKeeps_l6_b
  by_cases h1 : i < 96
  · have hs := some_le σ.ow i.toNat
    have e : some_ σ.ow (i + 1).toNat = some_ σ.ow i.toNat + if σ.ow i ≠ 0 then 1 else 0 := by
      rw [show (i + 1).toNat = i.toNat + 1 by omega, some_succ, show ((i.toNat : Nat) : Int) = i by omega]
    by_cases h2 : σ.ow i = 0
    · have c1 : σ.ownCode i = 11 := by unfold MapS.ownCode; rw [if_neg (by omega), if_pos h2]
      rw [if_neg (by simp [h2]), Int.add_zero] at e
      simp (disch := omega) only [Option.bind_some, Option.map_some, cond_true, cond_false, wrap_i64, tmod_pos, tdiv_pos, inRange_yes, inUpto_yes, isZero_no, decide_eq_true, decide_eq_false, Bool.not_true, Bool.not_false, Int.toNat_natCast, Nat.mul_one, beqI_yes, beqI_no, bneI_yes, bneI_no, isNil_nil, isNil_iface, wr_wr, Option.isNone_none, Option.isNone_some, plus, Nat.zero_add, Nat.add_zero, pmap_Owner_is k h i hσ, c1, isNil_errC, patinalaw12_PmapKeeps_j3]
      exact hnx (d - 1) _ _ _ _ _ _ _ _ _ (by omega) ⟨rfl, rfl, rfl, rfl, rfl, rfl, by omega, by omega, e, rfl⟩
    · have c1 : σ.ownCode i = 0 := by unfold MapS.ownCode; rw [if_neg (by omega), if_neg h2]
      rw [if_pos h2] at e
      simp (disch := omega) only [Option.bind_some, Option.map_some, cond_true, cond_false, wrap_i64, tmod_pos, tdiv_pos, inRange_yes, inUpto_yes, isZero_no, decide_eq_true, decide_eq_false, Bool.not_true, Bool.not_false, Int.toNat_natCast, Nat.mul_one, beqI_yes, beqI_no, bneI_yes, bneI_no, isNil_nil, isNil_iface, wr_wr, Option.isNone_none, Option.isNone_some, plus, Nat.zero_add, Nat.add_zero, pmap_Owner_is k h i hσ, c1, isNil_errC, patinalaw12_PmapKeeps_j3]
      exact hnx (d - 1) _ _ _ _ _ _ _ _ _ (by omega) ⟨rfl, rfl, rfl, rfl, rfl, rfl, by omega, by omega, e, rfl⟩
  · have : i = 96 := by omega
    subst this
    simp (disch := omega) only [Option.bind_some, Option.map_some, cond_true, cond_false, wrap_i64, tmod_pos, tdiv_pos, inRange_yes, inUpto_yes, isZero_no, decide_eq_true, decide_eq_false, Bool.not_true, Bool.not_false, Int.toNat_natCast, Nat.mul_one, beqI_yes, beqI_no, bneI_yes, bneI_no, isNil_nil, isNil_iface, wr_wr, Option.isNone_none, Option.isNone_some, plus, Nat.zero_add, Nat.add_zero]
    exact hx

theorem blocks_ok (k : Nat) (hk : 100 < k) (kx0 : Bool → Mem → Option (Bool × Mem)) (kx6 : Option Addr → Int → Option Addr → Nat → Nat → Int → Int → Mem → Option (Bool × Mem)) {P : Bool × Mem → Prop} {p w : Nat} {σ : MapS} (hσ : σ.Wf) {m : Mem} (hO : Own m [(w, .live (arr .i64 12 (σ.liveTo 25))), (p, .live (mapC σ))]) {x8 : Int}
    (hx : ∀ m, Own m [(w, .live (arr .i64 12 (σ.liveTo 25))), (p, .live (mapC σ))] → Ok (kx6 (some ⟨p, 0, none⟩) x8 (some ⟨w, 0, none⟩) 12 12 (sumB (σ.liveTo 25) 12) 0 m) P) : Ok (patinalaw12_PmapKeeps_l4 k kx0 kx6 k (some ⟨p, 0, none⟩) x8 (some ⟨w, 0, none⟩) 12 12 0 0 0 m) P := by
  refine patinalaw12_PmapKeeps_l4_rule k _ _ (fun d x4 x8' x14a x14n x14c x15 x16 x17 m' => some ⟨p, 0, none⟩ = x4 ∧ x8 = x8' ∧ some ⟨w, 0, none⟩ = x14a ∧ 12 = x14n ∧ 12 = x14c ∧ 0 = x16 ∧ 0 ≤ x17 ∧ x17 + d = 12 ∧ sumB (σ.liveTo 25) x17.toNat = x15 ∧
    (0 ≤ x15 ∧ x15 ≤ 25 * x17) ∧ Own m' [(w, .live (arr .i64 12 (σ.liveTo 25))), (p, .live (mapC σ))]) ?_ k 12 _ _ _ _ _ 0 0 0 _ (by omega) ⟨rfl, rfl, rfl, rfl, rfl, rfl, by omega, by omega, rfl, by omega, hO⟩
  rintro d nx _ _ _ _ _ _ _ i m' ⟨rfl, rfl, rfl, rfl, rfl, rfl, hi, hd, rfl, hr, hO⟩ hnx
  unfold patinalaw12_PmapKeeps_l4_b
  by_cases h1 : i < 12
  · have hl := σ.live_is hσ i hi h1
    have hl2 := σ.liveTo_le 25 i
    have e : sumB (σ.liveTo 25) (i + 1).toNat = sumB (σ.liveTo 25) i.toNat + σ.liveTo 25 i := by
      rw [show (i + 1).toNat = i.toNat + 1 by omega]
      show _ + σ.liveTo 25 (i.toNat : Int) = _
      rw [show ((i.toNat : Nat) : Int) = i by omega]
    simp (disch := omega) only [Option.bind_some, Option.map_some, cond_true, cond_false, wrap_i64, tmod_pos, tdiv_pos, inRange_yes, inUpto_yes, isZero_no, decide_eq_true, decide_eq_false, Bool.not_true, Bool.not_false, Int.toNat_natCast, Nat.mul_one, beqI_yes, beqI_no, bneI_yes, bneI_no, isNil_nil, isNil_iface, wr_wr, Option.isNone_none, Option.isNone_some, plus, Nat.zero_add, Nat.add_zero]
    refine .bind (pmap_Of_ok k (by omega) (hO.pick [1, 0] 2 (by decide)) hσ i) ?_
    rintro ⟨⟨a, n, c⟩, _, m2⟩ ⟨_, rfl, rfl, hA, hO2⟩
    simp only at hA hO2 ⊢
    rw [if_pos (⟨hi, h1⟩ : 0 ≤ i ∧ i < 12)] at hA hO2 ⊢
    have hn : n = (σ.ofTo (8 * i) 8).length := by have := hA.len; simp at *; omega
    have hO3 := hO2.back.pick [1, 0] 2 (by decide)
    have hO3' : Own m2 [(w, .live (arr .i64 12 (σ.liveTo 25))), (p, .live (mapC σ))] := hO3
    simp (disch := omega) only [Option.bind_some, Option.map_some, cond_true, cond_false, wrap_i64, tmod_pos, tdiv_pos, inRange_yes, inUpto_yes, isZero_no, decide_eq_true, decide_eq_false, Bool.not_true, Bool.not_false, Int.toNat_natCast, Nat.mul_one, beqI_yes, beqI_no, bneI_yes, bneI_no, isNil_nil, isNil_iface, wr_wr, Option.isNone_none, Option.isNone_some, plus, Nat.zero_add, Nat.add_zero, errC_zero, arr_ld (hO3'.at 0 rfl)]
    exact hnx (d - 1) _ _ _ _ _ _ _ _ _ (by omega) ⟨rfl, rfl, rfl, rfl, rfl, rfl, by omega, by omega, e, by omega, hO3'⟩
  · have : i = 12 := by omega
    subst this
    simp (disch := omega) only [Option.bind_some, Option.map_some, cond_true, cond_false, wrap_i64, tmod_pos, tdiv_pos, inRange_yes, inUpto_yes, isZero_no, decide_eq_true, decide_eq_false, Bool.not_true, Bool.not_false, Int.toNat_natCast, Nat.mul_one, beqI_yes, beqI_no, bneI_yes, bneI_no, isNil_nil, isNil_iface, wr_wr, Option.isNone_none, Option.isNone_some, plus, Nat.zero_add, Nat.add_zero]
    exact hx _ hO

theorem pmapKeeps_run (o : MObj) (q : Option Addr) (N c' : Nat) (cs : List Value) (hh : Holds o 0 q N [.int .i64, .int .i64, .int .i64] cs) (hc : N ≤ c') (hN : N * 24 ≤ 140737488351232) :
    ∃ k m', patinalaw12_PmapKeeps k q N c' [o] = some (true, m') := by
  obtain ⟨m1, e1, e3⟩ := up12_ok (N + 1000) o
  have hk : 100 + N < N + 1000 + 40 := by omega
  generalize N + 1000 + 40 = k at e1 hk
  refine ⟨k, ?_⟩
  have key : Ok (patinalaw12_PmapKeeps k q N c' [o]) fun r => r.1 = true := by
    unfold patinalaw12_PmapKeeps
    have hO0 : Own m1 [(0, o)] := ⟨by simp, by simp [e3]⟩
    simp (disch := omega) only [Option.bind_some, Option.map_some, cond_true, cond_false, wrap_i64, tmod_pos, tdiv_pos, inRange_yes, inUpto_yes, isZero_no, decide_eq_true, decide_eq_false, Bool.not_true, Bool.not_false, Int.toNat_natCast, Nat.mul_one, beqI_yes, beqI_no, bneI_yes, bneI_no, isNil_nil, isNil_iface, wr_wr, Option.isNone_none, Option.isNone_some, plus, Nat.zero_add, Nat.add_zero, e1, pmapNew_is]
    refine script_ok k (by omega) _ hh hN (by omega) ?_ (hO0.new (.live (mapC .empty)))
    intro m σ hσ hO
    refine looks_ok k (by omega) _ _ hσ (hO.at 0 rfl) ?_
    refine .bind (pmap_Live_ok k (by omega) hO hσ) ?_
    rintro ⟨_, m2⟩ ⟨w, rfl, hO2⟩
    refine blocks_ok k (by omega) _ _ hσ hO2 fun m3 hO3 => ?_
    refine pages_ok k (by omega) _ hσ (hO3.at 1 rfl) ?_
    obtain ⟨c1, c2⟩ := σ.all_alike hσ
    simp (disch := omega) only [Option.bind_some, Option.map_some, cond_true, cond_false, wrap_i64, tmod_pos, tdiv_pos, inRange_yes, inUpto_yes, isZero_no, decide_eq_true, decide_eq_false, Bool.not_true, Bool.not_false, Int.toNat_natCast, Nat.mul_one, beqI_yes, beqI_no, bneI_yes, bneI_no, isNil_nil, isNil_iface, wr_wr, Option.isNone_none, Option.isNone_some, plus, Nat.zero_add, Nat.add_zero, c1, c2]
    exact .some (by simp)
  obtain ⟨⟨r, m'⟩, h1, h2⟩ := key
  exact ⟨m', by rw [h1]; simp only at h2; rw [h2]⟩
end Go.Proofs.Ytnilidpafijdlac
