/- Bytes: parts, comparison, what an argument holds. -/
import Derived.Test.YtlbbcgjfkpnilaaByt
import Derived.Test.YtlbbcgjfkpnilaaMxNest
import Derived.Test.YtlbbcgjfkpnilaaFpatinaref01
set_option linter.unusedVariables false
set_option linter.unusedSectionVars false
set_option linter.unusedSimpArgs false
namespace Go.Proofs.Ytlbbcgjfkpnilaa
open Go.Mx

theorem Src.sub {m : Mem} {d n o l : Nat} {w : Nat → GF} {sp : Option Nat} (h : m[d]? = some (.live (bys n w))) (hl : o + l ≤ n) : Src m (some ⟨d, o, sp⟩) l fun i => w (o + i) := bys_rd h hl
theorem Src.take {m : Mem} {d n l : Nat} {w : Nat → GF} {sp : Option Nat} (h : m[d]? = some (.live (bys n w))) (hl : l ≤ n) : Src m (some ⟨d, 0, sp⟩) l w := by
  have := Src.sub (sp := sp) h (o := 0) (l := l) (by omega)
  simpa using this

theorem same_is (k : Nat) {m : Mem} {a b : Option Addr} {n n' c c' : Nat} {u w : Nat → GF} (ha : Src m a n u) (hb : Src m b n' w) (hk : n < k) (hn : n < 4611686018427387904) :
    ∃ z, patinaref01_Same k a n c b n' c' m = some (z, m) ∧ (z = true ↔ n = n' ∧ ∀ i, i < n → u i = w i) := by
  by_cases hne : n = n'
  · subst hne
    have key : Ok (patinaref01_Same k a n c b n c' m) fun r => r.2 = m ∧ (r.1 = true ↔ ∀ i, i < n → u i = w i) := by
      unfold patinaref01_Same
      have h0 : ((n : Int) != (n : Int)) = false := bneI_no rfl
      simp (disch := omega) only [Option.bind_some, Option.map_some, cond_true, cond_false, wrap_i64, tmod_pos, tdiv_pos, inRange_yes, inUpto_yes, isZero_no, decide_eq_true, decide_eq_false, Bool.not_true, Bool.not_false, Int.toNat_natCast, Nat.mul_one, beqI_yes, beqI_no, bneI_yes, bneI_no, isNil_nil, isNil_iface, wr_wr, Option.isNone_none, Option.isNone_some, plus, Nat.zero_add, Nat.add_zero, h0]
      refine patinaref01_Same_l0_rule k _ _ (fun r x0a x0n x0c x1a x1n x1c x5 m' => a = x0a ∧ n = x0n ∧ c = x0c ∧ b = x1a ∧ n = x1n ∧ c' = x1c ∧ m = m' ∧ ∃ j : Nat, x5 = j ∧ j + r = n ∧ ∀ i, i < j → u i = w i) ?_ k n _ _ _ _ _ _ _ _ hk ⟨rfl, rfl, rfl, rfl, rfl, rfl, rfl, 0, rfl, by omega, fun i hi => by omega⟩
      rintro r nx _ _ _ _ _ _ _ _ ⟨rfl, rfl, rfl, rfl, rfl, rfl, rfl, j, rfl, hr, he⟩ hnx
      unfold patinaref01_Same_l0_b
      by_cases hj : (j : Int) < n
      · obtain ⟨ad, rfl, e1⟩ := ha.ld (i := j) (by omega)
        obtain ⟨bd, rfl, e2⟩ := hb.ld (i := j) (by omega)
        unfold plus at e1 e2
        simp (disch := omega) only [Option.bind_some, Option.map_some, cond_true, cond_false, wrap_i64, tmod_pos, tdiv_pos, inRange_yes, inUpto_yes, isZero_no, decide_eq_true, decide_eq_false, Bool.not_true, Bool.not_false, Int.toNat_natCast, Nat.mul_one, beqI_yes, beqI_no, bneI_yes, bneI_no, isNil_nil, isNil_iface, wr_wr, Option.isNone_none, Option.isNone_some, plus, Nat.zero_add, Nat.add_zero, e1, e2, v_bne]
        by_cases h1 : u j = w j
        · rw [decide_eq_true h1]
          simp (disch := omega) only [Option.bind_some, Option.map_some, cond_true, cond_false, wrap_i64, tmod_pos, tdiv_pos, inRange_yes, inUpto_yes, isZero_no, decide_eq_true, decide_eq_false, Bool.not_true, Bool.not_false, Int.toNat_natCast, Nat.mul_one, beqI_yes, beqI_no, bneI_yes, bneI_no, isNil_nil, isNil_iface, wr_wr, Option.isNone_none, Option.isNone_some, plus, Nat.zero_add, Nat.add_zero]
          refine hnx (r - 1) _ _ _ _ _ _ _ _ (by omega) ⟨rfl, rfl, rfl, rfl, rfl, rfl, rfl, j + 1, by omega, by omega, fun i hi => ?_⟩
          by_cases h2 : i = j
          · rw [h2]; exact h1
          · exact he i (by omega)
        · rw [decide_eq_false h1]
          simp (disch := omega) only [Option.bind_some, Option.map_some, cond_true, cond_false, wrap_i64, tmod_pos, tdiv_pos, inRange_yes, inUpto_yes, isZero_no, decide_eq_true, decide_eq_false, Bool.not_true, Bool.not_false, Int.toNat_natCast, Nat.mul_one, beqI_yes, beqI_no, bneI_yes, bneI_no, isNil_nil, isNil_iface, wr_wr, Option.isNone_none, Option.isNone_some, plus, Nat.zero_add, Nat.add_zero]
          exact .some ⟨rfl, ⟨fun h => (by cases h), fun h => absurd (h j (by omega)) h1⟩⟩
      · obtain rfl : j = n := by omega
        simp (disch := omega) only [Option.bind_some, Option.map_some, cond_true, cond_false, wrap_i64, tmod_pos, tdiv_pos, inRange_yes, inUpto_yes, isZero_no, decide_eq_true, decide_eq_false, Bool.not_true, Bool.not_false, Int.toNat_natCast, Nat.mul_one, beqI_yes, beqI_no, bneI_yes, bneI_no, isNil_nil, isNil_iface, wr_wr, Option.isNone_none, Option.isNone_some, plus, Nat.zero_add, Nat.add_zero]
        exact .some ⟨rfl, ⟨fun _ => he, fun _ => rfl⟩⟩
    obtain ⟨⟨z, m'⟩, h1, h2, h3⟩ := key
    simp only at h2 h3
    subst h2
    exact ⟨z, h1, ⟨fun h => ⟨rfl, h3.1 h⟩, fun h => h3.2 h.2⟩⟩
  · refine ⟨false, ?_, ⟨fun h => (by cases h), fun h => absurd h.1 hne⟩⟩
    unfold patinaref01_Same
    have h0 : ((n : Int) != (n' : Int)) = true := bneI_yes (by omega)
    simp (disch := omega) only [Option.bind_some, Option.map_some, cond_true, cond_false, wrap_i64, tmod_pos, tdiv_pos, inRange_yes, inUpto_yes, isZero_no, decide_eq_true, decide_eq_false, Bool.not_true, Bool.not_false, Int.toNat_natCast, Nat.mul_one, beqI_yes, beqI_no, bneI_yes, bneI_no, isNil_nil, isNil_iface, wr_wr, Option.isNone_none, Option.isNone_some, plus, Nat.zero_add, Nat.add_zero, h0]

theorem holds_src {m : Mem} {o : MObj} {i : Nat} {a : Option Addr} {n : Nat} {cs : List Value} (h : Holds o i a n [.int .u8] cs) (hm : m[i]? = some o) : ∃ w : Nat → GF, Src m a n w := by
  have hr := h.rd hm
  rw [show ([Leaf.int .u8]).length = 1 from rfl] at hr
  refine ⟨fun j => GF.of (intAt (cs.getD j undef)).toNat, ?_⟩
  unfold Src
  rw [hr]
  congr 1
  apply List.ext_getElem?
  intro j
  have hl : cs.length = n := by have := h.1; simpa using this
  by_cases hj : j < n
  · rw [bys_get hj]
    have h1 := h.int (j := j) (q := 0) (k := .u8) hj rfl
    simp only [List.length_cons, List.length_nil, Nat.zero_add, Nat.mul_one, Nat.add_zero] at h1
    have h2 : cs[j]? = some (cs.getD j undef) := by rw [List.getD_eq_getElem?_getD, List.getElem?_eq_getElem (by omega)]; rfl
    rw [h2, h1.2]
    have h3 := h1.1
    generalize intAt (cs.getD j undef) = z at *
    have h4 : 0 ≤ z ∧ z < 256 := by
      have e1 : IntKind.u8.min = 0 := rfl
      have e2 : IntKind.u8.max = 255 := rfl
      simp only [Lit.wf, e1, e2, Bool.and_eq_true, decide_eq_true_eq] at h3
      omega
    rw [show intAt (Value.int .u8 z) = z from rfl, GF.v_of (by omega), Int.toNat_of_nonneg h4.1]
  · rw [List.getElem?_eq_none (by omega), List.getElem?_eq_none (by rw [bys_len]; omega)]

def pad (n : Nat) (w : Nat → GF) : Nat → GF := fun i => if i < n then w i else 0
theorem pad_step {n j l : Nat} {w : Nat → GF} (hj : j < n) : bys l (put (fun i => if i < j then pad n w i else 0) j (w j)) = bys l fun i => if i < j + 1 then pad n w i else 0 := bys_congr fun i hi => by
  unfold put
  by_cases h1 : i = j
  · subst h1
    rw [if_pos rfl, if_pos (by omega)]; unfold pad; rw [if_pos hj]
  · rw [if_neg h1]; dsimp only
    by_cases h2 : i < j
    · rw [if_pos h2, if_pos (show i < j + 1 by omega)]
    · rw [if_neg h2, if_neg (show ¬ i < j + 1 by omega)]
theorem pad_end {n j l : Nat} {w : Nat → GF} (hj : n ≤ j ∨ l ≤ j) : (bys l fun i => if i < j then pad n w i else 0) = bys l (pad n w) := bys_congr fun i hi => by
  by_cases h1 : i < j
  · rw [if_pos h1]
  · rw [if_neg h1]; unfold pad; rw [if_neg (by omega)]

theorem Src.congr {m : Mem} {a : Option Addr} {n : Nat} {u w : Nat → GF} (h : Src m a n u) (he : ∀ i, i < n → w i = u i) : Src m a n w := by
  unfold Src at *; rw [h, bys_congr he]

end Go.Proofs.Ytlbbcgjfkpnilaa
