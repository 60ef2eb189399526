/- What the map's functions do. -/
import Derived.Test.YtnilidpafijdlacFpmap
import Derived.Test.YtnilidpafijdlacGeom
set_option linter.unusedVariables false
set_option linter.unusedSimpArgs false
namespace Go.Proofs.Ytnilidpafijdlac
open Go.Mx

structure MapS where
  at_ : Int → Int
  ow : Int → Int
def mapC (σ : MapS) : List Value := arr .i64 25 σ.at_ ++ arr .i64 96 σ.ow
structure MapS.Wf (σ : MapS) : Prop where
  a : ∀ f, 0 ≤ f → f < 25 → 0 ≤ σ.at_ f ∧ σ.at_ f ≤ 96
  o : ∀ p, 0 ≤ p → p < 96 → 0 ≤ σ.ow p ∧ σ.ow p ≤ 25
  iff : ∀ f p, 0 ≤ f → f < 25 → 0 ≤ p → p < 96 → (σ.at_ f = p + 1 ↔ σ.ow p = f + 1)
  may : ∀ f, 0 ≤ f → f < 25 → σ.at_ f ≠ 0 → f = 24 ∨ (σ.at_ f - 1) % 8 < 6
def MapS.empty : MapS := ⟨fun _ => 0, fun _ => 0⟩
theorem MapS.empty_wf : MapS.empty.Wf := ⟨by simp [MapS.empty], by simp [MapS.empty], fun f p h1 h2 h3 h4 => by simp only [MapS.empty]; omega, by simp [MapS.empty]⟩

theorem mapC_len (σ : MapS) : (mapC σ).length = 121 := by simp [mapC]
theorem mapC_at (σ : MapS) {x : Int} (h0 : 0 ≤ x) (h : x < 25) : (mapC σ)[x.toNat]? = some (.int .i64 (σ.at_ x)) := by
  unfold mapC; rw [List.getElem?_append_left (by simp; omega)]; exact arr_getI h0 (by omega)
theorem mapC_ow (σ : MapS) {x : Int} (h0 : 0 ≤ x) (h : x < 96) : (mapC σ)[25 + x.toNat]? = some (.int .i64 (σ.ow x)) := by
  unfold mapC; rw [List.getElem?_append_right (by simp)]; simp only [arr_length, Nat.add_sub_cancel_left]; exact arr_getI h0 (by omega)
theorem mapC_setat (σ : MapS) {x v : Int} (h0 : 0 ≤ x) (h : x < 25) : (mapC σ).set x.toNat (.int .i64 v) = mapC { σ with at_ := upd σ.at_ x v } := by
  unfold mapC; rw [List.set_append_left _ _ (by simp; omega), arr_set h0]
theorem mapC_setow (σ : MapS) {x v : Int} (h0 : 0 ≤ x) (h : x < 96) : (mapC σ).set (25 + x.toNat) (.int .i64 v) = mapC { σ with ow := upd σ.ow x v } := by
  unfold mapC; rw [List.set_append_right _ _ (by simp)]; simp only [arr_length, Nat.add_sub_cancel_left]; rw [arr_set h0]

theorem pmapNew_is (k : Nat) (m : Mem) : pmap_New k m = some (some ⟨m.length, 0, none⟩, m ++ [.live (mapC .empty)]) := by
  unfold pmap_New; rw [repl_int, repl_int]; rfl

def MapS.setCode (σ : MapS) (f p : Int) : Int := if ¬ (0 ≤ p ∧ p < 96 ∧ 0 ≤ f ∧ f ≤ 24) then 1 else if ¬ (f = 24 ∨ p % 8 < 6) then 1 else if σ.ow p ≠ 0 ∧ σ.ow p ≠ f + 1 then 12 else 0
def MapS.put (σ : MapS) (f p : Int) : MapS := ⟨upd σ.at_ f (p + 1), upd (if σ.at_ f ≠ 0 then upd σ.ow (σ.at_ f - 1) 0 else σ.ow) p (f + 1)⟩
def MapS.setTo (σ : MapS) (f p : Int) : MapS := if σ.setCode f p = 0 then σ.put f p else σ
def MapS.atCode (σ : MapS) (f : Int) : Int := if f < 0 ∨ f > 24 then 1 else if σ.at_ f = 0 then 11 else 0
def MapS.atV (σ : MapS) (f : Int) : Int := if σ.atCode f = 0 then σ.at_ f - 1 else 0
def MapS.del (σ : MapS) (f : Int) : MapS := ⟨upd σ.at_ f 0, upd σ.ow (σ.at_ f - 1) 0⟩
def MapS.dropTo (σ : MapS) (f : Int) : MapS := if σ.atCode f = 0 then σ.del f else σ
def MapS.ownCode (σ : MapS) (p : Int) : Int := if ¬ (0 ≤ p ∧ p < 96) then 1 else if σ.ow p = 0 then 11 else 0
def MapS.ownV (σ : MapS) (p : Int) : Int := if σ.ownCode p = 0 then σ.ow p - 1 else 0
/-- the numbers at the first n pages from p on -/
def MapS.ofTo (σ : MapS) (p : Int) : Nat → List Int
  | 0 => []
  | n + 1 => σ.ofTo p n ++ if σ.ow (p + n) ≠ 0 then [σ.ow (p + n) - 1] else []
theorem MapS.ofTo_len (σ : MapS) (p : Int) (n : Nat) : (σ.ofTo p n).length ≤ n := by
  induction n with
  | zero => simp [MapS.ofTo]
  | succ n ih => unfold MapS.ofTo; rw [List.length_append]; split <;> simp <;> omega
/-- how many of the first n numbers lie in each block -/
def MapS.liveTo (σ : MapS) : Nat → Int → Int
  | 0 => fun _ => 0
  | n + 1 => if σ.at_ n ≠ 0 then upd (σ.liveTo n) ((σ.at_ n - 1) / 8) (σ.liveTo n ((σ.at_ n - 1) / 8) + 1) else σ.liveTo n
theorem MapS.liveTo_le (σ : MapS) (n : Nat) : ∀ b, 0 ≤ σ.liveTo n b ∧ σ.liveTo n b ≤ n := by
  induction n with
  | zero => simp [MapS.liveTo]
  | succ n ih =>
    intro b
    have h1 := ih b
    have h2 := ih ((σ.at_ n - 1) / 8)
    have e : σ.liveTo (n + 1) b = if σ.at_ n ≠ 0 ∧ b = (σ.at_ n - 1) / 8 then σ.liveTo n ((σ.at_ n - 1) / 8) + 1 else σ.liveTo n b := by
      show (if σ.at_ n ≠ 0 then _ else _ : Int → Int) b = _
      by_cases h3 : σ.at_ n = 0
      · simp [h3]
      · rw [if_pos h3]; simp only [upd]; grind
    rw [e]; split <;> omega

theorem MapS.put_ow (σ : MapS) (f p q : Int) : (σ.put f p).ow q = if q = p then f + 1 else if σ.at_ f ≠ 0 ∧ q = σ.at_ f - 1 then 0 else σ.ow q := by
  unfold MapS.put
  by_cases h : σ.at_ f = 0
  · simp [h, upd]
  · simp only [upd, if_pos h]; grind
theorem MapS.put_at (σ : MapS) (f p g : Int) : (σ.put f p).at_ g = if g = f then p + 1 else σ.at_ g := rfl
theorem MapS.del_ow (σ : MapS) (f q : Int) : (σ.del f).ow q = if q = σ.at_ f - 1 then 0 else σ.ow q := rfl
theorem MapS.del_at (σ : MapS) (f g : Int) : (σ.del f).at_ g = if g = f then 0 else σ.at_ g := rfl
theorem MapS.put_wf {σ : MapS} (h : σ.Wf) {f p : Int} (hc : σ.setCode f p = 0) : (σ.put f p).Wf := by
  have hr : (0 ≤ p ∧ p < 96 ∧ 0 ≤ f ∧ f ≤ 24) ∧ (f = 24 ∨ p % 8 < 6) ∧ (σ.ow p = 0 ∨ σ.ow p = f + 1) := by
    unfold MapS.setCode at hc; grind
  have ha := h.a f
  refine ⟨fun g h1 h2 => ?_, fun q h1 h2 => ?_, fun g q h1 h2 h3 h4 => ?_, fun g h1 h2 h3 => ?_⟩
  · have := h.a g h1 h2
    rw [MapS.put_at]; grind
  · have := h.o q h1 h2
    rw [MapS.put_ow]; grind
  · have i1 := h.iff g q h1 h2 h3 h4
    have i2 := h.iff g p h1 h2 (by omega) (by omega)
    have i3 := h.iff f q (by omega) (by omega) h3 h4
    have i4 := h.iff f p (by omega) (by omega) (by omega) (by omega)
    rw [MapS.put_at, MapS.put_ow]; grind
  · have := h.may g h1 h2
    rw [MapS.put_at] at *; grind
theorem MapS.setTo_wf {σ : MapS} (h : σ.Wf) (f p : Int) : (σ.setTo f p).Wf := by
  unfold MapS.setTo; split
  · rename_i hc; exact MapS.put_wf h hc
  · exact h
theorem MapS.dropTo_wf {σ : MapS} (h : σ.Wf) (f : Int) : (σ.dropTo f).Wf := by
  unfold MapS.dropTo
  by_cases hc : σ.atCode f = 0
  · rw [if_pos hc]
    have hr : 0 ≤ f ∧ f ≤ 24 ∧ σ.at_ f ≠ 0 := by unfold MapS.atCode at hc; grind
    have ha := h.a f
    refine ⟨fun g h1 h2 => ?_, fun q h1 h2 => ?_, fun g q h1 h2 h3 h4 => ?_, fun g h1 h2 h3 => ?_⟩
    · have := h.a g h1 h2
      rw [MapS.del_at]; grind
    · have := h.o q h1 h2
      rw [MapS.del_ow]; grind
    · have i1 := h.iff g q h1 h2 h3 h4
      have i3 := h.iff f q (by omega) (by omega) h3 h4
      rw [MapS.del_at, MapS.del_ow]; grind
    · have := h.may g h1 h2
      rw [MapS.del_at] at *; grind
  · rw [if_neg hc]; exact h

section
variable (k : Nat) {m : Mem} {p : Nat} {σ : MapS} (h : m[p]? = some (.live (mapC σ)))
include h
theorem map_ldat (x : Int) (h0 : 0 ≤ x) (h1 : x < 25) : ldInt .i64 m ⟨p, x.toNat, none⟩ = some (σ.at_ x) := ldInt_of h (mapC_at σ h0 h1)
theorem map_ldow (x : Int) (h0 : 0 ≤ x) (h1 : x < 96) : ldInt .i64 m ⟨p, 25 + x.toNat, none⟩ = some (σ.ow x) := ldInt_of h (mapC_ow σ h0 h1)
theorem map_stat (x v : Int) (h0 : 0 ≤ x) (h1 : x < 25) : st m ⟨p, x.toNat, none⟩ (.int .i64 v) = some (wr m p (mapC { σ with at_ := upd σ.at_ x v })) := by
  rw [st_wr h (by rw [mapC_len]; omega), mapC_setat σ h0 h1]
theorem map_stow (x v : Int) (h0 : 0 ≤ x) (h1 : x < 96) : st m ⟨p, 25 + x.toNat, none⟩ (.int .i64 v) = some (wr m p (mapC { σ with ow := upd σ.ow x v })) := by
  rw [st_wr h (by rw [mapC_len]; omega), mapC_setow σ h0 h1]

theorem pmap_Set_is (hσ : σ.Wf) (f q : Int) : pmap_Map_Set k (some ⟨p, 0, none⟩) f q m = some (errC (σ.setCode f q), wr m p (mapC (σ.setTo f q))) := by
  have hs := wr_same h
  unfold pmap_Map_Set
  rw [geom_Holds_is]
  by_cases h1 : 0 ≤ q ∧ q < 96 ∧ 0 ≤ f ∧ f ≤ 24
  · obtain ⟨a1, a2, a3, a4⟩ := h1
    have e1 : holdsB q f = true := by simp [holdsB]; omega
    have haf := hσ.a f a3 (by omega)
    by_cases h2 : f = 24 ∨ q % 8 < 6
    · have e2 : mayB' q f = true := by simp [mayB']; omega
      have hj1 : σ.ow q = 0 ∨ σ.ow q = f + 1 → pmap_Map_Set_j1 k (some ⟨p, 0, none⟩) f q m = some (.nilIface, wr m p (mapC (σ.put f q))) := by
        intro _
        unfold pmap_Map_Set_j1 pmap_Map_Set_j2
        by_cases h3 : σ.at_ f = 0
        · simp (disch := omega) only [Option.bind_some, Option.map_some, cond_true, cond_false, wrap_i64, tmod_pos, tdiv_pos, inRange_yes, inUpto_yes, isZero_no, decide_eq_true, decide_eq_false, Bool.not_true, Bool.not_false, Int.toNat_natCast, Nat.mul_one, beqI_yes, beqI_no, bneI_yes, bneI_no, isNil_nil, isNil_iface, wr_wr, Option.isNone_none, Option.isNone_some, plus, Nat.zero_add, Nat.add_zero, map_ldat h f a3, map_stat h f _ a3, map_stow (wr_get h) q _ a1]
          simp [MapS.put, h3]
        · simp (disch := omega) only [Option.bind_some, Option.map_some, cond_true, cond_false, wrap_i64, tmod_pos, tdiv_pos, inRange_yes, inUpto_yes, isZero_no, decide_eq_true, decide_eq_false, Bool.not_true, Bool.not_false, Int.toNat_natCast, Nat.mul_one, beqI_yes, beqI_no, bneI_yes, bneI_no, isNil_nil, isNil_iface, wr_wr, Option.isNone_none, Option.isNone_some, plus, Nat.zero_add, Nat.add_zero, map_ldat h f a3, map_stow h (σ.at_ f - 1), map_stat (wr_get h) f _ a3, map_stow (wr_get h) q _ a1]
          simp [MapS.put, h3]
      by_cases h3 : σ.ow q = 0
      · have hc : σ.setCode f q = 0 := by unfold MapS.setCode; grind
        simp (disch := omega) only [Option.bind_some, Option.map_some, cond_true, cond_false, wrap_i64, tmod_pos, tdiv_pos, inRange_yes, inUpto_yes, isZero_no, decide_eq_true, decide_eq_false, Bool.not_true, Bool.not_false, Int.toNat_natCast, Nat.mul_one, beqI_yes, beqI_no, bneI_yes, bneI_no, isNil_nil, isNil_iface, wr_wr, Option.isNone_none, Option.isNone_some, plus, Nat.zero_add, Nat.add_zero, e1, e2, if_true, map_ldow h q a1, hj1 (.inl h3)]
        simp only [MapS.setTo, hc, if_true, errC]
      · by_cases h4 : σ.ow q = f + 1
        · have hc : σ.setCode f q = 0 := by unfold MapS.setCode; grind
          simp (disch := omega) only [Option.bind_some, Option.map_some, cond_true, cond_false, wrap_i64, tmod_pos, tdiv_pos, inRange_yes, inUpto_yes, isZero_no, decide_eq_true, decide_eq_false, Bool.not_true, Bool.not_false, Int.toNat_natCast, Nat.mul_one, beqI_yes, beqI_no, bneI_yes, bneI_no, isNil_nil, isNil_iface, wr_wr, Option.isNone_none, Option.isNone_some, plus, Nat.zero_add, Nat.add_zero, e1, e2, if_true, map_ldow h q a1, hj1 (.inr h4)]
          simp only [MapS.setTo, hc, if_true, errC]
        · have hc : σ.setCode f q = 12 := by unfold MapS.setCode; grind
          simp (disch := omega) only [Option.bind_some, Option.map_some, cond_true, cond_false, wrap_i64, tmod_pos, tdiv_pos, inRange_yes, inUpto_yes, isZero_no, decide_eq_true, decide_eq_false, Bool.not_true, Bool.not_false, Int.toNat_natCast, Nat.mul_one, beqI_yes, beqI_no, bneI_yes, bneI_no, isNil_nil, isNil_iface, wr_wr, Option.isNone_none, Option.isNone_some, plus, Nat.zero_add, Nat.add_zero, e1, e2, if_true, map_ldow h q a1]
          simp [MapS.setTo, hc, errC, hs]
    · have e2 : mayB' q f = false := by simp [mayB']; omega
      have hc : σ.setCode f q = 1 := by unfold MapS.setCode; grind
      simp (disch := omega) only [Option.bind_some, Option.map_some, cond_true, cond_false, wrap_i64, tmod_pos, tdiv_pos, inRange_yes, inUpto_yes, isZero_no, decide_eq_true, decide_eq_false, Bool.not_true, Bool.not_false, Int.toNat_natCast, Nat.mul_one, beqI_yes, beqI_no, bneI_yes, bneI_no, isNil_nil, isNil_iface, wr_wr, Option.isNone_none, Option.isNone_some, plus, Nat.zero_add, Nat.add_zero, e1, e2, if_true]
      simp [MapS.setTo, hc, errC, hs]
  · have e1 : holdsB q f = false := by simp [holdsB]; omega
    have hc : σ.setCode f q = 1 := by unfold MapS.setCode; grind
    simp (disch := omega) only [Option.bind_some, Option.map_some, cond_true, cond_false, wrap_i64, tmod_pos, tdiv_pos, inRange_yes, inUpto_yes, isZero_no, decide_eq_true, decide_eq_false, Bool.not_true, Bool.not_false, Int.toNat_natCast, Nat.mul_one, beqI_yes, beqI_no, bneI_yes, bneI_no, isNil_nil, isNil_iface, wr_wr, Option.isNone_none, Option.isNone_some, plus, Nat.zero_add, Nat.add_zero, e1, if_false, isNil_errC]
    simp [MapS.setTo, hc, errC, hs, isNil]

theorem pmap_At_is (f : Int) (hσ : σ.Wf) : pmap_Map_At k (some ⟨p, 0, none⟩) f m = some (σ.atV f, errC (σ.atCode f), m) := by
  unfold pmap_Map_At
  by_cases h1 : f < 0
  · simp (disch := omega) only [Option.bind_some, Option.map_some, cond_true, cond_false, wrap_i64, tmod_pos, tdiv_pos, inRange_yes, inUpto_yes, isZero_no, decide_eq_true, decide_eq_false, Bool.not_true, Bool.not_false, Int.toNat_natCast, Nat.mul_one, beqI_yes, beqI_no, bneI_yes, bneI_no, isNil_nil, isNil_iface, wr_wr, Option.isNone_none, Option.isNone_some, plus, Nat.zero_add, Nat.add_zero]; simp [MapS.atV, MapS.atCode, h1, errC]
  · by_cases h2 : f > 24
    · simp (disch := omega) only [Option.bind_some, Option.map_some, cond_true, cond_false, wrap_i64, tmod_pos, tdiv_pos, inRange_yes, inUpto_yes, isZero_no, decide_eq_true, decide_eq_false, Bool.not_true, Bool.not_false, Int.toNat_natCast, Nat.mul_one, beqI_yes, beqI_no, bneI_yes, bneI_no, isNil_nil, isNil_iface, wr_wr, Option.isNone_none, Option.isNone_some, plus, Nat.zero_add, Nat.add_zero]; simp [MapS.atV, MapS.atCode, h2, errC]
    · have := hσ.a f (by omega) (by omega)
      by_cases h3 : σ.at_ f = 0
      · simp (disch := omega) only [Option.bind_some, Option.map_some, cond_true, cond_false, wrap_i64, tmod_pos, tdiv_pos, inRange_yes, inUpto_yes, isZero_no, decide_eq_true, decide_eq_false, Bool.not_true, Bool.not_false, Int.toNat_natCast, Nat.mul_one, beqI_yes, beqI_no, bneI_yes, bneI_no, isNil_nil, isNil_iface, wr_wr, Option.isNone_none, Option.isNone_some, plus, Nat.zero_add, Nat.add_zero, map_ldat h f]; simp [MapS.atV, MapS.atCode, h1, h2, h3, errC]
      · simp (disch := omega) only [Option.bind_some, Option.map_some, cond_true, cond_false, wrap_i64, tmod_pos, tdiv_pos, inRange_yes, inUpto_yes, isZero_no, decide_eq_true, decide_eq_false, Bool.not_true, Bool.not_false, Int.toNat_natCast, Nat.mul_one, beqI_yes, beqI_no, bneI_yes, bneI_no, isNil_nil, isNil_iface, wr_wr, Option.isNone_none, Option.isNone_some, plus, Nat.zero_add, Nat.add_zero, map_ldat h f]; simp [MapS.atV, MapS.atCode, h1, h2, h3, errC]
theorem pmap_Drop_is (f : Int) (hσ : σ.Wf) : pmap_Map_Drop k (some ⟨p, 0, none⟩) f m = some (errC (σ.atCode f), wr m p (mapC (σ.dropTo f))) := by
  have hs := wr_same h
  unfold pmap_Map_Drop
  rw [pmap_At_is k h f hσ]
  simp (disch := omega) only [Option.bind_some, Option.map_some, cond_true, cond_false, wrap_i64, tmod_pos, tdiv_pos, inRange_yes, inUpto_yes, isZero_no, decide_eq_true, decide_eq_false, Bool.not_true, Bool.not_false, Int.toNat_natCast, Nat.mul_one, beqI_yes, beqI_no, bneI_yes, bneI_no, isNil_nil, isNil_iface, wr_wr, Option.isNone_none, Option.isNone_some, plus, Nat.zero_add, Nat.add_zero, isNil_errC]
  by_cases h1 : σ.atCode f = 0
  · have hr : 0 ≤ f ∧ f ≤ 24 ∧ σ.at_ f ≠ 0 := by unfold MapS.atCode at h1; grind
    have := hσ.a f (by omega) (by omega)
    have e : σ.atV f = σ.at_ f - 1 := by simp [MapS.atV, h1]
    simp (disch := omega) only [Option.bind_some, Option.map_some, cond_true, cond_false, wrap_i64, tmod_pos, tdiv_pos, inRange_yes, inUpto_yes, isZero_no, decide_eq_true, decide_eq_false, Bool.not_true, Bool.not_false, Int.toNat_natCast, Nat.mul_one, beqI_yes, beqI_no, bneI_yes, bneI_no, isNil_nil, isNil_iface, wr_wr, Option.isNone_none, Option.isNone_some, plus, Nat.zero_add, Nat.add_zero, e, map_stat h f, map_stow (wr_get h) (σ.at_ f - 1)]
    simp [MapS.dropTo, h1, errC, MapS.del]
  · simp (disch := omega) only [Option.bind_some, Option.map_some, cond_true, cond_false, wrap_i64, tmod_pos, tdiv_pos, inRange_yes, inUpto_yes, isZero_no, decide_eq_true, decide_eq_false, Bool.not_true, Bool.not_false, Int.toNat_natCast, Nat.mul_one, beqI_yes, beqI_no, bneI_yes, bneI_no, isNil_nil, isNil_iface, wr_wr, Option.isNone_none, Option.isNone_some, plus, Nat.zero_add, Nat.add_zero]
    simp [MapS.dropTo, h1, hs]
theorem pmap_Owner_is (q : Int) (hσ : σ.Wf) : pmap_Map_Owner k (some ⟨p, 0, none⟩) q m = some (σ.ownV q, errC (σ.ownCode q), m) := by
  unfold pmap_Map_Owner
  rw [geom_Parts_is]
  by_cases h1 : 0 ≤ q ∧ q < 96
  · have := hσ.o q h1.1 h1.2
    by_cases h3 : σ.ow q = 0
    · simp (disch := omega) only [Option.bind_some, Option.map_some, cond_true, cond_false, wrap_i64, tmod_pos, tdiv_pos, inRange_yes, inUpto_yes, isZero_no, decide_eq_true, decide_eq_false, Bool.not_true, Bool.not_false, Int.toNat_natCast, Nat.mul_one, beqI_yes, beqI_no, bneI_yes, bneI_no, isNil_nil, isNil_iface, wr_wr, Option.isNone_none, Option.isNone_some, plus, Nat.zero_add, Nat.add_zero, if_pos h1, map_ldow h q h1.1 h1.2]; simp [MapS.ownV, MapS.ownCode, h1, h3, errC]
    · simp (disch := omega) only [Option.bind_some, Option.map_some, cond_true, cond_false, wrap_i64, tmod_pos, tdiv_pos, inRange_yes, inUpto_yes, isZero_no, decide_eq_true, decide_eq_false, Bool.not_true, Bool.not_false, Int.toNat_natCast, Nat.mul_one, beqI_yes, beqI_no, bneI_yes, bneI_no, isNil_nil, isNil_iface, wr_wr, Option.isNone_none, Option.isNone_some, plus, Nat.zero_add, Nat.add_zero, if_pos h1, map_ldow h q h1.1 h1.2]; simp [MapS.ownV, MapS.ownCode, h1, h3, errC]
  · simp (disch := omega) only [Option.bind_some, Option.map_some, cond_true, cond_false, wrap_i64, tmod_pos, tdiv_pos, inRange_yes, inUpto_yes, isZero_no, decide_eq_true, decide_eq_false, Bool.not_true, Bool.not_false, Int.toNat_natCast, Nat.mul_one, beqI_yes, beqI_no, bneI_yes, bneI_no, isNil_nil, isNil_iface, wr_wr, Option.isNone_none, Option.isNone_some, plus, Nat.zero_add, Nat.add_zero, if_neg h1, isNil_errC]; simp [MapS.ownV, MapS.ownCode, h1, errC]
end

theorem pmap_Of_ok (k : Nat) (hk : 8 < k) {m : Mem} {p : Nat} {σ : MapS} {F : Heap} (hO : Own m ((p, .live (mapC σ)) :: F)) (hσ : σ.Wf) (b : Int) :
    Ok (pmap_Map_Of k (some ⟨p, 0, none⟩) b m) fun r => ∃ l, r.2.1 = errC (if 0 ≤ b ∧ b < 12 then 0 else 1) ∧ (l = if 0 ≤ b ∧ b < 12 then σ.ofTo (8 * b) 8 else []) ∧ App 1 r.1.a r.1.len r.1.cap (ints l) ∧ Own r.2.2 (slH r.1.a (ints l) ++ (p, .live (mapC σ)) :: F) := by
  unfold pmap_Map_Of
  rw [geom_Place_is]
  by_cases h1 : 0 ≤ b ∧ b < 12
  · have e1 : inUpto (b * 8) ((b * 8 + 8).toNat) = true := inUpto_yes (by omega) (by omega)
    simp (disch := omega) only [Option.bind_some, Option.map_some, cond_true, cond_false, wrap_i64, tmod_pos, tdiv_pos, inRange_yes, inUpto_yes, isZero_no, decide_eq_true, decide_eq_false, Bool.not_true, Bool.not_false, Int.toNat_natCast, Nat.mul_one, beqI_yes, beqI_no, bneI_yes, bneI_no, isNil_nil, isNil_iface, wr_wr, Option.isNone_none, Option.isNone_some, plus, Nat.zero_add, Nat.add_zero, if_pos (show 0 ≤ b ∧ b < 12 ∧ 0 ≤ (0 : Int) ∧ (0 : Int) < 8 by omega), Int.add_zero, e1, sliceK.okZ, sliceK.clear, Bool.and_true, Option.map_some]
    have e2 : (b * 8 + 8).toNat - (b * 8).toNat = 8 := by omega
    rw [e2]
    refine pmap_Map_Of_l0_rule k _ (fun d x8a x8n x8c x25a x25n x25c x26 x27 m => some ⟨p, 25 + (b * 8).toNat, none⟩ = x25a ∧ 8 = x25n ∧ 96 - (b * 8).toNat = x25c ∧ 8 = x26 ∧ 0 ≤ x27 ∧ x27 + d = 8 ∧
      App 1 x8a x8n x8c (ints (σ.ofTo (8 * b) x27.toNat)) ∧ Own m (slH x8a (ints (σ.ofTo (8 * b) x27.toNat)) ++ (p, .live (mapC σ)) :: F)) ?_ k 8 _ _ _ _ _ _ _ 0 _ hk ⟨rfl, rfl, rfl, rfl, by omega, by omega, .nil, hO⟩
    rintro d nx a n c _ _ _ _ i m ⟨rfl, rfl, rfl, rfl, hi, hd, hA, hO⟩ hnx
    unfold pmap_Map_Of_l0_b
    by_cases h2 : i < 8
    · have hl := map_ldow (hO.back.at 0 rfl) (b * 8 + i) (by omega) (by omega)
      have e3 : 25 + (b * 8).toNat + i.toNat = 25 + (b * 8 + i).toNat := by omega
      have e4 : σ.ofTo (8 * b) ((i + 1).toNat) = σ.ofTo (8 * b) i.toNat ++ if σ.ow (b * 8 + i) ≠ 0 then [σ.ow (b * 8 + i) - 1] else [] := by
        rw [show (i + 1).toNat = i.toNat + 1 by omega]
        show σ.ofTo (8 * b) i.toNat ++ _ = _
        rw [show 8 * b + (i.toNat : Int) = b * 8 + i by omega]
      have ho := hσ.o (b * 8 + i) (by omega) (by omega)
      have hlen := σ.ofTo_len (8 * b) i.toNat
      have hn : n ≤ 8 := by have := hA.len; simp at this; omega
      simp (disch := omega) only [Option.bind_some, Option.map_some, cond_true, cond_false, wrap_i64, tmod_pos, tdiv_pos, inRange_yes, inUpto_yes, isZero_no, decide_eq_true, decide_eq_false, Bool.not_true, Bool.not_false, Int.toNat_natCast, Nat.mul_one, beqI_yes, beqI_no, bneI_yes, bneI_no, isNil_nil, isNil_iface, wr_wr, Option.isNone_none, Option.isNone_some, plus, Nat.zero_add, Nat.add_zero, e3, hl, pmap_Map_Of_j1, rdSl_new]
      by_cases h3 : σ.ow (b * 8 + i) = 0
      · simp (disch := omega) only [Option.bind_some, Option.map_some, cond_true, cond_false, wrap_i64, tmod_pos, tdiv_pos, inRange_yes, inUpto_yes, isZero_no, decide_eq_true, decide_eq_false, Bool.not_true, Bool.not_false, Int.toNat_natCast, Nat.mul_one, beqI_yes, beqI_no, bneI_yes, bneI_no, isNil_nil, isNil_iface, wr_wr, Option.isNone_none, Option.isNone_some, plus, Nat.zero_add, Nat.add_zero, h3]
        rw [if_neg (by simp [h3]), List.append_nil] at e4
        exact hnx (d - 1) _ _ _ _ _ _ _ _ _ (by omega) ⟨rfl, rfl, rfl, rfl, by omega, by omega, by rw [e4]; exact hA, by rw [e4]; exact hO⟩
      · obtain ⟨a', m', q1, q2, q3⟩ := hA.one (y := 8) (v := .int .i64 (σ.ow (b * 8 + i) - 1)) hO (by unfold most; omega) (by unfold most; omega)
        simp (disch := omega) only [Option.bind_some, Option.map_some, cond_true, cond_false, wrap_i64, tmod_pos, tdiv_pos, inRange_yes, inUpto_yes, isZero_no, decide_eq_true, decide_eq_false, Bool.not_true, Bool.not_false, Int.toNat_natCast, Nat.mul_one, beqI_yes, beqI_no, bneI_yes, bneI_no, isNil_nil, isNil_iface, wr_wr, Option.isNone_none, Option.isNone_some, plus, Nat.zero_add, Nat.add_zero, q1]
        rw [if_pos h3] at e4
        exact hnx (d - 1) _ _ _ _ _ _ _ _ _ (by omega) ⟨rfl, rfl, rfl, rfl, by omega, by omega, by rw [e4, ints_append]; exact q2, by rw [e4, ints_append]; exact q3⟩
    · have : i = 8 := by omega
      subst this
      simp (disch := omega) only [Option.bind_some, Option.map_some, cond_true, cond_false, wrap_i64, tmod_pos, tdiv_pos, inRange_yes, inUpto_yes, isZero_no, decide_eq_true, decide_eq_false, Bool.not_true, Bool.not_false, Int.toNat_natCast, Nat.mul_one, beqI_yes, beqI_no, bneI_yes, bneI_no, isNil_nil, isNil_iface, wr_wr, Option.isNone_none, Option.isNone_some, plus, Nat.zero_add, Nat.add_zero]
      exact .some ⟨_, by rw [if_pos h1]; rfl, by rw [if_pos h1]; rfl, hA, hO⟩
  · simp (disch := omega) only [Option.bind_some, Option.map_some, cond_true, cond_false, wrap_i64, tmod_pos, tdiv_pos, inRange_yes, inUpto_yes, isZero_no, decide_eq_true, decide_eq_false, Bool.not_true, Bool.not_false, Int.toNat_natCast, Nat.mul_one, beqI_yes, beqI_no, bneI_yes, bneI_no, isNil_nil, isNil_iface, wr_wr, Option.isNone_none, Option.isNone_some, plus, Nat.zero_add, Nat.add_zero, if_neg (show ¬ (0 ≤ b ∧ b < 12 ∧ 0 ≤ (0 : Int) ∧ (0 : Int) < 8) by omega), isNil_errC]
    exact .some ⟨[], by rw [if_neg h1], by rw [if_neg h1], .nil, hO⟩

theorem pmap_Live_ok (k : Nat) (hk : 25 < k) {m : Mem} {p : Nat} {σ : MapS} {F : Heap} (hO : Own m ((p, .live (mapC σ)) :: F)) (hσ : σ.Wf) :
    Ok (pmap_Map_Live k (some ⟨p, 0, none⟩) m) fun r => ∃ b, r.1 = ⟨some ⟨b, 0, none⟩, 12, 12⟩ ∧ Own r.2 ((b, .live (arr .i64 12 (σ.liveTo 25))) :: (p, .live (mapC σ)) :: F) := by
  unfold pmap_Map_Live
  have hO1 := hO.new (.live (repl (Int.toNat 12) [.int .i64 0]))
  rw [show repl (Int.toNat 12) [Value.int .i64 0] = arr .i64 12 (fun _ => 0) from repl_int] at hO1 ⊢
  have e1 : ldCells (m ++ [MObj.live (arr .i64 12 fun _ => 0)]) ⟨p, 0, none⟩ 25 = some (arr .i64 25 σ.at_) := by
    rw [ldCells_of (hO1.at 1 rfl) (by rw [mapC_len]; omega)]; simp [mapC]
  simp (disch := omega) only [Option.bind_some, Option.map_some, cond_true, cond_false, wrap_i64, tmod_pos, tdiv_pos, inRange_yes, inUpto_yes, isZero_no, decide_eq_true, decide_eq_false, Bool.not_true, Bool.not_false, Int.toNat_natCast, Nat.mul_one, beqI_yes, beqI_no, bneI_yes, bneI_no, isNil_nil, isNil_iface, wr_wr, Option.isNone_none, Option.isNone_some, plus, Nat.zero_add, Nat.add_zero, e1, show Int.toNat 12 = 12 from rfl]
  refine pmap_Map_Live_l0_rule k _ (fun d x3a x3n x3c x10 x11 m' => some ⟨m.length, 0, none⟩ = x3a ∧ 12 = x3n ∧ 12 = x3c ∧ arr .i64 25 σ.at_ = x10 ∧ 0 ≤ x11 ∧ x11 + d = 25 ∧ Own m' ((m.length, .live (arr .i64 12 (σ.liveTo x11.toNat))) :: (p, .live (mapC σ)) :: F)) ?_ k 25 _ _ _ _ 0 _ hk ⟨rfl, rfl, rfl, rfl, by omega, by omega, hO1⟩
  rintro d nx _ _ _ _ i m' ⟨rfl, rfl, rfl, rfl, hi, hd, hO⟩ hnx
  unfold pmap_Map_Live_l0_b
  by_cases h2 : i < 25
  · have ha := hσ.a i hi (by omega)
    have hl := σ.liveTo_le i.toNat ((σ.at_ i - 1) / 8)
    have e2 : cInt .i64 (arr .i64 25 σ.at_) i.toNat = some (σ.at_ i) := by simp [cInt, arr_getI hi h2]
    have e3 : σ.liveTo (i + 1).toNat = if σ.at_ i ≠ 0 then upd (σ.liveTo i.toNat) ((σ.at_ i - 1) / 8) (σ.liveTo i.toNat ((σ.at_ i - 1) / 8) + 1) else σ.liveTo i.toNat := by
      rw [show (i + 1).toNat = i.toNat + 1 by omega]
      show (if σ.at_ (i.toNat : Int) ≠ 0 then _ else _) = _
      rw [show (i.toNat : Int) = i by omega]
    simp (disch := omega) only [Option.bind_some, Option.map_some, cond_true, cond_false, wrap_i64, tmod_pos, tdiv_pos, inRange_yes, inUpto_yes, isZero_no, decide_eq_true, decide_eq_false, Bool.not_true, Bool.not_false, Int.toNat_natCast, Nat.mul_one, beqI_yes, beqI_no, bneI_yes, bneI_no, isNil_nil, isNil_iface, wr_wr, Option.isNone_none, Option.isNone_some, plus, Nat.zero_add, Nat.add_zero, e2, pmap_Map_Live_j1]
    by_cases h3 : σ.at_ i = 0
    · rw [if_neg (by simp [h3])] at e3
      simp (disch := omega) only [Option.bind_some, Option.map_some, cond_true, cond_false, wrap_i64, tmod_pos, tdiv_pos, inRange_yes, inUpto_yes, isZero_no, decide_eq_true, decide_eq_false, Bool.not_true, Bool.not_false, Int.toNat_natCast, Nat.mul_one, beqI_yes, beqI_no, bneI_yes, bneI_no, isNil_nil, isNil_iface, wr_wr, Option.isNone_none, Option.isNone_some, plus, Nat.zero_add, Nat.add_zero, h3]
      exact hnx (d - 1) _ _ _ _ _ _ (by omega) ⟨rfl, rfl, rfl, rfl, by omega, by omega, by rw [e3]; exact hO⟩
    · rw [if_pos h3] at e3
      simp (disch := omega) only [Option.bind_some, Option.map_some, cond_true, cond_false, wrap_i64, tmod_pos, tdiv_pos, inRange_yes, inUpto_yes, isZero_no, decide_eq_true, decide_eq_false, Bool.not_true, Bool.not_false, Int.toNat_natCast, Nat.mul_one, beqI_yes, beqI_no, bneI_yes, bneI_no, isNil_nil, isNil_iface, wr_wr, Option.isNone_none, Option.isNone_some, plus, Nat.zero_add, Nat.add_zero, arr_ld (hO.at 0 rfl), arr_st (hO.at 0 rfl)]
      exact hnx (d - 1) _ _ _ _ _ _ (by omega) ⟨rfl, rfl, rfl, rfl, by omega, by omega, by rw [e3]; exact hO.wr 0 rfl _⟩
  · have : i = 25 := by omega
    subst this
    simp (disch := omega) only [Option.bind_some, Option.map_some, cond_true, cond_false, wrap_i64, tmod_pos, tdiv_pos, inRange_yes, inUpto_yes, isZero_no, decide_eq_true, decide_eq_false, Bool.not_true, Bool.not_false, Int.toNat_natCast, Nat.mul_one, beqI_yes, beqI_no, bneI_yes, bneI_no, isNil_nil, isNil_iface, wr_wr, Option.isNone_none, Option.isNone_some, plus, Nat.zero_add, Nat.add_zero]
    exact .some ⟨_, rfl, hO⟩

/-! ## the counts agree -/
theorem MapS.live_sum (σ : MapS) (b : Int) (n : Nat) (h : ∀ f : Int, 0 ≤ f → f < n → 0 ≤ σ.at_ f) (hb : 0 ≤ b) : σ.liveTo n b =
    countTo σ.at_ (8 * b + 1) n + countTo σ.at_ (8 * b + 2) n + countTo σ.at_ (8 * b + 3) n + countTo σ.at_ (8 * b + 4) n + countTo σ.at_ (8 * b + 5) n + countTo σ.at_ (8 * b + 6) n + countTo σ.at_ (8 * b + 7) n + countTo σ.at_ (8 * b + 8) n := by
  induction n with
  | zero => rfl
  | succ n ih =>
    have ih := ih (fun f h1 h2 => h f h1 (by omega))
    have hn := h n (by omega) (by omega)
    have e : σ.liveTo (n + 1) b = if σ.at_ n ≠ 0 ∧ b = (σ.at_ n - 1) / 8 then σ.liveTo n b + 1 else σ.liveTo n b := by
      show (if σ.at_ n ≠ 0 then _ else _ : Int → Int) b = _
      by_cases h3 : σ.at_ n = 0
      · simp [h3]
      · rw [if_pos h3]; simp only [upd]; grind
    simp only [countTo_succ]
    rw [e, ih]
    generalize countTo σ.at_ (8 * b + 1) n = c1
    generalize countTo σ.at_ (8 * b + 2) n = c2
    generalize countTo σ.at_ (8 * b + 3) n = c3
    generalize countTo σ.at_ (8 * b + 4) n = c4
    generalize countTo σ.at_ (8 * b + 5) n = c5
    generalize countTo σ.at_ (8 * b + 6) n = c6
    generalize countTo σ.at_ (8 * b + 7) n = c7
    generalize countTo σ.at_ (8 * b + 8) n = c8
    generalize σ.at_ n = v at *
    by_cases hv : v ≠ 0 ∧ b = (v - 1) / 8
    · rw [if_pos hv]
      have : v = 8 * b + 1 ∨ v = 8 * b + 2 ∨ v = 8 * b + 3 ∨ v = 8 * b + 4 ∨ v = 8 * b + 5 ∨ v = 8 * b + 6 ∨ v = 8 * b + 7 ∨ v = 8 * b + 8 := by omega
      rcases this with rfl | rfl | rfl | rfl | rfl | rfl | rfl | rfl <;> simp <;> omega
    · rw [if_neg hv, if_neg (by omega), if_neg (by omega), if_neg (by omega), if_neg (by omega), if_neg (by omega), if_neg (by omega), if_neg (by omega), if_neg (by omega)]
      omega
theorem countTo_one (s : Int → Int) (v w : Int) (n : Nat) (h : ∀ i : Int, 0 ≤ i → i < n → (s i = v ↔ i = w)) : countTo s v n = if 0 ≤ w ∧ w < n then 1 else 0 := by
  induction n with
  | zero => grind [countTo]
  | succ n ih =>
    have := ih (fun i h1 h2 => h i h1 (by omega))
    have := h n (by omega) (by omega)
    rw [countTo_succ]
    grind
theorem MapS.cnt (σ : MapS) (h : σ.Wf) (p : Int) (h0 : 0 ≤ p) (h1 : p < 96) : countTo σ.at_ (p + 1) 25 = if σ.ow p ≠ 0 then 1 else 0 := by
  have ho := h.o p h0 h1
  rw [countTo_one σ.at_ (p + 1) (σ.ow p - 1) 25 (fun f a1 a2 => by have := h.iff f p a1 (by omega) h0 h1; omega)]
  grind
theorem MapS.live_is (σ : MapS) (h : σ.Wf) (b : Int) (h0 : 0 ≤ b) (h1 : b < 12) : σ.liveTo 25 b = (σ.ofTo (8 * b) 8).length := by
  rw [σ.live_sum b 25 (fun f a1 a2 => (h.a f a1 (by omega)).1) h0]
  have c := fun i (hi : 0 ≤ i ∧ i < 8) => σ.cnt h (8 * b + i) (by omega) (by omega)
  have c0 := c 0 (by omega); have c1 := c 1 (by omega); have c2 := c 2 (by omega); have c3 := c 3 (by omega)
  have c4 := c 4 (by omega); have c5 := c 5 (by omega); have c6 := c 6 (by omega); have c7 := c 7 (by omega)
  simp only [Int.add_assoc, Int.reduceAdd, Int.add_zero, Int.zero_add] at c0 c1 c2 c3 c4 c5 c6 c7 ⊢
  rw [c0, c1, c2, c3, c4, c5, c6, c7]
  have e : ∀ n : Nat, ((σ.ofTo (8 * b) (n + 1)).length : Int) = (σ.ofTo (8 * b) n).length + if σ.ow (8 * b + n) ≠ 0 then 1 else 0 := by
    intro n
    show (((σ.ofTo (8 * b) n) ++ _ : List Int).length : Int) = _
    rw [List.length_append]
    split <;> simp
  rw [e 7, e 6, e 5, e 4, e 3, e 2, e 1, e 0]
  simp [MapS.ofTo]
  omega
end Go.Proofs.Ytnilidpafijdlac
