/- The document's decoder, every place and every two places tried, tells what the code's does. -/
import Derived.Test.YtmfmoanjecjeeaaRsE
import Derived.Test.YtmfmoanjecjeeaaRsI
import Derived.Test.YtmfmoanjecjeeaaRsL
set_option linter.unusedVariables false
set_option linter.unusedSectionVars false
set_option linter.unusedSimpArgs false
namespace Go.Proofs.Ytmfmoanjecjeeaa
open Go.Mx
namespace GF
def fits (s : Nat → GF) (a : GF) (x : Nat) (b : GF) (y : Nat) : Prop := ∀ j, j < 6 → a * pw (j * x) + b * pw (j * y) = s j
def aOf (s : Nat → GF) (x y : Nat) : GF := div (s 1 + s 0 * pw y) (pw x + pw y)
theorem dec_of {w u : Nat → GF} {n : Nat} (hu : Code u) (hd : df w u = n) (hn : n ≤ 2) : ∃ v, dec w = some (v, n) ∧ ∀ i, i < 64 → v i = u i := by
  rcases dec_spec w with ⟨v, n', h1, h2, h3, h4⟩ | ⟨_, h2⟩
  · have hv := h2.near hu (by have := df_tri v w u; have := df_comm v w; omega)
    have : n' = n := by
      rw [← h3, ← hd]
      exact wt_congr fun i hi => by rw [hv i hi]
    subst this
    exact ⟨v, h1, hv⟩
  · have := h2 u hu; omega
theorem try_one {w : Nat → GF} (h0 : ¬ Code w) {i : Nat} (hi : i < 64) (hf : fits (syn w) (syn w 0) (63 - i) 0 0) : ∃ v, dec w = some (v, 1) ∧ ∀ t, t < 64 → v t = flip w i (syn w 0) t := by
  have hs : syn w 0 ≠ 0 := fun h => h0 fun j hj => by
    rw [← hf j hj, h, zero_mul, zero_mul, add_zero]
  refine dec_of (fun j hj => ?_) (df_flip w hi hs) (by omega)
  rw [syn_flip w hi, ← hf j hj, zero_mul, add_zero, add_self]
theorem try_two {w : Nat → GF} {i k : Nat} (hi : i < k) (hk : k < 64) {a : GF} (ha : a ≠ 0) (hb : syn w 0 + a ≠ 0) (hf : fits (syn w) a (63 - i) (syn w 0 + a) (63 - k)) : ∃ v, dec w = some (v, 2) ∧ ∀ t, t < 64 → v t = flip (flip w i a) k (syn w 0 + a) t := by
  refine dec_of (fun j hj => ?_) (df_flip2 w (by omega) hk (by omega) ha hb) (by omega)
  rw [syn_flip _ hk, syn_flip w (by omega), ← hf j hj]
  simp only [add_assoc, add_comm, add_left_comm, add_self, add_cancel, add_zero, zero_add]
theorem try_none {w : Nat → GF} (h0 : ¬ Code w) (h1 : ∀ i, i < 64 → ¬ fits (syn w) (syn w 0) (63 - i) 0 0)
    (h2 : ∀ i k, i < k → k < 64 → ¬ (aOf (syn w) (63 - i) (63 - k) ≠ 0 ∧ syn w 0 + aOf (syn w) (63 - i) (63 - k) ≠ 0 ∧ fits (syn w) (aOf (syn w) (63 - i) (63 - k)) (63 - i) (syn w 0 + aOf (syn w) (63 - i) (63 - k)) (63 - k))) : dec w = none := by
  rcases dec_spec w with ⟨c, n, e, hc, hd, hn⟩ | ⟨e, _⟩
  · exfalso
    have hs : ∀ j, j < 6 → syn w j = syn (fun i => w i + c i) j := fun j hj => by rw [syn_add, hc j hj, add_zero]
    have hz : df w c ≠ 0 := fun h => h0 (hc.congr (df_zero h))
    by_cases hd1 : df w c = 1
    · obtain ⟨i0, a1, a2, a3⟩ := wt_one hd1
      have hp : ∀ j, j < 6 → syn w j = (w i0 + c i0) * pw (j * (63 - i0)) := by
        intro j hj
        rw [hs j hj]
        unfold syn
        rw [sum_one a1 fun i hi hne => by show (w i + c i) * _ = 0; rw [a3 i hi hne, zero_mul]]
      refine h1 i0 a1 fun j hj => ?_
      have q0 : syn w 0 = w i0 + c i0 := by rw [hp 0 (by omega), Nat.zero_mul, pw_zero, mul_one]
      rw [zero_mul, add_zero, hp j hj, q0]
    · obtain ⟨i0, i1, a1, a2, a3, a4, a5⟩ := wt_two (show wt (fun i => w i + c i) 64 = 2 by unfold df at hd hz hd1; omega)
      have hp : ∀ j, j < 6 → syn w j = (w i0 + c i0) * pw (j * (63 - i0)) + (w i1 + c i1) * pw (j * (63 - i1)) := fun j hj => by rw [hs j hj, syn_two a1 a2 a5]
      have q0 : syn w 0 = (w i0 + c i0) + (w i1 + c i1) := by rw [hp 0 (by omega), Nat.zero_mul, Nat.zero_mul, pw_zero, mul_one, mul_one]
      have q1 : syn w 1 = (w i0 + c i0) * pw (63 - i0) + (w i1 + c i1) * pw (63 - i1) := by rw [hp 1 (by omega), Nat.one_mul, Nat.one_mul]
      have hX : pw (63 - i0) + pw (63 - i1) ≠ 0 := fun h => by have := pw_inj (by omega) (by omega) (add_eq_zero.1 h); omega
      have hA : aOf (syn w) (63 - i0) (63 - i1) = w i0 + c i0 := by
        unfold aOf
        rw [q0, q1]
        generalize w i0 + c i0 = E
        generalize w i1 + c i1 = F
        generalize pw (63 - i0) = X at *
        generalize pw (63 - i1) = Y at *
        rw [show E * X + F * Y + (E + F) * Y = E * (X + Y) by
          simp only [mul_add, add_mul, mul_assoc, mul_comm, mul_left_comm, add_assoc, add_comm, add_left_comm, add_self, add_cancel, add_zero, zero_add], mul_div hX]
      have hB : syn w 0 + (w i0 + c i0) = w i1 + c i1 := by rw [q0, add_comm (w i0 + c i0), add_assoc, add_self, add_zero]
      refine h2 i0 i1 a1 a2 ⟨by rw [hA]; exact a3, by rw [hA, hB]; exact a4, fun j hj => ?_⟩
      rw [hA, hB, hp j hj]
  · exact e
end GF

/-- the tables: the powers, and which power each is -/
def Tab (m : Mem) (e l : Nat) : Prop := m[e]? = some (.live (bys 255 GF.pw)) ∧ m[l]? = some (.live (arr .i64 256 lT))
theorem Tab.grow {m m' : Mem} {e l : Nat} (h : Tab m e l) (hg : Gr m m') : Tab m' e l := ⟨hg.get h.1, hg.get h.2⟩
theorem Tab.lg {m : Mem} {e l : Nat} (h : Tab m e l) {a : GF} (ha : a ≠ 0) : ldInt .i64 m ⟨l, a.v, none⟩ = some (GF.lg a : Int) := by
  have h1 := a.v_lt
  have := arr_ldn (sp := none) (i := a.v) h.2 (by omega)
  rw [lT_of ha] at this
  exact this
theorem Tab.ex {m : Mem} {e l : Nat} (h : Tab m e l) {z : Int} (h0 : 0 ≤ z) : ldInt .u8 m ⟨e, (z % 255).toNat, none⟩ = some ((GF.pw z.toNat).v : Int) := by
  have := bys_ld (sp := none) h.1 (i := (z % 255).toNat) (by omega)
  rw [this, show (z % 255).toNat = z.toNat % 255 by omega, GF.pw_mod]

theorem tables_ok (k : Nat) (hk : 1000 < k) (m : Mem) : Ok (patinaref02_tables k m) fun r => r.1 = ⟨some ⟨m.length, 0, none⟩, 255, 255⟩ ∧ r.2.1 = ⟨some ⟨m.length + 1, 0, none⟩, 256, 256⟩ ∧ Gr m r.2.2 ∧ Tab r.2.2 m.length (m.length + 1) := by
  unfold patinaref02_tables
  have t255 : Int.toNat 255 = 255 := rfl
  have t256 : Int.toNat 256 = 256 := rfl
  have hlen : (m ++ [MObj.live (bys 255 fun _ => 0)]).length = m.length + 1 := by simp
  simp (disch := omega) only [Option.bind_some, Option.map_some, cond_true, cond_false, wrap_i64, tmod_pos, tdiv_pos, inRange_yes, inUpto_yes, isZero_no, decide_eq_true, decide_eq_false, Bool.not_true, Bool.not_false, Int.toNat_natCast, Nat.mul_one, beqI_yes, beqI_no, bneI_yes, bneI_no, isNil_nil, isNil_iface, wr_wr, Option.isNone_none, Option.isNone_some, plus, Nat.zero_add, Nat.add_zero, t255, t256, bys_zero, repl_int (k := .i64), hlen]
  refine patinaref02_tables_l0_rule k _ (fun r x2a x2n x2c x3a x3n x3c x4 x5 m' => (some ⟨m.length, 0, none⟩ : Option Addr) = x2a ∧ 255 = x2n ∧ 255 = x2c ∧ (some ⟨m.length + 1, 0, none⟩ : Option Addr) = x3a ∧ 256 = x3n ∧ 256 = x3c ∧ ∃ (j : Nat) (l : Int → Int), x5 = j ∧ j + r = 255 ∧ ((GF.pw j).v : Int) = x4 ∧
    (∀ i : Int, 0 ≤ i → i < 256 → (i = 0 ∨ (j : Int) ≤ lT i) ∧ l i = 0 ∨ i ≠ 0 ∧ lT i < j ∧ l i = lT i) ∧ m' = m ++ [.live (bys 255 fun i => if i < j then GF.pw i else 0)] ++ [.live (arr .i64 256 l)]) ?_ k 255 _ _ _ _ _ _ _ _ _ (by omega)
    ⟨rfl, rfl, rfl, rfl, rfl, rfl, 0, _, rfl, by omega, rfl, fun i h0 h1 => .inl ⟨by
        by_cases h2 : i = 0
        · exact .inl h2
        · right; unfold lT; rw [if_neg h2]; omega, rfl⟩, by
      rw [bys_congr (u := fun i => if i < 0 then GF.pw i else 0) (w := fun _ => 0) fun i hi => if_neg (by omega)]⟩
  rintro r nx _ _ _ _ _ _ _ _ _ ⟨rfl, rfl, rfl, rfl, rfl, rfl, j, l, rfl, hr, rfl, hl, rfl⟩ hnx
  unfold patinaref02_tables_l0_b
  have hlj : (m ++ [MObj.live (bys 255 fun i => if i < j then GF.pw i else 0)]).length = m.length + 1 := by simp
  by_cases hj : (j : Int) < 255
  · have hv := (GF.pw j).v_lt
    have hm0 : (m ++ [MObj.live (bys 255 fun i => if i < j then GF.pw i else 0)] ++ [MObj.live (arr .i64 256 l)])[m.length]? = some (.live (bys 255 fun i => if i < j then GF.pw i else 0)) := get_grow (get_last rfl)
    have e1 := bys_st (sp := none) hm0 (i := j) (by omega) (GF.pw j)
    have hP : (bys 255 (put (fun i => if i < j then GF.pw i else 0) j (GF.pw j))) = bys 255 fun i => if i < j + 1 then GF.pw i else 0 := bys_congr fun i hi => by
      unfold put
      by_cases h1 : i = j
      · rw [if_pos h1, if_pos (by omega), h1]
      · rw [if_neg h1]; dsimp only
        by_cases h2 : i < j
        · rw [if_pos h2, if_pos (show i < j + 1 by omega)]
        · rw [if_neg h2, if_neg (show ¬ i < j + 1 by omega)]
    rw [wr_app (by simp), wr_last rfl, hP] at e1
    have hlj2 : (m ++ [MObj.live (bys 255 fun i => if i < j + 1 then GF.pw i else 0)]).length = m.length + 1 := by simp
    have e2 := arr_st (sp := none) (x := ((GF.pw j).v : Int)) (v := (j : Int)) (get_last (o := .live (arr .i64 256 l)) hlj2) (by omega) (by omega)
    rw [wr_last hlj2, Int.toNat_natCast] at e2
    have e3 := fun M => refMul_is k hk (GF.pw j) (GF.pw 1) M
    simp only [GF.pw_pw, show ((GF.pw 1).v : Int) = 2 from rfl] at e3
    simp (disch := omega) only [Option.bind_some, Option.map_some, cond_true, cond_false, wrap_i64, tmod_pos, tdiv_pos, inRange_yes, inUpto_yes, isZero_no, decide_eq_true, decide_eq_false, Bool.not_true, Bool.not_false, Int.toNat_natCast, Nat.mul_one, beqI_yes, beqI_no, bneI_yes, bneI_no, isNil_nil, isNil_iface, wr_wr, Option.isNone_none, Option.isNone_some, plus, Nat.zero_add, Nat.add_zero, e1, e2, e3]
    refine hnx (r - 1) _ _ _ _ _ _ _ _ _ (by omega) ⟨rfl, rfl, rfl, rfl, rfl, rfl, j + 1, _, by omega, by omega, rfl, fun i h0 h1 => ?_, rfl⟩
    have hlp : lT ((GF.pw j).v : Int) = (j : Int) := by rw [lT_of GF.pw_ne, GF.lg_pw (by omega)]
    unfold upd
    by_cases c1 : i = ((GF.pw j).v : Int)
    · right
      have := GF.v_ne (GF.pw_ne (n := j))
      rw [if_pos c1, c1, hlp]
      exact ⟨by omega, by omega, rfl⟩
    · rw [if_neg c1]
      rcases hl i h0 h1 with ⟨b1, b2⟩ | ⟨b1, b2, b3⟩
      · left
        refine ⟨?_, b2⟩
        rcases b1 with b1 | b1
        · exact .inl b1
        · by_cases b3 : i = 0
          · exact .inl b3
          · right
            have : lT i ≠ (j : Int) := by
              intro h5
              apply c1
              have h6 : lT i = (GF.lg (GF.of i.toNat) : Int) := by unfold lT; rw [if_neg b3]
              have h7 : GF.of i.toNat ≠ 0 := fun h8 => by
                have := congrArg GF.v h8
                rw [GF.v_of (by omega)] at this
                have h9 : GF.v 0 = 0 := rfl
                omega
              have h8 := GF.pw_lg h7
              rw [show GF.lg (GF.of i.toNat) = j by omega] at h8
              rw [h8, GF.v_of (by omega)]; omega
            omega
      · right; exact ⟨b1, by omega, b3⟩
  · obtain rfl : j = 255 := by omega
    simp (disch := omega) only [Option.bind_some, Option.map_some, cond_true, cond_false, wrap_i64, tmod_pos, tdiv_pos, inRange_yes, inUpto_yes, isZero_no, decide_eq_true, decide_eq_false, Bool.not_true, Bool.not_false, Int.toNat_natCast, Nat.mul_one, beqI_yes, beqI_no, bneI_yes, bneI_no, isNil_nil, isNil_iface, wr_wr, Option.isNone_none, Option.isNone_some, plus, Nat.zero_add, Nat.add_zero]
    refine .some ⟨rfl, rfl, (Gr.app _ _).trans (Gr.app _ _), ?_, ?_⟩
    · rw [get_grow (get_last rfl), bys_congr (u := fun i => if i < 255 then GF.pw i else 0) (w := GF.pw) fun i hi => if_pos hi]
    · rw [get_last hlj, arr_congr (f := l) (g := lT) fun i h0 h1 => ?_]
      rcases hl i h0 (by omega) with ⟨b1 | b1, b2⟩ | ⟨b1, b2, b3⟩
      · subst b1; rw [b2]; rfl
      · by_cases b3 : i = 0
        · subst b3; rw [b2]; rfl
        · exfalso
          have h7 : GF.of i.toNat ≠ 0 := fun h8 => by
            have := congrArg GF.v h8
            rw [GF.v_of (by omega)] at this
            have h9 : GF.v 0 = 0 := rfl
            omega
          have := GF.lg_lt h7
          unfold lT at b1
          rw [if_neg b3] at b1
          omega
      · exact b3

theorem fits_is (k : Nat) (hk : 1000 < k) {m : Mem} {sa : Option Addr} {sc : Nat} {s : Nat → GF} {e l : Nat} (hs : Src m sa 6 s) (hT : Tab m e l) (a b : GF) {x y : Nat} (hx : x < 64) (hy : y < 64) :
    ∃ z, patinaref02_fits k sa 6 sc (some ⟨e, 0, none⟩) 255 255 (some ⟨l, 0, none⟩) 256 256 (a.v : Int) x (b.v : Int) y m = some (z, m) ∧ (z = true ↔ GF.fits s a x b y) := by
  have key : Ok (patinaref02_fits k sa 6 sc (some ⟨e, 0, none⟩) 255 255 (some ⟨l, 0, none⟩) 256 256 (a.v : Int) x (b.v : Int) y m) fun r => r.2 = m ∧ (r.1 = true ↔ GF.fits s a x b y) := by
    unfold patinaref02_fits
    refine patinaref02_fits_l0_rule k _ _ (fun r x0a x0n x0c x1a x1n x1c x2a x2n x2c x3 x4 x5 x6 x15 m' => sa = x0a ∧ 6 = x0n ∧ sc = x0c ∧ (some ⟨e, 0, none⟩ : Option Addr) = x1a ∧ 255 = x1n ∧ 255 = x1c ∧ (some ⟨l, 0, none⟩ : Option Addr) = x2a ∧ 256 = x2n ∧ 256 = x2c ∧ (a.v : Int) = x3 ∧ (x : Int) = x4 ∧ (b.v : Int) = x5 ∧ (y : Int) = x6 ∧ m = m' ∧ ∃ j : Nat, x15 = j ∧ j + r = 6 ∧ ∀ i, i < j → a * GF.pw (i * x) + b * GF.pw (i * y) = s i) ?_ k 6 _ _ _ _ _ _ _ _ _ _ _ _ _ _ _ (by omega)
      ⟨rfl, rfl, rfl, rfl, rfl, rfl, rfl, rfl, rfl, rfl, rfl, rfl, rfl, rfl, 0, rfl, by omega, fun i hi => by omega⟩
    rintro r nx _ _ _ _ _ _ _ _ _ _ _ _ _ _ _ ⟨rfl, rfl, rfl, rfl, rfl, rfl, rfl, rfl, rfl, rfl, rfl, rfl, rfl, rfl, j, rfl, hr, he⟩ hnx
    unfold patinaref02_fits_l0_b
    have ha := a.v_lt
    have hb := b.v_lt
    by_cases hj : (j : Int) < ((6 : Nat) : Int)
    · obtain ⟨ad, rfl, e1⟩ := hs.ld (i := j) (by omega)
      unfold plus at e1
      have i6 : inRange (j : Int) 6 = true := inRange_yes (by omega) (by omega)
      -- a term
      have term : ∀ (c : GF) (z : Nat), z < 64 → c ≠ 0 → 0 ≤ (j : Int) * z ∧ (j : Int) * z < 1000 ∧ ldInt .u8 m ⟨e, (((GF.lg c : Int) + (j : Int) * z) % 255).toNat, none⟩ = some ((c * GF.pw (j * z)).v : Int) := by
        intro c z hz hc
        have hjz : (j : Int) * z = ((j * z : Nat) : Int) := by simp
        have hb : j * z ≤ 5 * 63 := Nat.mul_le_mul (by omega) (by omega)
        have := hT.ex (z := (GF.lg c : Int) + (j : Int) * z) (by omega)
        rw [this]
        refine ⟨by omega, by omega, ?_⟩
        rw [show ((GF.lg c : Int) + (j : Int) * z).toNat = GF.lg c + j * z by omega, ← GF.pw_pw, GF.pw_lg hc]
      -- the end of a round
      have fin : ∀ v : GF, v = a * GF.pw (j * x) + b * GF.pw (j * y) → Ok (patinaref02_fits_j2 k (some ad) 6 sc (some ⟨e, 0, none⟩) 255 255 (some ⟨l, 0, none⟩) 256 256 (a.v : Int) x (b.v : Int) y j nx (fun y14 m11 => some (y14, m11)) (v.v : Int) m) fun r => r.2 = m ∧ (r.1 = true ↔ GF.fits s a x b y) := by
        rintro v hv
        unfold patinaref02_fits_j2
        simp (disch := omega) only [Option.bind_some, Option.map_some, cond_true, cond_false, wrap_i64, tmod_pos, tdiv_pos, inRange_yes, inUpto_yes, isZero_no, decide_eq_true, decide_eq_false, Bool.not_true, Bool.not_false, Int.toNat_natCast, Nat.mul_one, beqI_yes, beqI_no, bneI_yes, bneI_no, isNil_nil, isNil_iface, wr_wr, Option.isNone_none, Option.isNone_some, plus, Nat.zero_add, Nat.add_zero, i6, e1, v_bne]
        by_cases h1 : v = s j
        · rw [decide_eq_true h1]
          simp (disch := omega) only [Option.bind_some, Option.map_some, cond_true, cond_false, wrap_i64, tmod_pos, tdiv_pos, inRange_yes, inUpto_yes, isZero_no, decide_eq_true, decide_eq_false, Bool.not_true, Bool.not_false, Int.toNat_natCast, Nat.mul_one, beqI_yes, beqI_no, bneI_yes, bneI_no, isNil_nil, isNil_iface, wr_wr, Option.isNone_none, Option.isNone_some, plus, Nat.zero_add, Nat.add_zero]
          refine hnx (r - 1) _ _ _ _ _ _ _ _ _ _ _ _ _ _ _ (by omega) ⟨rfl, rfl, rfl, rfl, rfl, rfl, rfl, rfl, rfl, rfl, rfl, rfl, rfl, rfl, j + 1, by omega, by omega, fun i hi => ?_⟩
          by_cases h2 : i = j
          · rw [h2, ← hv]; exact h1
          · exact he i (by omega)
        · rw [decide_eq_false h1]
          simp (disch := omega) only [Option.bind_some, Option.map_some, cond_true, cond_false, wrap_i64, tmod_pos, tdiv_pos, inRange_yes, inUpto_yes, isZero_no, decide_eq_true, decide_eq_false, Bool.not_true, Bool.not_false, Int.toNat_natCast, Nat.mul_one, beqI_yes, beqI_no, bneI_yes, bneI_no, isNil_nil, isNil_iface, wr_wr, Option.isNone_none, Option.isNone_some, plus, Nat.zero_add, Nat.add_zero]
          exact .some ⟨rfl, ⟨fun h => (by cases h), fun h => absurd (hv.trans (h j (by omega))) h1⟩⟩
      have mid : ∀ v : GF, v = a * GF.pw (j * x) → Ok (patinaref02_fits_j1 k (some ad) 6 sc (some ⟨e, 0, none⟩) 255 255 (some ⟨l, 0, none⟩) 256 256 (a.v : Int) x (b.v : Int) y j nx (fun y14 m11 => some (y14, m11)) (v.v : Int) m) fun r => r.2 = m ∧ (r.1 = true ↔ GF.fits s a x b y) := by
        rintro v hv
        unfold patinaref02_fits_j1
        rw [v_bne0]
        by_cases hb0 : b = 0
        · rw [decide_eq_true hb0]
          simp (disch := omega) only [Option.bind_some, Option.map_some, cond_true, cond_false, wrap_i64, tmod_pos, tdiv_pos, inRange_yes, inUpto_yes, isZero_no, decide_eq_true, decide_eq_false, Bool.not_true, Bool.not_false, Int.toNat_natCast, Nat.mul_one, beqI_yes, beqI_no, bneI_yes, bneI_no, isNil_nil, isNil_iface, wr_wr, Option.isNone_none, Option.isNone_some, plus, Nat.zero_add, Nat.add_zero]
          exact fin v (by rw [hb0, GF.zero_mul, GF.add_zero, hv])
        · rw [decide_eq_false hb0]
          obtain ⟨t1, t2, t3⟩ := term b y hy hb0
          have hlg := GF.lg_lt hb0
          have w1 : IntKind.wrap .i64 ((j : Int) * y) = (j : Int) * y := wrap_i64 (by omega) (by omega)
          generalize (j : Int) * y = jy at *
          have i255 : inRange (((GF.lg b : Int) + jy) % 255) 255 = true := inRange_yes (by omega) (by omega)
          simp (disch := omega) only [Option.bind_some, Option.map_some, cond_true, cond_false, wrap_i64, tmod_pos, tdiv_pos, inRange_yes, inUpto_yes, isZero_no, decide_eq_true, decide_eq_false, Bool.not_true, Bool.not_false, Int.toNat_natCast, Nat.mul_one, beqI_yes, beqI_no, bneI_yes, bneI_no, isNil_nil, isNil_iface, wr_wr, Option.isNone_none, Option.isNone_some, plus, Nat.zero_add, Nat.add_zero, hT.lg hb0, w1, i255, t3, xor_v]
          exact fin _ (by rw [hv])
      rw [decide_eq_true hj, cond_true, v_bne0]
      by_cases ha0 : a = 0
      · rw [decide_eq_true ha0]
        simp (disch := omega) only [Option.bind_some, Option.map_some, cond_true, cond_false, wrap_i64, tmod_pos, tdiv_pos, inRange_yes, inUpto_yes, isZero_no, decide_eq_true, decide_eq_false, Bool.not_true, Bool.not_false, Int.toNat_natCast, Nat.mul_one, beqI_yes, beqI_no, bneI_yes, bneI_no, isNil_nil, isNil_iface, wr_wr, Option.isNone_none, Option.isNone_some, plus, Nat.zero_add, Nat.add_zero]
        exact mid 0 (by rw [ha0, GF.zero_mul])
      · rw [decide_eq_false ha0]
        obtain ⟨t1, t2, t3⟩ := term a x hx ha0
        have hlg := GF.lg_lt ha0
        have w1 : IntKind.wrap .i64 ((j : Int) * x) = (j : Int) * x := wrap_i64 (by omega) (by omega)
        have z0 : (0 : Int) = (((0 : GF).v : Nat) : Int) := rfl
        have x0 : ∀ c : GF, bitI .xor .u8 0 (c.v : Int) = (c.v : Int) := fun c => by
          have := xor_v 0 c
          rw [GF.zero_add] at this
          exact this
        generalize (j : Int) * x = jx at *
        have i255 : inRange (((GF.lg a : Int) + jx) % 255) 255 = true := inRange_yes (by omega) (by omega)
        simp (disch := omega) only [Option.bind_some, Option.map_some, cond_true, cond_false, wrap_i64, tmod_pos, tdiv_pos, inRange_yes, inUpto_yes, isZero_no, decide_eq_true, decide_eq_false, Bool.not_true, Bool.not_false, Int.toNat_natCast, Nat.mul_one, beqI_yes, beqI_no, bneI_yes, bneI_no, isNil_nil, isNil_iface, wr_wr, Option.isNone_none, Option.isNone_some, plus, Nat.zero_add, Nat.add_zero, hT.lg ha0, w1, i255, t3, x0]
        exact mid _ rfl
    · obtain rfl : j = 6 := by omega
      simp (disch := omega) only [Option.bind_some, Option.map_some, cond_true, cond_false, wrap_i64, tmod_pos, tdiv_pos, inRange_yes, inUpto_yes, isZero_no, decide_eq_true, decide_eq_false, Bool.not_true, Bool.not_false, Int.toNat_natCast, Nat.mul_one, beqI_yes, beqI_no, bneI_yes, bneI_no, isNil_nil, isNil_iface, wr_wr, Option.isNone_none, Option.isNone_some, plus, Nat.zero_add, Nat.add_zero]
      exact .some ⟨rfl, ⟨fun _ => he, fun _ => rfl⟩⟩
  obtain ⟨⟨z, m'⟩, h1, h2, h3⟩ := key
  simp only at h2 h3
  subst h2
  exact ⟨z, h1, h3⟩

theorem over_is (k : Nat) {m : Mem} {e l : Nat} (hT : Tab m e l) (a : GF) {b : GF} (hb : b ≠ 0) : patinaref02_over k (some ⟨e, 0, none⟩) 255 255 (some ⟨l, 0, none⟩) 256 256 (a.v : Int) (b.v : Int) m = some (((GF.div a b).v : Int), m) := by
  unfold patinaref02_over
  have ha' := a.v_lt
  have hb' := b.v_lt
  rw [v_beq0]
  by_cases ha : a = 0
  · rw [decide_eq_true ha, cond_true, ha]
    unfold GF.div
    rw [GF.zero_mul]; rfl
  · rw [decide_eq_false ha, cond_false]
    have la := GF.lg_lt ha
    have lb := GF.lg_lt hb
    have e1 := hT.ex (z := (GF.lg a : Int) - GF.lg b + 255) (by omega)
    have e2 : GF.pw ((GF.lg a : Int) - GF.lg b + 255).toNat = GF.div a b := by
      unfold GF.div GF.inv
      rw [show ((GF.lg a : Int) - GF.lg b + 255).toNat = GF.lg a + (255 - GF.lg b) by omega, ← GF.pw_pw, GF.pw_lg ha]
    rw [e2] at e1
    have i255 : inRange (((GF.lg a : Int) - GF.lg b + 255) % 255) 255 = true := inRange_yes (by omega) (by omega)
    simp (disch := omega) only [Option.bind_some, Option.map_some, cond_true, cond_false, wrap_i64, tmod_pos, tdiv_pos, inRange_yes, inUpto_yes, isZero_no, decide_eq_true, decide_eq_false, Bool.not_true, Bool.not_false, Int.toNat_natCast, Nat.mul_one, beqI_yes, beqI_no, bneI_yes, bneI_no, isNil_nil, isNil_iface, wr_wr, Option.isNone_none, Option.isNone_some, plus, Nat.zero_add, Nat.add_zero, hT.lg ha, hT.lg hb, i255, e1]

theorem turned_ok (k : Nat) {m : Mem} {a : Option Addr} {c : Nat} {w : Nat → GF} (hw : Src m a 64 w) (p q : GF) {i j : Nat} (hi : i < 64) (hj : j < 64) :
    Ok (patinaref02_turned k a 64 c (p.v : Int) i (q.v : Int) j m) fun r => ∃ d, r.1 = ⟨some ⟨d, 0, some 1⟩, 58, 64⟩ ∧ Gr m r.2 ∧ m.length ≤ d ∧ r.2[d]? = some (.live (bys 64 (GF.flip (GF.flip w i p) j q))) := by
  unfold patinaref02_turned
  have hw' : rdSl m a 64 1 = some (bys 64 w) := hw
  have e1 := appM_first (z := 1) (y := 1) (m := m) (l := 64) (new := bys 64 w) (by omega) (by unfold most; omega) (by unfold most; omega)
  have hl := get_last (m := m) (o := .live (bys 64 w)) rfl
  have e2 := bys_ld (sp := some 1) hl (i := i) hi
  have e3 := bys_st (sp := some 1) hl (i := i) hi (w i + p)
  rw [wr_last rfl, put_flip] at e3
  have hl2 := get_last (m := m) (o := .live (bys 64 (GF.flip w i p))) rfl
  have e4 := bys_ld (sp := some 1) hl2 (i := j) hj
  have e5 := bys_st (sp := some 1) hl2 (i := j) hj (GF.flip w i p j + q)
  rw [wr_last rfl, put_flip] at e5
  have i1 : inRange (i : Int) 64 = true := inRange_yes (by omega) (by omega)
  have i2 : inRange (j : Int) 64 = true := inRange_yes (by omega) (by omega)
  have u58 : inUpto 58 64 = true := rfl
  have t58 : Int.toNat 58 = 58 := rfl
  have hcl : sliceK.clear (some ⟨m.length, 0, some 1⟩) false = some ⟨m.length, 0, some 1⟩ := rfl
  simp (disch := omega) only [Option.bind_some, Option.map_some, cond_true, cond_false, wrap_i64, tmod_pos, tdiv_pos, inRange_yes, inUpto_yes, isZero_no, decide_eq_true, decide_eq_false, Bool.not_true, Bool.not_false, Int.toNat_natCast, Nat.mul_one, beqI_yes, beqI_no, bneI_yes, bneI_no, isNil_nil, isNil_iface, wr_wr, Option.isNone_none, Option.isNone_some, plus, Nat.zero_add, Nat.add_zero, hw', e1, i1, e2, xor_v, e3, i2, e4, e5, u58, t58, hcl]
  exact .some ⟨m.length, rfl, Gr.app _ _, Nat.le_refl _, get_last rfl⟩

theorem refDecode_ok (k : Nat) (hk : 1000 < k) {m : Mem} {a : Option Addr} {c : Nat} {w : Nat → GF} (hw : Src m a 64 w) :
    Ok (patinaref02_Decode k a 64 c m) fun r => Gr m r.2.2.2 ∧ ((∃ u n d, GF.dec w = some (u, n) ∧ r.1 = ⟨some ⟨d, 0, some 1⟩, 58, 64⟩ ∧ r.2.1 = (n : Nat) ∧ r.2.2.1 = true ∧ m.length ≤ d ∧ ∃ u', r.2.2.2[d]? = some (.live (bys 64 u')) ∧ ∀ i, i < 64 → u' i = u i) ∨
      (GF.dec w = none ∧ r.2.2.1 = false)) := by
  unfold patinaref02_Decode
  refine .bind (refSyn_ok k hk (c := c) hw) ?_
  rintro ⟨_, m1⟩ ⟨sa, rfl, hA⟩
  simp only at hA ⊢
  have hg1 := hA.1
  have t6 : Int.toNat 6 = 6 := rfl
  have hl := get_last (m := m1) (o := .live (bys 6 fun _ => 0)) rfl
  have hg2 : Gr m1 (m1 ++ [.live (bys 6 fun _ => 0)]) := Gr.app _ _
  obtain ⟨z, e1, e2⟩ := same_is k (c := 6) (c' := 6) (hA.src.grow hg2) (Src.of (sp := none) hl) (by omega) (by omega)
  have hz : z = true ↔ GF.Code w := by
    rw [e2]
    exact ⟨fun h => h.2, fun h => ⟨rfl, h⟩⟩
  simp (disch := omega) only [Option.bind_some, Option.map_some, cond_true, cond_false, wrap_i64, tmod_pos, tdiv_pos, inRange_yes, inUpto_yes, isZero_no, decide_eq_true, decide_eq_false, Bool.not_true, Bool.not_false, Int.toNat_natCast, Nat.mul_one, beqI_yes, beqI_no, bneI_yes, bneI_no, isNil_nil, isNil_iface, wr_wr, Option.isNone_none, Option.isNone_some, plus, Nat.zero_add, Nat.add_zero, t6, bys_zero, e1]
  have hs := hA.src.grow hg2
  have hw2 := hw.grow (hg1.trans hg2)
  generalize hm2 : m1 ++ [MObj.live (bys 6 fun _ => 0)] = m2 at *
  have hG2 := hg1.trans hg2
  cases z with
  | true =>
    have hc := hz.1 rfl
    have z0 : (0 : Int) = (((0 : GF).v : Nat) : Int) := rfl
    have n0 : (0 : Int) = ((0 : Nat) : Int) := rfl
    rw [cond_true]
    refine .bind (turned_ok k (c := c) hw2 0 0 (i := 0) (j := 0) (by omega) (by omega)) ?_
    rintro ⟨_, m3⟩ ⟨d, rfl, hg3, hd, h3⟩
    simp only at hg3 h3 ⊢
    refine .some ⟨hG2.trans hg3, .inl ⟨w, 0, d, GF.dec_code hc, rfl, rfl, rfl, by have := hG2.len; omega, _, h3, fun i hi => ?_⟩⟩
    simp only [GF.flip, GF.add_zero, ite_self]
  | false =>
    have hno : ¬ GF.Code w := fun h => by have := hz.2 h; cases this
    rw [cond_false]
    refine .bind (tables_ok k hk m2) ?_
    rintro ⟨_, _, m3⟩ ⟨rfl, rfl, hg3, hT⟩
    simp only at hg3 hT ⊢
    have hs3 := hs.grow hg3
    have hw3 := hw2.grow hg3
    have hG3 := hG2.trans hg3
    obtain ⟨ad, rfl, s0⟩ := hs3.ld (i := 0) (by omega)
    obtain ⟨ad', hh, s1⟩ := hs3.ld (i := 1) (by omega)
    simp only [Option.some.injEq] at hh
    subst hh
    unfold plus at s0 s1
    rw [Nat.add_zero] at s0
    have i06 : inRange 0 6 = true := rfl
    have i16 : inRange 1 6 = true := rfl
    have t0 : Int.toNat 0 = 0 := rfl
    have t1 : Int.toNat 1 = 1 := rfl
    have mlen := hG3.len
    refine patinaref02_Decode_l0_rule k _ _ (fun r x0a x0n x0c x5a x5n x5c x7a x7n x7c x8a x8n x8c x9 m' => a = x0a ∧ 64 = x0n ∧ c = x0c ∧ some ad = x5a ∧ 6 = x5n ∧ 6 = x5c ∧ (some ⟨m2.length, 0, none⟩ : Option Addr) = x7a ∧ 255 = x7n ∧ 255 = x7c ∧ (some ⟨m2.length + 1, 0, none⟩ : Option Addr) = x8a ∧ 256 = x8n ∧ 256 = x8c ∧ m3 = m' ∧ ∃ i : Nat, x9 = i ∧ i + r = 64 ∧ ∀ j, j < i → ¬ GF.fits (GF.syn w) (GF.syn w 0) (63 - j) 0 0) ?_ k 64 _ _ _ _ _ _ _ _ _ _ _ _ _ _ (by omega)
      ⟨rfl, rfl, rfl, rfl, rfl, rfl, rfl, rfl, rfl, rfl, rfl, rfl, rfl, 0, rfl, by omega, fun j hj => by omega⟩
    rintro r nx _ _ _ _ _ _ _ _ _ _ _ _ _ _ ⟨rfl, rfl, rfl, rfl, rfl, rfl, rfl, rfl, rfl, rfl, rfl, rfl, rfl, i, rfl, hr, hone⟩ hnx
    unfold patinaref02_Decode_l0_b
    by_cases hi : (i : Int) < 64
    · have c63 : (63 : Int) - (i : Int) = ((63 - i : Nat) : Int) := by omega
      obtain ⟨z, f1, f2⟩ := fits_is k hk (sc := 6) hs3 hT (GF.syn w 0) 0 (x := 63 - i) (y := 0) (by omega) (by omega)
      have z0 : ((((0 : GF).v : Nat) : Int)) = 0 := rfl
      have n0 : ((0 : Nat) : Int) = 0 := rfl
      rw [z0, n0] at f1
      simp (disch := omega) only [Option.bind_some, Option.map_some, cond_true, cond_false, wrap_i64, tmod_pos, tdiv_pos, inRange_yes, inUpto_yes, isZero_no, decide_eq_true, decide_eq_false, Bool.not_true, Bool.not_false, Int.toNat_natCast, Nat.mul_one, beqI_yes, beqI_no, bneI_yes, bneI_no, isNil_nil, isNil_iface, wr_wr, Option.isNone_none, Option.isNone_some, plus, Nat.zero_add, Nat.add_zero, i06, t0, s0, c63, f1]
      cases z with
      | true =>
        simp (disch := omega) only [Option.bind_some, Option.map_some, cond_true, cond_false, wrap_i64, tmod_pos, tdiv_pos, inRange_yes, inUpto_yes, isZero_no, decide_eq_true, decide_eq_false, Bool.not_true, Bool.not_false, Int.toNat_natCast, Nat.mul_one, beqI_yes, beqI_no, bneI_yes, bneI_no, isNil_nil, isNil_iface, wr_wr, Option.isNone_none, Option.isNone_some, plus, Nat.zero_add, Nat.add_zero, i06, t0, s0]
        have := turned_ok k (c := c) hw3 (GF.syn w 0) 0 (i := i) (j := i) (by omega) (by omega)
        rw [z0] at this
        refine .bind this ?_
        rintro ⟨_, m4⟩ ⟨d, rfl, hg4, hd, h4⟩
        simp only at hg4 h4 ⊢
        obtain ⟨v, v1, v2⟩ := GF.try_one hno (by omega) (f2.1 rfl)
        refine .some ⟨hG3.trans hg4, .inl ⟨v, 1, d, v1, rfl, rfl, rfl, by omega, _, h4, fun t ht => ?_⟩⟩
        rw [v2 t ht]
        unfold GF.flip
        split
        · rw [GF.add_zero]
        · rfl
      | false =>
        simp (disch := omega) only [Option.bind_some, Option.map_some, cond_true, cond_false, wrap_i64, tmod_pos, tdiv_pos, inRange_yes, inUpto_yes, isZero_no, decide_eq_true, decide_eq_false, Bool.not_true, Bool.not_false, Int.toNat_natCast, Nat.mul_one, beqI_yes, beqI_no, bneI_yes, bneI_no, isNil_nil, isNil_iface, wr_wr, Option.isNone_none, Option.isNone_some, plus, Nat.zero_add, Nat.add_zero]
        refine hnx (r - 1) _ _ _ _ _ _ _ _ _ _ _ _ _ _ (by omega) ⟨rfl, rfl, rfl, rfl, rfl, rfl, rfl, rfl, rfl, rfl, rfl, rfl, rfl, i + 1, by omega, by omega, fun j hj => ?_⟩
        by_cases h1 : j = i
        · rw [h1]; exact fun h => by have := f2.2 h; cases this
        · exact hone j (by omega)
    · obtain rfl : i = 64 := by omega
      clear hnx
      rw [decide_eq_false hi, cond_false]
      let bad : Nat → Nat → Prop := fun i k => ¬ (GF.aOf (GF.syn w) (63 - i) (63 - k) ≠ 0 ∧ GF.syn w 0 + GF.aOf (GF.syn w) (63 - i) (63 - k) ≠ 0 ∧ GF.fits (GF.syn w) (GF.aOf (GF.syn w) (63 - i) (63 - k)) (63 - i) (GF.syn w 0 + GF.aOf (GF.syn w) (63 - i) (63 - k)) (63 - k))
      refine patinaref02_Decode_l2_rule k _ _ (fun r x0a x0n x0c x5a x5n x5c x7a x7n x7c x8a x8n x8c x11 m' => a = x0a ∧ 64 = x0n ∧ c = x0c ∧ some ad = x5a ∧ 6 = x5n ∧ 6 = x5c ∧ (some ⟨m2.length, 0, none⟩ : Option Addr) = x7a ∧ 255 = x7n ∧ 255 = x7c ∧ (some ⟨m2.length + 1, 0, none⟩ : Option Addr) = x8a ∧ 256 = x8n ∧ 256 = x8c ∧ m3 = m' ∧ ∃ i : Nat, x11 = i ∧ i + r = 64 ∧ ∀ i' k', i' < i → i' < k' → k' < 64 → bad i' k') ?_ k 64 _ _ _ _ _ _ _ _ _ _ _ _ _ _ (by omega)
        ⟨rfl, rfl, rfl, rfl, rfl, rfl, rfl, rfl, rfl, rfl, rfl, rfl, rfl, 0, rfl, by omega, fun i' k' h => by omega⟩
      rintro r' nx' _ _ _ _ _ _ _ _ _ _ _ _ _ _ ⟨rfl, rfl, rfl, rfl, rfl, rfl, rfl, rfl, rfl, rfl, rfl, rfl, rfl, i, rfl, hr', htwo⟩ hnx'
      unfold patinaref02_Decode_l2_b
      by_cases hi2 : (i : Int) < 64
      · have c63 : (63 : Int) - (i : Int) = ((63 - i : Nat) : Int) := by omega
        simp (disch := omega) only [Option.bind_some, Option.map_some, cond_true, cond_false, wrap_i64, tmod_pos, tdiv_pos, inRange_yes, inUpto_yes, isZero_no, decide_eq_true, decide_eq_false, Bool.not_true, Bool.not_false, Int.toNat_natCast, Nat.mul_one, beqI_yes, beqI_no, bneI_yes, bneI_no, isNil_nil, isNil_iface, wr_wr, Option.isNone_none, Option.isNone_some, plus, Nat.zero_add, Nat.add_zero, c63]
        refine patinaref02_Decode_l4_rule k _ _ (fun r x0a x0n x0c x5a x5n x5c x7a x7n x7c x8a x8n x8c x11 x12 x13 m' => a = x0a ∧ 64 = x0n ∧ c = x0c ∧ some ad = x5a ∧ 6 = x5n ∧ 6 = x5c ∧ (some ⟨m2.length, 0, none⟩ : Option Addr) = x7a ∧ 255 = x7n ∧ 255 = x7c ∧ (some ⟨m2.length + 1, 0, none⟩ : Option Addr) = x8a ∧ 256 = x8n ∧ 256 = x8c ∧ (i : Int) = x11 ∧ ((63 - i : Nat) : Int) = x12 ∧ m3 = m' ∧ ∃ t : Nat, x13 = t ∧ i < t ∧ t + r = 64 ∧ ∀ k', i < k' → k' < t → bad i k') ?_ k (63 - i) _ _ _ _ _ _ _ _ _ _ _ _ _ _ _ _ (by omega)
          ⟨rfl, rfl, rfl, rfl, rfl, rfl, rfl, rfl, rfl, rfl, rfl, rfl, rfl, rfl, rfl, i + 1, by omega, by omega, by omega, fun k' h1 h2 => by omega⟩
        rintro r'' nx'' _ _ _ _ _ _ _ _ _ _ _ _ _ _ _ _ ⟨rfl, rfl, rfl, rfl, rfl, rfl, rfl, rfl, rfl, rfl, rfl, rfl, rfl, rfl, rfl, t, rfl, hit, hr'', hbad⟩ hnx''
        unfold patinaref02_Decode_l4_b
        by_cases ht : (t : Int) < 64
        · have c63t : (63 : Int) - (t : Int) = ((63 - t : Nat) : Int) := by omega
          have hX : GF.pw (63 - i) + GF.pw (63 - t) ≠ 0 := fun h => by have := GF.pw_inj (by omega) (by omega) (GF.add_eq_zero.1 h); omega
          have next : bad i t → Ok (patinaref02_Decode_j1 k a 64 c (some ad) 6 6 (some ⟨m2.length, 0, none⟩) 255 255 (some ⟨m2.length + 1, 0, none⟩) 256 256 (i : Int) ((63 - i : Nat) : Int) (t : Int) nx'' m3) fun r => Gr m r.2.2.2 ∧ ((∃ u n d, GF.dec w = some (u, n) ∧ r.1 = ⟨some ⟨d, 0, some 1⟩, 58, 64⟩ ∧ r.2.1 = (n : Nat) ∧ r.2.2.1 = true ∧ m.length ≤ d ∧ ∃ u', r.2.2.2[d]? = some (.live (bys 64 u')) ∧ ∀ i, i < 64 → u' i = u i) ∨ (GF.dec w = none ∧ r.2.2.1 = false)) := by
            intro hb
            unfold patinaref02_Decode_j1
            simp (disch := omega) only [Option.bind_some, Option.map_some, cond_true, cond_false, wrap_i64, tmod_pos, tdiv_pos, inRange_yes, inUpto_yes, isZero_no, decide_eq_true, decide_eq_false, Bool.not_true, Bool.not_false, Int.toNat_natCast, Nat.mul_one, beqI_yes, beqI_no, bneI_yes, bneI_no, isNil_nil, isNil_iface, wr_wr, Option.isNone_none, Option.isNone_some, plus, Nat.zero_add, Nat.add_zero]
            refine hnx'' (r'' - 1) _ _ _ _ _ _ _ _ _ _ _ _ _ _ _ _ (by omega) ⟨rfl, rfl, rfl, rfl, rfl, rfl, rfl, rfl, rfl, rfl, rfl, rfl, rfl, rfl, rfl, t + 1, by omega, by omega, by omega, fun k' h1 h2 => ?_⟩
            by_cases h3 : k' = t
            · rw [h3]; exact hb
            · exact hbad k' h1 (by omega)
          have two : ∀ v : GF, v = GF.syn w 0 * GF.pw (63 - t) → Ok (patinaref02_Decode_j2 k a 64 c (some ad) 6 6 (some ⟨m2.length, 0, none⟩) 255 255 (some ⟨m2.length + 1, 0, none⟩) 256 256 (i : Int) ((63 - i : Nat) : Int) (t : Int) nx'' (fun y2a y2n y2c y3 y4 m33 => some ((⟨y2a, y2n, y2c⟩ : Sl), y3, y4, m33)) (v.v : Int) m3) fun r => Gr m r.2.2.2 ∧ ((∃ u n d, GF.dec w = some (u, n) ∧ r.1 = ⟨some ⟨d, 0, some 1⟩, 58, 64⟩ ∧ r.2.1 = (n : Nat) ∧ r.2.2.1 = true ∧ m.length ≤ d ∧ ∃ u', r.2.2.2[d]? = some (.live (bys 64 u')) ∧ ∀ i, i < 64 → u' i = u i) ∨ (GF.dec w = none ∧ r.2.2.1 = false)) := by
            rintro v rfl
            unfold patinaref02_Decode_j2
            have g1 := bys_ld (sp := none) hT.1 (i := 63 - i) (by omega)
            have g2 := bys_ld (sp := none) hT.1 (i := 63 - t) (by omega)
            have g3 := over_is k hT (GF.syn w 1 + GF.syn w 0 * GF.pw (63 - t)) hX
            have j1 : inRange ((63 - i : Nat) : Int) 255 = true := inRange_yes (by omega) (by omega)
            have j2 : inRange ((63 - t : Nat) : Int) 255 = true := inRange_yes (by omega) (by omega)
            have hA' : GF.div (GF.syn w 1 + GF.syn w 0 * GF.pw (63 - t)) (GF.pw (63 - i) + GF.pw (63 - t)) = GF.aOf (GF.syn w) (63 - i) (63 - t) := rfl
            rw [hA'] at g3
            simp (disch := omega) only [Option.bind_some, Option.map_some, cond_true, cond_false, wrap_i64, tmod_pos, tdiv_pos, inRange_yes, inUpto_yes, isZero_no, decide_eq_true, decide_eq_false, Bool.not_true, Bool.not_false, Int.toNat_natCast, Nat.mul_one, beqI_yes, beqI_no, bneI_yes, bneI_no, isNil_nil, isNil_iface, wr_wr, Option.isNone_none, Option.isNone_some, plus, Nat.zero_add, Nat.add_zero, i16, t1, s1, j1, g1, c63t, j2, g2, xor_v, g3, i06, t0, s0, v_beq0]
            by_cases ha0 : GF.aOf (GF.syn w) (63 - i) (63 - t) = 0
            · rw [decide_eq_true ha0, cond_true]
              exact next fun h => h.1 ha0
            rw [decide_eq_false ha0, cond_false]
            by_cases hb0 : GF.syn w 0 + GF.aOf (GF.syn w) (63 - i) (63 - t) = 0
            · rw [decide_eq_true hb0, cond_true]
              exact next fun h => h.2.1 hb0
            rw [decide_eq_false hb0, cond_false]
            obtain ⟨z, f1, f2⟩ := fits_is k hk (sc := 6) hs3 hT (GF.aOf (GF.syn w) (63 - i) (63 - t)) (GF.syn w 0 + GF.aOf (GF.syn w) (63 - i) (63 - t)) (x := 63 - i) (y := 63 - t) (by omega) (by omega)
            simp (disch := omega) only [Option.bind_some, Option.map_some, cond_true, cond_false, wrap_i64, tmod_pos, tdiv_pos, inRange_yes, inUpto_yes, isZero_no, decide_eq_true, decide_eq_false, Bool.not_true, Bool.not_false, Int.toNat_natCast, Nat.mul_one, beqI_yes, beqI_no, bneI_yes, bneI_no, isNil_nil, isNil_iface, wr_wr, Option.isNone_none, Option.isNone_some, plus, Nat.zero_add, Nat.add_zero, f1]
            cases z with
            | true =>
              simp (disch := omega) only [Option.bind_some, Option.map_some, cond_true, cond_false, wrap_i64, tmod_pos, tdiv_pos, inRange_yes, inUpto_yes, isZero_no, decide_eq_true, decide_eq_false, Bool.not_true, Bool.not_false, Int.toNat_natCast, Nat.mul_one, beqI_yes, beqI_no, bneI_yes, bneI_no, isNil_nil, isNil_iface, wr_wr, Option.isNone_none, Option.isNone_some, plus, Nat.zero_add, Nat.add_zero]
              refine .bind (turned_ok k (c := c) hw3 (GF.aOf (GF.syn w) (63 - i) (63 - t)) (GF.syn w 0 + GF.aOf (GF.syn w) (63 - i) (63 - t)) (i := i) (j := t) (by omega) (by omega)) ?_
              rintro ⟨_, m4⟩ ⟨d, rfl, hg4, hd, h4⟩
              simp only at hg4 h4 ⊢
              obtain ⟨v, v1, v2⟩ := GF.try_two hit (by omega) ha0 hb0 (f2.1 rfl)
              exact .some ⟨hG3.trans hg4, .inl ⟨v, 2, d, v1, rfl, rfl, rfl, by omega, _, h4, fun t ht => (v2 t ht).symm⟩⟩
            | false =>
              simp (disch := omega) only [Option.bind_some, Option.map_some, cond_true, cond_false, wrap_i64, tmod_pos, tdiv_pos, inRange_yes, inUpto_yes, isZero_no, decide_eq_true, decide_eq_false, Bool.not_true, Bool.not_false, Int.toNat_natCast, Nat.mul_one, beqI_yes, beqI_no, bneI_yes, bneI_no, isNil_nil, isNil_iface, wr_wr, Option.isNone_none, Option.isNone_some, plus, Nat.zero_add, Nat.add_zero]
              exact next fun h => by have := f2.2 h.2.2; cases this
          simp (disch := omega) only [Option.bind_some, Option.map_some, cond_true, cond_false, wrap_i64, tmod_pos, tdiv_pos, inRange_yes, inUpto_yes, isZero_no, decide_eq_true, decide_eq_false, Bool.not_true, Bool.not_false, Int.toNat_natCast, Nat.mul_one, beqI_yes, beqI_no, bneI_yes, bneI_no, isNil_nil, isNil_iface, wr_wr, Option.isNone_none, Option.isNone_some, plus, Nat.zero_add, Nat.add_zero, i06, t0, s0, v_bne0, c63t]
          by_cases h0 : GF.syn w 0 = 0
          · rw [decide_eq_true h0]
            simp (disch := omega) only [Option.bind_some, Option.map_some, cond_true, cond_false, wrap_i64, tmod_pos, tdiv_pos, inRange_yes, inUpto_yes, isZero_no, decide_eq_true, decide_eq_false, Bool.not_true, Bool.not_false, Int.toNat_natCast, Nat.mul_one, beqI_yes, beqI_no, bneI_yes, bneI_no, isNil_nil, isNil_iface, wr_wr, Option.isNone_none, Option.isNone_some, plus, Nat.zero_add, Nat.add_zero]
            exact two 0 (by rw [h0, GF.zero_mul])
          · rw [decide_eq_false h0]
            have hv0 := (GF.syn w 0).v_lt
            have e3 := hT.ex (z := (GF.lg (GF.syn w 0) : Int) + ((63 - t : Nat) : Int)) (by omega)
            rw [show ((GF.lg (GF.syn w 0) : Int) + ((63 - t : Nat) : Int)).toNat = GF.lg (GF.syn w 0) + (63 - t) by omega, ← GF.pw_pw, GF.pw_lg h0] at e3
            have hlg := GF.lg_lt h0
            have i255 : inRange (((GF.lg (GF.syn w 0) : Int) + ((63 - t : Nat) : Int)) % 255) 255 = true := inRange_yes (by omega) (by omega)
            simp (disch := omega) only [Option.bind_some, Option.map_some, cond_true, cond_false, wrap_i64, tmod_pos, tdiv_pos, inRange_yes, inUpto_yes, isZero_no, decide_eq_true, decide_eq_false, Bool.not_true, Bool.not_false, Int.toNat_natCast, Nat.mul_one, beqI_yes, beqI_no, bneI_yes, bneI_no, isNil_nil, isNil_iface, wr_wr, Option.isNone_none, Option.isNone_some, plus, Nat.zero_add, Nat.add_zero, hT.lg h0, i255, e3]
            exact two _ rfl
        · obtain rfl : t = 64 := by omega
          simp (disch := omega) only [Option.bind_some, Option.map_some, cond_true, cond_false, wrap_i64, tmod_pos, tdiv_pos, inRange_yes, inUpto_yes, isZero_no, decide_eq_true, decide_eq_false, Bool.not_true, Bool.not_false, Int.toNat_natCast, Nat.mul_one, beqI_yes, beqI_no, bneI_yes, bneI_no, isNil_nil, isNil_iface, wr_wr, Option.isNone_none, Option.isNone_some, plus, Nat.zero_add, Nat.add_zero]
          refine hnx' (r' - 1) _ _ _ _ _ _ _ _ _ _ _ _ _ _ (by omega) ⟨rfl, rfl, rfl, rfl, rfl, rfl, rfl, rfl, rfl, rfl, rfl, rfl, rfl, i + 1, by omega, by omega, fun i' k' h1 h2 h3 => ?_⟩
          by_cases h4 : i' = i
          · subst h4; exact hbad k' h2 h3
          · exact htwo i' k' (by omega) h2 h3
      · obtain rfl : i = 64 := by omega
        simp (disch := omega) only [Option.bind_some, Option.map_some, cond_true, cond_false, wrap_i64, tmod_pos, tdiv_pos, inRange_yes, inUpto_yes, isZero_no, decide_eq_true, decide_eq_false, Bool.not_true, Bool.not_false, Int.toNat_natCast, Nat.mul_one, beqI_yes, beqI_no, bneI_yes, bneI_no, isNil_nil, isNil_iface, wr_wr, Option.isNone_none, Option.isNone_some, plus, Nat.zero_add, Nat.add_zero]
        exact .some ⟨hG3, .inr ⟨GF.try_none hno hone fun i k h1 h2 => htwo i k (by omega) h1 h2, rfl⟩⟩
end Go.Proofs.Ytmfmoanjecjeeaa
