/- GeomBack: places lead back to their parts, steps on and back lead back, bits lead back, at every input. No condition. -/
import Derived.Test.YtnilidpafijdlaaPGeomBackx2
namespace Go.Proofs.Ytnilidpafijdlaa.Pure
open Go.RowKit Go.Proofs.Ytnilidpafijdlaa.PGeomBack Go.Proofs.YtnilidpafijdlaaW.PrintWords Go.Proofs.YtnilidpafijdlaaW.PrintLast

theorem tmod_pos (a b : Int) (h : 0 ≤ a) : Int.tmod a b = a % b := Int.tmod_eq_emod_of_nonneg h
theorem tmod_neg (a b : Int) (h : a < 0) : Int.tmod a b = -((-a) % b) := by
  rw [← Int.tmod_eq_emod_of_nonneg (show 0 ≤ -a by omega), Int.neg_tmod, Int.neg_neg]
theorem tdiv_pos (a b : Int) (h : 0 ≤ a) : Int.tdiv a b = a / b := Int.tdiv_eq_ediv_of_nonneg h

theorem on_val (p b : Int) (h0 : 0 ≤ p) (h1 : p < 96) : geom_On.f p b = some ((p + b) % 96, none) := by
  have hw : ∀ t : Int, -96 < t → t < 96 → wrap64 (wrap64 (p + t) + 96) = p + t + 96 := by
    intro t a c
    unfold wrap64
    omega
  have key : Int.tmod (wrap64 ((wrap64 (p + (Int.tmod b 96))) + 96)) 96 = (p + b) % 96 := by
    rcases Int.lt_or_le b 0 with hb | hb
    · rw [tmod_neg b 96 hb, hw _ (by omega) (by omega), tmod_pos _ _ (by omega)]
      omega
    · rw [tmod_pos b 96 hb, hw _ (by omega) (by omega), tmod_pos _ _ (by omega)]
      omega
  unfold geom_On.f geom_is.f
  rw [if_pos h0]
  simp only [Option.bind_some, h1, decide_true, if_true]
  rw [key]

theorem place_val (b i : Int) : geom_Place.f b i = if 0 ≤ b ∧ b < 12 ∧ 0 ≤ i ∧ i < 8 then some (b * 8 + i, none) else some (0, some 1) := by
  unfold geom_Place.f
  by_cases h1 : b < 0
  · rw [if_pos h1, if_neg (by omega)]
  by_cases h2 : b ≥ 12
  · rw [if_neg h1, if_pos h2, if_neg (by omega)]
  by_cases h3 : i < 0
  · rw [if_neg h1, if_neg h2, if_pos h3, if_neg (by omega)]
  by_cases h4 : i ≥ 8
  · rw [if_neg h1, if_neg h2, if_neg h3, if_pos h4, if_neg (by omega)]
  rw [if_neg h1, if_neg h2, if_neg h3, if_neg h4, if_pos (by omega)]
  congr 2
  unfold wrap64
  omega

theorem parts_val (p : Int) (h0 : 0 ≤ p) (h1 : p < 96) : geom_Parts.f p = some (p / 8, p % 8, none) := by
  unfold geom_Parts.f geom_is.f
  rw [if_pos h0]
  simp only [Option.bind_some, h1, decide_true, if_true]
  rw [tdiv_pos _ _ h0, tmod_pos _ _ h0]
  congr 2
  unfold wrap64
  omega

theorem up_val : patinalaw04_up.f = some true := by decide +kernel

theorem bit_val (x : Int) : geom_Bit.f x = if 0 ≤ x ∧ x < 2048 then some (x / 512, x / 8 % 64, x % 8, none) else some (0, 0, 0, some 1) := by
  unfold geom_Bit.f
  by_cases h1 : x < 0
  · rw [if_pos h1, if_neg (by omega)]
  by_cases h2 : x ≥ 2048
  · rw [if_neg h1, if_pos h2, if_neg (by omega)]
  rw [if_neg h1, if_neg h2, if_pos (by omega), tdiv_pos _ _ (by omega), tdiv_pos _ _ (by omega)]
  have e1 : wrap64 (x / 512) = x / 512 := by unfold wrap64; omega
  have e2 : wrap64 (x / 8) = x / 8 := by unfold wrap64; omega
  rw [e1, e2, tmod_pos _ _ (by omega), tmod_pos _ _ (by omega)]

theorem bit_back (x : Int) (h0 : 0 ≤ x) (h1 : x < 2048) : wrap64 (wrap64 (wrap64 (512 * (x / 512)) + wrap64 (8 * (x / 8 % 64))) + x % 8) = x := by
  unfold wrap64; omega

theorem neg_wrap (x : Int) (h0 : -9223372036854775808 ≤ x) (h1 : x ≤ 9223372036854775807) : (wrap64 (-x) = -x ∧ x ≠ -9223372036854775808) ∨ (x = -9223372036854775808 ∧ wrap64 (-x) = x) := by
  unfold wrap64; omega

theorem j0_val (a0 a1 a2 : Int) (h0 : -9223372036854775808 ≤ a2) (h1 : a2 ≤ 9223372036854775807) : patinalaw04_GeomBack.j0 1 a0 a1 a2 true false = some true := by
  simp only [patinalaw04_GeomBack.j0, Bool.false_eq_true, if_false, place_val]
  by_cases hp : 0 ≤ a0 ∧ a0 < 12 ∧ 0 ≤ a1 ∧ a1 < 8
  · rw [if_pos hp]
    simp only [Option.bind_some, Option.isNone_none, if_true]
    rw [parts_val _ (by omega) (by omega), on_val _ a2 (by omega) (by omega)]
    simp only [Option.bind_some]
    rw [on_val _ (wrap64 (-a2)) (by omega) (by omega), on_val _ 0 (by omega) (by omega)]
    simp only [Option.bind_some, Option.isNone_none, if_true]
    have e1 : (a0 * 8 + a1) / 8 = a0 := by omega
    have e2 : (a0 * 8 + a1) % 8 = a1 := by omega
    have e3 : (a0 * 8 + a1 + 0) % 96 = a0 * 8 + a1 := by omega
    rw [e1, e2, e3]
    simp only [if_true, beq_self_eq_true]
    rcases neg_wrap a2 h0 h1 with ⟨hn, hne⟩ | ⟨hn, he⟩
    · rw [hn, if_pos (by omega)]
    · by_cases hb : ((a0 * 8 + a1 + a2) % 96 + wrap64 (-a2)) % 96 = a0 * 8 + a1
      · rw [if_pos hb]
      · rw [if_neg hb, if_pos he.symm, if_neg (by omega)]
  · rw [if_neg hp]
    simp

theorem GeomBack : patinalaw04_GeomBack.Pure := by
  intro a0 a1 a2 a3 _ _ h2 _
  simp only [Lit.wf, Bool.and_eq_true, decide_eq_true_eq] at h2
  have hm : IntKind.i64.min = -9223372036854775808 := by decide
  have hM : IntKind.i64.max = 9223372036854775807 := by decide
  rw [hm, hM] at h2
  refine ⟨1, ?_⟩
  unfold patinalaw04_GeomBack.f
  rw [up_val, bit_val]
  simp only [Option.bind_some]
  by_cases hb : 0 ≤ a3 ∧ a3 < 2048
  · rw [if_pos hb]
    simp only [Option.bind_some, Option.isNone_none, if_true]
    rw [bit_back a3 hb.1 hb.2]
    simp only [bne_self_eq_false]
    exact j0_val a0 a1 a2 h2.1 h2.2
  · rw [if_neg hb]
    simp only [Option.bind_some, Option.isNone_some, Bool.false_eq_true, if_false]
    exact j0_val a0 a1 a2 h2.1 h2.2

end Go.Proofs.Ytnilidpafijdlaa.Pure
