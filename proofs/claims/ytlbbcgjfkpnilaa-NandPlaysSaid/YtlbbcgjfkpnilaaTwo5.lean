/- Two chips: what is known of a page, a chunk and a block. -/
import Derived.Test.YtlbbcgjfkpnilaaTwo4
import Derived.Test.YtlbbcgjfkpnilaaNandL
import Derived.Test.YtlbbcgjfkpnilaaNrefE
set_option linter.unusedVariables false
set_option linter.unusedSectionVars false
set_option linter.unusedSimpArgs false
namespace Go.Proofs.Ytlbbcgjfkpnilaa
open Go.Mx

/-- a row more, on both sides -/
def TX.more (X : TX) (q q' : Nat) (R0 R0' : RA) (n0 : Nat) (w0 : Nat → GF) : TX :=
  { X with N := X.N + 1, ta := some ⟨q, 0, some 1⟩, R := fun i => if i = X.N then R0 else X.R i, nn := fun i => if i = X.N then n0 else X.nn i, W := fun i => if i = X.N then w0 else X.W i,
           N' := X.N' + 1, wa := some ⟨q', 0, some 1⟩, R' := fun i => if i = X.N' then R0' else X.R' i, nn' := fun i => if i = X.N' then n0 else X.nn' i, W' := fun i => if i = X.N' then w0 else X.W' i }
theorem Eqs.more {X : TX} (hX : Eqs X) (q q' : Nat) (R0 R0' : RA) (n0 : Nat) (w0 : Nat → GF) : Eqs (X.more q q' R0 R0' n0 w0) := by
  refine ⟨by show X.N + 1 = X.N' + 1; rw [hX.1], fun i hlo hi => ?_⟩
  have hi : i < X.N + 1 := hi
  show (if i = X.N then n0 else X.nn i) = (if i = X.N' then n0 else X.nn' i) ∧ ∀ k, k < (if i = X.N then n0 else X.nn i) → (if i = X.N then w0 else X.W i) k = (if i = X.N' then w0 else X.W' i) k
  rw [← hX.1]
  by_cases hi2 : i = X.N
  · rw [if_pos hi2, if_pos hi2, if_pos hi2, if_pos hi2]; exact ⟨rfl, fun _ _ => rfl⟩
  · rw [if_neg hi2, if_neg hi2, if_neg hi2, if_neg hi2]; exact hX.2 i hlo (by omega)

section
variable (k : Nat) (hk : 1000 < k) {m0 m : Mem} {T c d r s n : Nat} {ro : Nat → Option Role} {gr gs : RG} {σ τ υ : ChipS} {X : TX} (h : TI m0 m T c d r s ro gr gs σ σ τ υ X) (hw : Wf n σ) (hX : Eqs X) (hN : X.N < 4000000000000)
include hk h hw hX hN
theorem two_knows (a b : Int) : Ok (patinalaw05_Two_knows k (some ⟨T, 0, none⟩) a b m) fun x => x.1 = true ∧ ∃ ro' X', TI m0 x.2 T c d r s ro' gr gs σ σ τ υ X' ∧ Eqs X' ∧ X'.N = X.N + 1 ∧ X'.lo = X.lo := by
  have E1 : ∃ dm wo e, (e = 0 ∨ e = 1) ∧ (∀ M, M[c]? = some (.live (chipC σ)) → nand_Chip_Damage k (some ⟨c, 0, none⟩) a b M = some (dm, wo, errC e, M)) ∧ ∀ M, RefX M r (lrOf ro) gr σ → patinaref05_Chip_Damage k (some ⟨r, 0, none⟩) a b M = some (dm, wo, e, M) := by
    by_cases hp : isAt a b
    · exact ⟨_, _, 0, .inl rfl, fun M hM => by rw [nand_Damage_is k hM (by omega), if_pos hp]; rfl, fun M hM => by rw [refDamage_is hM k (by omega), if_pos hp]⟩
    · exact ⟨_, _, 1, .inr rfl, fun M hM => by rw [nand_Damage_is k hM (by omega), if_neg hp], fun M hM => by rw [refDamage_is hM k (by omega), if_neg hp]⟩
  obtain ⟨dm, wo, e, he, E1, E2⟩ := E1
  have E3 : ∃ rd e, (e = 0 ∨ e = 1) ∧ (∀ M, M[c]? = some (.live (chipC σ)) → nand_Chip_Reads k (some ⟨c, 0, none⟩) a M = some (rd, errC e, M)) ∧ ∀ M, RefX M r (lrOf ro) gr σ → patinaref05_Chip_Reads k (some ⟨r, 0, none⟩) a M = some (rd, e, M) := by
    by_cases hp : 0 ≤ a ∧ a < 12
    · exact ⟨_, 0, .inl rfl, fun M hM => by rw [nand_Reads_is k hM, if_pos hp]; rfl, fun M hM => by rw [refReads_is hM k, if_pos hp]⟩
    · exact ⟨_, 1, .inr rfl, fun M hM => by rw [nand_Reads_is k hM, if_neg hp], fun M hM => by rw [refReads_is hM k, if_neg hp]⟩
  obtain ⟨rd, e3, he3, E3, E4⟩ := E3
  have E5 : ∃ fl e, (e = 0 ∨ e = 1) ∧ (∀ M, M[c]? = some (.live (chipC σ)) → nand_Chip_Failed k (some ⟨c, 0, none⟩) a M = some (fl, errC e, M)) ∧ ∀ M, RefX M r (lrOf ro) gr σ → patinaref05_Chip_Failed k (some ⟨r, 0, none⟩) a M = some (fl, e, M) := by
    by_cases hp : 0 ≤ a ∧ a < 12
    · exact ⟨_, 0, .inl rfl, fun M hM => by rw [nand_Failed_is k hM, if_pos hp]; rfl, fun M hM => by rw [refFailed_is hM k, if_pos hp]⟩
    · exact ⟨_, 1, .inr rfl, fun M hM => by rw [nand_Failed_is k hM, if_neg hp], fun M hM => by rw [refFailed_is hM k, if_neg hp]⟩
  obtain ⟨fl, e5, he5, E5, E6⟩ := E5
  -- the truths
  have E7 : ∃ (R0 R0' : RA) (xa : Option Addr) (n0 : Nat) (w0 : Nat → GF) (is : Bool) (e7 : Int) (M1 M2 : Mem) (l : List Value), (e7 = 0 ∨ e7 = 1) ∧ nand_Chip_Truth k (some ⟨c, 0, none⟩) a b m = some (⟨rowA R0, n0, n0⟩, is, errC e7, M1) ∧ Gr m M1 ∧
      patinaref05_Chip_Truth k (some ⟨r, 0, none⟩) a b M1 = some (⟨xa, n0, n0⟩, is, e7, M1) ∧ n0 < 1000 ∧ Src M1 (rowA R0) n0 w0 ∧ Src M1 xa n0 w0 ∧ rdSl M1 xa n0 1 = some l ∧ appM 1 1 M1 none 0 0 n0 l = some (⟨rowA R0', n0, n0⟩, M2) ∧ Gr M1 M2 ∧
      RowLive M2 R0 n0 n0 (fun u => ∀ k, k < n0 → u k = w0 k) ∧ RowLive M2 R0' n0 n0 (fun u => ∀ k, k < n0 → u k = w0 k) ∧ (∀ D, rowD R0 = some D → m.length ≤ D) ∧ (∀ D, rowD R0' = some D → M1.length ≤ D) ∧ ∀ D, rowD R0 = some D → D < M1.length := by
    by_cases hp : isAt a b
    · obtain ⟨w, hw1, hw2⟩ := (hw.by_ (a / 8) (a % 8 * 4 + b)).2.bys 64
      have hb : arr .u8 64 (σ.at_ a b).tru = bys 64 w := hw1
      have h2 := h.r_.grow (Gr.app m [.live (arr .u8 64 (σ.at_ a b).tru)])
      have t2 := h2.tru_ hp
      have g1 : (m ++ [MObj.live (arr .u8 64 (σ.at_ a b).tru)])[m.length]? = some (.live (arr .u8 64 (σ.at_ a b).tru)) := get_last rfl
      have l1 : (m ++ [MObj.live (arr .u8 64 (σ.at_ a b).tru)]).length = m.length + 1 := by simp
      have e1 := nand_Truth_is k h.c_.1 a b
      rw [if_pos hp] at e1
      have e2 := refTruth_is h2 k a b
      rw [if_pos hp] at e2
      have hg1 : Gr m (m ++ [MObj.live (arr .u8 64 (σ.at_ a b).tru)]) := Gr.app _ _
      generalize m ++ [MObj.live (arr .u8 64 (σ.at_ a b).tru)] = M1 at *
      rw [hb] at g1 t2
      refine ⟨some (m.length, true), some (M1.length, true), _, 64, w, (σ.at_ a b).is, 0, M1, M1 ++ [.live (bys 64 w)], bys 64 w, .inl rfl, e1, hg1, e2, by omega, Src.of g1, ?_, ?_, ?_, Gr.app _ _, ⟨w, get_grow g1, fun _ _ => rfl, Nat.le_refl _, fun _ => rfl⟩, ⟨w, get_last rfl, fun _ _ => rfl, Nat.le_refl _, fun _ => rfl⟩, fun D hD => ?_, fun D hD => ?_, fun D hD => ?_⟩
      · rw [rowA_eq]; exact Src.of t2
      · rw [rowA_eq]; exact rdSl_all t2 (by rw [bys_len])
      · exact appM_first (by omega) (by unfold most; omega) (by unfold most; omega)
      · cases hD; exact Nat.le_refl _
      · cases hD; exact Nat.le_refl _
      · cases hD; show m.length < M1.length; omega
    · have e1 := nand_Truth_is k h.c_.1 a b
      rw [if_neg hp] at e1
      have e2 := refTruth_is h.r_ k a b
      rw [if_neg hp] at e2
      exact ⟨none, none, none, 0, fun _ => 0, false, 1, m, m, [], .inr rfl, e1, .refl _, e2, by omega, rfl, rfl, rfl, rfl, .refl _, rfl, rfl, (fun D h => nomatch h), (fun D h => nomatch h), (fun D h => nomatch h)⟩
  obtain ⟨R0, R0', xa, n0, w0, is, e7, M1, M2, l, he7, e1, g1, e2, hn0, s1, s2, rl, ap, g2, rw1, rw2, d1, d2, d3⟩ := E7
  obtain ⟨z, sm, sz⟩ := same_is k (m := M1) (c := n0) (c' := n0) s1 s2 (by omega) (by omega)
  have hz : z = true := sz.2 ⟨rfl, fun _ _ => rfl⟩
  subst hz
  have hml := h.base.len
  have hl1 := g1.len
  have h1 := h.grow g1
  have h2 := h1.grow g2
  have q0 : ldPtr m ⟨T, 0, none⟩ = some (some ⟨c, 0, none⟩) := ldPtr_of h.t_.1 rfl
  have q2 : ldPtr m ⟨T, 2, none⟩ = some (some ⟨r, 0, none⟩) := ldPtr_of h.t_.1 rfl
  have q0' : ldPtr M1 ⟨T, 0, none⟩ = some (some ⟨c, 0, none⟩) := ldPtr_of h1.t_.1 rfl
  have q2' : ldPtr M1 ⟨T, 2, none⟩ = some (some ⟨r, 0, none⟩) := ldPtr_of h1.t_.1 rfl
  have nro : ∀ D, m.length ≤ D → ro D = none := fun D hD => by
    cases hr : ro D with
    | none => rfl
    | some l => have := (h.lt D (by rw [hr]; simp)).2; omega
  obtain ⟨M4, ro4, t1, t2, t3, t4⟩ := h2.told (R0 := R0) (n0 := n0) (w0 := w0) hN hn0 rw1 fun D hD => ⟨nro D (d1 D hD), by have := d1 D hD; omega⟩
  have l4 : ldSl M2 ⟨T, 4, none⟩ = some ⟨X.ta, X.N, X.N⟩ := ldSl_of h2.t_.1 rfl
  have st4 := st_wr (sp := none) (off := 4) (v := .slice (some ⟨M2.length + 1, 0, some 1⟩) (X.N + 1) (X.N + 1)) t2 (by simp [tcell])
  have hset4 : (tcell c d r s X).set 4 (.slice (some ⟨M2.length + 1, 0, some 1⟩) (X.N + 1) (X.N + 1)) = tcell c d r s { X with N := X.N + 1, ta := some ⟨M2.length + 1, 0, some 1⟩ } := rfl
  rw [hset4] at st4
  have rw2lt := rw2.lt
  have neR : ∀ D, rowD R0' = some D → rowD R0 ≠ some D := fun D hD hD' => by have := d2 D hD; have := d3 D hD'; omega
  generalize hm5 : wr M4 T (tcell c d r s { X with N := X.N + 1, ta := some ⟨M2.length + 1, 0, some 1⟩ }) = m5 at *
  have l5 : ldSl m5 ⟨T, 5, none⟩ = some ⟨X.wa, X.N', X.N'⟩ := ldSl_of t3.t_.1 rfl
  obtain ⟨M6, ro6, u1, u2, u3, u4⟩ := t3.want (R0 := R0') (n0 := n0) (w0 := w0) (by have := hX.1; simp only; omega) hn0 (rw2.keep fun D hD => (t4 D (rw2lt D hD) (nro D (by have := d2 D hD; omega)) fun h => neR D hD h).2) fun D hD => ⟨(t4 D (rw2lt D hD) (nro D (by have := d2 D hD; omega)) fun h => neR D hD h).1, by have := d2 D hD; omega⟩
  have st5 := st_wr (sp := none) (off := 5) (v := .slice (some ⟨m5.length + 1, 0, some 1⟩) (X.N' + 1) (X.N' + 1)) u2 (by simp [tcell])
  have hset5 : (tcell c d r s { X with N := X.N + 1, ta := some ⟨M2.length + 1, 0, some 1⟩, R := fun i => if i = X.N then R0 else X.R i, nn := fun i => if i = X.N then n0 else X.nn i, W := fun i => if i = X.N then w0 else X.W i }).set 5 (.slice (some ⟨m5.length + 1, 0, some 1⟩) (X.N' + 1) (X.N' + 1)) = tcell c d r s { X with N := X.N + 1, ta := some ⟨M2.length + 1, 0, some 1⟩, N' := X.N' + 1, wa := some ⟨m5.length + 1, 0, some 1⟩ } := rfl
  rw [hset5] at st5
  obtain ⟨m7, hm7⟩ : ∃ m7, m7 = wr M6 T (tcell c d r s { X with N := X.N + 1, ta := some ⟨M2.length + 1, 0, some 1⟩, N' := X.N' + 1, wa := some ⟨m5.length + 1, 0, some 1⟩ }) := ⟨_, rfl⟩
  rw [← hm7] at st5
  have u3 : TI m0 m7 T c d r s ro6 gr gs σ σ τ υ (X.more (M2.length + 1) (m5.length + 1) R0 R0' n0 w0) := by rw [hm7]; exact u3
  have cd := fun (e : Int) (he : e = 0 ∨ e = 1) => code_is k e m7 (by omega)
  have q7 : ldPtr m7 ⟨T, 0, none⟩ = some (some ⟨c, 0, none⟩) := ldPtr_of u3.t_.1 rfl
  have q8 : ldPtr m7 ⟨T, 2, none⟩ = some (some ⟨r, 0, none⟩) := ldPtr_of u3.t_.1 rfl
  unfold patinalaw05_Two_knows
  simp only [Option.bind_some, plus, Nat.zero_add, q0, E1 m h.c_.1, q2, E2 m h.r_, e1]
  simp only [Option.bind_some, plus, Nat.zero_add, q2', e2, q0', E3 M1 h1.c_.1, E4 M1 h1.r_, E5 M1 h1.c_.1, E6 M1 h1.r_, sm, bne_self_eq_false, beq_self_eq_true, cond_false, cond_true, Bool.not_true]
  simp only [Option.bind_some, plus, Nat.zero_add, rl, ap, l4, rdSl_new, t1, st4]
  simp only [Option.bind_some, plus, Nat.zero_add, l5, rdSl_new, u1, st5, cd e he, cd e7 he7, cd e3 he3, cd e5 he5, beq_self_eq_true, cond_true]
  simp only [Option.bind_some, plus, Nat.zero_add, q7, q8, nand_On_is k u3.c_.1, nand_Steps_is k u3.c_.1, u3.r_.ldOn, u3.r_.ldSteps, decide_true, beq_self_eq_true, cond_true]
  exact .some ⟨rfl, ro6, X.more (M2.length + 1) (m5.length + 1) R0 R0' n0 w0, u3, hX.more _ _ _ _ _ _, rfl, rfl⟩
end
end Go.Proofs.Ytlbbcgjfkpnilaa
