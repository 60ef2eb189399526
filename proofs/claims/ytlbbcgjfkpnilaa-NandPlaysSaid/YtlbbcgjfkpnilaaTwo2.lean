/- Two chips: what is wanted; the calls of the law on both. -/
import Derived.Test.YtlbbcgjfkpnilaaTwo
set_option linter.unusedVariables false
set_option linter.unusedSectionVars false
set_option linter.unusedSimpArgs false
namespace Go.Proofs.Ytlbbcgjfkpnilaa
open Go.Mx

section
variable {m0 m : Mem} {T c d r s : Nat} {ro : Nat → Option Role} {gr gs : RG} {σ ρ τ υ : ChipS} {X : TX} (h : TI m0 m T c d r s ro gr gs σ ρ τ υ X)
include h
/-- a row more is wanted -/
theorem TI.want {R0 : RA} {n0 : Nat} {w0 : Nat → GF} (hN : X.N' < 4000000000000) (hn : n0 < 1000) (hrow : RowLive m R0 n0 n0 fun u => ∀ k, k < n0 → u k = w0 k) (hfree : ∀ D, rowD R0 = some D → ro D = none ∧ m0.length ≤ D) :
    ∃ M3 ro', appM 1 24 (m ++ [.live [.slice (rowA R0) n0 n0]]) X.wa X.N' X.N' 1 [.slice (rowA R0) n0 n0] = some (⟨some ⟨m.length + 1, 0, some 1⟩, X.N' + 1, X.N' + 1⟩, M3) ∧ M3[T]? = some (.live (tcell c d r s X)) ∧
      TI m0 (wr M3 T (tcell c d r s { X with N' := X.N' + 1, wa := some ⟨m.length + 1, 0, some 1⟩ })) T c d r s ro' gr gs σ ρ τ υ
        { X with N' := X.N' + 1, wa := some ⟨m.length + 1, 0, some 1⟩, R' := fun i => if i = X.N' then R0 else X.R' i, nn' := fun i => if i = X.N' then n0 else X.nn' i, W' := fun i => if i = X.N' then w0 else X.W' i } ∧
      (∀ p, p < m.length → ro p = none → rowD R0 ≠ some p → ro' p = none ∧ (wr M3 T (tcell c d r s { X with N' := X.N' + 1, wa := some ⟨m.length + 1, 0, some 1⟩ }))[p]? = m[p]?) := by
  have l1 : (m ++ [MObj.live [.slice (rowA R0) n0 n0]]).length = m.length + 1 := by simp
  have hml := h.base.len
  obtain ⟨M3, a1, a2, a3, a4, a5⟩ := appM_any (z := 1) (y := 24) (m := m ++ [.live [.slice (rowA R0) n0 n0]]) (a := X.wa) (n := X.N') (l := 1) (old := slr X.N' X.R' X.nn') (new := [.slice (rowA R0) n0 n0]) (by
    rcases h.wa_ with ⟨h1, h2⟩ | ⟨q, h1, h2, _⟩
    · refine .inl ⟨h1, h2, ?_⟩
      rw [h2]; rfl
    · exact .inr ⟨q, h1, get_grow h2, by rw [slr_len, Nat.mul_one]⟩) (by omega) (by unfold most; omega) (by unfold most; omega)
  rw [l1] at a1 a2 a3
  rw [slr_cell] at a3
  have tane : ∀ p l, ro p = some l → l ≠ .wa → ∀ b, X.wa = some ⟨b, 0, some 1⟩ → p ≠ b := fun p l hp hl b hb he => by
    rcases h.wa_ with ⟨h1, _⟩ | ⟨q, h1, _, h3⟩
    · rw [h1] at hb; cases hb
    · rw [h1] at hb
      simp only [Option.some.injEq, Addr.mk.injEq, and_true] at hb
      rw [he, ← hb, h3] at hp; cases hp; exact hl rfl
  have k3 : ∀ p l, ro p = some l → l ≠ .wa → M3[p]? = m[p]? := fun p l hp hl => by
    have := (h.lt p (by rw [hp]; simp)).2
    rw [a4 p (by omega) (tane p l hp hl), get_app_lt this]
  have hT3 : M3[T]? = some (.live (tcell c d r s X)) := by rw [k3 T _ h.t_.2 (by simp)]; exact h.t_.1
  have tno : ∀ p, ro p = none → ∀ b, X.wa = some ⟨b, 0, some 1⟩ → p ≠ b := fun p hp b hb he => by
    rcases h.wa_ with ⟨h1, _⟩ | ⟨q, h1, _, h3⟩
    · rw [h1] at hb; cases hb
    · rw [h1] at hb
      simp only [Option.some.injEq, Addr.mk.injEq, and_true] at hb
      rw [he, ← hb, h3] at hp; cases hp
  let ro' : Nat → Option Role := fun p => if p = m.length + 1 then some .wa else if ro p = some .wa then none else if rowD R0 = some p then some (.row' X.N') else ro p
  have keep : ∀ p l, ro p = some l → l ≠ .wa → ro' p = some l := fun p l hp hl => by
    have := (h.lt p (by rw [hp]; simp)).2
    show (if _ then _ else _) = _
    rw [if_neg (by omega), if_neg (by rw [hp]; simpa using hl), if_neg (fun hD => by rw [(hfree p hD).1] at hp; cases hp)]
    exact hp
  have kw : ∀ p l, ro p = some l → l ≠ .wa → l ≠ .T → (wr M3 T (tcell c d r s { X with N' := X.N' + 1, wa := some ⟨m.length + 1, 0, some 1⟩ }))[p]? = m[p]? := fun p l hp h1 h2 => by
    rw [wr_ne (fun he => by rw [← he, h.t_.2] at hp; cases hp; exact h2 rfl)]; exact k3 p l hp h1
  have Tlt := (h.lt T (by rw [h.t_.2]; simp))
  have free : ∀ p, p < m.length → ro p = none → (wr M3 T (tcell c d r s { X with N' := X.N' + 1, wa := some ⟨m.length + 1, 0, some 1⟩ }))[p]? = m[p]? := fun p hp hn => by
    rw [wr_ne (fun he => by rw [← he, h.t_.2] at hn; cases hn), a4 p (by omega) (tno p hn), get_app_lt hp]
  have e1 : ∀ p l, lrOf ro p = some l → lrOf ro' p = some l := fun p l hp => by
    obtain ⟨x, h1, h2⟩ := lrOf_some (p := p) (ro := ro) (by rw [hp]; simp)
    have := keep p _ h1 (by simp)
    unfold lrOf; rw [this]; rw [hp] at h2; cases h2; rfl
  have e1' : lrOf ro' = lrOf ro := by
    funext p
    cases hq : lrOf ro p with
    | some l => exact e1 p l hq
    | none =>
      cases hq' : lrOf ro' p with
      | none => rfl
      | some l =>
        exfalso
        obtain ⟨x, h1, _⟩ := lrOf_some (p := p) (ro := ro') (by rw [hq']; simp)
        have h1 : (if p = m.length + 1 then some Role.wa else if ro p = some .wa then none else if rowD R0 = some p then some (.row' X.N') else ro p) = some (.r x) := h1
        split at h1
        · cases h1
        · split at h1
          · cases h1
          · split at h1
            · cases h1
            · unfold lrOf at hq; rw [h1] at hq; cases hq
  have e2' : lsOf ro' = lsOf ro := by
    funext p
    cases hq : lsOf ro p with
    | some l =>
      obtain ⟨x, h1, h2⟩ := lsOf_some (p := p) (ro := ro) (by rw [hq]; simp)
      have := keep p _ h1 (by simp)
      unfold lsOf; rw [this]; rw [hq] at h2; cases h2; rfl
    | none =>
      cases hq' : lsOf ro' p with
      | none => rfl
      | some l =>
        exfalso
        obtain ⟨x, h1, _⟩ := lsOf_some (p := p) (ro := ro') (by rw [hq']; simp)
        have h1 : (if p = m.length + 1 then some Role.wa else if ro p = some .wa then none else if rowD R0 = some p then some (.row' X.N') else ro p) = some (.s x) := h1
        split at h1
        · cases h1
        · split at h1
          · cases h1
          · split at h1
            · cases h1
            · unfold lsOf at hq; rw [h1] at hq; cases hq
  have hlen : m.length ≤ (wr M3 T (tcell c d r s { X with N' := X.N' + 1, wa := some ⟨m.length + 1, 0, some 1⟩ })).length := by rw [wr_len]; omega
  refine ⟨M3, ro', a1, hT3, ⟨h.gr_of hlen fun p hp hn => free p hp hn, ⟨wr_get hT3, keep T _ h.t_.2 (by simp)⟩, ⟨by rw [kw c _ h.c_.2 (by simp) (by simp)]; exact h.c_.1, keep c _ h.c_.2 (by simp)⟩, ⟨by rw [kw d _ h.d_.2 (by simp) (by simp)]; exact h.d_.1, keep d _ h.d_.2 (by simp)⟩,
    by rw [e1']; exact h.r_.keep hlen fun p hp => by obtain ⟨l, h1, _⟩ := lrOf_some hp; exact kw p _ h1 (by simp) (by simp), by rw [e2']; exact h.s_.keep hlen fun p hp => by obtain ⟨l, h1, _⟩ := lsOf_some hp; exact kw p _ h1 (by simp) (by simp), ?_, .inr ⟨m.length + 1, rfl, ?_, ?_⟩, fun i hlo hi => ?_, fun i hlo hi => ?_, fun p hp => ?_⟩, fun p hp hn hD => ⟨?_, free p hp hn⟩⟩
  · rcases h.ta_ with h1 | ⟨q, h1, h2, h3⟩
    · exact .inl h1
    · exact .inr ⟨q, h1, by rw [kw q _ h3 (by simp) (by simp)]; exact h2, keep q _ h3 (by simp)⟩
  · rw [wr_ne (by omega)]; exact a3
  · show (if _ then _ else _) = _
    rw [if_pos rfl]
  · obtain ⟨h1, h2, h3⟩ := h.rows i hlo hi
    exact ⟨h1, h2.keep fun D hD => kw D _ (h3 D hD) (by simp) (by simp), fun D hD => keep D _ (h3 D hD) (by simp)⟩
  · by_cases hi2 : i = X.N'
    · subst hi2
      simp only [if_true]
      refine ⟨hn, hrow.keep fun D hD => free D (hrow.lt D hD) (hfree D hD).1, fun D hD => ?_⟩
      show (if _ then _ else _) = _
      have := hrow.lt D hD
      rw [if_neg (by omega), if_neg (by rw [(hfree D hD).1]; simp), if_pos hD]
    · obtain ⟨h1, h2, h3⟩ := h.rows' i hlo (by simp only at hi; omega)
      simp only [if_neg hi2]
      exact ⟨h1, h2.keep fun D hD => kw D _ (h3 D hD) (by simp) (by simp), fun D hD => keep D _ (h3 D hD) (by simp)⟩
  · rw [wr_len, a2]
    have hp : (if p = m.length + 1 then some Role.wa else if ro p = some .wa then none else if rowD R0 = some p then some (.row' X.N') else ro p) ≠ none := hp
    split at hp
    · omega
    · split at hp
      · exact absurd rfl hp
      · split at hp
        · rename_i hD
          have := hrow.lt p hD
          have := (hfree p hD).2
          omega
        · have := h.lt p hp; omega
  · show (if _ then _ else _) = _
    rw [if_neg (by omega), if_neg (by rw [hn]; simp), if_neg hD]; exact hn
end
end Go.Proofs.Ytlbbcgjfkpnilaa
