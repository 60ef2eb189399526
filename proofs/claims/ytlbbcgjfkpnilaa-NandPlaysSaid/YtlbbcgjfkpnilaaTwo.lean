/- Two chips and what they are by the document: who owns which object. -/
import Derived.Test.YtlbbcgjfkpnilaaNWf
import Derived.Test.YtlbbcgjfkpnilaaLend
import Derived.Test.YtlbbcgjfkpnilaaFpatinalaw05
set_option linter.unusedVariables false
set_option linter.unusedSectionVars false
set_option linter.unusedSimpArgs false
namespace Go.Proofs.Ytlbbcgjfkpnilaa
open Go.Mx

inductive Role | T | c | d | r (l : Lab) | s (l : Lab) | ta | wa | row (i : Nat) | row' (i : Nat)
  deriving DecidableEq
def lrOf (ro : Nat → Option Role) : Nat → Option Lab := fun p => match ro p with
  | some (.r l) => some l
  | _ => none
def lsOf (ro : Nat → Option Role) : Nat → Option Lab := fun p => match ro p with
  | some (.s l) => some l
  | _ => none
theorem lrOf_some {ro : Nat → Option Role} {p : Nat} (h : lrOf ro p ≠ none) : ∃ l, ro p = some (.r l) ∧ lrOf ro p = some l := by
  unfold lrOf at h ⊢
  split
  · rename_i l hl; exact ⟨l, hl, rfl⟩
  · rename_i hn
    exfalso
    split at h
    · rename_i l hl; exact hn l hl
    · exact h rfl
theorem lsOf_some {ro : Nat → Option Role} {p : Nat} (h : lsOf ro p ≠ none) : ∃ l, ro p = some (.s l) ∧ lsOf ro p = some l := by
  unfold lsOf at h ⊢
  split
  · rename_i l hl; exact ⟨l, hl, rfl⟩
  · rename_i hn
    exfalso
    split at h
    · rename_i l hl; exact hn l hl
    · exact h rfl
theorem lrOf_ne {ro : Nat → Option Role} {p : Nat} (h : lrOf ro p ≠ none) : ro p ≠ none := by obtain ⟨l, h1, _⟩ := lrOf_some h; rw [h1]; simp
theorem lsOf_ne {ro : Nat → Option Role} {p : Nat} (h : lsOf ro p ≠ none) : ro p ≠ none := by obtain ⟨l, h1, _⟩ := lsOf_some h; rw [h1]; simp
/-- what was told -/
structure TX where
  lo : Nat
  N : Nat
  N' : Nat
  ta : Option Addr
  wa : Option Addr
  R : Nat → RA
  R' : Nat → RA
  nn : Nat → Nat
  nn' : Nat → Nat
  W : Nat → Nat → GF
  W' : Nat → Nat → GF
def tcell (c d r s : Nat) (X : TX) : List Value := [.pointer (some ⟨c, 0, none⟩), .pointer (some ⟨d, 0, none⟩), .pointer (some ⟨r, 0, none⟩), .pointer (some ⟨s, 0, none⟩), .slice X.ta X.N X.N, .slice X.wa X.N' X.N']
structure TI (m0 m : Mem) (T c d r s : Nat) (ro : Nat → Option Role) (gr gs : RG) (σ ρ τ υ : ChipS) (X : TX) : Prop where
  base : Gr m0 m
  t_ : m[T]? = some (.live (tcell c d r s X)) ∧ ro T = some .T
  c_ : m[c]? = some (.live (chipC σ)) ∧ ro c = some .c
  d_ : m[d]? = some (.live (chipC τ)) ∧ ro d = some .d
  r_ : RefX m r (lrOf ro) gr ρ
  s_ : RefX m s (lsOf ro) gs υ
  ta_ : (X.ta = none ∧ X.N = 0) ∨ ∃ q, X.ta = some ⟨q, 0, some 1⟩ ∧ m[q]? = some (.live (slr X.N X.R X.nn)) ∧ ro q = some .ta
  wa_ : (X.wa = none ∧ X.N' = 0) ∨ ∃ q, X.wa = some ⟨q, 0, some 1⟩ ∧ m[q]? = some (.live (slr X.N' X.R' X.nn')) ∧ ro q = some .wa
  rows : ∀ i, X.lo ≤ i → i < X.N → X.nn i < 1000 ∧ RowLive m (X.R i) (X.nn i) (X.nn i) (fun u => ∀ k, k < X.nn i → u k = X.W i k) ∧ ∀ D, rowD (X.R i) = some D → ro D = some (.row i)
  rows' : ∀ i, X.lo ≤ i → i < X.N' → X.nn' i < 1000 ∧ RowLive m (X.R' i) (X.nn' i) (X.nn' i) (fun u => ∀ k, k < X.nn' i → u k = X.W' i k) ∧ ∀ D, rowD (X.R' i) = some D → ro D = some (.row' i)
  lt : ∀ p, ro p ≠ none → m0.length ≤ p ∧ p < m.length

section
variable {m0 m m' : Mem} {T c d r s : Nat} {ro : Nat → Option Role} {gr gs : RG} {σ ρ τ υ : ChipS} {X : TX} (h : TI m0 m T c d r s ro gr gs σ ρ τ υ X)
include h
/-- what isn't owned may be anything -/
theorem TI.gr_of {m' : Mem} (hl : m.length ≤ m'.length) (hk : ∀ p, p < m.length → ro p = none → m'[p]? = m[p]?) : Gr m0 m' := by
  have hb := h.base.len
  refine Ch.gr ⟨Nat.le_trans hb hl, fun p hp _ => ?_⟩
  have hn : ro p = none := by
    cases hr : ro p with
    | none => rfl
    | some l => have := (h.lt p (by rw [hr]; simp)).1; omega
  rw [hk p (by omega) hn]
  obtain ⟨g, hg⟩ := h.base
  rw [hg]; exact get_app_lt hp
theorem TI.keep (hl : m.length ≤ m'.length) (hk : ∀ p, p < m.length → m'[p]? = m[p]?) : TI m0 m' T c d r s ro gr gs σ ρ τ υ X := by
  have hk' : ∀ p, ro p ≠ none → m'[p]? = m[p]? := fun p hp => hk p (h.lt p hp).2
  refine ⟨h.gr_of hl fun p hp _ => hk p hp, ⟨by rw [hk' T (by rw [h.t_.2]; simp)]; exact h.t_.1, h.t_.2⟩, ⟨by rw [hk' c (by rw [h.c_.2]; simp)]; exact h.c_.1, h.c_.2⟩, ⟨by rw [hk' d (by rw [h.d_.2]; simp)]; exact h.d_.1, h.d_.2⟩,
    h.r_.keep hl fun p hp => hk' p (lrOf_ne hp), h.s_.keep hl fun p hp => hk' p (lsOf_ne hp), ?_, ?_, fun i hlo hi => ?_, fun i hlo hi => ?_, fun p hp => ⟨(h.lt p hp).1, Nat.lt_of_lt_of_le (h.lt p hp).2 hl⟩⟩
  · rcases h.ta_ with h1 | ⟨q, h1, h2, h3⟩
    · exact .inl h1
    · exact .inr ⟨q, h1, by rw [hk' q (by rw [h3]; simp)]; exact h2, h3⟩
  · rcases h.wa_ with h1 | ⟨q, h1, h2, h3⟩
    · exact .inl h1
    · exact .inr ⟨q, h1, by rw [hk' q (by rw [h3]; simp)]; exact h2, h3⟩
  · obtain ⟨h1, h2, h3⟩ := h.rows i hlo hi
    exact ⟨h1, h2.keep fun D hD => hk' D (by rw [h3 D hD]; simp), h3⟩
  · obtain ⟨h1, h2, h3⟩ := h.rows' i hlo hi
    exact ⟨h1, h2.keep fun D hD => hk' D (by rw [h3 D hD]; simp), h3⟩
theorem TI.grow (hg : Gr m m') : TI m0 m' T c d r s ro gr gs σ ρ τ υ X := h.keep hg.len fun p hp => by
  obtain ⟨g, rfl⟩ := hg; exact get_app_lt hp
/-- the chip is written -/
theorem TI.chip {σ' : ChipS} (hl : m.length ≤ m'.length) (hk : ∀ p, p < m.length → p ≠ c → m'[p]? = m[p]?) (hc : m'[c]? = some (.live (chipC σ'))) : TI m0 m' T c d r s ro gr gs σ' ρ τ υ X := by
  have hk' : ∀ p l, ro p = some l → l ≠ .c → m'[p]? = m[p]? := fun p l hp hn => hk p (h.lt p (by rw [hp]; simp)).2 fun he => by rw [he, h.c_.2] at hp; cases hp; exact hn rfl
  refine ⟨h.gr_of hl (fun p hp hn => hk p hp fun he => by rw [he, h.c_.2] at hn; cases hn), ⟨by rw [hk' T _ h.t_.2 (by simp)]; exact h.t_.1, h.t_.2⟩, ⟨hc, h.c_.2⟩, ⟨by rw [hk' d _ h.d_.2 (by simp)]; exact h.d_.1, h.d_.2⟩,
    h.r_.keep hl fun p hp => (by obtain ⟨l, h1, _⟩ := lrOf_some hp; exact hk' p _ h1 (by simp)), h.s_.keep hl fun p hp => (by obtain ⟨l, h1, _⟩ := lsOf_some hp; exact hk' p _ h1 (by simp)), ?_, ?_, fun i hlo hi => ?_, fun i hlo hi => ?_, fun p hp => ⟨(h.lt p hp).1, Nat.lt_of_lt_of_le (h.lt p hp).2 hl⟩⟩
  · rcases h.ta_ with h1 | ⟨q, h1, h2, h3⟩
    · exact .inl h1
    · exact .inr ⟨q, h1, by rw [hk' q _ h3 (by simp)]; exact h2, h3⟩
  · rcases h.wa_ with h1 | ⟨q, h1, h2, h3⟩
    · exact .inl h1
    · exact .inr ⟨q, h1, by rw [hk' q _ h3 (by simp)]; exact h2, h3⟩
  · obtain ⟨h1, h2, h3⟩ := h.rows i hlo hi
    exact ⟨h1, h2.keep fun D hD => hk' D _ (h3 D hD) (by simp), h3⟩
  · obtain ⟨h1, h2, h3⟩ := h.rows' i hlo hi
    exact ⟨h1, h2.keep fun D hD => hk' D _ (h3 D hD) (by simp), h3⟩
/-- the document's chip is written -/
theorem TI.ref {ρ' : ChipS} {g' : RG} {lab' : Nat → Option Lab} (hR : RefX m' r lab' g' ρ') (hL : Lx m m' (lrOf ro) lab') : ∃ ro', TI m0 m' T c d r s ro' g' gs σ ρ' τ υ X := by
  have hl := hL.ch.len
  let ro' : Nat → Option Role := fun p => match lab' p with
    | some l => some (.r l)
    | none => ro p
  have r1 : ∀ p l, lab' p = some l → ro' p = some (.r l) := fun p l hp => by show (match lab' p with | some l => some (Role.r l) | none => ro p) = _; rw [hp]
  have r2 : ∀ p, lab' p = none → ro' p = ro p := fun p hp => by show (match lab' p with | some l => some (Role.r l) | none => ro p) = _; rw [hp]
  have other : ∀ p l, ro p = some l → (∀ x, l ≠ Role.r x) → lab' p = none ∧ lrOf ro p = none := fun p l hp hl => by
    have h1 : lrOf ro p = none := by
      unfold lrOf; rw [hp]
      cases l <;> first | rfl | (exact absurd rfl (hl _))
    refine ⟨?_, h1⟩
    cases hq : lab' p with
    | none => rfl
    | some x =>
      rcases hL.new p (by rw [hq]; simp) with h2 | h2
      · exact absurd h1 h2
      · have := (h.lt p (by rw [hp]; simp)).2; omega
  have keep : ∀ p l, ro p = some l → (∀ x, l ≠ Role.r x) → m'[p]? = m[p]? ∧ ro' p = some l := fun p l hp hl => by
    obtain ⟨h1, h2⟩ := other p l hp hl
    exact ⟨hL.ch.get p (h.lt p (by rw [hp]; simp)).2 (fun hn => hn h2), by rw [r2 p h1]; exact hp⟩
  have e1 : lrOf ro' = lab' := by
    funext p
    cases hq : lab' p with
    | some l => unfold lrOf; rw [r1 p l hq]
    | none =>
      have h1 : lrOf ro p = none := by
        cases h2 : lrOf ro p with
        | none => rfl
        | some l => rw [hL.same p (by rw [h2]; simp), h2] at hq; cases hq
      unfold lrOf; rw [r2 p hq]; exact h1
  have e2 : lsOf ro' = lsOf ro := by
    funext p
    cases hq : lab' p with
    | none => unfold lsOf; rw [r2 p hq]
    | some l =>
      have h1 : lsOf ro' p = none := by unfold lsOf; rw [r1 p l hq]
      rw [h1]
      cases h2 : lsOf ro p with
      | none => rfl
      | some x =>
        obtain ⟨y, h3, _⟩ := lsOf_some (p := p) (ro := ro) (by rw [h2]; simp)
        have := (other p _ h3 (by simp)).1
        rw [hq] at this; cases this
  refine ⟨ro', h.gr_of hl fun p hp hn => ?_, ?_, ?_, ?_, by rw [e1]; exact hR, by rw [e2]; exact h.s_.keep hl fun p hp => by obtain ⟨l, h1, _⟩ := lsOf_some hp; exact (keep p _ h1 (by simp)).1, ?_, ?_, fun i hlo hi => ?_, fun i hlo hi => ?_, fun p hp => ?_⟩
  · refine hL.ch.get p hp fun hx => ?_
    exact lrOf_ne hx hn
  · have := keep T _ h.t_.2 (by simp); exact ⟨by rw [this.1]; exact h.t_.1, this.2⟩
  · have := keep c _ h.c_.2 (by simp); exact ⟨by rw [this.1]; exact h.c_.1, this.2⟩
  · have := keep d _ h.d_.2 (by simp); exact ⟨by rw [this.1]; exact h.d_.1, this.2⟩
  · rcases h.ta_ with h1 | ⟨q, h1, h2, h3⟩
    · exact .inl h1
    · have := keep q _ h3 (by simp); exact .inr ⟨q, h1, by rw [this.1]; exact h2, this.2⟩
  · rcases h.wa_ with h1 | ⟨q, h1, h2, h3⟩
    · exact .inl h1
    · have := keep q _ h3 (by simp); exact .inr ⟨q, h1, by rw [this.1]; exact h2, this.2⟩
  · obtain ⟨h1, h2, h3⟩ := h.rows i hlo hi
    exact ⟨h1, h2.keep fun D hD => (keep D _ (h3 D hD) (by simp)).1, fun D hD => (keep D _ (h3 D hD) (by simp)).2⟩
  · obtain ⟨h1, h2, h3⟩ := h.rows' i hlo hi
    exact ⟨h1, h2.keep fun D hD => (keep D _ (h3 D hD) (by simp)).1, fun D hD => (keep D _ (h3 D hD) (by simp)).2⟩
  · cases hq : lab' p with
    | none =>
      rw [r2 p hq] at hp
      exact ⟨(h.lt p hp).1, Nat.lt_of_lt_of_le (h.lt p hp).2 hl⟩
    | some l =>
      refine ⟨?_, hR.lt p (by rw [hq]; simp)⟩
      rcases hL.new p (by rw [hq]; simp) with h2 | h2
      · exact (h.lt p (lrOf_ne h2)).1
      · have := h.base.len; omega
end
theorem slr_cell {N : Nat} {R : Nat → RA} {nn : Nat → Nat} {R0 : RA} {n0 : Nat} : slr N R nn ++ [.slice (rowA R0) n0 n0] = slr (N + 1) (fun i => if i = N then R0 else R i) (fun i => if i = N then n0 else nn i) := by
  have e1 : slr N R nn = slr N (fun i => if i = N then R0 else R i) (fun i => if i = N then n0 else nn i) := slr_congr fun i hi => ⟨(if_neg (by omega)).symm, (if_neg (by omega)).symm⟩
  have e2 := slr_snoc (N := N) (R := fun i => if i = N then R0 else R i) (nn := fun i => if i = N then n0 else nn i)
  rw [if_pos rfl, if_pos rfl] at e2
  rw [e1, e2]
section
variable {m0 m : Mem} {T c d r s : Nat} {ro : Nat → Option Role} {gr gs : RG} {σ ρ τ υ : ChipS} {X : TX} (h : TI m0 m T c d r s ro gr gs σ ρ τ υ X)
include h
/-- a row more is told -/
theorem TI.told {R0 : RA} {n0 : Nat} {w0 : Nat → GF} (hN : X.N < 4000000000000) (hn : n0 < 1000) (hrow : RowLive m R0 n0 n0 fun u => ∀ k, k < n0 → u k = w0 k) (hfree : ∀ D, rowD R0 = some D → ro D = none ∧ m0.length ≤ D) :
    ∃ M3 ro', appM 1 24 (m ++ [.live [.slice (rowA R0) n0 n0]]) X.ta X.N X.N 1 [.slice (rowA R0) n0 n0] = some (⟨some ⟨m.length + 1, 0, some 1⟩, X.N + 1, X.N + 1⟩, M3) ∧ M3[T]? = some (.live (tcell c d r s X)) ∧
      TI m0 (wr M3 T (tcell c d r s { X with N := X.N + 1, ta := some ⟨m.length + 1, 0, some 1⟩ })) T c d r s ro' gr gs σ ρ τ υ
        { X with N := X.N + 1, ta := some ⟨m.length + 1, 0, some 1⟩, R := fun i => if i = X.N then R0 else X.R i, nn := fun i => if i = X.N then n0 else X.nn i, W := fun i => if i = X.N then w0 else X.W i } ∧
      (∀ p, p < m.length → ro p = none → rowD R0 ≠ some p → ro' p = none ∧ (wr M3 T (tcell c d r s { X with N := X.N + 1, ta := some ⟨m.length + 1, 0, some 1⟩ }))[p]? = m[p]?) := by
  have l1 : (m ++ [MObj.live [.slice (rowA R0) n0 n0]]).length = m.length + 1 := by simp
  have hml := h.base.len
  obtain ⟨M3, a1, a2, a3, a4, a5⟩ := appM_any (z := 1) (y := 24) (m := m ++ [.live [.slice (rowA R0) n0 n0]]) (a := X.ta) (n := X.N) (l := 1) (old := slr X.N X.R X.nn) (new := [.slice (rowA R0) n0 n0]) (by
    rcases h.ta_ with ⟨h1, h2⟩ | ⟨q, h1, h2, _⟩
    · refine .inl ⟨h1, h2, ?_⟩
      rw [h2]; rfl
    · exact .inr ⟨q, h1, get_grow h2, by rw [slr_len, Nat.mul_one]⟩) (by omega) (by unfold most; omega) (by unfold most; omega)
  rw [l1] at a1 a2 a3
  rw [slr_cell] at a3
  have tane : ∀ p l, ro p = some l → l ≠ .ta → ∀ b, X.ta = some ⟨b, 0, some 1⟩ → p ≠ b := fun p l hp hl b hb he => by
    rcases h.ta_ with ⟨h1, _⟩ | ⟨q, h1, _, h3⟩
    · rw [h1] at hb; cases hb
    · rw [h1] at hb
      simp only [Option.some.injEq, Addr.mk.injEq, and_true] at hb
      rw [he, ← hb, h3] at hp; cases hp; exact hl rfl
  have k3 : ∀ p l, ro p = some l → l ≠ .ta → M3[p]? = m[p]? := fun p l hp hl => by
    have := (h.lt p (by rw [hp]; simp)).2
    rw [a4 p (by omega) (tane p l hp hl), get_app_lt this]
  have hT3 : M3[T]? = some (.live (tcell c d r s X)) := by rw [k3 T _ h.t_.2 (by simp)]; exact h.t_.1
  have tno : ∀ p, ro p = none → ∀ b, X.ta = some ⟨b, 0, some 1⟩ → p ≠ b := fun p hp b hb he => by
    rcases h.ta_ with ⟨h1, _⟩ | ⟨q, h1, _, h3⟩
    · rw [h1] at hb; cases hb
    · rw [h1] at hb
      simp only [Option.some.injEq, Addr.mk.injEq, and_true] at hb
      rw [he, ← hb, h3] at hp; cases hp
  let ro' : Nat → Option Role := fun p => if p = m.length + 1 then some .ta else if ro p = some .ta then none else if rowD R0 = some p then some (.row X.N) else ro p
  have keep : ∀ p l, ro p = some l → l ≠ .ta → ro' p = some l := fun p l hp hl => by
    have := (h.lt p (by rw [hp]; simp)).2
    show (if _ then _ else _) = _
    rw [if_neg (by omega), if_neg (by rw [hp]; simpa using hl), if_neg (fun hD => by rw [(hfree p hD).1] at hp; cases hp)]
    exact hp
  have kw : ∀ p l, ro p = some l → l ≠ .ta → l ≠ .T → (wr M3 T (tcell c d r s { X with N := X.N + 1, ta := some ⟨m.length + 1, 0, some 1⟩ }))[p]? = m[p]? := fun p l hp h1 h2 => by
    rw [wr_ne (fun he => by rw [← he, h.t_.2] at hp; cases hp; exact h2 rfl)]; exact k3 p l hp h1
  have Tlt := (h.lt T (by rw [h.t_.2]; simp))
  have free : ∀ p, p < m.length → ro p = none → (wr M3 T (tcell c d r s { X with N := X.N + 1, ta := some ⟨m.length + 1, 0, some 1⟩ }))[p]? = m[p]? := fun p hp hn => by
    rw [wr_ne (fun he => by rw [← he, h.t_.2] at hn; cases hn), a4 p (by omega) (tno p hn), get_app_lt hp]
  have e1 : ∀ p l, lrOf ro p = some l → lrOf ro' p = some l := fun p l hp => by
    obtain ⟨x, h1, h2⟩ := lrOf_some (p := p) (ro := ro) (by rw [hp]; simp)
    have := keep p _ h1 (by simp)
    unfold lrOf; rw [this]; rw [hp] at h2; cases h2; rfl
  have e1' : lrOf ro' = lrOf ro := by
    funext p
    cases hq : lrOf ro p with
    | some l => exact e1 p l hq
    | none =>
      cases hq' : lrOf ro' p with
      | none => rfl
      | some l =>
        exfalso
        obtain ⟨x, h1, _⟩ := lrOf_some (p := p) (ro := ro') (by rw [hq']; simp)
        have h1 : (if p = m.length + 1 then some Role.ta else if ro p = some .ta then none else if rowD R0 = some p then some (.row X.N) else ro p) = some (.r x) := h1
        split at h1
        · cases h1
        · split at h1
          · cases h1
          · split at h1
            · cases h1
            · unfold lrOf at hq; rw [h1] at hq; cases hq
  have e2' : lsOf ro' = lsOf ro := by
    funext p
    cases hq : lsOf ro p with
    | some l =>
      obtain ⟨x, h1, h2⟩ := lsOf_some (p := p) (ro := ro) (by rw [hq]; simp)
      have := keep p _ h1 (by simp)
      unfold lsOf; rw [this]; rw [hq] at h2; cases h2; rfl
    | none =>
      cases hq' : lsOf ro' p with
      | none => rfl
      | some l =>
        exfalso
        obtain ⟨x, h1, _⟩ := lsOf_some (p := p) (ro := ro') (by rw [hq']; simp)
        have h1 : (if p = m.length + 1 then some Role.ta else if ro p = some .ta then none else if rowD R0 = some p then some (.row X.N) else ro p) = some (.s x) := h1
        split at h1
        · cases h1
        · split at h1
          · cases h1
          · split at h1
            · cases h1
            · unfold lsOf at hq; rw [h1] at hq; cases hq
  have hlen : m.length ≤ (wr M3 T (tcell c d r s { X with N := X.N + 1, ta := some ⟨m.length + 1, 0, some 1⟩ })).length := by rw [wr_len]; omega
  refine ⟨M3, ro', a1, hT3, ⟨h.gr_of hlen fun p hp hn => free p hp hn, ⟨wr_get hT3, keep T _ h.t_.2 (by simp)⟩, ⟨by rw [kw c _ h.c_.2 (by simp) (by simp)]; exact h.c_.1, keep c _ h.c_.2 (by simp)⟩, ⟨by rw [kw d _ h.d_.2 (by simp) (by simp)]; exact h.d_.1, keep d _ h.d_.2 (by simp)⟩,
    by rw [e1']; exact h.r_.keep hlen fun p hp => by obtain ⟨l, h1, _⟩ := lrOf_some hp; exact kw p _ h1 (by simp) (by simp), by rw [e2']; exact h.s_.keep hlen fun p hp => by obtain ⟨l, h1, _⟩ := lsOf_some hp; exact kw p _ h1 (by simp) (by simp), .inr ⟨m.length + 1, rfl, ?_, ?_⟩, ?_, fun i hlo hi => ?_, fun i hlo hi => ?_, fun p hp => ?_⟩, fun p hp hn hD => ⟨?_, free p hp hn⟩⟩
  · rw [wr_ne (by omega)]; exact a3
  · show (if _ then _ else _) = _
    rw [if_pos rfl]
  · rcases h.wa_ with h1 | ⟨q, h1, h2, h3⟩
    · exact .inl h1
    · exact .inr ⟨q, h1, by rw [kw q _ h3 (by simp) (by simp)]; exact h2, keep q _ h3 (by simp)⟩
  · by_cases hi2 : i = X.N
    · subst hi2
      simp only [if_true]
      refine ⟨hn, hrow.keep fun D hD => free D (hrow.lt D hD) (hfree D hD).1, fun D hD => ?_⟩
      show (if _ then _ else _) = _
      have := hrow.lt D hD
      rw [if_neg (by omega), if_neg (by rw [(hfree D hD).1]; simp), if_pos hD]
    · obtain ⟨h1, h2, h3⟩ := h.rows i hlo (by simp only at hi; omega)
      simp only [if_neg hi2]
      exact ⟨h1, h2.keep fun D hD => kw D _ (h3 D hD) (by simp) (by simp), fun D hD => keep D _ (h3 D hD) (by simp)⟩
  · obtain ⟨h1, h2, h3⟩ := h.rows' i hlo hi
    exact ⟨h1, h2.keep fun D hD => kw D _ (h3 D hD) (by simp) (by simp), fun D hD => keep D _ (h3 D hD) (by simp)⟩
  · rw [wr_len, a2]
    have hp : (if p = m.length + 1 then some Role.ta else if ro p = some .ta then none else if rowD R0 = some p then some (.row X.N) else ro p) ≠ none := hp
    split at hp
    · omega
    · split at hp
      · exact absurd rfl hp
      · split at hp
        · rename_i hD
          have := hrow.lt p hD
          have := (hfree p hD).2
          omega
        · have := h.lt p hp; omega
  · show (if _ then _ else _) = _
    rw [if_neg (by omega), if_neg (by rw [hn]; simp), if_neg hD]; exact hn
end
end Go.Proofs.Ytlbbcgjfkpnilaa
