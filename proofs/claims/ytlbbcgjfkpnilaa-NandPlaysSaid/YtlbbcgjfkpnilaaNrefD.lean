/- The document's chip: bits turned; a new one. -/
import Derived.Test.YtlbbcgjfkpnilaaNrefC
set_option linter.unusedVariables false
set_option linter.unusedSectionVars false
set_option linter.unusedSimpArgs false
namespace Go.Proofs.Ytlbbcgjfkpnilaa
open Go.Mx

section
variable {m : Mem} {r : Nat} {lab : Nat → Option Lab} {g : RG} {σ : ChipS} (h : RefX m r lab g σ)
include h
theorem refFlip_is (k : Nat) (hk : 64 < k) (p b : Int) : ∃ m' g', patinaref05_Chip_Flip k (some ⟨r, 0, none⟩) p b m = some (if 0 ≤ p ∧ p < 96 ∧ 0 ≤ b ∧ b < 2048 then 0 else 1, m') ∧
    RefX m' r lab g' (if 0 ≤ p ∧ p < 96 ∧ 0 ≤ b ∧ b < 2048 then σ.flip p b else σ) ∧ Ch (fun p => lab p ≠ none) m m' := by
  unfold patinaref05_Chip_Flip
  rw [refIsPage_is]
  by_cases hpp : 0 ≤ p ∧ p < 96
  · by_cases hb0 : b < 0
    · have hh : ¬ (0 ≤ p ∧ p < 96 ∧ 0 ≤ b ∧ b < 2048) := by omega
      refine ⟨m, g, ?_, by rw [if_neg hh]; exact h, .refl _ _⟩
      simp (disch := omega) only [Option.bind_some, Option.map_some, cond_true, cond_false, wrap_i64, tmod_pos, tdiv_pos, inRange_yes, inUpto_yes, isZero_no, decide_eq_true, decide_eq_false, Bool.not_true, Bool.not_false, Int.toNat_natCast, Nat.mul_one, beqI_yes, beqI_no, bneI_yes, bneI_no, isNil_nil, isNil_iface, wr_wr, Option.isNone_none, Option.isNone_some, plus, Nat.zero_add, Nat.add_zero, decide_eq_true hpp, decide_eq_true hb0, if_neg hh]
    · by_cases hb1 : b ≥ 2048
      · have hh : ¬ (0 ≤ p ∧ p < 96 ∧ 0 ≤ b ∧ b < 2048) := by omega
        refine ⟨m, g, ?_, by rw [if_neg hh]; exact h, .refl _ _⟩
        simp (disch := omega) only [Option.bind_some, Option.map_some, cond_true, cond_false, wrap_i64, tmod_pos, tdiv_pos, inRange_yes, inUpto_yes, isZero_no, decide_eq_true, decide_eq_false, Bool.not_true, Bool.not_false, Int.toNat_natCast, Nat.mul_one, beqI_yes, beqI_no, bneI_yes, bneI_no, isNil_nil, isNil_iface, wr_wr, Option.isNone_none, Option.isNone_some, plus, Nat.zero_add, Nat.add_zero, decide_eq_true hpp, decide_eq_false hb0, decide_eq_true hb1, if_neg hh]
      · have hh : 0 ≤ p ∧ p < 96 ∧ 0 ≤ b ∧ b < 2048 := by omega
        have hp : isAt p (b / 512) := ⟨by omega, by omega, by omega, by omega⟩
        have x0 : 0 ≤ p / 8 := by omega
        have x1 : p / 8 < 12 := by omega
        have e1 : IntKind.wrap .i64 (Int.tdiv (IntKind.wrap .i64 (Int.tdiv b 8)) 64) = b / 512 := by
          have hw8 : IntKind.wrap .i64 (Int.tdiv b 8) = b / 8 := by rw [tdiv_pos (by omega), wrap_i64 (by omega) (by omega)]
          rw [hw8, tdiv_pos (by omega), wrap_i64 (by omega) (by omega)]; omega
        have e2 : Int.tmod (IntKind.wrap .i64 (Int.tdiv b 8)) 64 = b / 8 % 64 := by
          rw [tdiv_pos (by omega), wrap_i64 (by omega) (by omega), tmod_pos (by omega)]
        have e3 : b / 8 / 64 = b / 512 := by omega
        have hN := h.now_ hp
        have hT := h.tru_ hp
        have lN := h.ldNow hp
        rw [rowA_eq] at lN
        have hLs := (h.ls (p / 8) x0 x1)
        have hNs := (h.ns (p / 8) (p % 8 * 4 + b / 512) x0 x1 (by omega) (by omega)).2
        have hTs := (h.ts (p / 8) (p % 8 * 4 + b / 512) x0 x1 (by omega) (by omega)).2
        have neNL : (g.N (p / 8) (p % 8 * 4 + b / 512)).1 ≠ g.L (p / 8) := fun he => by rw [he, hLs.2] at hNs; cases hNs
        have neTN : (g.T (p / 8) (p % 8 * 4 + b / 512)).1 ≠ (g.N (p / 8) (p % 8 * 4 + b / 512)).1 := fun he => by rw [he, hNs] at hTs; cases hTs
        have neTL : (g.T (p / 8) (p % 8 * 4 + b / 512)).1 ≠ g.L (p / 8) := fun he => by rw [he, hLs.2] at hTs; cases hTs
        have i1 : inRange (b / 8 % 64) 64 = true := inRange_yes (by omega) (by omega)
        have f1 := arr_ld (sp := if (g.N (p / 8) (p % 8 * 4 + b / 512)).2 then some 1 else none) hN (x := b / 8 % 64) (by omega) (by omega)
        have f2 := arr_st (sp := if (g.N (p / 8) (p % 8 * 4 + b / 512)).2 then some 1 else none) (v := bitI .xor .u8 ((σ.at_ p (b / 512)).now (b / 8 % 64)) (shlI .u8 1 (b % 8))) hN (x := b / 8 % 64) (by omega) (by omega)
        have hs0 : σ.at_ p (b / 512) = (σ.b (p / 8)).ch (p % 8 * 4 + b / 512) := rfl
        let s := σ.at_ p (b / 512)
        let t := flipC s (b / 8 % 64) (b % 8)
        have g1 : (wr m (g.N (p / 8) (p % 8 * 4 + b / 512)).1 (arr .u8 64 t.now))[(g.N (p / 8) (p % 8 * 4 + b / 512)).1]? = some (.live (arr .u8 64 t.now)) := wr_get hN
        have gT : (wr m (g.N (p / 8) (p % 8 * 4 + b / 512)).1 (arr .u8 64 t.now))[(g.T (p / 8) (p % 8 * 4 + b / 512)).1]? = some (.live (arr .u8 64 s.tru)) := by rw [wr_ne (Ne.symm neTN)]; exact hT
        have gL : (wr m (g.N (p / 8) (p % 8 * 4 + b / 512)).1 (arr .u8 64 t.now))[g.L (p / 8)]? = some (.live (rchs g (p / 8) (σ.b (p / 8)))) := by rw [wr_ne neNL]; exact hLs.1
        have l0 := ldSl_of (sp := some 4) gL (rchs_get (g := g) (i := p / 8) (β := σ.b (p / 8)) (x := p % 8 * 4 + b / 512) (y := 0) (by omega) (by omega) (by omega))
        have l1 := ldSl_of (sp := some 4) gL (rchs_get (g := g) (i := p / 8) (β := σ.b (p / 8)) (x := p % 8 * 4 + b / 512) (y := 1) (by omega) (by omega) (by omega))
        have l3 : ldInt .i64 (wr m (g.N (p / 8) (p % 8 * 4 + b / 512)).1 (arr .u8 64 t.now)) ⟨g.L (p / 8), (p % 8 * 4 + b / 512).toNat * 4 + 3, some 4⟩ = some s.worst := ldInt_of gL (rchs_get (x := p % 8 * 4 + b / 512) (y := 3) (by omega) (by omega) (by omega))
        rw [Nat.add_zero] at l0
        have hdm := refDmg_ok k hk l0 l1 g1 gT
        have htd : cntNe t.now s.tru 64 = t.damage := rfl
        rw [htd] at hdm
        have hf : (fun j => rch (g.N (p / 8) j) (g.T (p / 8) j) ((σ.b (p / 8)).ch j)) = fun j => rch (g.N (p / 8) j) (g.T (p / 8) j) ((σ.b (p / 8)).ch j) := rfl
        have c1 : Ch (fun p => lab p ≠ none) m (wr m (g.N (p / 8) (p % 8 * 4 + b / 512)).1 (arr .u8 64 t.now)) := (Ch.refl _ m).wr (.inl (by rw [hNs]; simp)) _
        by_cases hgt : t.damage > s.worst
        · have hmk : s.mark t = { t with worst := t.damage } := by unfold ChunkS.mark maxI; rw [if_pos hgt]
          have gL' := gL
          have er : rchs g (p / 8) (σ.b (p / 8)) = farr 32 (upd (fun j => rch (g.N (p / 8) j) (g.T (p / 8) j) ((σ.b (p / 8)).ch j)) (p % 8 * 4 + b / 512) (rch (g.N (p / 8) (p % 8 * 4 + b / 512)) (g.T (p / 8) (p % 8 * 4 + b / 512)) s)) := by
            have := upd_self (fun j => rch (g.N (p / 8) j) (g.T (p / 8) j) ((σ.b (p / 8)).ch j)) (p % 8 * 4 + b / 512)
            show farr 32 (fun j => rch (g.N (p / 8) j) (g.T (p / 8) j) ((σ.b (p / 8)).ch j)) = farr 32 (upd (fun j => rch (g.N (p / 8) j) (g.T (p / 8) j) ((σ.b (p / 8)).ch j)) (p % 8 * 4 + b / 512) ((fun j => rch (g.N (p / 8) j) (g.T (p / 8) j) ((σ.b (p / 8)).ch j)) (p % 8 * 4 + b / 512)))
            rw [this]
          rw [er] at gL'
          have s3 := lc_st (fun _ => rfl) (J := p % 8 * 4 + b / 512) (by omega) (by omega) rfl gL' (y := 3) (by omega) (.int .i64 t.damage)
          have hc : (rch (g.N (p / 8) (p % 8 * 4 + b / 512)) (g.T (p / 8) (p % 8 * 4 + b / 512)) s).set 3 (.int .i64 t.damage) = rch (g.N (p / 8) (p % 8 * 4 + b / 512)) (g.T (p / 8) (p % 8 * 4 + b / 512)) (s.mark t) := by rw [hmk]; rfl
          rw [hc] at s3
          refine ⟨_, { g with N := upd g.N (p / 8) (upd (g.N (p / 8)) (p % 8 * 4 + b / 512) (g.N (p / 8) (p % 8 * 4 + b / 512))), T := upd g.T (p / 8) (upd (g.T (p / 8)) (p % 8 * 4 + b / 512) (g.T (p / 8) (p % 8 * 4 + b / 512))) }, ?_, ?_, c1.wr (.inl (by rw [hLs.2]; simp)) (farr 32 (upd (fun j => rch (g.N (p / 8) j) (g.T (p / 8) j) ((σ.b (p / 8)).ch j)) (p % 8 * 4 + b / 512) (rch (g.N (p / 8) (p % 8 * 4 + b / 512)) (g.T (p / 8) (p % 8 * 4 + b / 512)) (s.mark t))))⟩
          · simp (disch := omega) only [Option.bind_some, Option.map_some, cond_true, cond_false, wrap_i64, tmod_pos, tdiv_pos, inRange_yes, inUpto_yes, isZero_no, decide_eq_true, decide_eq_false, Bool.not_true, Bool.not_false, Int.toNat_natCast, Nat.mul_one, beqI_yes, beqI_no, bneI_yes, bneI_no, isNil_nil, isNil_iface, wr_wr, Option.isNone_none, Option.isNone_some, plus, Nat.zero_add, Nat.add_zero, decide_eq_true hpp, decide_eq_false hb0, decide_eq_false hb1, e1, e2, e3, refChunk_is h hp, lN, i1, f1, f2]
            simp (disch := omega) only [Option.bind_some, Option.map_some, cond_true, cond_false, wrap_i64, tmod_pos, tdiv_pos, inRange_yes, inUpto_yes, isZero_no, decide_eq_true, decide_eq_false, Bool.not_true, Bool.not_false, Int.toNat_natCast, Nat.mul_one, beqI_yes, beqI_no, bneI_yes, bneI_no, isNil_nil, isNil_iface, wr_wr, Option.isNone_none, Option.isNone_some, plus, Nat.zero_add, Nat.add_zero, show upd (σ.at_ p (b / 512)).now (b / 8 % 64) (bitI .xor .u8 ((σ.at_ p (b / 512)).now (b / 8 % 64)) (shlI .u8 1 (b % 8))) = t.now from rfl, hdm, l3, decide_eq_true hgt, s3, patinaref05_Chip_Flip_j1, if_pos hh]
          · rw [if_pos hh]
            refine h.chunk (lab' := lab) (n' := g.N (p / 8) (p % 8 * 4 + b / 512)) (t' := g.T (p / 8) (p % 8 * 4 + b / 512)) (c' := s.mark t) x0 x1 (by omega) (by omega) (fun p0 hp0 => by rw [wr_len, wr_len]; exact h.lt p0 hp0) (fun _ _ => rfl) ?_ ?_ ?_ ?_
            · intro p0 _ h1 h2
              rw [wr_ne (Ne.symm h1), wr_ne (Ne.symm h2)]
            · exact wr_get gL
            · exact ⟨by rw [wr_ne (Ne.symm neNL), hmk]; exact g1, hNs⟩
            · exact ⟨by rw [wr_ne (Ne.symm neTL), hmk]; exact gT, hTs⟩
        · have hmk : s.mark t = t := by unfold ChunkS.mark maxI; rw [if_neg hgt]; rfl
          refine ⟨_, { g with N := upd g.N (p / 8) (upd (g.N (p / 8)) (p % 8 * 4 + b / 512) (g.N (p / 8) (p % 8 * 4 + b / 512))), T := upd g.T (p / 8) (upd (g.T (p / 8)) (p % 8 * 4 + b / 512) (g.T (p / 8) (p % 8 * 4 + b / 512))) }, ?_, ?_, c1⟩
          · simp (disch := omega) only [Option.bind_some, Option.map_some, cond_true, cond_false, wrap_i64, tmod_pos, tdiv_pos, inRange_yes, inUpto_yes, isZero_no, decide_eq_true, decide_eq_false, Bool.not_true, Bool.not_false, Int.toNat_natCast, Nat.mul_one, beqI_yes, beqI_no, bneI_yes, bneI_no, isNil_nil, isNil_iface, wr_wr, Option.isNone_none, Option.isNone_some, plus, Nat.zero_add, Nat.add_zero, decide_eq_true hpp, decide_eq_false hb0, decide_eq_false hb1, e1, e2, e3, refChunk_is h hp, lN, i1, f1, f2]
            simp (disch := omega) only [Option.bind_some, Option.map_some, cond_true, cond_false, wrap_i64, tmod_pos, tdiv_pos, inRange_yes, inUpto_yes, isZero_no, decide_eq_true, decide_eq_false, Bool.not_true, Bool.not_false, Int.toNat_natCast, Nat.mul_one, beqI_yes, beqI_no, bneI_yes, bneI_no, isNil_nil, isNil_iface, wr_wr, Option.isNone_none, Option.isNone_some, plus, Nat.zero_add, Nat.add_zero, show upd (σ.at_ p (b / 512)).now (b / 8 % 64) (bitI .xor .u8 ((σ.at_ p (b / 512)).now (b / 8 % 64)) (shlI .u8 1 (b % 8))) = t.now from rfl, hdm, l3, decide_eq_false hgt, patinaref05_Chip_Flip_j1, if_pos hh]
          · rw [if_pos hh]
            refine h.chunk (lab' := lab) (n' := g.N (p / 8) (p % 8 * 4 + b / 512)) (t' := g.T (p / 8) (p % 8 * 4 + b / 512)) (c' := s.mark t) x0 x1 (by omega) (by omega) (fun p0 hp0 => by rw [wr_len]; exact h.lt p0 hp0) (fun _ _ => rfl) ?_ ?_ ?_ ?_
            · intro p0 _ h1 h2
              rw [wr_ne (Ne.symm h2)]
            · rw [gL, hmk]
              unfold rchs
              rw [farr_congr fun j _ _ => ?_]
              by_cases hj : j = p % 8 * 4 + b / 512
              · subst hj; rw [upd_same]; rfl
              · rw [upd_ne hj]
            · exact ⟨by rw [hmk]; exact g1, hNs⟩
            · exact ⟨by rw [hmk]; exact gT, hTs⟩
  · have hh : ¬ (0 ≤ p ∧ p < 96 ∧ 0 ≤ b ∧ b < 2048) := by omega
    refine ⟨m, g, ?_, by rw [if_neg hh]; exact h, .refl _ _⟩
    simp (disch := omega) only [Option.bind_some, Option.map_some, cond_true, cond_false, wrap_i64, tmod_pos, tdiv_pos, inRange_yes, inUpto_yes, isZero_no, decide_eq_true, decide_eq_false, Bool.not_true, Bool.not_false, Int.toNat_natCast, Nat.mul_one, beqI_yes, beqI_no, bneI_yes, bneI_no, isNil_nil, isNil_iface, wr_wr, Option.isNone_none, Option.isNone_some, plus, Nat.zero_add, Nat.add_zero, decide_eq_false hpp, if_neg hh]
end

/-- a new chip, as far as it is built -/
structure Nw (m0 M : Mem) (n : Nat) (a : Option Addr) (lab : Nat → Option Lab) (g : RG) (σ : ChipS) (hd : List Value) : Prop where
  gr : Gr m0 M
  r_ : M[m0.length]? = some (.live (.slice a n n :: hd)) ∧ lab m0.length = some .chip
  q_ : (a = none ∧ n = 0) ∨ (a = some ⟨g.q, 0, some 5⟩ ∧ M[g.q]? = some (.live (farr n fun i => rblk (g.L i) (g.A i) (σ.b i))) ∧ lab g.q = some .blocks)
  l_ : ∀ i : Int, 0 ≤ i → i < n → M[g.L i]? = some (.live (rchs g i (σ.b i))) ∧ lab (g.L i) = some (.of i .l)
  n_ : ∀ i j : Int, 0 ≤ i → i < n → 0 ≤ j → j < 32 → M[(g.N i j).1]? = some (.live (arr .u8 64 ((σ.b i).ch j).now)) ∧ lab (g.N i j).1 = some (.of i (.n j))
  t_ : ∀ i j : Int, 0 ≤ i → i < n → 0 ≤ j → j < 32 → M[(g.T i j).1]? = some (.live (arr .u8 64 ((σ.b i).ch j).tru)) ∧ lab (g.T i j).1 = some (.of i (.t j))
  at_ : ∀ i : Int, 0 ≤ i → i < n → AtOk σ.steps (g.A i) (σ.b i).before
  new : ∀ p, lab p ≠ none → m0.length ≤ p ∧ p < M.length
theorem Nw.done {m0 M : Mem} {a : Option Addr} {lab : Nat → Option Lab} {g : RG} {σ : ChipS} (h : Nw m0 M 12 a lab g σ [.bool (!σ.off), .int .i64 (budR σ), .int .i64 σ.steps]) : RefX M m0.length lab g σ := by
  rcases h.q_ with ⟨_, h0⟩ | ⟨rfl, h1, h2⟩
  · omega
  · exact ⟨h.r_.1, h.r_.2, h1, h2, h.l_, h.n_, h.t_, h.at_, fun p hp => (h.new p hp).2⟩
/-- a block more -/
theorem Nw.next {m0 M M2 : Mem} {n : Nat} {a : Option Addr} {lab : Nat → Option Lab} {g : RG} {σ : ChipS} {hd : List Value} (h : Nw m0 M n a lab g σ hd) {L : Nat} {N T : Int → Nat × Bool} {av : Int} {lb : Nat → Option CL} (hg : Gr M M2)
    (hL : M2[L]? = some (.live (farr 32 fun j => rch (N j) (T j) ((σ.b n).ch j))) ∧ lb L = some .l) (hN : ∀ j : Int, 0 ≤ j → j < 32 → M2[(N j).1]? = some (.live (arr .u8 64 ((σ.b n).ch j).now)) ∧ lb (N j).1 = some (.n j))
    (hT : ∀ j : Int, 0 ≤ j → j < 32 → M2[(T j).1]? = some (.live (arr .u8 64 ((σ.b n).ch j).tru)) ∧ lb (T j).1 = some (.t j)) (hA : AtOk σ.steps av (σ.b n).before) (hnew : ∀ p, lb p ≠ none → M.length ≤ p ∧ p < M2.length) (hn : n < 12) {sp : Option Nat} :
    ∃ M3, appM 5 56 (M2 ++ [.live (rblk L av (σ.b n))]) a n n 1 (rblk L av (σ.b n)) = some (⟨some ⟨M2.length + 1, 0, some 5⟩, n + 1, n + 1⟩, M3) ∧ M3[m0.length]? = some (.live (.slice a n n :: hd)) ∧
      ∃ lab' g', Nw m0 (wr M3 m0.length (.slice (some ⟨M2.length + 1, 0, some 5⟩) (n + 1) (n + 1) :: hd)) (n + 1) (some ⟨M2.length + 1, 0, some 5⟩) lab' g' σ hd := by
  have l3 : (M2 ++ [MObj.live (rblk L av (σ.b n))]).length = M2.length + 1 := by simp
  have hgM : Gr M (M2 ++ [.live (rblk L av (σ.b n))]) := hg.trans (Gr.app _ _)
  have hlen : (farr n fun i => rblk (g.L i) (g.A i) (σ.b i)).length = n * 5 := farr_len (z := 5) fun _ _ _ => rfl
  have hml := h.gr.len
  have hml2 := hg.len
  have qlt : ∀ b, a = some ⟨b, 0, some 5⟩ → b = g.q ∧ m0.length ≤ b ∧ b < M.length ∧ lab b = some .blocks := by
    rintro b rfl
    rcases h.q_ with ⟨h1, _⟩ | ⟨h1, h2, h3⟩
    · cases h1
    · simp only [Option.some.injEq, Addr.mk.injEq, and_true] at h1
      subst h1
      exact ⟨rfl, (h.new _ (by rw [h3]; simp)).1, get_lt h2, h3⟩
  obtain ⟨M3, a1, a2, a3, a4, a5⟩ := appM_any (z := 5) (y := 56) (m := M2 ++ [.live (rblk L av (σ.b n))]) (a := a) (n := n) (l := 1) (old := farr n fun i => rblk (g.L i) (g.A i) (σ.b i)) (new := rblk L av (σ.b n)) (by
    rcases h.q_ with ⟨h1, h2⟩ | ⟨h1, h2, _⟩
    · refine .inl ⟨h1, h2, ?_⟩
      subst h2; rfl
    · exact .inr ⟨g.q, h1, hgM.get h2, hlen⟩) (by omega) (by unfold most; omega) (by unfold most; omega)
  have a5 := a5 m0 (h.gr.trans hgM) fun b hb => (qlt b hb).2.1
  rw [l3] at a1 a2 a3
  have rne : ∀ b, a = some ⟨b, 0, some 5⟩ → m0.length ≠ b := fun b hb he => by
    have := (qlt b hb).2.2.2
    rw [← he, h.r_.2] at this; cases this
  have r3 : M3[m0.length]? = some (.live (.slice a n n :: hd)) := by
    have := get_lt h.r_.1
    rw [a4 _ (by omega) rne]; exact hgM.get h.r_.1
  refine ⟨M3, a1, r3, ?_⟩
  let lab' : Nat → Option Lab := fun p => if p = M2.length + 1 then some .blocks else if M.length ≤ p then (lb p).map (Lab.of n) else if a = some ⟨p, 0, some 5⟩ then none else lab p
  let g' : RG := ⟨M2.length + 1, upd g.L n L, upd g.N n N, upd g.T n T, upd g.A n av⟩
  have lold : ∀ p, p < M.length → a ≠ some ⟨p, 0, some 5⟩ → lab' p = lab p := fun p hp ha => by
    show (if _ then _ else _) = _
    rw [if_neg (by omega), if_neg (by omega), if_neg ha]
  have lnew : ∀ p o, lb p = some o → lab' p = some (.of n o) := fun p o hp => by
    have := hnew p (by rw [hp]; simp)
    show (if _ then _ else _) = _
    rw [if_neg (by omega), if_pos this.1, hp]; rfl
  have keep : ∀ p o, M[p]? = some o → a ≠ some ⟨p, 0, some 5⟩ → p ≠ m0.length → (wr M3 m0.length (.slice (some ⟨M2.length + 1, 0, some 5⟩) (n + 1) (n + 1) :: hd))[p]? = some o := fun p o hp ha hn => by
    have := get_lt hp
    rw [wr_ne (Ne.symm hn), a4 p (by omega) fun b hb he => ha (by rw [he]; exact hb)]; exact hgM.get hp
  have keep2 : ∀ p o, M2[p]? = some o → M.length ≤ p → (wr M3 m0.length (.slice (some ⟨M2.length + 1, 0, some 5⟩) (n + 1) (n + 1) :: hd))[p]? = some o := fun p o hp hle => by
    have := get_lt hp
    have := get_lt h.r_.1
    rw [wr_ne (by omega), a4 p (by omega) fun b hb he => by have := (qlt b hb).2.2.1; omega]; exact get_grow hp
  have notq : ∀ p o, lab p = some o → o ≠ .blocks → a ≠ some ⟨p, 0, some 5⟩ := fun p o hp ho ha => by
    have := (qlt p ha).2.2.2
    rw [hp] at this; cases this; exact ho rfl
  have notr : ∀ p o, lab p = some o → o ≠ .chip → p ≠ m0.length := fun p o hp ho he => by
    rw [he, h.r_.2] at hp; cases hp; exact ho rfl
  refine ⟨lab', g', ⟨a5.wr (Nat.le_refl _) _, ⟨wr_get r3, ?_⟩, .inr ⟨rfl, ?_, ?_⟩, fun i h0 h1 => ?_, fun i j h0 h1 h2 h3 => ?_, fun i j h0 h1 h2 h3 => ?_, fun i h0 h1 => ?_, fun p hp => ?_⟩⟩
  · rw [lold _ (get_lt h.r_.1) (fun hb => rne _ hb rfl)]; exact h.r_.2
  · have := get_lt h.r_.1
    show (wr M3 m0.length _)[M2.length + 1]? = _
    rw [wr_ne (by omega), a3, farr_succ]
    congr 3
    · refine farr_congr fun i _ h1 => ?_
      show _ = rblk (upd g.L n L i) (upd g.A n av i) (σ.b i)
      rw [upd_ne (by omega), upd_ne (by omega)]
    · show _ = rblk (upd g.L n L n) (upd g.A n av n) (σ.b n)
      rw [upd_same, upd_same]
  · show (if _ then _ else _) = _
    rw [if_pos rfl]
  · by_cases hi : i = (n : Int)
    · subst hi
      show (wr M3 m0.length _)[upd g.L n L n]? = some (.live (farr 32 fun j => rch (upd g.N n N n j) (upd g.T n T n j) ((σ.b n).ch j))) ∧ lab' (upd g.L n L n) = _
      rw [upd_same, upd_same, upd_same]
      exact ⟨keep2 _ _ hL.1 (hnew _ (by rw [hL.2]; simp)).1, lnew _ _ hL.2⟩
    · have := h.l_ i h0 (by omega)
      show (wr M3 m0.length _)[upd g.L n L i]? = some (.live (farr 32 fun j => rch (upd g.N n N i j) (upd g.T n T i j) ((σ.b i).ch j))) ∧ lab' (upd g.L n L i) = _
      rw [upd_ne hi, upd_ne hi, upd_ne hi]
      have q1 := notq _ _ this.2 (by simp)
      exact ⟨keep _ _ this.1 q1 (notr _ _ this.2 (by simp)), by rw [lold _ (get_lt this.1) q1]; exact this.2⟩
  · by_cases hi : i = (n : Int)
    · subst hi
      show (wr M3 m0.length _)[(upd g.N n N n j).1]? = _ ∧ lab' (upd g.N n N n j).1 = _
      rw [upd_same]
      have := hN j h2 h3
      exact ⟨keep2 _ _ this.1 (hnew _ (by rw [this.2]; simp)).1, lnew _ _ this.2⟩
    · have := h.n_ i j h0 (by omega) h2 h3
      show (wr M3 m0.length _)[(upd g.N n N i j).1]? = _ ∧ lab' (upd g.N n N i j).1 = _
      rw [upd_ne hi]
      have q1 := notq _ _ this.2 (by simp)
      exact ⟨keep _ _ this.1 q1 (notr _ _ this.2 (by simp)), by rw [lold _ (get_lt this.1) q1]; exact this.2⟩
  · by_cases hi : i = (n : Int)
    · subst hi
      show (wr M3 m0.length _)[(upd g.T n T n j).1]? = _ ∧ lab' (upd g.T n T n j).1 = _
      rw [upd_same]
      have := hT j h2 h3
      exact ⟨keep2 _ _ this.1 (hnew _ (by rw [this.2]; simp)).1, lnew _ _ this.2⟩
    · have := h.t_ i j h0 (by omega) h2 h3
      show (wr M3 m0.length _)[(upd g.T n T i j).1]? = _ ∧ lab' (upd g.T n T i j).1 = _
      rw [upd_ne hi]
      have q1 := notq _ _ this.2 (by simp)
      exact ⟨keep _ _ this.1 q1 (notr _ _ this.2 (by simp)), by rw [lold _ (get_lt this.1) q1]; exact this.2⟩
  · show AtOk σ.steps (upd g.A n av i) _
    by_cases hi : i = (n : Int)
    · subst hi; rw [upd_same]; exact hA
    · rw [upd_ne hi]; exact h.at_ i h0 (by omega)
  · rw [wr_len, a2]
    have hp : (if p = M2.length + 1 then some Lab.blocks else if M.length ≤ p then (lb p).map (Lab.of n) else if a = some ⟨p, 0, some 5⟩ then none else lab p) ≠ none := hp
    split at hp
    · omega
    · split at hp
      · have := hnew p (fun h => hp (by rw [h]; rfl)); omega
      · split at hp
        · exact absurd rfl hp
        · have := h.new p hp; omega

theorem refNew_ok (k : Nat) (hk : 64 < k) (m0 : Mem) : Ok (patinaref05_New k m0) fun x => x.1 = some ⟨m0.length, 0, none⟩ ∧ ∃ lab g, RefX x.2 m0.length lab g fresh ∧ Gr m0 x.2 ∧ ∀ p, lab p ≠ none → m0.length ≤ p := by
  unfold patinaref05_New
  simp (disch := omega) only [Option.bind_some, Option.map_some, cond_true, cond_false, wrap_i64, tmod_pos, tdiv_pos, inRange_yes, inUpto_yes, isZero_no, decide_eq_true, decide_eq_false, Bool.not_true, Bool.not_false, Int.toNat_natCast, Nat.mul_one, beqI_yes, beqI_no, bneI_yes, bneI_no, isNil_nil, isNil_iface, wr_wr, Option.isNone_none, Option.isNone_some, plus, Nat.zero_add, Nat.add_zero]
  refine patinaref05_New_l0_rule k _ (fun r x1 x2 M => (⟨m0.length, 0, none⟩ : Addr) = x1 ∧ ∃ (n : Nat) (a : Option Addr) (lab : Nat → Option Lab) (g : RG), x2 = n ∧ n + r = 12 ∧ Nw m0 M n a lab g fresh [.bool true, .int .i64 (-1), .int .i64 0]) ?_ k 12 _ _ _ (by omega)
    ⟨rfl, 0, none, fun p => if p = m0.length then some .chip else none, ⟨0, fun _ => 0, fun _ _ => (0, false), fun _ _ => (0, false), fun _ => 0⟩, rfl, rfl, ⟨Gr.app _ _, ⟨get_last rfl, if_pos rfl⟩, .inl ⟨rfl, rfl⟩, fun i h0 h1 => by omega, fun i j h0 h1 => by omega, fun i j h0 h1 => by omega, fun i h0 h1 => by omega, fun p hp => by
      by_cases q1 : p = m0.length
      · subst q1; simp
      · exact absurd (if_neg q1) hp⟩⟩
  rintro r nx _ _ M ⟨rfl, n, a, lab, g, rfl, hr, hN⟩ hnx
  unfold patinaref05_New_l0_b
  by_cases hn : (n : Int) < 12
  · have e1 : ldSl M ⟨m0.length, 0, none⟩ = some ⟨a, n, n⟩ := ldSl_of hN.r_.1 rfl
    simp (disch := omega) only [Option.bind_some, Option.map_some, cond_true, cond_false, wrap_i64, tmod_pos, tdiv_pos, inRange_yes, inUpto_yes, isZero_no, decide_eq_true, decide_eq_false, Bool.not_true, Bool.not_false, Int.toNat_natCast, Nat.mul_one, beqI_yes, beqI_no, bneI_yes, bneI_no, isNil_nil, isNil_iface, wr_wr, Option.isNone_none, Option.isNone_some, plus, Nat.zero_add, Nat.add_zero, decide_eq_true hn, e1]
    refine .bind (refChunks_ok k hk M) ?_
    rintro ⟨_, M2⟩ ⟨a', lb, N, T, rfl, hC⟩
    simp only at hC ⊢
    rcases hC.row with ⟨_, h0⟩ | ⟨L, rfl, hL1, hL2, hL3⟩
    · omega
    obtain ⟨M3, a1, a2, lab', g', a3⟩ := hN.next (L := L) (N := N) (T := T) (av := -1) (lb := lb) (sp := none) hC.gr ⟨hL2, hL3⟩ hC.n_ hC.t_ ⟨.inl rfl, by omega, by omega⟩ hC.new (by omega)
    have hlit : ([Value.slice (some ⟨L, 0, some 4⟩) 32 32, .int .i64 0, .bool false, .int .i64 (-1), .bool false] : List Value) = rblk L (-1) (fresh.b n) := rfl
    have r5 : rdSl (M2 ++ [.live (rblk L (-1) (fresh.b n))]) (some ⟨M2.length, 0, none⟩) 1 5 = some (rblk L (-1) (fresh.b n)) := rdSl_all (get_last rfl) rfl
    have s1 := st_wr (sp := none) (off := 0) (v := .slice (some ⟨M2.length + 1, 0, some 5⟩) (n + 1) (n + 1)) a2 (by simp)
    have hset : (Value.slice a n n :: [.bool true, .int .i64 (-1), .int .i64 0]).set 0 (.slice (some ⟨M2.length + 1, 0, some 5⟩) (n + 1) (n + 1)) = .slice (some ⟨M2.length + 1, 0, some 5⟩) (n + 1) (n + 1) :: [.bool true, .int .i64 (-1), .int .i64 0] := rfl
    rw [hset] at s1
    have e2 : ldSl M2 ⟨m0.length, 0, none⟩ = some ⟨a, n, n⟩ := ldSl_of (hC.gr.get hN.r_.1) rfl
    have e3 : ldSl (M2 ++ [.live (rblk L (-1) (fresh.b n))]) ⟨m0.length, 0, none⟩ = some ⟨a, n, n⟩ := ldSl_of (get_grow (hC.gr.get hN.r_.1)) rfl
    have nb : Nat.beq n n = true := Nat.beq_refl n
    simp (disch := omega) only [Option.bind_some, Option.map_some, cond_true, cond_false, wrap_i64, tmod_pos, tdiv_pos, inRange_yes, inUpto_yes, isZero_no, decide_eq_true, decide_eq_false, Bool.not_true, Bool.not_false, Int.toNat_natCast, Nat.mul_one, beqI_yes, beqI_no, bneI_yes, bneI_no, isNil_nil, isNil_iface, wr_wr, Option.isNone_none, Option.isNone_some, plus, Nat.zero_add, Nat.add_zero, hlit, r5, a1, s1, e2, e3, nb, Bool.and_self, decide_true]
    exact hnx (r - 1) _ _ _ (by omega) ⟨rfl, n + 1, _, lab', g', by omega, by omega, a3⟩
  · obtain rfl : n = 12 := by omega
    simp (disch := omega) only [Option.bind_some, Option.map_some, cond_true, cond_false, wrap_i64, tmod_pos, tdiv_pos, inRange_yes, inUpto_yes, isZero_no, decide_eq_true, decide_eq_false, Bool.not_true, Bool.not_false, Int.toNat_natCast, Nat.mul_one, beqI_yes, beqI_no, bneI_yes, bneI_no, isNil_nil, isNil_iface, wr_wr, Option.isNone_none, Option.isNone_some, plus, Nat.zero_add, Nat.add_zero]
    exact .some ⟨rfl, lab, g, hN.done, hN.gr, fun p hp => (hN.new p hp).1⟩
end Go.Proofs.Ytlbbcgjfkpnilaa
