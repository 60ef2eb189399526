/- Texts of this proof, one behind the other: Med2, Med3, Fr4, Fr5, MedP, MedQ, MedS, MediaCuts. -/
import Derived.Test.YtchonnaoojpdoaaBMediaCuts2
import Derived.Test.YtchonnaoojpdoaaBMediaCuts1
import Derived.Test.YtchonnaoojpdoaaFpatinalaw08
import Derived.Test.YtchonnaoojpdoaaFLMediaCuts
/- The media: a page that is read, told. -/
set_option linter.unusedVariables false
set_option linter.unusedSectionVars false
set_option linter.unusedSimpArgs false
namespace Go.Proofs.Ytchonnaoojpdoaa
open Go.Mx

theorem row_okS {R : RA} {ad : Addr} (h : rowA R = some ad) : okS ad := by
  unfold okS
  cases R with
  | none => cases h
  | some x => obtain ⟨D, a⟩ := x; cases a <;> · cases h; first | exact .inl rfl | exact .inr rfl
theorem mediaRead_ok (k : Nat) (hk : 1000 < k) {M : Mem} {mm c f N : Nat} {σ : ChipS} {n : Int} (h : MI M mm c f σ n) (hw : Wf N σ) (hN : N < 4000000000000) (hn : 0 ≤ n ∧ n < 4611686018427387904) (p : Int) (hp : 0 ≤ p ∧ p < 96) (ho : σ.off = false) :
    Ok (media_Media_Read k (some ⟨mm, 0, none⟩) p M) (Rdd M mm c f σ n p) := by
  unfold media_Media_Read
  have hz : ([.bool false, .int .i64 0, .int .i64 0, .int .i64 0, .int .i64 0, .bool false, .bool false, .slice none 0 0, .int .i64 0] : List Value) = pgC (.no 0) none := rfl
  have h1 := h.grow (Gr.app M [.live (pgC (.no 0) none)])
  have z1 : (M ++ [MObj.live (pgC (.no 0) none)])[M.length]? = some (.live (pgC (.no 0) none)) := get_last rfl
  have l1 : ldPtr (M ++ [.live (pgC (.no 0) none)]) ⟨mm, 0, none⟩ = some (some ⟨c, 0, none⟩) := ldPtr_of h1.med rfl
  have gM := Gr.app M [.live (pgC (.no 0) none)]
  have ml : (M ++ [MObj.live (pgC (.no 0) none)]).length = M.length + 1 := by simp
  simp only [hz, Option.bind_some, plus, Nat.zero_add, l1]
  generalize M ++ [.live (pgC (.no 0) none)] = M1 at *
  obtain ⟨R0, n0, w0, e, σ', m2, e1, e2, e3, e4, e5, e6, e7, e8, e9, e10, e11⟩ := chipRead_all k (by omega) h1.chip hw hN p
  have clt := get_lt h.chip
  have mlt := get_lt h.med
  have hne := h.ne
  obtain ⟨W, rfl, hW, R0e⟩ : ∃ W : Nat → GF, w0 = W ∧ (∀ (q i : Nat), q < 4 → i < 64 → (σ.at_ p q).now i = ((W (q * 64 + i)).v : Int)) ∧ (∃ D, R0 = some (D, false)) ∧ n0 = 256 ∧ e = 0 ∧ σ' = σ.readd p := by
    rcases e11 with ⟨c1, _⟩ | ⟨c1, c2, _⟩ | ⟨c1, c2, c3, c4, c5, c6, c7⟩
    · exact absurd hp c1
    · rw [ho] at c2; cases c2
    · exact ⟨w0, rfl, c7, c3, c4, c5, c6⟩
  obtain ⟨⟨D, rfl⟩, rfl, rfl, rfl⟩ := R0e
  have nn : isNil (errC 0) = some true := rfl
  have z2 : m2[M.length]? = some (.live (pgC (.no 0) none)) := by rw [e4 _ (by omega) (by omega)]; exact z1
  have k2 : ∀ q, q < M.length → q ≠ c → m2[q]? = M[q]? := fun q hq hqc => by
    rw [e4 q (by omega) hqc]
    obtain ⟨g, hg⟩ := gM
    rw [hg]; exact get_app_lt hq
  have d2 : m2[mm]? = some (.live (medC c f n)) := by rw [k2 mm mlt hne]; exact h.med
  have f2 : Frm m2 f := h.frm.keep fun q cs hq h3 h4 => k2 q (get_lt hq) fun he => by
    rw [he, h.chip] at hq; cases hq; exact h4 (chipC_len _)
  -- one more was read
  have a1 : sync_atomic_Int64_Add k (some ⟨mm, 2, none⟩) 1 m2 = some (n + 1, wr m2 mm (medC c f (n + 1))) := by
    unfold sync_atomic_Int64_Add sync_atomic_AddInt64 atAdd
    have l2 : ldInt .i64 m2 ⟨mm, 2, none⟩ = some n := ldInt_of d2 rfl
    have s2 : st m2 ⟨mm, 2, none⟩ (.int .i64 (n + 1)) = some (wr m2 mm (medC c f (n + 1))) := st_wr d2 (by simp [medC])
    have w1 : IntKind.wrap .i64 (n + 1) = n + 1 := wrap_i64 (by omega) (by omega)
    simp only [Option.bind_some, plus, Nat.add_zero, l2, w1, s2]
  simp only [e1, Option.bind_some, nn, Bool.not_true, cond_false, plus, Nat.zero_add, a1]
  have d3 := wr_get (cs := medC c f (n + 1)) d2
  have c3 : (wr m2 mm (medC c f (n + 1)))[c]? = some (.live (chipC (σ.readd p))) := by rw [wr_ne hne]; exact e2
  have f3 : Frm (wr m2 mm (medC c f (n + 1))) f := f2.keep fun q cs hq h3 h4 => wr_ne fun he => by
    rw [← he, d2] at hq; cases hq; exact h3 rfl
  have z3 : (wr m2 mm (medC c f (n + 1)))[M.length]? = some (.live (pgC (.no 0) none)) := by rw [wr_ne (by omega)]; exact z2
  have Dne : D ≠ mm := fun he => by have := e6 D rfl; omega
  have r3 : Src (wr m2 mm (medC c f (n + 1))) (rowA (some (D, false))) 256 w0 := by
    obtain ⟨u, u1, u2, _⟩ := e5
    rw [bys_congr u2] at u1
    exact Src.of (by rw [wr_ne (Ne.symm Dne)]; exact u1)
  have k3 : ∀ q, q < M.length → q ≠ c → q ≠ mm → (wr m2 mm (medC c f (n + 1)))[q]? = M[q]? := fun q hq h3 h4 => by rw [wr_ne (Ne.symm h4)]; exact k2 q hq h3
  have l3 : (wr m2 mm (medC c f (n + 1))).length = m2.length := wr_len
  generalize wr m2 mm (medC c f (n + 1)) = m3 at *
  have g10 := Gr.app m3 [.live (pgC (.no 0) none)]
  have z10 : (m3 ++ [MObj.live (pgC (.no 0) none)])[m3.length]? = some (.live (pgC (.no 0) none)) := get_last rfl
  -- what is read from here on
  have ending : ∀ (M' : Mem) (q : PgT) (R : RA) (L : Nat), Gr m3 M' → M'[m3.length]? = some (.live (pgC q R)) → q = pgS w0 p → RowLive M' R q.n L (fun u => ∀ i, i < q.n → u i = q.w i) → (∀ D, rowD R = some D → M.length + 1 ≤ D) →
      ∃ M'', stCells M' ⟨M.length, 0, none⟩ (pgC q R) = some M'' ∧ ldCells M'' ⟨M.length, 0, none⟩ 9 = some (pgC q R) ∧ Rdd M mm c f σ n p (pgC q R, .nilIface, M'') := by
    intro M' q R L hg hq he hr hD
    have z4 := hg.get z3
    have ll := hg.len
    refine ⟨_, stCells_wr z4 (Nat.le_refl _), by rw [ldCells_of (off := 0) (n := 9) (wr_get z4) (Nat.le_refl _)]; rfl, w0, R, L, hW, by rw [he], rfl, ?_, fun D hD' => by have := hD D hD'; omega, ⟨by rw [wr_len]; omega, fun x hx hn' => ?_⟩, ?_, ?_⟩
    · rw [← he]
      exact hr.keep fun D hD' => wr_ne (by have := hD D hD'; omega)
    · rw [wr_ne (by omega)]
      obtain ⟨g, hg⟩ := hg
      rw [hg, get_app_lt (by omega)]
      exact k3 x hx (fun h => hn' (.inl h)) (fun h => hn' (.inr h))
    · rw [wr_ne (by omega)]; exact hg.get c3
    · rw [wr_ne (by omega)]; exact hg.get d3
  have hs256 : (256 : Nat) = 256 → ∃ ad, rowA (some (D, false)) = some ad ∧ okS ad := fun _ => ⟨_, rfl, .inl rfl⟩
  refine media_Media_Read_l0_rule k _ (fun d x0 x1 x4 x6a x6n x6c x8 x36 M' => (some ⟨mm, 0, none⟩ : Option Addr) = x0 ∧ p = x1 ∧ (⟨M.length, 0, none⟩ : Addr) = x4 ∧ rowA (some (D, false)) = x6a ∧ 256 = x6n ∧ 256 = x6c ∧ (⟨m3.length, 0, none⟩ : Addr) = x8 ∧ ∃ j : Nat, x36 = j ∧ j + d = 4 ∧ Gr m3 M' ∧ M'[m3.length]? = some (.live (pgC (.no (mxm w0 j)) none))) ?_ k 4 _ _ _ _ _ _ _ _ _ (by omega)
    ⟨rfl, rfl, rfl, rfl, rfl, rfl, rfl, 0, rfl, rfl, g10, z10⟩
  rintro d nx _ _ _ _ _ _ _ _ M' ⟨rfl, rfl, rfl, rfl, rfl, rfl, rfl, j, rfl, hd, hg, hq⟩ hnx
  unfold media_Media_Read_l0_b
  have l2 : ldPtr M' ⟨mm, 1, none⟩ = some (some ⟨f, 0, none⟩) := ldPtr_of (hg.get d3) rfl
  have rS := r3.grow hg
  have rF := f3.grow hg
  by_cases hj : (j : Int) < 4
  · simp only [decide_eq_true hj, cond_true, Option.bind_some, plus, Nat.zero_add, l2]
    refine .bind (msgF k hk rS hs256 (Nat.le_refl _) rF (j : Int)) ?_
    rintro ⟨s, a, ev, M2⟩ ⟨R, L, rfl, q1, q2, rfl, rfl, q3⟩
    simp only at q1 q3 ⊢
    have hq2 := q3.get hq
    have nx1 : ∀ M3, Gr m3 M3 → M3[m3.length]? = some (.live (pgC (.no (mxm w0 (j + 1))) none)) → Ok (media_Media_Read_j1 k (some ⟨mm, 0, none⟩) p ⟨M.length, 0, none⟩ (rowA (some (D, false))) 256 256 ⟨m3.length, 0, none⟩ (j : Int) nx M3) (Rdd M mm c f σ n p) := fun M3 h1 h2 => by
      unfold media_Media_Read_j1
      exact hnx (d - 1) _ _ _ _ _ _ _ _ _ (by omega) ⟨rfl, rfl, rfl, rfl, rfl, rfl, rfl, j + 1, by rw [wrap_i64 (by omega) (by omega)]; push_cast; rfl, by omega, h1, h2⟩
    rw [isNil_errC, Option.bind_some]
    by_cases he : (msgS 256 w0 (j : Int)).e = 0
    · have l8 : ldInt .i64 M2 ⟨m3.length, 8, none⟩ = some ((mxm w0 j : Nat) : Int) := ldInt_of hq2 rfl
      have s8 : st M2 ⟨m3.length, 8, none⟩ (.int .i64 ((max (mxm w0 j) (msgS 256 w0 (j : Int)).a : Nat) : Int)) = some (wr M2 m3.length (pgC (.no (mxm w0 (j + 1))) none)) := by
        rw [st_wr hq2 (by simp [pgC])]
        have : mxm w0 (j + 1) = max (mxm w0 j) (msgS 256 w0 (j : Int)).a := by show (if _ then _ else _) = _; rw [if_pos he]
        rw [this]; rfl
      rw [decide_eq_true he, cond_true, l8, Option.bind_some, maxI_nat, s8, Option.bind_some]
      exact nx1 _ ((hg.trans q3).wr (Nat.le_refl _) _) (wr_get hq2)
    · have e9' : mxm w0 (j + 1) = mxm w0 j := by show (if _ then _ else _) = _; rw [if_neg he]
      rw [decide_eq_false he, cond_false]
      exact nx1 _ (hg.trans q3) (by rw [e9']; exact hq2)
  · clear hnx
    obtain rfl : j = 4 := by omega
    simp only [decide_eq_false hj, cond_false, Option.bind_some, plus, Nat.zero_add, l2]
    refine .bind (bodyF k hk rS hs256 (Nat.le_refl _) rF) ?_
    rintro ⟨s, a, ev, M2⟩ ⟨R, L, rfl, q1, q2, rfl, rfl, q3⟩
    simp only at q1 q3 ⊢
    have gg := hg.trans q3
    have hq2 := q3.get hq
    have noE : ∀ (M3 : Mem), Gr m3 M3 → M3[m3.length]? = some (.live (pgC (.no (mxm w0 4)) none)) → pgS w0 p = .no (mxm w0 4) → Ok ((ldCells M3 ⟨m3.length, 0, none⟩ 9).bind fun t22 => bif Nat.beq (List.length t22) 9 then ((stCells M3 ⟨M.length, 0, none⟩ t22).bind fun m23 => (ldCells m23 ⟨M.length, 0, none⟩ 9).bind fun t24 => some (t24, Value.nilIface, m23)) else none) (Rdd M mm c f σ n p) := fun M3 h1 h2 h3 => by
      have c9 : ldCells M3 ⟨m3.length, 0, none⟩ 9 = some (pgC (.no (mxm w0 4)) none) := by rw [ldCells_of (off := 0) (n := 9) h2 (Nat.le_refl _)]; rfl
      have L9 : Nat.beq (pgC (.no (mxm w0 4)) none).length 9 = true := rfl
      obtain ⟨M4, b1, b2, b3⟩ := ending M3 _ none 0 h1 h2 h3.symm rfl (fun D h => nomatch h)
      simp only [c9, Option.bind_some, L9, cond_true, b1, b2]
      exact .some b3
    rw [isNil_errC, Option.bind_some]
    by_cases he : (bodyS 256 w0).e = 0
    · rw [decide_eq_true he, Bool.not_true, cond_false]
      have n50 := bodyS_n he
      rw [n50] at q1 ⊢
      obtain ⟨ad, had⟩ : ∃ ad, rowA R = some ad := by
        cases R with
        | none => have h0 : (50 : Nat) = 0 := q1; omega
        | some x => obtain ⟨D', b⟩ := x; cases b <;> exact ⟨_, rfl⟩
      have q1s := q1.src
      rw [had] at q1s ⊢
      refine .bind (tagDec_ok k (by omega) q1s (row_okS had) (Nat.le_refl _)) ?_
      rintro ⟨tc, te, M3⟩ ⟨g3, dec⟩
      simp only at g3 dec ⊢
      have hzt : ([.int .i64 0, .int .i64 0, .int .i64 0, .int .i64 0, .bool false] : List Value) = tagC ztag := rfl
      have gg3 := gg.trans g3
      have hq3 := g3.get hq2
      have tagst : ∀ t, stCells (M3 ++ [.live (tagC ztag)]) ⟨M3.length, 0, none⟩ (tagC t) = some (M3 ++ [.live (tagC t)]) := fun t => by rw [stCells_wr (get_last rfl) (Nat.le_refl _), wr_last rfl]; rfl
      have L5 : ∀ t, Nat.beq (tagC t).length 5 = true := fun _ => rfl
      rcases dec with ⟨t, ht, rfl, rfl⟩ | ⟨ht, rfl, rfl⟩
      · have n1 : isNil .nilIface = some true := rfl
        have gt := Gr.app M3 [.live (tagC t)]
        have lt' : (M3 ++ [MObj.live (tagC t)]).length = M3.length + 1 := by simp
        have xt : (M3 ++ [MObj.live (tagC t)])[M3.length]? = some (.live (tagC t)) := get_last rfl
        have hq4 := gt.get hq3
        have lp : ldInt .i64 (M3 ++ [.live (tagC t)]) ⟨M3.length, 0, none⟩ = some t.place := ldInt_of xt rfl
        have gg4 := gg3.trans gt
        simp only [hzt, L5, cond_true, tagst, Option.bind_some, n1, Bool.not_true, cond_false, lp]
        generalize M3 ++ [.live (tagC t)] = M4 at *
        by_cases hpl : t.place = p
        · have b1 : (t.place != p) = false := by rw [hpl]; simp
          have ct : ldCells M4 ⟨M3.length, 0, none⟩ 5 = some (tagC t) := by rw [ldCells_of (off := 0) (n := 5) xt (Nat.le_refl _)]; rfl
          have m3lt : m3.length ≠ M3.length := fun he' => by rw [← he', hq4] at xt; simp only [Option.some.injEq, MObj.live.injEq] at xt; have := congrArg List.length xt; simp [pgC, tagC] at this
          have s0 : st M4 ⟨m3.length, 0, none⟩ (.bool true) = some (wr M4 m3.length (pgC ⟨true, ztag, false, 0, fun _ => 0, mxm w0 4⟩ none)) := by rw [st_wr hq4 (by simp [pgC])]; rfl
          have hq5 := wr_get (cs := pgC ⟨true, ztag, false, 0, fun _ => 0, mxm w0 4⟩ none) hq4
          have ct2 : ldCells (wr M4 m3.length (pgC ⟨true, ztag, false, 0, fun _ => 0, mxm w0 4⟩ none)) ⟨M3.length, 0, none⟩ 5 = some (tagC t) := by rw [ldCells_of (off := 0) (n := 5) (by rw [wr_ne m3lt]; exact xt) (Nat.le_refl _)]; rfl
          have s1 : stCells (wr M4 m3.length (pgC ⟨true, ztag, false, 0, fun _ => 0, mxm w0 4⟩ none)) ⟨m3.length, 1, none⟩ (tagC t) = some (wr M4 m3.length (pgC ⟨true, t, false, 0, fun _ => 0, mxm w0 4⟩ none)) := by rw [stCells_wr hq5 (by simp [pgC, tagC]), wr_wr]; rfl
          simp only [b1, cond_false, ct, Option.bind_some, s0, L5, cond_true, s1, ct2, veqs_tag]
          have gg5 := gg4.wr (Nat.le_refl _) (pgC ⟨true, t, false, 0, fun _ => 0, mxm w0 4⟩ none)
          have hq6 := wr_get (cs := pgC ⟨true, t, false, 0, fun _ => 0, mxm w0 4⟩ none) hq4
          generalize wr M4 m3.length (pgC ⟨true, t, false, 0, fun _ => 0, mxm w0 4⟩ none) = M5 at *
          have l5 : ldPtr M5 ⟨mm, 1, none⟩ = some (some ⟨f, 0, none⟩) := ldPtr_of (gg5.get d3) rfl
          simp only [l5, Option.bind_some]
          refine .bind (dataF k hk (r3.grow gg5) hs256 (Nat.le_refl _) (f3.grow gg5)) ?_
          rintro ⟨s, a, ev, M6⟩ ⟨R', L', rfl, v1, v2, rfl, rfl, v3⟩
          simp only at v1 v3 ⊢
          have hq7 := v3.get hq6
          have gg6 := gg5.trans v3
          have j2 : ∀ (M7 : Mem) (q : PgT) (R : RA) (L : Nat), Gr m3 M7 → M7[m3.length]? = some (.live (pgC q R)) → q = pgS w0 p → RowLive M7 R q.n L (fun u => ∀ i, i < q.n → u i = q.w i) → (∀ D, rowD R = some D → M.length + 1 ≤ D) → Ok (media_Media_Read_j2 k ⟨M.length, 0, none⟩ ⟨m3.length, 0, none⟩ M7) (Rdd M mm c f σ n p) := fun M7 q R L h1 h2 h3 h4 h5 => by
            unfold media_Media_Read_j2
            have c9 : ldCells M7 ⟨m3.length, 0, none⟩ 9 = some (pgC q R) := by rw [ldCells_of (off := 0) (n := 9) h2 (Nat.le_refl _)]; rfl
            have L9 : Nat.beq (pgC q R).length 9 = true := rfl
            obtain ⟨M8, b1, b2, b3⟩ := ending M7 q R L h1 h2 h3 h4 h5
            simp only [c9, Option.bind_some, L9, cond_true, b1, b2]
            exact .some b3
          rw [isNil_errC, Option.bind_some]
          have lm3 : M.length + 1 ≤ m3.length := by omega
          have l5' := gg5.len
          have l6' := get_lt hq6
          by_cases hde : (dataS 256 w0).e = 0
          · have s6 : st M6 ⟨m3.length, 6, none⟩ (.bool true) = some (wr M6 m3.length (pgC ⟨true, t, true, 0, fun _ => 0, mxm w0 4⟩ none)) := by rw [st_wr hq7 (by simp [pgC])]; rfl
            have s7 : st (wr M6 m3.length (pgC ⟨true, t, true, 0, fun _ => 0, mxm w0 4⟩ none)) ⟨m3.length, 7, none⟩ (.slice (rowA R') (dataS 256 w0).n (dataS 256 w0).n) = some (wr M6 m3.length (pgC ⟨true, t, true, (dataS 256 w0).n, (dataS 256 w0).w, mxm w0 4⟩ R')) := by rw [st_wr (wr_get hq7) (by simp [pgC]), wr_wr]; rfl
            rw [decide_eq_true hde, cond_true]
            simp only [s6, Option.bind_some, s7]
            refine j2 _ ⟨true, t, true, (dataS 256 w0).n, (dataS 256 w0).w, mxm w0 4⟩ R' L' (gg6.wr (Nat.le_refl _) _) (wr_get hq7) ?_ (v1.keep fun D' hD' => wr_ne (by have := v2 D' hD'; omega)) (fun D' hD' => by have := v2 D' hD'; omega)
            unfold pgS
            rw [if_pos he, ht]
            simp only [if_pos hpl, if_pos hde]
          · rw [decide_eq_false hde, cond_false]
            refine j2 M6 ⟨true, t, false, 0, fun _ => 0, mxm w0 4⟩ none 0 gg6 hq7 ?_ rfl (fun D h => nomatch h)
            unfold pgS
            rw [if_pos he, ht]
            simp only [if_pos hpl, if_neg hde]
        · have b1 : (t.place != p) = true := by simpa using hpl
          rw [b1, cond_true]
          refine noE M4 gg4 hq4 ?_
          unfold pgS
          rw [if_pos he, ht]
          simp only [if_neg hpl]
      · have n1 : isNil (errC 3) = some false := rfl
        have gt := Gr.app M3 [.live (tagC ztag)]
        simp only [hzt, L5, cond_true, tagst, Option.bind_some, n1, Bool.not_false]
        refine noE _ (gg3.trans gt) (gt.get hq3) ?_
        unfold pgS
        rw [if_pos he, ht]
    · rw [decide_eq_false he, Bool.not_false, cond_true]
      refine noE M2 gg hq2 ?_
      unfold pgS
      rw [if_neg he]
end Go.Proofs.Ytchonnaoojpdoaa

/- The media: a page that is programmed. -/
set_option linter.unusedVariables false
set_option linter.unusedSectionVars false
set_option linter.unusedSimpArgs false
namespace Go.Proofs.Ytchonnaoojpdoaa
open Go.Mx

theorem tag_eq (t u : TagT) : ∃ b, cellsEq (eqK tt 23) (tagC t) (tagC u) = some b ∧ (b = true ↔ t = u) := by
  have h : eqK tt 23 = [.int .i64, .int .i64, .int .i64, .int .i64, .bool] := rfl
  rw [h]
  obtain ⟨p, o, s, c, l⟩ := t
  obtain ⟨p', o', s', c', l'⟩ := u
  by_cases h1 : p = p'
  · subst h1
    by_cases h2 : o = o'
    · subst h2
      by_cases h3 : s = s'
      · subst h3
        by_cases h4 : c = c'
        · subst h4
          cases l <;> cases l' <;> simp [cellsEq, cellEq, tagC]
        · simp [cellsEq, cellEq, tagC, h4, beq_eq_false_iff_ne.2 h4]
      · simp [cellsEq, cellEq, tagC, h3, beq_eq_false_iff_ne.2 h3]
    · simp [cellsEq, cellEq, tagC, h2, beq_eq_false_iff_ne.2 h2]
  · simp [cellsEq, cellEq, tagC, h1, beq_eq_false_iff_ne.2 h1]
/-- chunk by chunk -/
def wrN (p : Int) (cw : Nat → Nat → GF) : Nat → Nat → ChipS → Int × ChipS
  | 0, _, σ => (0, σ)
  | d + 1, j, σ => if (σ.write p j 64 (byI (cw j))).1 = 0 then wrN p cw d (j + 1) (σ.write p j 64 (byI (cw j))).2 else σ.write p j 64 (byI (cw j))
noncomputable def cws (t : TagT) (w : Nat → GF) (j : Nat) : Nat → GF := GF.cw gC (msgs w (tagW t) j)
open Classical in
noncomputable def good (W : Nat → GF) (p : Int) (t : TagT) (w : Nat → GF) : Prop := (pgS W p).sound = true ∧ (pgS W p).tag = t ∧ (pgS W p).n = 174 ∧ ∀ i, i < 174 → (pgS W p).w i = w i
theorem dataS_n {w : Nat → GF} (h : (dataS 256 w).e = 0) : (dataS 256 w).n = 174 := by
  unfold dataS at *
  rw [if_pos rfl] at *
  split
  · rfl
  · rename_i hn; rw [if_neg hn] at h; cases h
theorem pgS_n {W : Nat → GF} {p : Int} (h : (pgS W p).sound = true) : (pgS W p).n = 174 := by
  unfold pgS at *
  split
  · rename_i he
    rw [if_pos he] at h
    split
    · rename_i ht; rw [ht] at h; cases h
    · rename_i t ht
      rw [ht] at h
      simp only at h
      split
      · rename_i hp
        rw [if_pos hp] at h
        split
        · rename_i hd; exact dataS_n hd
        · rename_i hd; rw [if_neg hd] at h; cases h
      · rename_i hp; rw [if_neg hp] at h; cases h
  · rename_i he; rw [if_neg he] at h; cases h
theorem Gr.cm {c mm : Nat} {m m' : Mem} (h : Gr m m') : Cm c mm m m' := h.ch
theorem Cm.trans {c mm : Nat} {m m' m'' : Mem} (h : Cm c mm m m') (h' : Cm c mm m' m'') : Cm c mm m m'' := Ch.trans h h'
theorem Cm.wrC {c mm : Nat} {m m' : Mem} (h : Cm c mm m m') (cs : List Value) : Cm c mm m (wr m' c cs) := Ch.wr h (.inl (.inl rfl)) cs
/-- how a page was programmed -/
def Prd (M : Mem) (mm c f : Nat) (σ : ChipS) (n : Int) (t : TagT) (p : Int) (nn : Nat) (w : Nat → GF) (r : Value × Mem) : Prop :=
  Cm c mm M r.2 ∧ ((¬ (t.ok ∧ t.place = p ∧ nn = 174) ∧ r.1 = errC 1 ∧ r.2[c]? = some (.live (chipC σ)) ∧ r.2[mm]? = some (.live (medC c f n))) ∨
    (t.ok ∧ t.place = p ∧ nn = 174 ∧ ((wrN p (cws t w) 4 0 σ).1 ≠ 0 ∧ r.1 = errC (wrN p (cws t w) 4 0 σ).1 ∧ r.2[c]? = some (.live (chipC (wrN p (cws t w) 4 0 σ).2)) ∧ r.2[mm]? = some (.live (medC c f n)) ∨
      (wrN p (cws t w) 4 0 σ).1 = 0 ∧ ∃ W : Nat → GF, (∀ (q i : Nat), q < 4 → i < 64 → ((wrN p (cws t w) 4 0 σ).2.at_ p q).now i = ((W (q * 64 + i)).v : Int)) ∧ (good W p t w → r.1 = errC 0) ∧ (¬ good W p t w → r.1 = errC 8) ∧ r.2[c]? = some (.live (chipC ((wrN p (cws t w) 4 0 σ).2.readd p))) ∧ r.2[mm]? = some (.live (medC c f (n + 1))))))
theorem write_on {σ : ChipS} {p q : Int} {n : Nat} {f : Int → Int} (h : (σ.write p q n f).1 = 0) : (σ.write p q n f).2.off = false := by
  unfold ChipS.write at *
  by_cases a1 : ¬ isAt p q
  · rw [if_pos a1] at h; cases h
  by_cases a2 : n ≠ 64
  · rw [if_neg a1, if_pos a2] at h; cases h
  by_cases a3 : σ.off = true
  · rw [if_neg a1, if_neg a2, if_pos a3] at h; cases h
  by_cases a4 : (σ.at_ p q).is = true
  · rw [if_neg a1, if_neg a2, if_neg a3, if_pos a4] at h; cases h
  by_cases a5 : σ.step.1 ≠ 0
  · rw [if_neg a1, if_neg a2, if_neg a3, if_neg a4, if_pos a5] at h; exact absurd h a5
  by_cases a6 : (σ.step.2.b (p / 8)).worn.failed = true
  · rw [if_neg a1, if_neg a2, if_neg a3, if_neg a4, if_neg a5, if_pos a6] at h; cases h
  rw [if_neg a1, if_neg a2, if_neg a3, if_neg a4, if_neg a5, if_neg a6]
  show σ.step.2.off = false
  have a3 : σ.off = false := by simpa using a3
  unfold ChipS.step at *
  split
  · rename_i hc
    rw [if_pos hc] at a5
    split
    · rename_i hb; rw [if_pos hb] at a5; exact absurd (by simp) a5
    · exact a3
  · exact a3
theorem mediaProgram_ok (k : Nat) (hk : 1000 < k) {M : Mem} {mm c f N : Nat} {σ : ChipS} {n : Int} (h : MI M mm c f σ n) (hw : Wf N σ) (hN : N < 3000000000000) (hn : 0 ≤ n ∧ n < 4611686018427387904) {t : TagT} {a : Option Addr} {nn ca : Nat} {w : Nat → GF} (ha : ∀ M', Cm c mm M M' → Src M' a nn w) (p : Int) :
    Ok (media_Media_Program k (some ⟨mm, 0, none⟩) p (tagC t) a nn ca M) (Prd M mm c f σ n t p nn w) := by
  unfold media_Media_Program
  have L5 : Nat.beq (tagC t).length 5 = true := rfl
  have g1 := Gr.app M [.live (tagC t)]
  have x1 : (M ++ [MObj.live (tagC t)])[M.length]? = some (.live (tagC t)) := get_last rfl
  have c1 : ldCells (M ++ [.live (tagC t)]) ⟨M.length, 0, none⟩ 5 = some (tagC t) := by rw [ldCells_of (off := 0) (n := 5) x1 (Nat.le_refl _)]; rfl
  have clt := get_lt h.chip
  have mlt := get_lt h.med
  have ml1 : (M ++ [MObj.live (tagC t)]).length = M.length + 1 := by simp
  simp only [L5, cond_true, c1, Option.bind_some]
  generalize M ++ [.live (tagC t)] = M1 at *
  have n0 : isNil .nilIface = some true := rfl
  have n1 : isNil (errC 1) = some false := rfl
  by_cases hok : t.ok
  · refine .bind (tagEnc_ok k (by omega) hok _) ?_
    rintro ⟨_, _, M2⟩ ⟨q, rfl, rfl, g2, hq1, hq2⟩
    simp only at g2 hq2 ⊢
    have x2 := g2.get x1
    have gg2 := g1.trans g2
    have lp : ldInt .i64 M2 ⟨M.length, 0, none⟩ = some t.place := ldInt_of x2 rfl
    simp only [n0, Option.bind_some, Bool.not_true, cond_false, plus, Nat.zero_add, lp]
    by_cases hpl : t.place = p
    · have b1 : (t.place != p) = false := by rw [hpl]; simp
      have lm : ldPtr M2 ⟨mm, 1, none⟩ = some (some ⟨f, 0, none⟩) := ldPtr_of (gg2.get h.med) rfl
      simp only [b1, cond_false, lm, Option.bind_some]
      by_cases h174 : nn = 174
      · subst h174
        refine .bind (lay_ok k hk (ca := ca) (cb := 50) (h.frm.grow gg2) (ha M2 gg2.cm) (Src.of (sp := some 1) hq2)) ?_
        rintro ⟨_, _, M3⟩ ⟨qq, D, rfl, rfl, g3, hqq, hrow, hD⟩
        simp only at g3 hrow hD ⊢
        have gg3 := gg2.trans g3
        have x3 := g3.get x2
        have h3 := h.grow gg3
        have ml2 := g2.len
        have ml3 := gg2.len
        have ml4 := g3.len
        simp only [n0, Option.bind_some, Bool.not_true, cond_false]
        have cwe : ∀ j, GF.cw gC (msgs w (tagW t) j) = cws t w j := fun j => rfl
        -- the chunks
        refine media_Media_Program_l0_rule k _ _ (fun d x0 x1 x3a x3n x3c x6 x42a x42n x42c x43 x44 M' => (some ⟨mm, 0, none⟩ : Option Addr) = x0 ∧ p = x1 ∧ a = x3a ∧ 174 = x3n ∧ ca = x3c ∧ (⟨M.length, 0, none⟩ : Addr) = x6 ∧ (some ⟨qq, 0, some 1⟩ : Option Addr) = x42a ∧ 4 = x42n ∧ 4 = x42c ∧ (4 : Int) = x43 ∧ ∃ (j : Nat) (σ' : ChipS), x44 = j ∧ j + d = 4 ∧ Wf (N + j) σ' ∧ wrN p (cws t w) 4 0 σ = wrN p (cws t w) d j σ' ∧ M'.length = M3.length ∧ (∀ x, x < M3.length → x ≠ c → M'[x]? = M3[x]?) ∧ M'[c]? = some (.live (chipC σ')) ∧ (0 < j → σ'.off = false)) ?_ k 4 _ _ _ _ _ _ _ _ _ _ _ _ (by omega)
          ⟨rfl, rfl, rfl, rfl, rfl, rfl, rfl, rfl, rfl, rfl, 0, σ, rfl, rfl, hw, rfl, rfl, fun _ _ _ => rfl, h3.chip, fun h => by omega⟩
        rintro d nx _ _ _ _ _ _ _ _ _ _ _ M' ⟨rfl, rfl, rfl, rfl, rfl, rfl, rfl, rfl, rfl, rfl, j, σ', rfl, hd, hw', hwr, hlen, hk', hc', hon⟩ hnx
        unfold media_Media_Program_l0_b
        have med' : M'[mm]? = some (.live (medC c f n)) := by rw [hk' mm (get_lt h3.med) h3.ne]; exact h3.med
        have cm' : Cm c mm M M' := by
          refine ⟨by have := gg3.len; omega, fun x hx hn' => ?_⟩
          rw [hk' x (by have := gg3.len; omega) fun he => hn' (.inl he)]
          obtain ⟨g, hg⟩ := gg3
          rw [hg]; exact get_app_lt hx
        by_cases hj : (j : Int) < 4
        · have tj : Int.toNat (j : Int) = j := Int.toNat_natCast j
          have i1 : inRange (j : Int) 4 = true := inRange_yes (by omega) hj
          obtain ⟨hD1, hD2, hD3, _⟩ := hD j (by omega)
          have qlt := get_lt hrow
          have Dlt := get_lt hD3
          have row' : M'[qq]? = some (.live (sls 4 D (fun _ => 64) none)) := by rw [hk' qq qlt (by omega)]; exact hrow
          have dj : M'[D j]? = some (.live (bys 64 (cws t w j))) := by rw [hk' (D j) Dlt (by omega)]; exact hD3
          have lr : ldSl M' ⟨qq, j, some 1⟩ = some ⟨some ⟨D j, 0, none⟩, 64, 64⟩ := ldSl_of row' (sls_get (by omega))
          have lc : ldPtr M' ⟨mm, 0, none⟩ = some (some ⟨c, 0, none⟩) := ldPtr_of med' rfl
          have hst := hw'.steps
          have e2 := nand_Write_is k hc' ⟨hst.1, by omega⟩ hw'.bud hw'.bf p (j : Int) (a := some ⟨D j, 0, none⟩) (n := 64) (cc := 64) (f := byI (cws t w j)) (by
            intro _ τ'
            exact Src.of (sp := none) (by rw [wr_ne (by omega)]; exact dj))
          simp only [decide_eq_true hj, cond_true, i1, Option.bind_some, tj, Nat.mul_one, plus, Nat.zero_add, lr, lc, e2, isNil_errC]
          have hc2 := wr_get (cs := chipC (σ'.write p j 64 (byI (cws t w j))).2) hc'
          obtain ⟨d', rfl⟩ : ∃ d', d = d' + 1 := ⟨d - 1, by omega⟩
          have hwr2 : wrN p (cws t w) (d' + 1) j σ' = if (σ'.write p j 64 (byI (cws t w j))).1 = 0 then wrN p (cws t w) d' (j + 1) (σ'.write p j 64 (byI (cws t w j))).2 else σ'.write p j 64 (byI (cws t w j)) := rfl
          by_cases he : (σ'.write p j 64 (byI (cws t w j))).1 = 0
          · rw [if_pos he] at hwr2
            simp only [decide_eq_true he, Bool.not_true, cond_false]
            exact hnx d' _ _ _ _ _ _ _ _ _ _ _ _ (by omega) ⟨rfl, rfl, rfl, rfl, rfl, rfl, rfl, rfl, rfl, rfl, j + 1, _, by rw [wrap_i64 (by omega) (by omega)]; push_cast; rfl, by omega, hw'.write p j 64 _, by rw [hwr, hwr2], by rw [wr_len]; exact hlen, fun x hx hxc => by rw [wr_ne (Ne.symm hxc)]; exact hk' x hx hxc, hc2, fun _ => write_on he⟩
          · rw [if_neg he] at hwr2
            rw [decide_eq_false he, Bool.not_false, cond_true]
            refine .some ⟨cm'.wrC _, .inr ⟨hok, hpl, rfl, .inl ⟨by rw [hwr, hwr2]; exact he, by rw [hwr, hwr2], by rw [hwr, hwr2]; exact hc2, ?_⟩⟩⟩
            rw [wr_ne (Ne.symm h3.ne)]; exact med'
        · clear hnx
          obtain rfl : j = 4 := by omega
          obtain rfl : d = 0 := by omega
          have hwr : wrN p (cws t w) 4 0 σ = (0, σ') := hwr
          have hp : 0 ≤ p ∧ p < 96 := by rw [← hpl]; exact ⟨hok.1, hok.2.1⟩
          have h4 : MI M' mm c f σ' n := h.step cm' hc' med'
          rw [decide_eq_false hj, cond_false]
          refine .bind (mediaRead_ok k hk h4 hw' (by omega) hn p hp (hon (by omega))) ?_
          rintro ⟨pc, ev, M5⟩ ⟨W, R, L, hW, rfl, rfl, hR, hR2, cm5, hc5, hm5⟩
          simp only at hR cm5 hc5 hm5 ⊢
          have hz : ([.bool false, .int .i64 0, .int .i64 0, .int .i64 0, .int .i64 0, .bool false, .bool false, .slice none 0 0, .int .i64 0] : List Value) = pgC (.no 0) none := rfl
          have L9 : Nat.beq (pgC (pgS W p) R).length 9 = true := rfl
          have st9 : stCells (M5 ++ [.live (pgC (.no 0) none)]) ⟨M5.length, 0, none⟩ (pgC (pgS W p) R) = some (M5 ++ [.live (pgC (pgS W p) R)]) := by rw [stCells_wr (get_last rfl) (Nat.le_refl _), wr_last rfl]; rfl
          have g6 := Gr.app M5 [.live (pgC (pgS W p) R)]
          have x6 : (M5 ++ [MObj.live (pgC (pgS W p) R)])[M5.length]? = some (.live (pgC (pgS W p) R)) := get_last rfl
          simp only [hz, L9, cond_true, st9, Option.bind_some, n0, Bool.not_true, cond_false]
          have xt5 : M5[M.length]? = some (.live (tagC t)) := by
            have y1 : M'[M.length]? = some (.live (tagC t)) := by rw [hk' M.length (by omega) (by omega)]; exact x3
            exact cm5.old y1 (by rintro (he | he) <;> omega)
          have xt6 := g6.get xt5
          have cm6 : Cm c mm M (M5 ++ [.live (pgC (pgS W p) R)]) := (cm'.trans cm5).trans g6.cm
          have hc6 := g6.get hc5
          have hm6 := g6.get hm5
          have hR6 := hR.grow g6
          generalize M5 ++ [.live (pgC (pgS W p) R)] = M6 at *
          have l6 : ldBool M6 ⟨M5.length, 6, none⟩ = some (pgS W p).sound := ldBool_of x6 rfl
          have fin : ∀ e : Int, (good W p t w → e = 0) → (¬ good W p t w → e = 8) → Prd M mm c f σ n t p 174 w (errC e, M6) := fun e h1 h2 =>
            ⟨cm6, .inr ⟨hok, hpl, rfl, .inr ⟨by rw [hwr], W, by rw [hwr]; exact hW, fun hg => by rw [h1 hg], fun hg => by rw [h2 hg], by rw [hwr]; exact hc6, hm6⟩⟩⟩
          have h8 : (Value.iface ty_api_Code (.int .i64 8)) = errC 8 := rfl
          simp only [plus, Nat.zero_add, l6, Option.bind_some, h8]
          cases hs : (pgS W p).sound with
          | false =>
            simp only [Bool.not_false, cond_true]
            exact .some (fin 8 (fun hg => by rw [hg.1] at hs; cases hs) fun _ => rfl)
          | true =>
            have ct1 : ldCells M6 ⟨M5.length, 1, none⟩ 5 = some (tagC (pgS W p).tag) := by rw [ldCells_of (off := 1) (n := 5) x6 (by simp [pgC])]; rfl
            have ct2 : ldCells M6 ⟨M.length, 0, none⟩ 5 = some (tagC t) := by rw [ldCells_of (off := 0) (n := 5) xt6 (Nat.le_refl _)]; rfl
            obtain ⟨b, bq1, bq2⟩ := tag_eq (pgS W p).tag t
            simp only [Bool.not_true, cond_false, ct1, Option.bind_some, ct2, bq1]
            cases b with
            | false =>
              simp only [Bool.not_false, cond_true]
              exact .some (fin 8 (fun hg => by have := bq2.2 hg.2.1; cases this) fun _ => rfl)
            | true =>
              have n174 := pgS_n hs
              have l7 : ldSl M6 ⟨M5.length, 7, none⟩ = some ⟨rowA R, (pgS W p).n, (pgS W p).n⟩ := ldSl_of x6 rfl
              have sr := hR6.src
              obtain ⟨z, z1, z2⟩ := bytesEq_is k (m := M6) (c := (pgS W p).n) (c' := ca) sr (ha M6 cm6) (by omega) (by omega)
              simp only [Bool.not_true, cond_false, l7, Option.bind_some, z1]
              cases z with
              | false =>
                simp only [Bool.not_false, cond_true]
                exact .some (fin 8 (fun hg => by have := z2.2 ⟨hg.2.2.1, fun i hi => hg.2.2.2 i (by omega)⟩; cases this) fun _ => rfl)
              | true =>
                simp only [Bool.not_true, cond_false]
                exact .some (fin 0 (fun _ => rfl) fun hng => absurd ⟨hs, bq2.1 rfl, n174, fun i hi => (z2.1 rfl).2 i (by omega)⟩ hng)
      · refine .bind (lay_no k (fun h => h174 h.1)) ?_
        rintro ⟨_, _, M3⟩ ⟨rfl, rfl, g3⟩
        simp only [Option.bind_some, n1, Bool.not_false, cond_true] at g3 ⊢
        have gg3 := gg2.trans g3
        exact .some ⟨gg3.cm, .inl ⟨fun h => h174 h.2.2, rfl, gg3.get h.chip, gg3.get h.med⟩⟩
    · have b1 : (t.place != p) = true := by simpa using hpl
      rw [b1, cond_true]
      exact .some ⟨gg2.cm, .inl ⟨fun h => hpl h.2.1, rfl, gg2.get h.chip, gg2.get h.med⟩⟩
  · refine .bind (tagEnc_no k hok _) ?_
    rintro ⟨_, _, M2⟩ ⟨rfl, rfl, g2⟩
    simp only [n1, Option.bind_some, Bool.not_false, cond_true] at g2 ⊢
    have gg2 := g1.trans g2
    exact .some ⟨gg2.cm, .inl ⟨fun h => hok h.1, rfl, gg2.get h.chip, gg2.get h.med⟩⟩
end Go.Proofs.Ytchonnaoojpdoaa

/- The layer's own example. -/
set_option linter.unusedVariables false
set_option linter.unusedSectionVars false
set_option linter.unusedSimpArgs false
namespace Go.Proofs.Ytchonnaoojpdoaa
open Go.Mx

theorem zero_code : GF.Code fun _ => 0 := by
  have h := GF.cw_code gC_gen fun _ => 0
  have h2 := h.add h
  have : (fun i => GF.cw gC (fun _ => 0) i + GF.cw gC (fun _ => 0) i) = fun _ => (0 : GF) := funext fun i => GF.add_self _
  rwa [this] at h2

end Go.Proofs.Ytchonnaoojpdoaa

/- What the laws' helpers of the frame do. -/
set_option linter.unusedVariables false
set_option linter.unusedSectionVars false
set_option linter.unusedSimpArgs false
namespace Go.Proofs.Ytchonnaoojpdoaa
open Go.Mx

theorem wf64 {z : Int} (h : (Lit.int .i64 z).wf = true) : -9223372036854775808 ≤ z ∧ z < 9223372036854775808 := by
  have e1 : IntKind.i64.min = -9223372036854775808 := rfl
  have e2 : IntKind.i64.max = 9223372036854775807 := rfl
  simp only [Lit.wf, e1, e2, Bool.and_eq_true, decide_eq_true_eq] at h
  omega
theorem wf8 {z : Int} (h : (Lit.int .u8 z).wf = true) : 0 ≤ z ∧ z < 256 := by
  have e1 : IntKind.u8.min = 0 := rfl
  have e2 : IntKind.u8.max = 255 := rfl
  simp only [Lit.wf, e1, e2, Bool.and_eq_true, decide_eq_true_eq] at h
  omega

/-! ## distances -/
theorem df_put (y : Nat → GF) {i : Nat} (hi : i < 64) (b : GF) : GF.df (put y i b) y ≤ 1 := by
  by_cases h : b = y i
  · rw [GF.df_self fun j _ => by unfold put; split <;> simp_all]; omega
  · refine Nat.le_of_eq (GF.wt_single (i0 := i) hi ?_ fun j hj hne => ?_)
    · show put y i b i + y i ≠ 0
      unfold put; rw [if_pos rfl]
      exact fun h0 => h (GF.add_eq_zero.1 h0)
    · show put y i b j + y j = 0
      unfold put; rw [if_neg hne, GF.add_self]
def ind8 : Nat → GF := fun j => if 50 ≤ j ∧ j < 58 then 1 else 0
theorem ind8_wt : GF.wt ind8 64 = 8 := by decide +kernel
theorem mrk_ff : (List.range 8).all (fun i => mrk i != GF.of 255) = true := by decide +kernel
/-- what is marked is far from what is blank -/
theorem marked_far {u : Nat → GF} (h : marked u) : 8 ≤ GF.df u fun _ => GF.of 255 := by
  rw [← ind8_wt]
  refine GF.wt_le fun i hi h0 => ?_
  unfold ind8
  split
  · rename_i hr
    exfalso
    have h1 := h (i - 50) (by omega)
    rw [show 50 + (i - 50) = i by omega] at h1
    have h2 := List.all_eq_true.1 mrk_ff (i - 50) (List.mem_range.2 (by omega))
    rw [h1] at h0
    rw [GF.add_eq_zero.1 h0] at h2
    simp at h2
  · rfl
theorem blank_not {y : Nat → GF} (hy : GF.df y (fun _ => GF.of 255) ≤ 4) {u : Nat → GF} {n : Nat} (hd : GF.dec y = some (u, n)) : ¬ marked u := by
  intro hm
  have h8 := marked_far hm
  rcases GF.dec_spec y with ⟨c, n', q1, _, q3, q4⟩ | ⟨q1, _⟩
  · rw [q1] at hd
    simp only [Option.some.injEq, Prod.mk.injEq] at hd
    obtain ⟨rfl, rfl⟩ := hd
    have := GF.df_tri c y (fun _ => GF.of 255)
    have hc := GF.df_comm c y
    omega
  · rw [q1] at hd; cases hd
end Go.Proofs.Ytchonnaoojpdoaa

/- The media: what is told of a page near to what was programmed; what is programmed on a chip that nobody harmed. -/
set_option linter.unusedVariables false
set_option linter.unusedSectionVars false
set_option linter.unusedSimpArgs false
namespace Go.Proofs.Ytchonnaoojpdoaa
open Go.Mx

theorem mdec_le {y c : Nat → GF} (hc : GF.Code c) (h : GF.df y c ≤ 2) : ∃ v, GF.dec y = some (v, GF.df y c) ∧ ∀ i, i < 64 → v i = c i := GF.dec_of hc rfl h
theorem mdec_34 {y c : Nat → GF} (hc : GF.Code c) (h : 2 < GF.df y c) (h4 : GF.df y c ≤ 4) : GF.dec y = none := by
  rcases GF.dec_spec y with ⟨u, n, q1, q2, q3, q4⟩ | ⟨q1, _⟩
  · exfalso
    have htri := GF.df_tri u y c
    have hcm := GF.df_comm u y
    have hu := q2.near hc (by omega)
    have : GF.df y u = GF.df y c := GF.wt_congr fun i hi => by rw [hu i hi]
    omega
  · exact q1
theorem cws_code (t : TagT) (w : Nat → GF) (j : Nat) : GF.Code (cws t w j) := GF.cw_code gC_gen _
theorem cws_msg (t : TagT) (w : Nat → GF) (j i : Nat) (hi : i < 58) : cws t w j i = msgs w (tagW t) j i := by unfold cws GF.cw; rw [if_pos hi]
/-- how far a page's chunk is from what it was -/
noncomputable def far (W : Nat → GF) (t : TagT) (w : Nat → GF) (j : Nat) : Nat := GF.df (wd W j) (cws t w j)
section
variable {W : Nat → GF} {t : TagT} {w : Nat → GF}
theorem msgS_near {j : Nat} (hj : j < 4) (h : far W t w j ≤ 2) : (msgS 256 W (j : Int)).e = 0 ∧ (msgS 256 W (j : Int)).a = far W t w j := by
  obtain ⟨v, h1, h2⟩ := mdec_le (cws_code t w j) h
  unfold msgS
  rw [if_pos ⟨rfl, by omega, by omega⟩, Int.toNat_natCast, h1]
  exact ⟨rfl, rfl⟩
theorem msgS_far {j : Nat} (hj : j < 4) (h : 2 < far W t w j) (h4 : far W t w j ≤ 4) : (msgS 256 W (j : Int)).e ≠ 0 := by
  unfold msgS
  rw [if_pos ⟨rfl, by omega, by omega⟩, Int.toNat_natCast, mdec_34 (cws_code t w j) h h4]
  simp [Told.no]
theorem mxm_le (h : ∀ j, j < 4 → far W t w j ≤ 4) : ∀ k, k ≤ 4 → mxm W k ≤ 2
  | 0, _ => by show 0 ≤ 2; omega
  | k + 1, hk => by
    have ih := mxm_le h k (by omega)
    show (if (msgS 256 W (k : Int)).e = 0 then max (mxm W k) (msgS 256 W (k : Int)).a else mxm W k) ≤ 2
    by_cases hn : far W t w k ≤ 2
    · obtain ⟨h1, h2⟩ := msgS_near (by omega) hn
      rw [if_pos h1, h2]; omega
    · rw [if_neg (msgS_far (by omega) (by omega) (h k (by omega)))]; exact ih
theorem mxm_all (h : ∀ j, j < 4 → far W t w j ≤ 2) : ∀ k, k ≤ 4 → mxm W k = mxN (far W t w) k
  | 0, _ => rfl
  | k + 1, hk => by
    have ih := mxm_all h k (by omega)
    obtain ⟨h1, h2⟩ := msgS_near (j := k) (by omega) (h k (by omega))
    show (if (msgS 256 W (k : Int)).e = 0 then max (mxm W k) (msgS 256 W (k : Int)).a else mxm W k) = _
    rw [if_pos h1, h2, ih]; rfl
theorem bodyS_near (h : far W t w 3 ≤ 2) : (bodyS 256 W).e = 0 ∧ ∀ i, i < 50 → (bodyS 256 W).w i = tagW t i := by
  obtain ⟨v, h1, h2⟩ := mdec_le (cws_code t w 3) h
  have hm : ∀ i, i < 58 → v i = sealed (tagW t) i := fun i hi => by
    rw [h2 i (by omega), cws_msg t w 3 i hi]
    show whole w (tagW t) (3 * 58 + i) = _
    unfold whole
    rw [if_neg (show ¬ 3 * 58 + i < 174 by omega), show 3 * 58 + i - 174 = i by omega]
  have hmk : marked v := fun i hi => by
    rw [hm (50 + i) (by omega)]
    unfold sealed
    rw [if_neg (show ¬ 50 + i < 50 by omega), show 50 + i - 50 = i by omega]
  unfold bodyS
  rw [if_pos rfl, h1]
  simp only [if_pos hmk]
  refine ⟨trivial, fun i hi => ?_⟩
  rw [hm i (by omega)]
  unfold sealed
  rw [if_pos hi]
theorem bodyS_far (h : 2 < far W t w 3) (h4 : far W t w 3 ≤ 4) : (bodyS 256 W).e ≠ 0 := by
  unfold bodyS
  rw [if_pos rfl, mdec_34 (cws_code t w 3) h h4]
  simp [Told.no]
theorem dataS_near (h0 : far W t w 0 ≤ 2) (h1 : far W t w 1 ≤ 2) (h2 : far W t w 2 ≤ 2) : (dataS 256 W).e = 0 ∧ (dataS 256 W).n = 174 ∧ ∀ i, i < 174 → (dataS 256 W).w i = w i := by
  have key : ∀ j, j < 3 → dIs W j ∧ ∀ i, i < 58 → dW W j i = msgs w (tagW t) j i := fun j hj => by
    have hf : far W t w j ≤ 2 := by
      have : j = 0 ∨ j = 1 ∨ j = 2 := by omega
      rcases this with rfl | rfl | rfl <;> assumption
    obtain ⟨v, a1, a2⟩ := mdec_le (cws_code t w j) hf
    unfold dIs dW
    rw [a1]
    refine ⟨by simp, fun i hi => ?_⟩
    show v i = _
    rw [a2 i (by omega), cws_msg t w j i hi]
  unfold dataS
  rw [if_pos rfl, if_pos ⟨(key 0 (by omega)).1, (key 1 (by omega)).1, (key 2 (by omega)).1⟩]
  refine ⟨rfl, rfl, fun i hi => ?_⟩
  show dW W (i / 58) (i % 58) = _
  rw [(key (i / 58) (by omega)).2 (i % 58) (by omega)]
  show whole w (tagW t) (i / 58 * 58 + i % 58) = _
  rw [show i / 58 * 58 + i % 58 = i by omega]
  unfold whole
  rw [if_pos hi]
theorem dataS_far {j : Nat} (hj : j < 3) (h : 2 < far W t w j) (h4 : far W t w j ≤ 4) : (dataS 256 W).e ≠ 0 := by
  have hn := mdec_34 (cws_code t w j) h h4
  unfold dataS
  rw [if_pos rfl, if_neg]
  · simp [Told.no]
  · rintro ⟨a, b, c⟩
    have : j = 0 ∨ j = 1 ∨ j = 2 := by omega
    rcases this with rfl | rfl | rfl
    · exact a hn
    · exact b hn
    · exact c hn
/-- what is told of a page, at most four bytes of each chunk away -/
theorem pgS_near (hok : t.ok) (h4 : ∀ j, j < 4 → far W t w j ≤ 4) : (pgS W t.place).dmg = mxm W 4 ∧ ((pgS W t.place).tagged = true ↔ far W t w 3 ≤ 2) ∧ ((pgS W t.place).tagged = true → (pgS W t.place).tag = t) ∧
    ((pgS W t.place).sound = true ↔ far W t w 3 ≤ 2 ∧ far W t w 0 ≤ 2 ∧ far W t w 1 ≤ 2 ∧ far W t w 2 ≤ 2) ∧ ((pgS W t.place).sound = true → (pgS W t.place).n = 174 ∧ ∀ i, i < 174 → (pgS W t.place).w i = w i) ∧ ((pgS W t.place).sound = false → (pgS W t.place).n = 0) := by
  by_cases h3 : far W t w 3 ≤ 2
  · obtain ⟨e1, e2⟩ := bodyS_near h3
    have e3 := tagD_self hok e2
    by_cases hd : far W t w 0 ≤ 2 ∧ far W t w 1 ≤ 2 ∧ far W t w 2 ≤ 2
    · obtain ⟨d1, d2, d3⟩ := dataS_near hd.1 hd.2.1 hd.2.2
      have e : pgS W t.place = ⟨true, t, true, (dataS 256 W).n, (dataS 256 W).w, mxm W 4⟩ := by
        unfold pgS
        rw [if_pos e1, e3]
        simp only [if_true, if_pos d1]
      rw [e]
      exact ⟨rfl, ⟨fun _ => h3, fun _ => rfl⟩, fun _ => rfl, ⟨fun _ => ⟨h3, hd⟩, fun _ => rfl⟩, fun _ => ⟨d2, d3⟩, (fun h => nomatch h)⟩
    · have d1 : (dataS 256 W).e ≠ 0 := by
        by_cases a0 : far W t w 0 ≤ 2
        · by_cases a1 : far W t w 1 ≤ 2
          · by_cases a2 : far W t w 2 ≤ 2
            · exact absurd ⟨a0, a1, a2⟩ hd
            · exact dataS_far (j := 2) (by omega) (by omega) (h4 2 (by omega))
          · exact dataS_far (j := 1) (by omega) (by omega) (h4 1 (by omega))
        · exact dataS_far (j := 0) (by omega) (by omega) (h4 0 (by omega))
      have e : pgS W t.place = ⟨true, t, false, 0, fun _ => 0, mxm W 4⟩ := by
        unfold pgS
        rw [if_pos e1, e3]
        simp only [if_true, if_neg d1]
      rw [e]
      exact ⟨rfl, ⟨fun _ => h3, fun _ => rfl⟩, fun _ => rfl, ⟨(fun h => nomatch h), fun h => absurd h.2 hd⟩, (fun h => nomatch h), fun _ => rfl⟩
  · have e1 := bodyS_far (by omega) (h4 3 (by omega))
    have e : pgS W t.place = .no (mxm W 4) := by unfold pgS; rw [if_neg e1]
    rw [e]
    exact ⟨rfl, ⟨(fun h => nomatch h), fun h => absurd h h3⟩, (fun h => nomatch h), ⟨(fun h => nomatch h), fun h => absurd h.1 h3⟩, (fun h => nomatch h), fun _ => rfl⟩
/-- a blank tag's chunk, at most four bytes of it damaged, is no tag -/
theorem pgS_blank {p : Int} (h : GF.df (wd W 3) (fun _ => GF.of 255) ≤ 4) : pgS W p = .no (mxm W 4) := by
  unfold pgS
  rw [if_neg]
  unfold bodyS
  rw [if_pos rfl]
  split
  · rename_i u a hd
    rw [if_neg (blank_not h hd)]
    simp [Told.no]
  · simp [Told.no]
end

/-! ## bytes that differ -/
theorem cnt_wt {f g : Int → Int} {u w : Nat → GF} : ∀ n : Nat, (∀ i : Nat, i < n → f i = ((u i).v : Int)) → (∀ i : Nat, i < n → g i = ((w i).v : Int)) → cntNe f g n = ((GF.wt (fun i => u i + w i) n : Nat) : Int)
  | 0, _, _ => rfl
  | n + 1, hf, hg => by
    rw [cntNe_succ, cnt_wt n (fun i hi => hf i (by omega)) (fun i hi => hg i (by omega)), hf n (by omega), hg n (by omega)]
    show _ = ((GF.wt (fun i => u i + w i) n + if u n + w n = 0 then 0 else 1 : Nat) : Int)
    by_cases h : u n = w n
    · rw [if_neg (by rw [h]; simp), if_pos (by rw [h, GF.add_self])]; push_cast; rfl
    · rw [if_pos (fun he => h (GF.v_inj (by omega))), if_neg (fun he => h (GF.add_eq_zero.1 he))]; push_cast; rfl

/-! ## chips that nobody harms -/
theorem put_at' (σ : ChipS) {p k p' k' : Int} (c : ChunkS) (h0 : 0 ≤ p) (h0' : 0 ≤ p') (hk : 0 ≤ k ∧ k < 4) (hk' : 0 ≤ k' ∧ k' < 4) : (σ.put p k c).at_ p' k' = if p' = p ∧ k' = k then c else σ.at_ p' k' := by
  show (upd σ.b (p / 8) ((σ.b (p / 8)).updC (p % 8 * 4 + k) c) (p' / 8)).ch (p' % 8 * 4 + k') = _
  unfold upd
  by_cases h1 : p' / 8 = p / 8
  · rw [if_pos h1]
    show upd (σ.b (p / 8)).ch (p % 8 * 4 + k) c (p' % 8 * 4 + k') = _
    unfold upd
    by_cases h2 : p' % 8 * 4 + k' = p % 8 * 4 + k
    · rw [if_pos h2, if_pos (by omega)]
    · rw [if_neg h2, if_neg (by omega)]
      show _ = (σ.b (p' / 8)).ch _
      rw [h1]
  · rw [if_neg h1, if_neg (by rintro ⟨rfl, _⟩; exact h1 rfl)]; rfl
structure Pg (σ : ChipS) (p : Int) (cw : Nat → Nat → GF) (j : Nat) : Prop where
  bf : ∀ x, (σ.b x).before = 0 ∧ (σ.b x).failed = false
  done : ∀ q : Nat, q < j → σ.at_ p q = ⟨byI (cw q), byI (cw q), true, 0⟩
  todo : ∀ q : Nat, j ≤ q → q < 4 → σ.at_ p q = blank
  rest : ∀ p' q : Int, 0 ≤ p' → p' ≠ p → 0 ≤ q → q < 4 → σ.at_ p' q = blank
theorem Pg.congr {σ σ' : ChipS} {p : Int} {cw : Nat → Nat → GF} {j : Nat} (h : Pg σ p cw j) (hb : σ'.b = σ.b) : Pg σ' p cw j := by
  have ha : ∀ p q, σ'.at_ p q = σ.at_ p q := fun p q => by unfold ChipS.at_; rw [hb]
  exact ⟨by rw [hb]; exact h.bf, fun q hq => by rw [ha]; exact h.done q hq, fun q h1 h2 => by rw [ha]; exact h.todo q h1 h2, fun p' q h1 h2 h3 h4 => by rw [ha]; exact h.rest p' q h1 h2 h3 h4⟩
theorem Pg.fresh (p : Int) (cw : Nat → Nat → GF) : Pg fresh p cw 0 := ⟨fun _ => ⟨rfl, rfl⟩, fun q h => by omega, fun _ _ _ => rfl, fun _ _ _ _ _ _ => rfl⟩
theorem Pg.write {σ : ChipS} {p : Int} {cw : Nat → Nat → GF} {j : Nat} (h : Pg σ p cw j) (hp : 0 ≤ p ∧ p < 96) (hj : j < 4) (ho : σ.off = false) :
    (σ.step.1 = 0 → (σ.write p j 64 (byI (cw j))).1 = 0 ∧ (σ.write p j 64 (byI (cw j))).2 = σ.step.2.put p j ⟨byI (cw j), byI (cw j), true, 0⟩ ∧ Pg (σ.write p j 64 (byI (cw j))).2 p cw (j + 1)) ∧ (σ.step.1 ≠ 0 → σ.write p j 64 (byI (cw j)) = σ.step) := by
  have e := write_plain (σ := σ) (p := p) (q := j) (f := byI (cw j)) ⟨hp.1, hp.2, by omega, by omega⟩ (h.bf _).1 (h.bf _).2
  have his : (σ.at_ p j).is = false := by rw [h.todo j (Nat.le_refl _) hj]; rfl
  rw [if_neg (by rw [ho]; simp), if_neg (by rw [his]; simp)] at e
  constructor
  · intro hs
    rw [if_neg (not_not_intro hs)] at e
    rw [e]
    refine ⟨rfl, rfl, ⟨fun x => ?_, fun q hq => ?_, fun q h1 h2 => ?_, fun p' q h1 h2 h3 h4 => ?_⟩⟩
    · show ((upd σ.step.2.b (p / 8) ((σ.step.2.b (p / 8)).updC _ _)) x).before = 0 ∧ ((upd σ.step.2.b (p / 8) ((σ.step.2.b (p / 8)).updC _ _)) x).failed = false
      rw [step_b]
      unfold upd
      split
      · exact h.bf (p / 8)
      · exact h.bf x
    · rw [put_at' _ _ hp.1 hp.1 ⟨by omega, by omega⟩ ⟨by omega, by omega⟩]
      by_cases hqj : q = j
      · subst hqj; rw [if_pos ⟨rfl, rfl⟩]
      · rw [if_neg (fun hh => hqj (by have := hh.2; omega))]
        have := h.done q (by omega)
        unfold ChipS.at_ at *; rw [step_b]; exact this
    · rw [put_at' _ _ hp.1 hp.1 ⟨by omega, by omega⟩ ⟨by omega, by omega⟩, if_neg (fun hh => by have := hh.2; omega)]
      have := h.todo q (by omega) h2
      unfold ChipS.at_ at *; rw [step_b]; exact this
    · rw [put_at' _ _ hp.1 h1 ⟨by omega, by omega⟩ ⟨h3, h4⟩, if_neg (fun hh => h2 hh.1)]
      have := h.rest p' q h1 h2 h3 h4
      unfold ChipS.at_ at *; rw [step_b]; exact this
  · intro hs
    rw [if_pos hs] at e
    exact e
/-- a whole page -/
theorem Pg.whole {p : Int} {cw : Nat → Nat → GF} (hp : 0 ≤ p ∧ p < 96) : ∀ (d j : Nat) (σ : ChipS), j + d = 4 → Pg σ p cw j → σ.off = false → (σ.cut = true → 0 ≤ σ.budget) →
    (((σ.cut = true → d ≤ σ.budget) → (wrN p cw d j σ).1 = 0 ∧ Pg (wrN p cw d j σ).2 p cw 4 ∧ (wrN p cw d j σ).2.off = false) ∧
      (σ.cut = true ∧ σ.budget < d → (wrN p cw d j σ).1 = 7 ∧ Pg (wrN p cw d j σ).2 p cw (j + σ.budget.toNat)))
  | 0, j, σ, hj, h, ho, hb => by
    obtain rfl : j = 4 := by omega
    exact ⟨fun _ => ⟨rfl, h, ho⟩, fun hh => by have := hb hh.1; have := hh.2; omega⟩
  | d + 1, j, σ, hj, h, ho, hb => by
    obtain ⟨w1, w2⟩ := h.write hp (by omega) ho
    have hwr : wrN p cw (d + 1) j σ = if (σ.write p j 64 (byI (cw j))).1 = 0 then wrN p cw d (j + 1) (σ.write p j 64 (byI (cw j))).2 else σ.write p j 64 (byI (cw j)) := rfl
    by_cases hs : σ.step.1 = 0
    · obtain ⟨a1, a2, a3⟩ := w1 hs
      rw [if_pos a1] at hwr
      have co : (σ.write p j 64 (byI (cw j))).2.off = false := write_on a1
      have ct : (σ.write p j 64 (byI (cw j))).2.cut = σ.cut := by
        rw [a2]; show σ.step.2.cut = _
        unfold ChipS.step; split <;> (try split) <;> rfl
      have cb : σ.cut = true → (σ.write p j 64 (byI (cw j))).2.budget = σ.budget - 1 ∧ 0 < σ.budget := fun hc => by
        rw [a2]; show σ.step.2.budget = _ ∧ _
        unfold ChipS.step at hs ⊢
        rw [if_pos hc] at hs ⊢
        by_cases hz : σ.budget = 0
        · rw [if_pos hz] at hs; cases hs
        · rw [if_neg hz]; have := hb hc; exact ⟨rfl, by omega⟩
      obtain ⟨i1, i2⟩ := Pg.whole hp d (j + 1) _ (by omega) a3 co (fun hc => by rw [ct] at hc; have := cb hc; omega)
      rw [hwr]
      refine ⟨fun hh => i1 fun hc => by rw [ct] at hc; have := cb hc; have := hh hc; omega, fun hh => ?_⟩
      have c1 := cb hh.1
      obtain ⟨y1, y2⟩ := i2 ⟨by rw [ct]; exact hh.1, by have := hh.2; omega⟩
      refine ⟨y1, ?_⟩
      rw [c1.1, show j + 1 + (σ.budget - 1).toNat = j + σ.budget.toNat by omega] at y2
      exact y2
    · have e := w2 hs
      rw [e, if_neg hs] at hwr
      rw [hwr]
      have hc : σ.cut = true ∧ σ.budget = 0 := by
        unfold ChipS.step at hs
        split at hs
        · rename_i hc
          split at hs
          · rename_i hz; exact ⟨hc, hz⟩
          · exact absurd rfl hs
        · exact absurd rfl hs
      have es : σ.step = (7, { σ with off := true }) := by unfold ChipS.step; rw [if_pos hc.1, if_pos hc.2]
      refine ⟨fun hh => ?_, fun hh => ?_⟩
      · have := hh hc.1; rw [hc.2] at this; omega
      · rw [es, hc.2]
        exact ⟨rfl, h.congr rfl⟩
theorem mflip_at (σ : ChipS) (p b q : Int) : (σ.flip p b).at_ p q = if q = b / 512 then (σ.at_ p (b / 512)).mark (flipC (σ.at_ p (b / 512)) (b / 8 % 64) (b % 8)) else σ.at_ p q := by
  show (upd σ.b (p / 8) _ (p / 8)).ch (p % 8 * 4 + q) = _
  rw [upd_same]
  show upd (σ.b (p / 8)).ch (p % 8 * 4 + b / 512) _ (p % 8 * 4 + q) = _
  unfold upd
  by_cases h : q = b / 512
  · rw [if_pos (by omega), if_pos h]
  · rw [if_neg (by omega), if_neg h]; rfl
theorem mflip_tru (σ : ChipS) (p b q : Int) : ((σ.flip p b).at_ p q).tru = (σ.at_ p q).tru ∧ ((σ.flip p b).at_ p q).is = (σ.at_ p q).is := by
  rw [mflip_at]
  split
  · rename_i h; subst h; exact ⟨rfl, rfl⟩
  · exact ⟨rfl, rfl⟩
end Go.Proofs.Ytchonnaoojpdoaa

/- The media: what its laws begin with. -/
set_option linter.unusedVariables false
set_option linter.unusedSectionVars false
set_option linter.unusedSimpArgs false
namespace Go.Proofs.Ytchonnaoojpdoaa
open Go.Mx

theorem data_ok8 (k : Nat) (hk : 1000 < k) (m : Mem) (v : Int) : ∃ w, patinalaw08_data k 174 v m = some (⟨some ⟨m.length, 0, none⟩, 174, 174⟩, m ++ [.live (bys 174 w)]) := by
  let w : Nat → GF := fun i => GF.of ((v + IntKind.wrap .u8 (IntKind.wrap .i64 (7 * (i : Int)))) % 256).toNat
  refine ⟨w, ?_⟩
  have key : Ok (patinalaw08_data k 174 v m) fun r => r = (⟨some ⟨m.length, 0, none⟩, 174, 174⟩, m ++ [.live (bys 174 w)]) := by
    unfold patinalaw08_data
    have hb : (tt 5).bytes = 1 := rfl
    have hm : ((most : Nat) : Int) = 140737488355328 := rfl
    have c0 : (decide ((0 : Int) ≤ 174) && decide ((174 : Int) ≤ 174) && decide ((174 : Int) * ((1 : Nat) : Int) ≤ 140737488355328) && decide ((174 : Int) ≤ 140737488355328)) = true := rfl
    have t174 : Int.toNat 174 = 174 := rfl
    rw [hb, hm, c0, cond_true, t174]
    rw [bys_zero]
    refine patinalaw08_data_l0_rule k _ (fun r x0 x1 x5a x5n x5c x6 m' => (174 : Int) = x0 ∧ v = x1 ∧ (some ⟨m.length, 0, none⟩ : Option Addr) = x5a ∧ 174 = x5n ∧ 174 = x5c ∧ ∃ i : Nat, x6 = i ∧ i + r = 174 ∧ m' = m ++ [.live (bys 174 fun j => if j < i then w j else 0)]) ?_ k 174 _ _ _ _ _ _ _ (by omega)
      ⟨rfl, rfl, rfl, rfl, rfl, 0, rfl, by omega, by rw [bys_congr (u := fun j => if j < 0 then w j else 0) (w := fun _ => 0) fun i _ => if_neg (by omega)]⟩
    rintro r nx _ _ _ _ _ _ _ ⟨rfl, rfl, rfl, rfl, rfl, i, rfl, hr, rfl⟩ hnx
    unfold patinalaw08_data_l0_b
    by_cases hi : (i : Int) < 174
    · have i1 : inRange (i : Int) 174 = true := inRange_yes (by omega) hi
      have ti : Int.toNat (i : Int) = i := Int.toNat_natCast i
      have e1 : IntKind.wrap .u8 (v + IntKind.wrap .u8 (IntKind.wrap .i64 (7 * (i : Int)))) = ((w i).v : Int) := wrapC _
      have s1 := bys_st (sp := none) (get_last (m := m) (o := .live (bys 174 fun j => if j < i then w j else 0)) rfl) (i := i) (by omega) (w i)
      rw [wr_last rfl] at s1
      simp only [decide_eq_true hi, cond_true, i1, Option.bind_some, ti, Nat.mul_one, plus, Nat.zero_add, e1, s1]
      refine hnx (r - 1) _ _ _ _ _ _ _ (by omega) ⟨rfl, rfl, rfl, rfl, rfl, i + 1, by rw [wrap_i64 (by omega) (by omega)]; push_cast; rfl, by omega, ?_⟩
      rw [bys_congr (n := 174) (u := put (fun j => if j < i then w j else 0) i (w i)) (w := fun j => if j < i + 1 then w j else 0) fun j hj => ?_]
      unfold put
      split
      · rename_i h; subst h; rw [if_pos (by omega)]
      · show (if j < i then w j else 0) = _
        by_cases h2 : j < i
        · rw [if_pos h2, if_pos (by omega)]
        · rw [if_neg h2, if_neg (by omega)]
    · obtain rfl : i = 174 := by omega
      rw [decide_eq_false hi, cond_false]
      refine .some ?_
      rw [bys_congr (u := fun j => if j < 174 then w j else 0) (w := w) fun j hj => if_pos hj]
  obtain ⟨r, h2, rfl⟩ := key
  exact h2
theorem pick8 (k : Nat) (v n : Int) (hv : -9223372036854775808 ≤ v ∧ v < 9223372036854775808) (hn : 0 < n) : ∃ r, (∀ M, patinalaw08_pick k v n M = some (r, M)) ∧ 0 ≤ r ∧ r < n := by
  by_cases h : v < 0
  · refine ⟨(-(v + 1)) % n, fun M => ?_, Int.emod_nonneg _ (by omega), Int.emod_lt_of_pos _ hn⟩
    unfold patinalaw08_pick patinalaw08_pick_j1
    simp (disch := omega) only [Option.bind_some, Option.map_some, cond_true, cond_false, wrap_i64, tmod_pos, tdiv_pos, inRange_yes, inUpto_yes, isZero_no, decide_eq_true, decide_eq_false, Bool.not_true, Bool.not_false, Int.toNat_natCast, Nat.mul_one, beqI_yes, beqI_no, bneI_yes, bneI_no, isNil_nil, isNil_iface, wr_wr, Option.isNone_none, Option.isNone_some, plus, Nat.zero_add, Nat.add_zero]
    rw [show (0 : Int) - (v + 1) = -(v + 1) by omega]
  · refine ⟨v % n, fun M => ?_, Int.emod_nonneg _ (by omega), Int.emod_lt_of_pos _ hn⟩
    unfold patinalaw08_pick patinalaw08_pick_j1
    simp (disch := omega) only [Option.bind_some, Option.map_some, cond_true, cond_false, wrap_i64, tmod_pos, tdiv_pos, inRange_yes, inUpto_yes, isZero_no, decide_eq_true, decide_eq_false, Bool.not_true, Bool.not_false, Int.toNat_natCast, Nat.mul_one, beqI_yes, beqI_no, bneI_yes, bneI_no, isNil_nil, isNil_iface, wr_wr, Option.isNone_none, Option.isNone_some, plus, Nat.zero_add, Nat.add_zero]
theorem begun_ok (k : Nat) (hk : 1000 < k) (m : Mem) : Ok (patinalaw08_begun k m) fun r => ∃ b c mm f x, r.1 = some ⟨b, 0, none⟩ ∧ Gr m r.2 ∧ m.length ≤ c ∧ m.length ≤ mm ∧ c < b ∧ mm < b ∧ MI r.2 mm c f fresh 0 ∧ r.2[b]? = some (.live [.pointer (some ⟨c, 0, none⟩), .pointer (some ⟨mm, 0, none⟩), .pointer x]) := by
  unfold patinalaw08_begun
  refine .bind (newG k (by omega) m) ?_
  rintro ⟨_, m1⟩ ⟨c, rfl, g1, c1, c2⟩
  simp only at g1 c2 ⊢
  rw [Option.isNone_some, cond_false]
  refine .bind (mediaNew_ok k hk c2) ?_
  rintro ⟨_, m2⟩ ⟨mm, f, rfl, g2, h1, h2⟩
  simp only at g2 h2 ⊢
  rw [Option.isNone_some, cond_false]
  refine .bind (refNew_ok k (by omega) m2) ?_
  rintro ⟨_, m3⟩ ⟨rfl, lab, g, hR, g3, hl⟩
  simp only at g3 ⊢
  have gg := ((g3.trans (Gr.app m3 [.live [.pointer (some ⟨m2.length, 0, none⟩), .int .i64 0]])).trans (Gr.app _ [.live [.pointer (some ⟨c, 0, none⟩), .pointer (some ⟨mm, 0, none⟩), .pointer (some ⟨m3.length, 0, none⟩)]]))
  have q1 := get_lt h2.med
  have q2 := get_lt h2.chip
  have q3 := g3.len
  have q4 := g1.len
  exact .some ⟨_, c, mm, f, _, rfl, (g1.trans g2).trans gg, by omega, by omega, by simp; omega, by simp; omega, h2.grow gg, get_last rfl⟩
/-- what a page reads as, of a chip whose chunks are told by words -/
theorem wd_now {σ : ChipS} {p : Int} {W : Nat → GF} (hW : ∀ (q i : Nat), q < 4 → i < 64 → (σ.at_ p q).now i = ((W (q * 64 + i)).v : Int)) {q : Nat} (hq : q < 4) {u : Nat → GF} (hu : (σ.at_ p q).now = byI u) : ∀ i, i < 64 → wd W q i = u i := fun i hi => by
  have := hW q i hq hi
  rw [hu] at this
  show W (q * 64 + i) = u i
  have e : byI u (i : Int) = ((u i).v : Int) := by unfold byI; rw [Int.toNat_natCast]
  rw [e] at this
  exact GF.v_inj (by omega)
theorem far_damage {σ : ChipS} {p : Int} {W : Nat → GF} (hW : ∀ (q i : Nat), q < 4 → i < 64 → (σ.at_ p q).now i = ((W (q * 64 + i)).v : Int)) {q : Nat} (hq : q < 4) {t : TagT} {w : Nat → GF} (hu : (σ.at_ p q).tru = byI (cws t w q)) : (σ.at_ p q).damage = ((far W t w q : Nat) : Int) := by
  unfold ChunkS.damage far GF.df
  refine cnt_wt 64 (fun i hi => hW q i hq hi) fun i hi => ?_
  rw [hu]; unfold byI; rw [Int.toNat_natCast]
theorem far_zero {W : Nat → GF} {t : TagT} {w : Nat → GF} {q : Nat} (h : ∀ i, i < 64 → wd W q i = cws t w q i) : far W t w q = 0 := GF.df_self h
/-- a page that was programmed is good -/
theorem good_whole {σ : ChipS} {t : TagT} {w : Nat → GF} {W : Nat → GF} (hok : t.ok) (hg : Pg σ t.place (cws t w) 4) (hW : ∀ (q i : Nat), q < 4 → i < 64 → (σ.at_ t.place q).now i = ((W (q * 64 + i)).v : Int)) : good W t.place t w := by
  have hz : ∀ q, q < 4 → far W t w q = 0 := fun q hq => far_zero (wd_now hW hq (by rw [hg.done q hq]))
  obtain ⟨a1, a2, a3, a4, a5, a6⟩ := pgS_near (W := W) (w := w) hok fun j hj => by rw [hz j hj]; omega
  have hs := a4.2 ⟨by rw [hz 3 (by omega)]; omega, by rw [hz 0 (by omega)]; omega, by rw [hz 1 (by omega)]; omega, by rw [hz 2 (by omega)]; omega⟩
  have ht := a2.2 (by rw [hz 3 (by omega)]; omega)
  exact ⟨hs, a3 ht, a5 hs⟩
end Go.Proofs.Ytchonnaoojpdoaa

/- The media: the document's examples. -/
set_option linter.unusedVariables false
set_option linter.unusedSectionVars false
set_option linter.unusedSimpArgs false
namespace Go.Proofs.Ytchonnaoojpdoaa
open Go.Mx

theorem Gr.cmM {c mm : Nat} {m m2 m' : Mem} (hg : Gr m m2) (hc : Cm c mm m2 m') (h1 : m.length ≤ c) (h2 : m.length ≤ mm) : Gr m m' := by
  have hl := hg.len
  refine Ch.gr ⟨Nat.le_trans hl hc.len, fun p hp _ => ?_⟩
  rw [hc.get p (by omega) (by rintro (he | he) <;> omega)]
  obtain ⟨g, hg⟩ := hg
  rw [hg]; exact get_app_lt hp
theorem Pg.readd {σ : ChipS} {p : Int} {cw : Nat → Nat → GF} {j : Nat} (h : Pg σ p cw j) (q : Int) : Pg (σ.readd q) p cw j := by
  refine ⟨fun x => ?_, fun i hi => by rw [readd_at]; exact h.done i hi, fun i h1 h2 => by rw [readd_at]; exact h.todo i h1 h2, fun p' i h1 h2 h3 h4 => by rw [readd_at]; exact h.rest p' i h1 h2 h3 h4⟩
  show ((upd σ.b (q / 8) _) x).before = 0 ∧ ((upd σ.b (q / 8) _) x).failed = false
  unfold upd
  split
  · exact h.bf (q / 8)
  · exact h.bf x
theorem shl_le (x : Int) : 0 ≤ shlI .u8 1 x ∧ shlI .u8 1 x < 256 := by
  unfold shlI
  simp only [IntKind.wrap, IntKind.bits, IntKind.signed, Bool.false_and, Bool.false_eq_true, if_false]
  omega
theorem flip_now {σ : ChipS} {p b : Int} {u : Nat → GF} (hb : 0 ≤ b) (hu : ∀ i : Nat, i < 64 → (σ.at_ p (b / 512)).now i = ((u i).v : Int)) (i : Nat) (hi : i < 64) :
    ((σ.flip p b).at_ p (b / 512)).now i = ((GF.flip u (b / 8 % 64).toNat (GF.of (shlI .u8 1 (b % 8)).toNat) i).v : Int) := by
  rw [mflip_at, if_pos rfl]
  show upd (σ.at_ p (b / 512)).now (b / 8 % 64) (bitI .xor .u8 ((σ.at_ p (b / 512)).now (b / 8 % 64)) (shlI .u8 1 (b % 8))) (i : Int) = _
  unfold upd GF.flip
  have hs := shl_le (b % 8)
  have e2 : shlI .u8 1 (b % 8) = ((GF.of (shlI .u8 1 (b % 8)).toNat).v : Int) := by rw [GF.v_of (by omega)]; omega
  by_cases h : (i : Int) = b / 8 % 64
  · rw [if_pos h, if_pos (by omega)]
    have := hu i hi
    rw [h] at this
    rw [this]
    conv => lhs; rw [e2]
    rw [xor_v]
  · rw [if_neg h, if_neg (by omega)]; exact hu i hi
theorem wd_at {σ : ChipS} {p : Int} {W : Nat → GF} (hW : ∀ (q i : Nat), q < 4 → i < 64 → (σ.at_ p q).now i = ((W (q * 64 + i)).v : Int)) {q : Nat} (hq : q < 4) {u : Nat → GF} (hu : ∀ i : Nat, i < 64 → (σ.at_ p q).now i = ((u i).v : Int)) : ∀ i, i < 64 → wd W q i = u i := fun i hi => by
  have h1 := hW q i hq hi
  rw [hu i hi] at h1
  show W (q * 64 + i) = u i
  exact GF.v_inj (by omega)
theorem df_congr {u u' w : Nat → GF} (h : ∀ i, i < 64 → u i = u' i) : GF.df u w = GF.df u' w := GF.wt_congr fun i hi => by rw [h i hi]
theorem blank_now (i : Nat) : blank.now i = (((fun _ => GF.of 255) i : GF).v : Int) := by
  show (255 : Int) = _
  rw [GF.v_of (by omega)]; rfl
def t1 : TagT := ⟨0, 0, 1, 0, false⟩
theorem t1_ok : t1.ok := ⟨by decide, by decide, by decide, by decide, by decide, by decide, by decide, by decide, fun _ => rfl, fun _ => by decide⟩
theorem shown8_ok (k : Nat) (hk : 1000 < k) (m : Mem) : Ok (patinalaw08_shown k m) fun r => r.1 = true ∧ Gr m r.2 := by
  unfold patinalaw08_shown
  refine .bind (newG k (by omega) m) ?_
  rintro ⟨_, m1⟩ ⟨c, rfl, g1, c1, c2⟩
  simp only at g1 c2 ⊢
  rw [Option.isNone_some, cond_false]
  refine .bind (mediaNew_ok k hk c2) ?_
  rintro ⟨_, m2⟩ ⟨mm, f, rfl, g2, h1, h2⟩
  simp only at g2 h2 ⊢
  rw [Option.isNone_some, cond_false]
  have g1l := g1.len
  have clt := get_lt h2.chip
  have mlt := get_lt h2.med
  -- a page of a new chip
  refine .bind (mediaRead_ok k hk h2 Wf.fresh (by omega) (by omega) 0 (by omega) rfl) ?_
  rintro ⟨_, _, m3⟩ ⟨W, R, L, hW, rfl, rfl, hR, hRd, cm3, hc3, hm3⟩
  simp only at hR hRd cm3 hc3 hm3 ⊢
  have eb : pgS W 0 = .no (mxm W 4) := pgS_blank (by
    rw [df_congr (u' := fun _ => GF.of 255) (wd_at hW (q := 3) (by omega) fun i _ => blank_now i)]
    exact Nat.le_trans (Nat.le_of_eq (GF.df_self fun _ _ => rfl)) (by omega))
  have hz : ([.bool false, .int .i64 0, .int .i64 0, .int .i64 0, .int .i64 0, .bool false, .bool false, .slice none 0 0, .int .i64 0] : List Value) = pgC (.no 0) none := rfl
  have L9 : ∀ p R, Nat.beq (pgC p R).length 9 = true := fun _ _ => rfl
  have st9 : ∀ (M : Mem) p R, stCells (M ++ [.live (pgC (.no 0) none)]) ⟨M.length, 0, none⟩ (pgC p R) = some (M ++ [.live (pgC p R)]) := fun M p R => by rw [stCells_wr (get_last rfl) (Nat.le_refl _), wr_last rfl]; rfl
  have t174 : Int.toNat 174 = 174 := rfl
  have hzd : repl 174 [Value.int .u8 0] = bys 174 fun _ => 0 := bys_zero 174
  have ht1 : ([.int .i64 0, .int .i64 0, .int .i64 1, .int .i64 0, .bool false] : List Value) = tagC t1 := rfl
  have l5 : (m3 ++ [MObj.live (pgC (pgS W 0) R)]).length = m3.length + 1 := by simp
  simp only [hz, L9, cond_true, st9, Option.bind_some, t174, hzd, ht1]
  have g6 := (Gr.app m3 [.live (pgC (pgS W 0) R)]).trans (Gr.app _ [.live (bys 174 fun _ => 0)])
  have x6 : (m3 ++ [MObj.live (pgC (pgS W 0) R)] ++ [MObj.live (bys 174 fun _ => 0)])[m3.length]? = some (.live (pgC (pgS W 0) R)) := get_grow (get_last rfl)
  have y6 : (m3 ++ [MObj.live (pgC (pgS W 0) R)] ++ [MObj.live (bys 174 fun _ => 0)])[(m3 ++ [MObj.live (pgC (pgS W 0) R)]).length]? = some (.live (bys 174 fun _ => 0)) := get_last rfl
  have h6 := (h2.step cm3 hc3 hm3).grow g6
  have cl6 := cm3.len
  generalize hA : m3.length = A at *
  generalize hD : (m3 ++ [MObj.live (pgC (pgS W 0) R)]).length = D at *
  have cm6 : Cm c mm m2 (m3 ++ [MObj.live (pgC (pgS W 0) R)] ++ [MObj.live (bys 174 fun _ => 0)]) := cm3.trans g6.cm
  generalize m3 ++ [MObj.live (pgC (pgS W 0) R)] ++ [MObj.live (bys 174 fun _ => 0)] = m6 at *
  -- it is programmed
  have w1 : Wf 1 (fresh.readd 0) := Wf.fresh.readd 0
  have hsrc : ∀ M', Cm c mm m6 M' → Src M' (some ⟨D, 0, none⟩) 174 fun _ => 0 := fun M' hc => Src.of (hc.old y6 (by rintro (he | he) <;> omega))
  refine .bind (mediaProgram_ok k hk h6 w1 (by omega) (by omega) (t := t1) hsrc 0) ?_
  rintro ⟨_, m7⟩ ⟨cm7, ⟨hn, _⟩ | ⟨_, _, _, hp7⟩⟩
  · exact absurd ⟨t1_ok, rfl, rfl⟩ hn
  obtain ⟨i1, _⟩ := ((Pg.fresh 0 (cws t1 fun _ => 0)).readd 0).whole (by omega) 4 0 (fresh.readd 0) rfl rfl (fun h => nomatch h)
  obtain ⟨q1, q2, q3⟩ := i1 (fun h => nomatch h)
  rcases hp7 with ⟨hb, _⟩ | ⟨_, W7, hW7, hgood, _, hc7, hm7⟩
  · exact absurd q1 hb
  have hr7 := hgood (good_whole (t := t1) t1_ok q2 hW7)
  simp only at hr7 cm7 hc7 hm7 ⊢
  subst hr7
  have w2 : ∃ N, N < 1000 ∧ Wf N (wrN 0 (cws t1 fun _ => 0) 4 0 (fresh.readd 0)).2 := by
    have key : ∀ (d j N : Nat) (σ : ChipS), Wf N σ → Wf (N + d) (wrN 0 (cws t1 fun _ => 0) d j σ).2 := by
      intro d
      induction d with
      | zero => intro j N σ h; exact h
      | succ d ih =>
        intro j N σ h
        show Wf _ (if _ then _ else _ : Int × ChipS).2
        have hw := h.write 0 j 64 (cws t1 (fun _ => 0) j)
        split
        · exact (ih (j + 1) (N + 1) _ hw).mono (by omega)
        · exact hw.mono (by omega)
    exact ⟨5, by omega, (key 4 0 1 _ w1).mono (by omega)⟩
  generalize wrN 0 (cws t1 fun _ => 0) 4 0 (fresh.readd 0) = xx at *
  obtain ⟨ec, σ2⟩ := xx
  obtain ⟨N2, hN2, w2⟩ := w2
  simp only at q1 q2 q3 hW7 hc7 w2
  have h7 := h6.step cm7 hc7 hm7
  -- two bits are turned
  have e8 := nand_Flip_all k (by omega) h7.chip 0 0
  rw [if_pos (by omega), if_pos (by omega)] at e8
  have c8 := wr_get (cs := chipC ((σ2.readd 0).flip 0 0)) hc7
  have e9 := nand_Flip_all k (by omega) c8 0 1600
  rw [if_pos (by omega), if_pos (by omega), wr_wr] at e9
  have c9 := wr_get (cs := chipC (((σ2.readd 0).flip 0 0).flip 0 1600)) hc7
  have cm9 : Cm c mm m7 (wr m7 c (chipC (((σ2.readd 0).flip 0 0).flip 0 1600))) := (Ch.refl _ _).wr (.inl (.inl rfl)) _
  have hm9 : (wr m7 c (chipC (((σ2.readd 0).flip 0 0).flip 0 1600)))[mm]? = some (.live (medC c f (0 + 1 + 1))) := by rw [wr_ne (Ne.symm h7.ne)]; exact hm7
  simp only [e8, Option.bind_some, e9]
  have h9 := h7.step cm9 c9 hm9
  have w9 : Wf (N2 + 1) (((σ2.readd 0).flip 0 0).flip 0 1600) := ((w2.readd 0).flip 0 0 (by omega)).flip 0 1600 (by omega)
  have at1 : ∀ q : Nat, q < 4 → ∀ i : Nat, i < 64 → ((σ2.readd 0).at_ 0 q).now i = ((cws t1 (fun _ => 0) q i).v : Int) := fun q hq i hi => by
    rw [readd_at, q2.done q hq]
    show byI _ _ = _
    unfold byI; rw [Int.toNat_natCast]
  have n8 : ∀ i : Nat, i < 64 → (((σ2.readd 0).flip 0 0).at_ 0 ((0 : Nat) : Int)).now i = ((GF.flip (cws t1 (fun _ => 0) 0) 0 (GF.of 1) i).v : Int) := fun i hi => flip_now (σ := σ2.readd 0) (p := 0) (b := 0) (by omega) (at1 0 (by omega)) i hi
  have n8' : ∀ q : Nat, 0 < q → q < 4 → ∀ i : Nat, i < 64 → (((σ2.readd 0).flip 0 0).at_ 0 q).now i = ((cws t1 (fun _ => 0) q i).v : Int) := fun q h0 hq i hi => by
    rw [mflip_at, if_neg (by omega)]; exact at1 q hq i hi
  have n9 : ∀ i : Nat, i < 64 → ((((σ2.readd 0).flip 0 0).flip 0 1600).at_ 0 ((3 : Nat) : Int)).now i = ((GF.flip (cws t1 (fun _ => 0) 3) 8 (GF.of 1) i).v : Int) := fun i hi => flip_now (σ := (σ2.readd 0).flip 0 0) (p := 0) (b := 1600) (by omega) (n8' 3 (by omega) (by omega)) i hi
  have n9' : ∀ q : Nat, q < 3 → (((σ2.readd 0).flip 0 0).flip 0 1600).at_ 0 (q : Int) = ((σ2.readd 0).flip 0 0).at_ 0 (q : Int) := fun q hq => by
    rw [mflip_at, if_neg (by omega)]
  refine .bind (mediaRead_ok k hk h9 w9 (by omega) (by omega) 0 (by omega) q3) ?_
  rintro ⟨_, _, m10⟩ ⟨W', R', L', hW', rfl, rfl, hR', hRd', cm10, hc10, hm10⟩
  simp only at hR' hRd' cm10 hc10 hm10 ⊢
  have one_ne : GF.of 1 ≠ 0 := by decide
  have f0 : far W' t1 (fun _ => 0) 0 = 1 := by
    unfold far
    rw [df_congr (wd_at hW' (q := 0) (by omega) fun i hi => by rw [n9' 0 (by omega)]; exact n8 i hi), GF.df_comm]
    exact GF.df_flip _ (by omega) one_ne
  have f3 : far W' t1 (fun _ => 0) 3 = 1 := by
    unfold far
    rw [df_congr (wd_at hW' (q := 3) (by omega) n9), GF.df_comm]
    exact GF.df_flip _ (by omega) one_ne
  have f12 : ∀ q, 0 < q → q < 3 → far W' t1 (fun _ => 0) q = 0 := fun q h0 hq => far_zero (wd_at hW' (by omega) fun i hi => by rw [n9' q hq]; exact n8' q h0 (by omega) i hi)
  have fall : ∀ j, j < 4 → far W' t1 (fun _ => 0) j ≤ 2 := fun j hj => by
    have : j = 0 ∨ j = 1 ∨ j = 2 ∨ j = 3 := by omega
    rcases this with rfl | rfl | rfl | rfl
    · omega
    · rw [f12 1 (by omega) (by omega)]; omega
    · rw [f12 2 (by omega) (by omega)]; omega
    · omega
  obtain ⟨a1, a2, a3, a4, a5, a6⟩ := pgS_near (W := W') (w := fun _ => 0) t1_ok fun j hj => by have := fall j hj; omega
  have hpl : t1.place = 0 := rfl
  rw [hpl] at a1 a2 a3 a4 a5
  have htg := a2.2 (fall 3 (by omega))
  have hts := a4.2 ⟨fall 3 (by omega), fall 0 (by omega), fall 1 (by omega), fall 2 (by omega)⟩
  have htt := a3 htg
  have hdm : (pgS W' 0).dmg = 1 := by
    rw [a1, mxm_all fall 4 (Nat.le_refl _)]
    simp only [mxN, f0, f3, f12 1 (by omega) (by omega), f12 2 (by omega) (by omega)]
    rfl
  simp only [L9, cond_true, st9, Option.bind_some, t174, hzd]
  have g13 := (Gr.app m10 [.live (pgC (pgS W' 0) R')]).trans (Gr.app _ [.live (bys 174 fun _ => 0)])
  have x13 : (m10 ++ [MObj.live (pgC (pgS W' 0) R')] ++ [MObj.live (bys 174 fun _ => 0)])[m10.length]? = some (.live (pgC (pgS W' 0) R')) := get_grow (get_last rfl)
  have y13 : (m10 ++ [MObj.live (pgC (pgS W' 0) R')] ++ [MObj.live (bys 174 fun _ => 0)])[(m10 ++ [MObj.live (pgC (pgS W' 0) R')]).length]? = some (.live (bys 174 fun _ => 0)) := get_last rfl
  have h13 := (h9.step cm10 hc10 hm10).grow g13
  have z9 : (wr m7 c (chipC (((σ2.readd 0).flip 0 0).flip 0 1600))).length = m7.length := wr_len
  have cl7 := cm7.len
  have cl10 := cm10.len
  have xA := cm10.old (cm9.old (cm7.old x6 (by rintro (he | he) <;> omega)) (by rintro (he | he) <;> omega)) (by rintro (he | he) <;> omega)
  have xA13 := g13.get xA
  have cm13 := (((cm6.trans cm7).trans cm9).trans cm10).trans g13.cm
  have Alt := get_lt x6
  generalize hB : m10.length = B at *
  generalize hE : (m10 ++ [MObj.live (pgC (pgS W' 0) R')]).length = E at *
  have hEB : E = B + 1 := by rw [← hE, ← hB]; simp
  generalize m10 ++ [MObj.live (pgC (pgS W' 0) R')] ++ [MObj.live (bys 174 fun _ => 0)] = m13 at *
  have hsrc2 : ∀ M', Cm c mm m13 M' → Src M' (some ⟨E, 0, none⟩) 174 fun _ => 0 := fun M' hc => Src.of (hc.old y13 (by rintro (he | he) <;> omega))
  refine .bind (mediaProgram_ok k hk h13 (w9.readd 0) (by omega) (by omega) (t := t1) hsrc2 1) ?_
  rintro ⟨_, m14⟩ ⟨cm14, ⟨_, rfl, hc14, hm14⟩ | ⟨_, hn, _⟩⟩
  · simp only at cm14 hc14 hm14 ⊢
    have yA := cm14.old xA13 (by rintro (he | he) <;> omega)
    have yB := cm14.old x13 (by rintro (he | he) <;> omega)
    rw [eb] at yA
    have b0 : ldBool m14 ⟨A, 0, none⟩ = some false := ldBool_of yA rfl
    have b6 : ldBool m14 ⟨A, 6, none⟩ = some false := ldBool_of yA rfl
    have d0 : ldBool m14 ⟨B, 0, none⟩ = some true := by rw [ldBool_of yB rfl, htg]
    have d6 : ldBool m14 ⟨B, 6, none⟩ = some true := by rw [ldBool_of yB rfl, hts]
    have d3 : ldInt .i64 m14 ⟨B, 3, none⟩ = some 1 := by rw [ldInt_of yB rfl, htt]; rfl
    have d8 : ldInt .i64 m14 ⟨B, 8, none⟩ = some 1 := by rw [ldInt_of yB rfl, hdm]; rfl
    have n0 : isNil .nilIface = some true := rfl
    have n1 : isNil (errC 0) = some true := rfl
    have o1 : ((1 : Int) == 1) = true := rfl
    have ie : ifEq tt (errC 1) (.iface ty_api_Code (.int .i64 1)) = some true := by rw [ifEq_errC 1 1 (by omega)]; rfl
    have rr : media_Media_Reads k (some ⟨mm, 0, none⟩) m14 = some (3, m14) := by
      unfold media_Media_Reads sync_atomic_Int64_Load sync_atomic_LoadInt64 atLoad
      have : ldInt .i64 m14 ⟨mm, 2, none⟩ = some 3 := ldInt_of hm14 rfl
      simp only [Option.bind_some, plus, Nat.zero_add, Nat.add_zero, this]
    have o3 : ((3 : Int) == 3) = true := rfl
    simp only [plus, Nat.zero_add, b0, Option.bind_some, Bool.not_false, cond_true, b6, n0, n1, d0, d6, Nat.reduceAdd, d3, o1, d8, ie, rr, o3]
    exact .some ⟨rfl, (g1.trans g2).cmM (cm13.trans cm14) c1 (by omega)⟩
  · exact absurd hn (by show ¬ (0 : Int) = 1; omega)
end Go.Proofs.Ytchonnaoojpdoaa

/- MediaCuts: the power goes behind any number of chunks: the page is tagged just where all four were written, and none of its neighbours is touched. For every tag, number and list of turns. -/
set_option linter.unusedVariables false
set_option linter.unusedSectionVars false
set_option linter.unusedSimpArgs false
namespace Go.Proofs.Ytchonnaoojpdoaa
open Go.Mx

theorem tagOf8 {l : List Value} (h : FlatOk [.int .i64, .int .i64, .int .i64, .int .i64, .bool] l) : ∃ t : TagT, l = tagC t := by
  obtain ⟨h1, h2⟩ := h
  obtain ⟨v0, g0, z0, rfl, _⟩ := h2 0 _ rfl
  obtain ⟨v1, g1, z1, rfl, _⟩ := h2 1 _ rfl
  obtain ⟨v2, g2, z2, rfl, _⟩ := h2 2 _ rfl
  obtain ⟨v3, g3, z3, rfl, _⟩ := h2 3 _ rfl
  obtain ⟨v4, g4, z4, rfl⟩ := h2 4 _ rfl
  refine ⟨⟨z0, z1, z2, z3, z4⟩, ?_⟩
  have h1 : l.length = 5 := h1
  match l, h1 with
  | [x0, x1, x2, x3, x4], _ =>
    simp only [List.getElem?_cons_zero, List.getElem?_cons_succ, Option.some.injEq] at g0 g1 g2 g3 g4
    rw [g0, g1, g2, g3, g4]; rfl
theorem wrN_wf8 {p : Int} {cw : Nat → Nat → GF} : ∀ (d j : Nat) (N : Nat) (σ : ChipS), Wf N σ → Wf (N + d) (wrN p cw d j σ).2 := by
  intro d
  induction d with
  | zero => intro j N σ h; exact h
  | succ d ih =>
    intro j N σ h
    show Wf _ (if _ then _ else _ : Int × ChipS).2
    have hw := h.write p j 64 (cw j)
    split
    · exact (ih (j + 1) (N + 1) _ hw).mono (by omega)
    · exact hw.mono (by omega)
/-- a page of which so many chunks were written, its last one turned in so many bits -/
structure Cu (σ : ChipS) (t : TagT) (w : Nat → GF) (n : Int) (j : Nat) : Prop where
  on : σ.off = false
  is_ : ∀ q : Nat, q < 4 → (σ.at_ t.place q).is = decide ((q : Int) < n)
  rest : ∀ p' : Int, 0 ≤ p' → p' ≠ t.place → (σ.at_ p' 0).is = false
  now : 4 ≤ n → ∀ q : Nat, q < 3 → ∀ i : Nat, i < 64 → (σ.at_ t.place q).now i = ((cws t w q i).v : Int)
  last : ∃ u : Nat → GF, (∀ i : Nat, i < 64 → (σ.at_ t.place ((3 : Nat) : Int)).now i = ((u i).v : Int)) ∧ GF.df u (if 4 ≤ n then cws t w 3 else fun _ => GF.of 255) ≤ j
theorem Cu.turn {σ : ChipS} {t : TagT} {w : Nat → GF} {n : Int} {j : Nat} (h : Cu σ t w n j) (hp : 0 ≤ t.place) {b : Int} (hb : 1536 ≤ b ∧ b < 2048) : Cu (σ.flip t.place b) t w n (j + 1) := by
  have h3 : b / 512 = ((3 : Nat) : Int) := by omega
  refine ⟨h.on, fun q hq => by rw [(mflip_tru σ t.place b q).2]; exact h.is_ q hq, fun p' h0 hne => ?_, fun hn q hq i hi => ?_, ?_⟩
  · have := put_at' σ (p := t.place) (k := b / 512) (p' := p') (k' := 0) ((σ.at_ t.place (b / 512)).mark (flipC (σ.at_ t.place (b / 512)) (b / 8 % 64) (b % 8))) hp h0 (by omega) (by omega)
    have e : (σ.flip t.place b).at_ p' 0 = _ := this
    rw [e, if_neg (fun hh => hne hh.1)]
    exact h.rest p' h0 hne
  · rw [mflip_at, if_neg (by omega)]; exact h.now hn q hq i hi
  · obtain ⟨u, u1, u2⟩ := h.last
    refine ⟨GF.flip u (b / 8 % 64).toNat (GF.of (shlI .u8 1 (b % 8)).toNat), fun i hi => ?_, ?_⟩
    · rw [← h3]
      exact flip_now (σ := σ) (p := t.place) (b := b) (by omega) (by rw [h3]; exact u1) i hi
    · have t1 := GF.df_tri (GF.flip u (b / 8 % 64).toNat (GF.of (shlI .u8 1 (b % 8)).toNat)) u (if 4 ≤ n then cws t w 3 else fun _ => GF.of 255)
      have t2 : GF.df (GF.flip u (b / 8 % 64).toNat (GF.of (shlI .u8 1 (b % 8)).toNat)) u ≤ 1 := by
        by_cases hz : GF.of (shlI .u8 1 (b % 8)).toNat = 0
        · rw [hz]
          refine Nat.le_trans (Nat.le_of_eq (GF.df_self fun i _ => ?_)) (by omega)
          unfold GF.flip
          split
          · exact GF.add_zero _
          · rfl
        · rw [GF.df_comm]; exact Nat.le_of_eq (GF.df_flip _ (by omega) hz)
      omega
theorem Pg.cu {σ : ChipS} {t : TagT} {w : Nat → GF} {n : Int} {j : Nat} (h : Pg σ t.place (cws t w) j) (ho : σ.off = false) (hj : (j : Int) = if 4 ≤ n then 4 else n) (h0 : 0 ≤ n) : Cu σ t w n 0 := by
  refine ⟨ho, fun q hq => ?_, fun p' h1 h2 => by rw [h.rest p' 0 h1 h2 (by omega) (by omega)]; rfl, fun hn q hq i hi => ?_, ?_⟩
  · by_cases hqj : q < j
    · rw [h.done q hqj, decide_eq_true]
      split at hj <;> omega
    · rw [h.todo q (by omega) hq, decide_eq_false]
      · rfl
      · split at hj <;> omega
  · rw [if_pos hn] at hj
    rw [h.done q (by omega)]
    show byI _ _ = _
    unfold byI; rw [Int.toNat_natCast]
  · by_cases hn : 4 ≤ n
    · rw [if_pos hn] at hj ⊢
      refine ⟨cws t w 3, fun i hi => ?_, Nat.le_of_eq (GF.df_self fun _ _ => rfl)⟩
      rw [h.done 3 (by omega)]
      show byI _ _ = _
      unfold byI; rw [Int.toNat_natCast]
    · rw [if_neg hn] at hj ⊢
      refine ⟨fun _ => GF.of 255, fun i hi => ?_, Nat.le_of_eq (GF.df_self fun _ _ => rfl)⟩
      rw [h.todo 3 (by omega) (by omega)]
      exact blank_now i
set_option maxHeartbeats 1600000 in
theorem mediaCuts_run (o2 : MObj) (l0 : List Value) (v : Int) (a2 : Option Addr) (n2 c2 : Nat) (cs2 : List Value) (fl0 : FlatOk [.int .i64, .int .i64, .int .i64, .int .i64, .bool] l0) (w1 : (Lit.int .i64 v).wf = true) (hh2 : Holds o2 0 a2 n2 [.int .i64] cs2) (hc2 : n2 ≤ c2) (y2 : n2 * 8 ≤ 140737488351232) :
    ∃ k m', patinalaw08_MediaCuts k l0 v a2 n2 c2 [o2] = some (true, m') := by
  obtain ⟨t, rfl⟩ := tagOf8 fl0
  obtain ⟨k, hk, hk2⟩ : ∃ k, 1000 < k ∧ n2 < k := ⟨n2 + 1001, by omega, by omega⟩
  refine ⟨k, ?_⟩
  have key : Ok (patinalaw08_MediaCuts k (tagC t) v a2 n2 c2 [o2]) fun r => r.1 = true := by
    unfold patinalaw08_MediaCuts
    have L5 : Nat.beq (tagC t).length 5 = true := rfl
    rw [L5, cond_true]
    have x1 : ([o2] ++ [MObj.live (tagC t)] : Mem)[1]? = some (.live (tagC t)) := rfl
    have o1 : ([o2] ++ [MObj.live (tagC t)] : Mem)[0]? = some o2 := rfl
    have l1 : ([o2] : Mem).length = 1 := rfl
    have l2 : ([o2] ++ [MObj.live (tagC t)] : Mem).length = 2 := rfl
    rw [l1]
    generalize ([o2] ++ [MObj.live (tagC t)] : Mem) = m1 at *
    refine .bind (shown8_ok k hk m1) ?_
    rintro ⟨_, m2⟩ ⟨rfl, g1⟩
    refine .bind (begun_ok k hk m2) ?_
    rintro ⟨_, m3⟩ ⟨b, c, mm, f, x, rfl, g2, hc, hmm, hcb, hmb, hI, hB⟩
    simp only at g1 g2 hI hB ⊢
    rw [Option.isNone_some, cond_false]
    obtain ⟨n, e5, n0, n6⟩ := pick8 k v 6 (wf64 w1) (by omega)
    have g3 := (g1.trans g2)
    have ll1 := g1.len
    have Blt := get_lt hB
    have x3 := g3.get x1
    have o3 := g3.get o1
    have pc3 : ldPtr m3 ⟨b, 0, none⟩ = some (some ⟨c, 0, none⟩) := ldPtr_of hB rfl
    have ec := nand_Cut_is k hI.chip n
    rw [if_neg (by omega), if_neg (by show ¬ (false = true); simp)] at ec
    simp only [e5, Option.bind_some, plus, Nat.zero_add, Nat.add_zero, pc3, ec]
    have cmc : Cm c mm m3 (wr m3 c (chipC { fresh with cut := true, budget := n })) := (Ch.refl _ _).wr (.inl (.inl rfl)) _
    have hIc := hI.step cmc (wr_get hI.chip) (by rw [wr_ne (Ne.symm hI.ne)]; exact hI.med)
    have hBc := cmc.old hB (by rintro (he | he) <;> omega)
    have xc := cmc.old x3 (by rintro (he | he) <;> omega)
    have oc := cmc.old o3 (by rintro (he | he) <;> omega)
    have hln : (wr m3 c (chipC { fresh with cut := true, budget := n })).length = m3.length := wr_len
    generalize wr m3 c (chipC { fresh with cut := true, budget := n }) = mc at *
    have p1 : ldPtr mc ⟨b, 1, none⟩ = some (some ⟨mm, 0, none⟩) := ldPtr_of hBc rfl
    have pl : ldInt .i64 mc ⟨1, 0, none⟩ = some t.place := ldInt_of xc rfl
    have c5 : ldCells mc ⟨1, 0, none⟩ 5 = some (tagC t) := by rw [ldCells_of (off := 0) (n := 5) xc (Nat.le_refl _)]; rfl
    obtain ⟨w, e4⟩ := data_ok8 k hk mc 9
    have g4 := Gr.app mc [.live (bys 174 w)]
    have d4 : (mc ++ [MObj.live (bys 174 w)])[mc.length]? = some (.live (bys 174 w)) := get_last rfl
    have hI4 := hIc.grow g4
    have hB4 := g4.get hBc
    have x4 := g4.get xc
    have o4 := g4.get oc
    simp only [p1, pl, c5, e4, Option.bind_some]
    generalize hD : mc.length = D at *
    generalize mc ++ [MObj.live (bys 174 w)] = m4 at *
    have p1' : ldPtr m4 ⟨b, 1, none⟩ = some (some ⟨mm, 0, none⟩) := ldPtr_of hB4 rfl
    have pl' : ldInt .i64 m4 ⟨1, 0, none⟩ = some t.place := ldInt_of x4 rfl
    have c5' : ldCells m4 ⟨1, 0, none⟩ 5 = some (tagC t) := by rw [ldCells_of (off := 0) (n := 5) x4 (Nat.le_refl _)]; rfl
    have hsrc : ∀ M', Cm c mm m4 M' → Src M' (some ⟨D, 0, none⟩) 174 w := fun M' hc => Src.of (hc.old d4 (by rintro (he | he) <;> omega))
    have wfc : Wf 0 ({ fresh with cut := true, budget := n } : ChipS) := by
      have := Wf.fresh.cut (v := n) ⟨n0, by omega⟩
      rw [if_neg (by show ¬ (false = true); simp)] at this
      exact this
    refine .bind (mediaProgram_ok k hk hI4 wfc (by omega) (by omega) (t := t) hsrc t.place) ?_
    rintro ⟨ev, m5⟩ ⟨cm5, hp⟩
    simp only at cm5 hp ⊢
    have nn : isNil .nilIface = some true := rfl
    simp only [p1', pl', c5', Option.bind_some, decide_true, cond_true, beq_self_eq_true, veqs_tag, nn, Bool.not_true, cond_false]
    rcases hp with ⟨_, rfl, _⟩ | ⟨hok, _, _, hp⟩
    · have ie : ifEq tt (errC 1) (.iface ty_api_Code (.int .i64 1)) = some true := by rw [ifEq_errC 1 1 (by omega)]; rfl
      simp only [ie, Option.bind_some, cond_true]
      exact .some rfl
    have hpl : 0 ≤ t.place ∧ t.place < 96 := ⟨hok.1, hok.2.1⟩
    have hpg0 : Pg ({ fresh with cut := true, budget := n } : ChipS) t.place (cws t w) 0 := (Pg.fresh t.place (cws t w)).congr rfl
    obtain ⟨i1, i2⟩ := hpg0.whole hpl 4 0 _ rfl rfl (fun _ => n0)
    have w5 := wrN_wf8 (p := t.place) (cw := cws t w) 4 0 0 _ wfc
    -- behind the power
    obtain ⟨e, σ5, nr, rfl, hc5, hm5, hee, hcu, hwf⟩ : ∃ (e : Int) (σ5 : ChipS) (nr : Int), ev = errC e ∧ m5[c]? = some (.live (chipC σ5)) ∧ m5[mm]? = some (.live (medC c f nr)) ∧ (e = (if 4 ≤ n then 0 else 7) ∧ 0 ≤ nr ∧ nr ≤ 1) ∧ Cu { σ5 with off := false, cut := false, budget := 0 } t w n 0 ∧ Wf 5 σ5 := by
      by_cases h4 : 4 ≤ n
      · obtain ⟨q1, q2, q3⟩ := i1 (fun _ => h4)
        rcases hp with ⟨hb, _⟩ | ⟨_, W5, hW5, hgood, _, hc5, hm5⟩
        · exact absurd q1 hb
        have hr5 := hgood (good_whole hok q2 hW5)
        exact ⟨0, _, 0 + 1, hr5, hc5, hm5, ⟨by rw [if_pos h4], by omega, by omega⟩, Pg.cu (j := 4) ((q2.readd t.place).congr rfl) rfl (by rw [if_pos h4]; rfl) n0, w5.readd t.place⟩
      · obtain ⟨q1, q2⟩ := i2 ⟨rfl, by show n < 4; omega⟩
        rcases hp with ⟨_, hr5, hc5, hm5⟩ | ⟨hb, _⟩
        · have q2 : Pg (wrN t.place (cws t w) 4 0 { fresh with cut := true, budget := n }).2 t.place (cws t w) (0 + n.toNat) := q2
          rw [Nat.zero_add] at q2
          exact ⟨7, _, 0, by rw [hr5, q1], hc5, hm5, ⟨by rw [if_neg h4], by omega, by omega⟩, Pg.cu (j := n.toNat) (q2.congr rfl) rfl (by rw [if_neg h4]; omega) n0, w5.mono (by omega)⟩
        · rw [q1] at hb; cases hb
    obtain ⟨he, hnr0, hnr1⟩ := hee
    have e01 : e = 0 ∨ e = 7 := by rw [he]; split <;> simp
    have ie : ifEq tt (errC e) (.iface ty_api_Code (.int .i64 1)) = some false := by rw [ifEq_errC e 1 (by omega)]; rcases e01 with rfl | rfl <;> rfl
    have hI5 := hI4.step cm5 hc5 hm5
    have B5 := cm5.old hB4 (by rintro (he | he) <;> omega)
    have X5 := cm5.old x4 (by rintro (he | he) <;> omega)
    have O5 := cm5.old o4 (by rintro (he | he) <;> omega)
    have pc5 : ldPtr m5 ⟨b, 0, none⟩ = some (some ⟨c, 0, none⟩) := ldPtr_of B5 rfl
    have ep := nand_Power_is k hc5
    simp only [ie, Option.bind_some, cond_false, pc5, ep]
    have cmp : Cm c mm m5 (wr m5 c (chipC { σ5 with off := false, cut := false, budget := 0 })) := (Ch.refl _ _).wr (.inl (.inl rfl)) _
    have hIp := hI5.step cmp (wr_get hc5) (by rw [wr_ne (Ne.symm hI5.ne)]; exact hI5.med)
    have Bp := cmp.old B5 (by rintro (he | he) <;> omega)
    have Xp := cmp.old X5 (by rintro (he | he) <;> omega)
    have Op := cmp.old O5 (by rintro (he | he) <;> omega)
    have hwf := hwf.power
    generalize wr m5 c (chipC { σ5 with off := false, cut := false, budget := 0 }) = m6 at *
    generalize ({ σ5 with off := false, cut := false, budget := 0 } : ChipS) = σ6 at *
    -- bits are turned
    refine patinalaw08_MediaCuts_l0_rule k _ _ (fun r x2a x2n x2c x3 x7 x8 x9 x11 x12 M => a2 = x2a ∧ n2 = x2n ∧ c2 = x2c ∧ (⟨1, 0, none⟩ : Addr) = x3 ∧ true = x7 ∧ (some ⟨b, 0, none⟩ : Option Addr) = x8 ∧ n = x9 ∧ errC e = x11 ∧ ∃ (i : Nat) (σ : ChipS), x12 = i ∧ i + r = n2 ∧ i ≤ 4 ∧ Cm c mm m6 M ∧ MI M mm c f σ nr ∧ Wf 5 σ ∧ Cu σ t w n i) ?_ k n2 _ _ _ _ _ _ _ _ _ _ hk2
      ⟨rfl, rfl, rfl, rfl, rfl, rfl, rfl, rfl, 0, σ6, rfl, by omega, by omega, Ch.refl _ _, hIp, hwf, hcu⟩
    clear hIp hwf hcu hc5 hm5 hI5
    rintro r nx _ _ _ _ _ _ _ _ _ M ⟨rfl, rfl, rfl, rfl, rfl, rfl, rfl, rfl, i, σ, rfl, hr, hi4, cmM, hM, hwM, hcu⟩ hnx
    unfold patinalaw08_MediaCuts_l0_b
    have BM := cmM.old Bp (by rintro (he | he) <;> omega)
    have XM := cmM.old Xp (by rintro (he | he) <;> omega)
    have OM := cmM.old Op (by rintro (he | he) <;> omega)
    have pl : ldInt .i64 M ⟨1, 0, none⟩ = some t.place := ldInt_of XM rfl
    by_cases hcont : (i : Int) < n2 ∧ (i : Int) < 4
    · obtain ⟨hi, hi2⟩ := hcont
      have hpp := hh2.ptr (j := i) (by omega)
      subst hpp
      have i1 : inRange (i : Int) n2 = true := inRange_yes (by omega) (by omega)
      have ti : Int.toNat (i : Int) = i := Int.toNat_natCast i
      have r0 := hh2.ldInt OM (j := i) (q := 0) (k := .i64) (by omega) rfl (off := i) (by simp)
      have rw0 := wf64 (hh2.int (j := i) (q := 0) (k := .i64) (by omega) rfl).1
      generalize intAt (cs2.getD (i * [Leaf.int IntKind.i64].length + 0) undef) = z at *
      obtain ⟨u, u1, u2, u3⟩ := pick8 k z 512 rw0 (by omega)
      have pc : ldPtr M ⟨b, 0, none⟩ = some (some ⟨c, 0, none⟩) := ldPtr_of BM rfl
      have wu : IntKind.wrap .i64 (1536 + u) = 1536 + u := wrap_i64 (by omega) (by omega)
      have ef := nand_Flip_all k (by omega) hM.chip t.place (1536 + u)
      rw [if_pos ⟨hpl.1, hpl.2, by omega, by omega⟩, if_pos ⟨hpl.1, hpl.2, by omega, by omega⟩] at ef
      have n0' : isNil (errC 0) = some true := rfl
      simp only [decide_eq_true hi, decide_eq_true hi2, cond_true, Option.bind_some, plus, Nat.zero_add, pc, pl, i1, ti, Nat.mul_one, r0, u1, wu, ef, decide_true, beq_self_eq_true, n0', Bool.not_true, cond_false]
      have cm' : Cm c mm M (wr M c (chipC (σ.flip t.place (1536 + u)))) := (Ch.refl _ _).wr (.inl (.inl rfl)) _
      refine hnx (r - 1) _ _ _ _ _ _ _ _ _ _ (by omega) ⟨rfl, rfl, rfl, rfl, rfl, rfl, rfl, rfl, i + 1, σ.flip t.place (1536 + u), by rw [wrap_i64 (by omega) (by omega)]; push_cast; rfl, by omega, by omega, cmM.trans cm', hM.step cm' (wr_get hM.chip) (by rw [wr_ne (Ne.symm hM.ne)]; exact hM.med), hwM.flip _ _ (by omega), hcu.turn hpl.1 ⟨by omega, by omega⟩⟩
    · clear hnx
      have hfin : ∀ (X : Option (Bool × Mem)) (Y : Option (Bool × Mem)), (bif decide ((i : Int) < ((n2 : Nat) : Int)) then (bif decide ((i : Int) < 4) then X else Y) else Y) = Y := by
        intro X Y
        by_cases h : (i : Int) < n2
        · rw [decide_eq_true h, cond_true, decide_eq_false (fun h2 => hcont ⟨h, h2⟩), cond_false]
        · rw [decide_eq_false h, cond_false]
      rw [hfin]
      have pm : ldPtr M ⟨b, 1, none⟩ = some (some ⟨mm, 0, none⟩) := ldPtr_of BM rfl
      simp only [Option.bind_some, plus, Nat.zero_add, pm, pl]
      refine .bind (mediaRead_ok k hk hM hwM (by omega) (by omega) t.place hpl hcu.on) ?_
      rintro ⟨_, _, m8⟩ ⟨W, R, L, hW, rfl, rfl, hR, hRd, cm8, hc8, hm8⟩
      simp only at hR hRd cm8 hc8 hm8 ⊢
      have hz : ([.bool false, .int .i64 0, .int .i64 0, .int .i64 0, .int .i64 0, .bool false, .bool false, .slice none 0 0, .int .i64 0] : List Value) = pgC (.no 0) none := rfl
      have L9 : ∀ p R, Nat.beq (pgC p R).length 9 = true := fun _ _ => rfl
      have st9 : stCells (m8 ++ [.live (pgC (.no 0) none)]) ⟨m8.length, 0, none⟩ (pgC (pgS W t.place) R) = some (m8 ++ [.live (pgC (pgS W t.place) R)]) := by rw [stCells_wr (get_last rfl) (Nat.le_refl _), wr_last rfl]; rfl
      have x9 : (m8 ++ [MObj.live (pgC (pgS W t.place) R)])[m8.length]? = some (.live (pgC (pgS W t.place) R)) := get_last rfl
      have g9 := Gr.app m8 [.live (pgC (pgS W t.place) R)]
      have X9 := g9.get (cm8.old XM (by rintro (he | he) <;> omega))
      have B9 := g9.get (cm8.old BM (by rintro (he | he) <;> omega))
      have C9 := g9.get hc8
      simp only [hz, L9, cond_true, st9, Option.bind_some, nn, Bool.not_true, cond_false]
      generalize hP : m8.length = P at *
      generalize m8 ++ [.live (pgC (pgS W t.place) R)] = m9 at *
      -- what was written
      refine patinalaw08_MediaCuts_l2_rule k _ _ (fun r x3 x7 x8 x9 x11 x14 x16 M' => (⟨1, 0, none⟩ : Addr) = x3 ∧ true = x7 ∧ (some ⟨b, 0, none⟩ : Option Addr) = x8 ∧ n = x9 ∧ errC e = x11 ∧ (⟨P, 0, none⟩ : Addr) = x14 ∧ ∃ j : Nat, x16 = j ∧ j + r = 4 ∧ Gr m9 M') ?_ k 4 _ _ _ _ _ _ _ _ (by omega)
        ⟨rfl, rfl, rfl, rfl, rfl, rfl, 0, rfl, rfl, Gr.refl _⟩
      rintro r2 nx2 _ _ _ _ _ _ _ M' ⟨rfl, rfl, rfl, rfl, rfl, rfl, j, rfl, hr2, gM⟩ hnx2
      unfold patinalaw08_MediaCuts_l2_b
      have B' := gM.get B9
      have X' := gM.get X9
      have C' := gM.get C9
      have pc' : ldPtr M' ⟨b, 0, none⟩ = some (some ⟨c, 0, none⟩) := ldPtr_of B' rfl
      have pl' : ldInt .i64 M' ⟨1, 0, none⟩ = some t.place := ldInt_of X' rfl
      by_cases hj : (j : Int) < 4
      · have et := nand_Truth_is k C' t.place j
        rw [if_pos ⟨hpl.1, hpl.2, by omega, hj⟩, readd_at, hcu.is_ j (by omega)] at et
        simp only [decide_eq_true hj, cond_true, Option.bind_some, plus, Nat.zero_add, pc', pl', et, nn, Bool.not_true, cond_false, beq_self_eq_true]
        exact hnx2 (r2 - 1) _ _ _ _ _ _ _ _ (by omega) ⟨rfl, rfl, rfl, rfl, rfl, rfl, j + 1, by rw [wrap_i64 (by omega) (by omega)]; push_cast; rfl, by omega, gM.trans (Gr.app _ _)⟩
      · clear hnx2
        rw [decide_eq_false hj, cond_false]
        refine patinalaw08_MediaCuts_l4_rule k _ _ (fun r x3 x7 x8 x9 x11 x14 x20 M' => (⟨1, 0, none⟩ : Addr) = x3 ∧ true = x7 ∧ (some ⟨b, 0, none⟩ : Option Addr) = x8 ∧ n = x9 ∧ errC e = x11 ∧ (⟨P, 0, none⟩ : Addr) = x14 ∧ ∃ j : Nat, x20 = j ∧ j + r = 96 ∧ Gr m9 M') ?_ k 96 _ _ _ _ _ _ _ _ (by omega)
          ⟨rfl, rfl, rfl, rfl, rfl, rfl, 0, rfl, rfl, gM⟩
        rintro r3 nx3 _ _ _ _ _ _ _ M2 ⟨rfl, rfl, rfl, rfl, rfl, rfl, j2, rfl, hr3, gM2⟩ hnx3
        unfold patinalaw08_MediaCuts_l4_b
        have B2 := gM2.get B9
        have X2 := gM2.get X9
        have C2 := gM2.get C9
        have P2 := gM2.get x9
        have pc2 : ldPtr M2 ⟨b, 0, none⟩ = some (some ⟨c, 0, none⟩) := ldPtr_of B2 rfl
        have pl2 : ldInt .i64 M2 ⟨1, 0, none⟩ = some t.place := ldInt_of X2 rfl
        by_cases hj2 : (j2 : Int) < 96
        · simp only [decide_eq_true hj2, cond_true, plus, Nat.zero_add, pl2, Option.bind_some]
          by_cases hsame : (j2 : Int) = t.place
          · have b1 : ((j2 : Int) == t.place) = true := by rw [hsame]; exact beq_self_eq_true _
            rw [b1, cond_true]
            unfold patinalaw08_MediaCuts_j1
            exact hnx3 (r3 - 1) _ _ _ _ _ _ _ _ (by omega) ⟨rfl, rfl, rfl, rfl, rfl, rfl, j2 + 1, by rw [wrap_i64 (by omega) (by omega)]; push_cast; rfl, by omega, gM2⟩
          · have b1 : ((j2 : Int) == t.place) = false := beq_eq_false_iff_ne.2 hsame
            have et := nand_Truth_is k C2 (j2 : Int) 0
            rw [if_pos ⟨by omega, hj2, by omega, by omega⟩, readd_at, hcu.rest (j2 : Int) (by omega) hsame] at et
            simp only [b1, cond_false, pc2, Option.bind_some, et, nn, Bool.not_true]
            unfold patinalaw08_MediaCuts_j1
            exact hnx3 (r3 - 1) _ _ _ _ _ _ _ _ (by omega) ⟨rfl, rfl, rfl, rfl, rfl, rfl, j2 + 1, by rw [wrap_i64 (by omega) (by omega)]; push_cast; rfl, by omega, gM2.trans (Gr.app _ _)⟩
        · clear hnx3
          rw [decide_eq_false hj2, cond_false]
          obtain ⟨u, u1, u2⟩ := hcu.last
          by_cases h4 : 4 ≤ n
          · rw [if_pos h4] at u2 he
            subst he
            have f3 : far W t w 3 ≤ 4 := by
              unfold far
              rw [df_congr (wd_at hW (q := 3) (by omega) u1)]; omega
            have f0 : ∀ q, q < 3 → far W t w q = 0 := fun q hq => far_zero (wd_at hW (by omega) (hcu.now h4 q hq))
            have fall : ∀ j, j < 4 → far W t w j ≤ 4 := fun j hj => by
              by_cases h3 : j = 3
              · subst h3; exact f3
              · rw [f0 j (by omega)]; omega
            obtain ⟨p1, p2, p3, p4, p5, p6⟩ := pgS_near (W := W) (w := w) hok fall
            have b0 : ldBool M2 ⟨P, 0, none⟩ = some (pgS W t.place).tagged := ldBool_of P2 rfl
            have c1 : ldCells M2 ⟨P, 1, none⟩ 5 = some (tagC (pgS W t.place).tag) := by rw [ldCells_of (off := 1) (n := 5) P2 (by simp [pgC])]; rfl
            have ct : ldCells M2 ⟨1, 0, none⟩ 5 = some (tagC t) := by rw [ldCells_of (off := 0) (n := 5) X2 (Nat.le_refl _)]; rfl
            obtain ⟨bb, q1, q2⟩ := tag_eq (pgS W t.place).tag t
            have n0' : isNil (errC 0) = some true := rfl
            simp only [decide_eq_false (show ¬ n < 4 by omega), cond_false, cond_true, n0', Option.bind_some, plus, Nat.zero_add, b0, c1, ct, q1]
            cases ht : (pgS W t.place).tagged with
            | false => exact .some rfl
            | true =>
              have hb : bb = true := q2.2 (p3 ht)
              subst hb
              exact .some rfl
          · rw [if_neg h4] at u2 he
            subst he
            have eb : pgS W t.place = .no (mxm W 4) := pgS_blank (by
              rw [df_congr (wd_at hW (q := 3) (by omega) u1)]; omega)
            rw [eb] at P2
            have b0 : ldBool M2 ⟨P, 0, none⟩ = some false := ldBool_of P2 rfl
            have b6 : ldBool M2 ⟨P, 6, none⟩ = some false := ldBool_of P2 rfl
            have i7 : ifEq tt (errC 7) (.iface ty_api_Code (.int .i64 7)) = some true := by rw [ifEq_errC 7 7 (by omega)]; rfl
            simp only [decide_eq_true (show n < 4 by omega), cond_true, i7, Option.bind_some, plus, Nat.zero_add, b0, b6, Bool.not_false]
            exact .some rfl
  obtain ⟨⟨_, m'⟩, h1, rfl⟩ := key
  exact ⟨m', h1⟩
end Go.Proofs.Ytchonnaoojpdoaa
