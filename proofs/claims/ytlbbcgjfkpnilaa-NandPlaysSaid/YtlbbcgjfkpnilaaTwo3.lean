/- Two chips: each thing that the law does, but for what is known, clones and the change of places. -/
import Derived.Test.YtlbbcgjfkpnilaaTwo2
set_option linter.unusedVariables false
set_option linter.unusedSectionVars false
set_option linter.unusedSimpArgs false
namespace Go.Proofs.Ytlbbcgjfkpnilaa
open Go.Mx

theorem chipRead_no (k : Nat) {m : Mem} {c : Nat} {p : Int} (hp : ¬ (0 ≤ p ∧ p < 96)) : nand_Chip_Read k (some ⟨c, 0, none⟩) p m = some (⟨none, 0, 0⟩, errC 1, m) := by
  unfold nand_Chip_Read
  rw [nand_at_is, if_neg (by unfold isAt; omega)]
  simp (disch := omega) only [Option.bind_some, Option.map_some, cond_true, cond_false, wrap_i64, tmod_pos, tdiv_pos, inRange_yes, inUpto_yes, isZero_no, decide_eq_true, decide_eq_false, Bool.not_true, Bool.not_false, Int.toNat_natCast, Nat.mul_one, beqI_yes, beqI_no, bneI_yes, bneI_no, isNil_nil, isNil_iface, wr_wr, Option.isNone_none, Option.isNone_some, plus, Nat.zero_add, Nat.add_zero, isNil_errC]
theorem chipRead_all (k : Nat) (hk : 100 < k) {n : Nat} {m : Mem} {c : Nat} {σ : ChipS} (h : m[c]? = some (.live (chipC σ))) (hw : Wf n σ) (hn : n < 4000000000000) (p : Int) :
    ∃ (R0 : RA) (n0 : Nat) (w0 : Nat → GF) (e : Int) (σ' : ChipS) (m' : Mem), nand_Chip_Read k (some ⟨c, 0, none⟩) p m = some (⟨rowA R0, n0, n0⟩, errC e, m') ∧ m'[c]? = some (.live (chipC σ')) ∧ m.length ≤ m'.length ∧ (∀ p, p < m.length → p ≠ c → m'[p]? = m[p]?) ∧
      RowLive m' R0 n0 n0 (fun u => ∀ k, k < n0 → u k = w0 k) ∧ (∀ D, rowD R0 = some D → m.length ≤ D) ∧ n0 < 1000 ∧ 0 ≤ e ∧ e < 20 ∧ Wf (n + 1) σ' ∧
      ((¬ (0 ≤ p ∧ p < 96) ∧ R0 = none ∧ n0 = 0 ∧ e = 1 ∧ σ' = σ) ∨ ((0 ≤ p ∧ p < 96) ∧ σ.off = true ∧ R0 = none ∧ n0 = 0 ∧ e = 7 ∧ σ' = σ) ∨
        ((0 ≤ p ∧ p < 96) ∧ σ.off = false ∧ (∃ D, R0 = some (D, false)) ∧ n0 = 256 ∧ e = 0 ∧ σ' = σ.readd p ∧ (∀ (q i : Nat), q < 4 → i < 64 → (σ.at_ p q).now i = ((w0 (q * 64 + i)).v : Int)))) := by
  by_cases hp : 0 ≤ p ∧ p < 96
  · cases ho : σ.off with
    | true => exact ⟨none, 0, fun _ => 0, 7, σ, m, chipRead_off k h hp.1 hp.2 ho, h, Nat.le_refl _, fun _ _ _ => rfl, rfl, (fun D h => nomatch h), by omega, by omega, by omega, hw.mono (by omega), .inr (.inl ⟨hp, rfl, rfl, rfl, rfl, rfl⟩)⟩
    | false =>
      have hr := hw.rd (p / 8)
      obtain ⟨W, h1, h2⟩ := hw.page p
      obtain ⟨⟨sl, e, m'⟩, e1, d, rfl, rfl, hO⟩ := chipRead_ok k hk (own_all h) hp.1 hp.2 ho ⟨hr.1, by omega⟩
      simp only at hO
      have hc' := hO.at 1 rfl
      have hd' := hO.at 0 rfl
      have hne : d ≠ c := by
        intro he
        have := hO.nd
        rw [List.map_cons, List.nodup_cons] at this
        exact this.1 (by rw [List.map_cons]; simp [he])
      have hk' := Own.keeps (m := m) (c := c) (X := [(d, .live (arr .u8 256 (σ.page p))), (c, .live (chipC (σ.readd p)))]) hO
      have hln := keeps_len hk' (.inr (get_lt hc'))
      have hdl : m.length ≤ d := by
        rcases Nat.lt_or_ge d m.length with h3 | h3
        · exact absurd rfl (Own.far (m := m) (c := c) (d := d) (X := [(c, .live (chipC (σ.readd p)))]) hO (fun _ _ _ => trivial) d h3 hne)
        · exact h3
      rw [h2] at hd'
      exact ⟨some (d, false), 256, W, 0, σ.readd p, m', e1, hc', hln, hk', ⟨W, hd', fun _ _ => rfl, Nat.le_refl _, fun _ => rfl⟩, (fun D h => by cases h; exact hdl), by omega, by omega, by omega, hw.readd p, .inr (.inr ⟨hp, rfl, ⟨d, rfl⟩, rfl, rfl, rfl, h1⟩)⟩
  · exact ⟨none, 0, fun _ => 0, 1, σ, m, chipRead_no k hp, h, Nat.le_refl _, fun _ _ _ => rfl, rfl, (fun D h => nomatch h), by omega, by omega, by omega, hw.mono (by omega), .inl ⟨hp, rfl, rfl, rfl, rfl⟩⟩
theorem nand_Flip_all (k : Nat) (hk : 64 < k) {m : Mem} {c : Nat} {σ : ChipS} (h : m[c]? = some (.live (chipC σ))) (p b : Int) :
    nand_Chip_Flip k (some ⟨c, 0, none⟩) p b m = some (errC (if 0 ≤ p ∧ p < 96 ∧ 0 ≤ b ∧ b < 2048 then 0 else 1), wr m c (chipC (if 0 ≤ p ∧ p < 96 ∧ 0 ≤ b ∧ b < 2048 then σ.flip p b else σ))) := by
  by_cases hh : 0 ≤ p ∧ p < 96 ∧ 0 ≤ b ∧ b < 2048
  · rw [if_pos hh, if_pos hh]
    exact nand_Flip_is k hk h hh.1 hh.2.1 hh.2.2.1 hh.2.2.2
  · rw [if_neg hh, if_neg hh, wr_same h]
    unfold nand_Chip_Flip
    by_cases h0 : b < 0
    · simp (disch := omega) only [Option.bind_some, Option.map_some, cond_true, cond_false, wrap_i64, tmod_pos, tdiv_pos, inRange_yes, inUpto_yes, isZero_no, decide_eq_true, decide_eq_false, Bool.not_true, Bool.not_false, Int.toNat_natCast, Nat.mul_one, beqI_yes, beqI_no, bneI_yes, bneI_no, isNil_nil, isNil_iface, wr_wr, Option.isNone_none, Option.isNone_some, plus, Nat.zero_add, Nat.add_zero, decide_eq_true h0]; rfl
    · by_cases h1 : b ≥ 2048
      · simp (disch := omega) only [Option.bind_some, Option.map_some, cond_true, cond_false, wrap_i64, tmod_pos, tdiv_pos, inRange_yes, inUpto_yes, isZero_no, decide_eq_true, decide_eq_false, Bool.not_true, Bool.not_false, Int.toNat_natCast, Nat.mul_one, beqI_yes, beqI_no, bneI_yes, bneI_no, isNil_nil, isNil_iface, wr_wr, Option.isNone_none, Option.isNone_some, plus, Nat.zero_add, Nat.add_zero, decide_eq_false h0, decide_eq_true h1]; rfl
      · have hq : IntKind.wrap .i64 (Int.tdiv (IntKind.wrap .i64 (Int.tdiv b 8)) 64) = b / 512 := by simp (disch := omega) only [Option.bind_some, Option.map_some, cond_true, cond_false, wrap_i64, tmod_pos, tdiv_pos, inRange_yes, inUpto_yes, isZero_no, decide_eq_true, decide_eq_false, Bool.not_true, Bool.not_false, Int.toNat_natCast, Nat.mul_one, beqI_yes, beqI_no, bneI_yes, bneI_no, isNil_nil, isNil_iface, wr_wr, Option.isNone_none, Option.isNone_some, plus, Nat.zero_add, Nat.add_zero]; omega
        rw [hq, nand_at_is, if_neg (by unfold isAt; omega)]
        simp (disch := omega) only [Option.bind_some, Option.map_some, cond_true, cond_false, wrap_i64, tmod_pos, tdiv_pos, inRange_yes, inUpto_yes, isZero_no, decide_eq_true, decide_eq_false, Bool.not_true, Bool.not_false, Int.toNat_natCast, Nat.mul_one, beqI_yes, beqI_no, bneI_yes, bneI_no, isNil_nil, isNil_iface, wr_wr, Option.isNone_none, Option.isNone_some, plus, Nat.zero_add, Nat.add_zero, decide_eq_false h0, decide_eq_false h1, isNil_errC]
theorem step_code (σ : ChipS) : 0 ≤ σ.step.1 ∧ σ.step.1 < 20 := by unfold ChipS.step; split <;> (try split) <;> simp
theorem write_code (σ : ChipS) (p q : Int) (n : Nat) (f : Int → Int) : 0 ≤ (σ.write p q n f).1 ∧ (σ.write p q n f).1 < 20 := by
  have := step_code σ
  unfold ChipS.write
  repeat' split
  all_goals first | exact this | (simp only; omega)
theorem erase_code (σ : ChipS) (x : Int) : 0 ≤ (σ.erase x).1 ∧ (σ.erase x).1 < 20 := by
  have := step_code σ
  unfold ChipS.erase
  repeat' split
  all_goals first | exact this | (simp only; omega)

/-- what was told is what was wanted -/
def Eqs (X : TX) : Prop := X.N = X.N' ∧ ∀ i, X.lo ≤ i → i < X.N → X.nn i = X.nn' i ∧ ∀ k, k < X.nn i → X.W i k = X.W' i k
/-- how it stands behind a call -/
def Did (m0 : Mem) (T c d r s n : Nat) (gs : RG) (τ υ : ChipS) (lo : Nat) (x : Bool × Mem) : Prop :=
  x.1 = true ∧ ∃ ro gr σ X, TI m0 x.2 T c d r s ro gr gs σ σ τ υ X ∧ Wf (n + 1) σ ∧ Eqs X ∧ X.N ≤ n + 1 ∧ X.lo = lo

section
variable (k : Nat) (hk : 1000 < k) {m0 m : Mem} {T c d r s n : Nat} {ro : Nat → Option Role} {gr gs : RG} {σ τ υ : ChipS} {X : TX} (h : TI m0 m T c d r s ro gr gs σ σ τ υ X) (hw : Wf n σ) (hn : n < 4000000000000) (hX : Eqs X) (hN : X.N ≤ n)
  {kk a b : Int} {sa : Option Addr} {sn sc : Nat} {w : Nat → GF} (hd : ∀ M, Gr m0 M → Src M sa sn w) (hsn : sn ≤ 140737488351232) (hkn : sn + 5 < k)
  (ha : -9223372036854775808 ≤ a ∧ a < 9223372036854775808) (hb : -9223372036854775808 ≤ b ∧ b < 9223372036854775808)
include hk h hw hn hX hN hd hsn hkn ha hb

theorem two_read (hp : ∀ M, patinalaw05_pick k kk 11 M = some (0, M)) : Ok (patinalaw05_Two_step k (some ⟨T, 0, none⟩) [.int .i64 kk, .int .i64 a, .int .i64 b, .slice sa sn sc] m) (Did m0 T c d r s n gs τ υ X.lo) := by
  unfold patinalaw05_Two_step
  have L4 : Nat.beq (List.length [Value.int .i64 kk, .int .i64 a, .int .i64 b, .slice sa sn sc]) 4 = true := rfl
  have ho := get_last (m := m) (o := .live [Value.int .i64 kk, .int .i64 a, .int .i64 b, .slice sa sn sc]) rfl
  have h1 := h.grow (Gr.app m [.live [Value.int .i64 kk, .int .i64 a, .int .i64 b, .slice sa sn sc]])
  have z0 : ((0 : Int) == 0) = true := rfl
  generalize m ++ [.live [Value.int .i64 kk, .int .i64 a, .int .i64 b, .slice sa sn sc]] = m1 at *
  have p0 : ldInt .i64 m1 ⟨m.length, 0, none⟩ = some kk := ldInt_of ho rfl
  have p1 : ldInt .i64 m1 ⟨m.length, 1, none⟩ = some a := ldInt_of ho rfl
  have q0 : ldPtr m1 ⟨T, 0, none⟩ = some (some ⟨c, 0, none⟩) := ldPtr_of h1.t_.1 rfl
  obtain ⟨R0, n0, w0, e, σ', m2, e1, e2, e3, e4, e5, e6, e7, e8, e9, e10, e11⟩ := chipRead_all k (by omega) h1.c_.1 hw (by omega) a
  have h2 := h1.chip e3 e4 e2
  have oc : m.length ≠ c := fun he => by have := (h.lt c (by rw [h.c_.2]; simp)).2; omega
  have ol := get_lt ho
  have ho2 : m2[m.length]? = some _ := (e4 _ ol oc).trans ho
  have p2 : ldInt .i64 m2 ⟨m.length, 1, none⟩ = some a := ldInt_of ho2 rfl
  have q2 : ldPtr m2 ⟨T, 2, none⟩ = some (some ⟨r, 0, none⟩) := ldPtr_of h2.t_.1 rfl
  have lm : m.length < m1.length := ol
  -- the document's
  have doc : ∃ (R0' : RA) (m3 : Mem) (ro' : Nat → Option Role) (gr' : RG), patinaref05_Chip_Read k (some ⟨r, 0, none⟩) a m2 = some (⟨rowA R0', n0, n0⟩, e, m3) ∧ TI m0 m3 T c d r s ro' gr' gs σ' σ' τ υ X ∧ RowLive m3 R0' n0 n0 (fun u => ∀ k, k < n0 → u k = w0 k) ∧ (∀ D, rowD R0' = some D → m2.length ≤ D ∧ ro' D = none) ∧ m2.length ≤ m3.length ∧ RowLive m3 R0 n0 n0 (fun u => ∀ k, k < n0 → u k = w0 k) ∧ (∀ D, rowD R0 = some D → ro' D = none) := by
    have fre : ∀ D, rowD R0 = some D → ro D = none := fun D hD => by
      cases hr : ro D with
      | none => rfl
      | some l => have := (h.lt D (by rw [hr]; simp)).2; have := e6 D hD; omega
    rcases e11 with ⟨c1, rfl, rfl, rfl, rfl⟩ | ⟨c1, c2, rfl, rfl, rfl, rfl⟩ | ⟨c1, c2, ⟨D, rfl⟩, rfl, rfl, rfl, c3⟩
    · exact ⟨none, m2, ro, gr, refRead_no h2.r_ k c1, h2, rfl, (fun D h => by cases h), Nat.le_refl _, rfl, fun D h => by cases h⟩
    · exact ⟨none, m2, ro, gr, refRead_off h2.r_ k c1 c2, h2, rfl, (fun D h => by cases h), Nat.le_refl _, rfl, fun D h => by cases h⟩
    · have hr := hw.rd (a / 8)
      obtain ⟨⟨_, _, m3⟩, f1, D', rfl, rfl, f2, f3, f4, f5⟩ := refRead_ok h2.r_ k (by omega) c1 c2 ⟨hr.1, by omega⟩ c3
      simp only at f2 f3 f4 f5
      have hlen := f3.len
      have h3 := h2.ref f2 (Lx.of f3)
      have Dlt := e5.lt D rfl
      have rD : lrOf ro D = none := by unfold lrOf; rw [fre D rfl]
      have rD' : ro D' = none := by
        cases hr : ro D' with
        | none => rfl
        | some l => have := (h2.lt D' (by rw [hr]; simp)).2; omega
      -- the roles stay
      have key : TI m0 m3 T c d r s ro gr gs (σ.readd a) (σ.readd a) τ υ X := by
        have hk' : ∀ p l, ro p = some l → (∀ x, l ≠ .r x) → m3[p]? = m2[p]? := fun p l hp hl => f3.get p (h2.lt p (by rw [hp]; simp)).2 fun hx => by
          obtain ⟨y, hy, _⟩ := lrOf_some hx
          rw [hp] at hy; cases hy; exact hl y rfl
        refine ⟨h2.gr_of hlen fun p hp hn => f3.get p hp fun hx => lrOf_ne hx hn, ⟨by rw [hk' T _ h2.t_.2 (by simp)]; exact h2.t_.1, h2.t_.2⟩, ⟨by rw [hk' c _ h2.c_.2 (by simp)]; exact h2.c_.1, h2.c_.2⟩, ⟨by rw [hk' d _ h2.d_.2 (by simp)]; exact h2.d_.1, h2.d_.2⟩, f2, h2.s_.keep hlen fun p hp => (by obtain ⟨l, h1, _⟩ := lsOf_some hp; exact hk' p _ h1 (by simp)), ?_, ?_, fun i hlo hi => ?_, fun i hlo hi => ?_, fun p hp => ⟨(h2.lt p hp).1, Nat.lt_of_lt_of_le (h2.lt p hp).2 hlen⟩⟩
        · rcases h2.ta_ with h1 | ⟨q, h1, h3, h4⟩
          · exact .inl h1
          · exact .inr ⟨q, h1, by rw [hk' q _ h4 (by simp)]; exact h3, h4⟩
        · rcases h2.wa_ with h1 | ⟨q, h1, h3, h4⟩
          · exact .inl h1
          · exact .inr ⟨q, h1, by rw [hk' q _ h4 (by simp)]; exact h3, h4⟩
        · obtain ⟨g1, g2, g3⟩ := h2.rows i hlo hi
          exact ⟨g1, g2.keep fun D hD => hk' D _ (g3 D hD) (by simp), g3⟩
        · obtain ⟨g1, g2, g3⟩ := h2.rows' i hlo hi
          exact ⟨g1, g2.keep fun D hD => hk' D _ (g3 D hD) (by simp), g3⟩
      exact ⟨some (D', true), m3, ro, gr, f1, key, ⟨w0, f5, fun _ _ => rfl, Nat.le_refl _, fun _ => rfl⟩, (fun D h => by cases h; exact ⟨f4, rD'⟩), hlen, e5.keep fun D hD => by cases hD; exact f3.get _ Dlt (fun h => h rD), fun D hD => fre D hD⟩
  obtain ⟨R0', m3, ro', gr', f1, h3, g1, g2, g3, g4, g5⟩ := doc
  obtain ⟨z, s1, s2⟩ := same_is k (m := m3) (c := n0) (c' := n0) g4.src g1.src (by omega) (by omega)
  have hz : z = true := s2.2 ⟨rfl, fun _ _ => rfl⟩
  subst hz
  have l3 : ldSl m3 ⟨T, 4, none⟩ = some ⟨X.ta, X.N, X.N⟩ := ldSl_of h3.t_.1 rfl
  obtain ⟨M4, ro4, t1, t2, t3, t4⟩ := h3.told (by omega) e7 g4 fun D hD => ⟨g5 D hD, by have := e6 D hD; have := h1.base.len; omega⟩
  have st4 := st_wr (sp := none) (off := 4) (v := .slice (some ⟨m3.length + 1, 0, some 1⟩) (X.N + 1) (X.N + 1)) t2 (by simp [tcell])
  have hset4 : (tcell c d r s X).set 4 (.slice (some ⟨m3.length + 1, 0, some 1⟩) (X.N + 1) (X.N + 1)) = tcell c d r s { X with N := X.N + 1, ta := some ⟨m3.length + 1, 0, some 1⟩ } := rfl
  rw [hset4] at st4
  have neR : ∀ D, rowD R0' = some D → rowD R0 ≠ some D := fun D hD hD' => by have := (g2 D hD).1; have := e5.lt D hD'; omega
  have g1lt := g1.lt
  generalize hm5 : wr M4 T (tcell c d r s { X with N := X.N + 1, ta := some ⟨m3.length + 1, 0, some 1⟩ }) = m5 at *
  have l5 : ldSl m5 ⟨T, 5, none⟩ = some ⟨X.wa, X.N', X.N'⟩ := ldSl_of t3.t_.1 rfl
  obtain ⟨M6, ro6, u1, u2, u3, u4⟩ := t3.want (R0 := R0') (n0 := n0) (w0 := w0) (by have := hX.1; simp only; omega) e7 (g1.keep fun D hD => (t4 D (g1lt D hD) (g2 D hD).2 fun h => neR D hD h).2) fun D hD => ⟨(t4 D (g1lt D hD) (g2 D hD).2 fun h => neR D hD h).1, by have := (g2 D hD).1; have := h1.base.len; omega⟩
  have st5 := st_wr (sp := none) (off := 5) (v := .slice (some ⟨m5.length + 1, 0, some 1⟩) (X.N' + 1) (X.N' + 1)) u2 (by simp [tcell])
  have hset5 : (tcell c d r s { X with N := X.N + 1, ta := some ⟨m3.length + 1, 0, some 1⟩, R := fun i => if i = X.N then R0 else X.R i, nn := fun i => if i = X.N then n0 else X.nn i, W := fun i => if i = X.N then w0 else X.W i }).set 5 (.slice (some ⟨m5.length + 1, 0, some 1⟩) (X.N' + 1) (X.N' + 1)) = tcell c d r s { X with N := X.N + 1, ta := some ⟨m3.length + 1, 0, some 1⟩, N' := X.N' + 1, wa := some ⟨m5.length + 1, 0, some 1⟩ } := rfl
  rw [hset5] at st5
  have cd := code_is k e (wr M6 T (tcell c d r s { X with N := X.N + 1, ta := some ⟨m3.length + 1, 0, some 1⟩, N' := X.N' + 1, wa := some ⟨m5.length + 1, 0, some 1⟩ })) ⟨e8, e9⟩
  simp (disch := omega) only [Option.bind_some, Option.map_some, cond_true, cond_false, wrap_i64, tmod_pos, tdiv_pos, inRange_yes, inUpto_yes, isZero_no, decide_eq_true, decide_eq_false, Bool.not_true, Bool.not_false, Int.toNat_natCast, Nat.mul_one, beqI_yes, beqI_no, bneI_yes, bneI_no, isNil_nil, isNil_iface, wr_wr, Option.isNone_none, Option.isNone_some, plus, Nat.zero_add, Nat.add_zero, L4, p0, hp, z0, q0, p1, e1, q2, p2, f1, s1, l3, rdSl_new, t1, st4, hm5, l5, u1, st5, cd, beq_self_eq_true]
  refine .some ⟨rfl, ro6, gr', σ', _, u3, e10, ⟨by show X.N + 1 = X.N' + 1; rw [hX.1], fun i hlo hi => ?_⟩, by show X.N + 1 ≤ _; omega, rfl⟩
  have hi : i < X.N + 1 := hi
  show (if i = X.N then n0 else X.nn i) = (if i = X.N' then n0 else X.nn' i) ∧ ∀ k, k < (if i = X.N then n0 else X.nn i) → (if i = X.N then w0 else X.W i) k = (if i = X.N' then w0 else X.W' i) k
  rw [← hX.1]
  by_cases hi2 : i = X.N
  · rw [if_pos hi2, if_pos hi2, if_pos hi2, if_pos hi2]; exact ⟨rfl, fun _ _ => rfl⟩
  · rw [if_neg hi2, if_neg hi2, if_neg hi2, if_neg hi2]; exact hX.2 i hlo (by omega)
end
end Go.Proofs.Ytlbbcgjfkpnilaa
