/- Lists that came out, each its owner's: the document's test of them. -/
import Derived.Test.YtlbbcgjfkpnilaaByl
import Derived.Test.YtlbbcgjfkpnilaaRsA
set_option linter.unusedVariables false
set_option linter.unusedSectionVars false
set_option linter.unusedSimpArgs false
namespace Go.Proofs.Ytlbbcgjfkpnilaa
open Go.Mx

/-- slices, told by functions -/
def sls (N : Nat) (D : Nat → Nat) (nn : Nat → Nat) (sp : Option Nat) : List Value := (List.range N).map fun i => .slice (some ⟨D i, 0, sp⟩) (nn i) (nn i)
theorem sls_len {N : Nat} {D nn : Nat → Nat} {sp : Option Nat} : (sls N D nn sp).length = N := by simp [sls]
theorem sls_get {N : Nat} {D nn : Nat → Nat} {sp : Option Nat} {i : Nat} (h : i < N) : (sls N D nn sp)[i]? = some (.slice (some ⟨D i, 0, sp⟩) (nn i) (nn i)) := by simp [sls, h]
theorem sls_snoc {N : Nat} {D nn : Nat → Nat} {sp : Option Nat} : sls N D nn sp ++ [.slice (some ⟨D N, 0, sp⟩) (nn N) (nn N)] = sls (N + 1) D nn sp := by
  unfold sls; rw [List.range_succ, List.map_append]; rfl
theorem sls_congr {N : Nat} {D D' nn nn' : Nat → Nat} {sp : Option Nat} (h : ∀ i, i < N → D i = D' i ∧ nn i = nn' i) : sls N D nn sp = sls N D' nn' sp := by
  unfold sls
  apply List.map_congr_left
  intro i hi
  rw [(h i (List.mem_range.1 hi)).1, (h i (List.mem_range.1 hi)).2]
/-- what is written -/
def mk1 (i k : Nat) : GF := GF.of ((37 * (i : Int) + (k : Int)) % 256).toNat
def mk2 (i k : Nat) : GF := GF.of ((100 + 37 * (i : Int) + (k : Int)) % 256).toNat
theorem wrapC (z : Int) : IntKind.wrap .u8 z = ((GF.of (z % 256).toNat).v : Int) := by
  rw [GF.v_of (by omega)]
  simp only [IntKind.wrap, IntKind.bits, IntKind.signed, Bool.false_and, Bool.false_eq_true, if_false]
  omega

/-- the grown rows so far -/
def Gc (b : Nat) (m : Mem) (a : Option Addr) (N : Nat) (G : Nat → Nat) (nn : Nat → Nat) : Prop := (a = none ∧ N = 0) ∨ ∃ q, a = some ⟨q, 0, some 1⟩ ∧ b ≤ q ∧ m[q]? = some (.live (sls N G (fun i => nn i + 7) (some 1))) ∧ ∀ i, i < N → G i ≠ q

/-- where the first part stands: N rows are written and grown -/
structure ApS (m0 m : Mem) (q : Nat) (M : Nat) (D nn : Nat → Nat) (L : Nat → Nat) (i : Nat) (a : Option Addr) (G : Nat → Nat) : Prop where
  len : m0.length ≤ m.length
  box : m[q]? = some (.live (sls M D nn none))
  old : ∀ j, j < M → ∃ u, m[D j]? = some (.live (bys (L j) u)) ∧ (j < i → ∀ k, k < nn j → u k = mk1 j k)
  grow : Gc m0.length m a i G nn
  g_ : ∀ j, j < i → m0.length ≤ G j ∧ ∃ u, m[G j]? = some (.live (bys (nn j + 7) u)) ∧ (∀ k, k < nn j → u k = mk1 j k) ∧ ∀ k, k < 7 → u (nn j + k) = mk2 j k

theorem apart_ok (k : Nat) (hk : 1000 < k) {m : Mem} {q M : Nat} {sq : Option Nat} {cc : Nat} {D nn L : Nat → Nat} (hq : m[q]? = some (.live (sls M D nn none))) (hD : ∀ j, j < M → ∃ u, m[D j]? = some (.live (bys (L j) u))) (hL : ∀ j, j < M → nn j ≤ L j ∧ nn j < 1000)
    (hne : ∀ i j, i < M → j < M → i ≠ j → D i ≠ D j) (hqd : ∀ i, i < M → D i ≠ q) (hM : M < 1000) :
    Ok (patinaref01_Apart k (some ⟨q, 0, sq⟩) M cc m) fun r => r.1 = true ∧ m.length ≤ r.2.length ∧ ∀ p, p < m.length → (∀ j, j < M → p ≠ D j) → r.2[p]? = m[p]? := by
  have qlt := get_lt hq
  have Dlt : ∀ j, j < M → D j < m.length := fun j hj => by obtain ⟨u, hu⟩ := hD j hj; exact get_lt hu
  unfold patinaref01_Apart
  refine patinaref01_Apart_l0_rule k _ (fun r x0a x0n x0c x3a x3n x3c x4 m' => (some ⟨q, 0, sq⟩ : Option Addr) = x0a ∧ M = x0n ∧ cc = x0c ∧ ∃ (i : Nat) (G : Nat → Nat), x4 = i ∧ i = x3n ∧ i = x3c ∧ i + r = M ∧ ApS m m' q M D nn L i x3a G ∧ ∀ p, p < m.length → (∀ j, j < M → p ≠ D j) → m'[p]? = m[p]?) ?_ k M _ _ _ _ _ _ _ _ (by omega)
    ⟨rfl, rfl, rfl, 0, fun _ => 0, rfl, rfl, rfl, by omega, ⟨Nat.le_refl _, hq, fun j hj => by obtain ⟨u, hu⟩ := hD j hj; exact ⟨u, hu, fun h => by omega⟩, .inl ⟨rfl, rfl⟩, fun j hj => by omega⟩, fun _ _ _ => rfl⟩
  rintro r nx _ _ _ x3a _ _ _ m' ⟨rfl, rfl, rfl, i, G, rfl, rfl, rfl, hr, hS, hfr⟩ hnx
  unfold patinaref01_Apart_l0_b
  by_cases hi : (i : Int) < M
  · -- its bytes are written
    have hiM : i < M := by omega
    obtain ⟨hLi, hLk⟩ := hL i hiM
    rw [decide_eq_true hi, cond_true]
    refine patinaref01_Apart_l2_rule k _ (fun r x0a x0n x0c y3a y3n y3c x4 x5 m' => (some ⟨q, 0, sq⟩ : Option Addr) = x0a ∧ M = x0n ∧ cc = x0c ∧ x3a = y3a ∧ i = y3n ∧ i = y3c ∧ (i : Int) = x4 ∧ ∃ j : Nat, x5 = j ∧ j + r = nn i ∧ ApS m m' q M D nn L i x3a G ∧ (∀ p, p < m.length → (∀ j, j < M → p ≠ D j) → m'[p]? = m[p]?) ∧ ∃ u, m'[D i]? = some (.live (bys (L i) u)) ∧ ∀ k, k < j → u k = mk1 i k) ?_ k (nn i) _ _ _ _ _ _ _ _ _ (by omega)
      ⟨rfl, rfl, rfl, rfl, rfl, rfl, rfl, 0, rfl, by omega, hS, hfr, by obtain ⟨u, hu, _⟩ := hS.old i hiM; exact ⟨u, hu, fun k hk => by omega⟩⟩
    clear hS hfr
    rintro r' nx' _ _ _ _ _ _ _ _ m2 ⟨rfl, rfl, rfl, rfl, rfl, rfl, rfl, j, rfl, hr', hS, hfr, u, hu, hw⟩ hnx'
    unfold patinaref01_Apart_l2_b
    have inM : inRange (i : Int) M = true := inRange_yes (by omega) (by omega)
    have s1 : ldSl m2 ⟨q, i, sq⟩ = some ⟨some ⟨D i, 0, none⟩, nn i, nn i⟩ := ldSl_of hS.box (sls_get hiM)
    by_cases hj : (j : Int) < nn i
    · have e1 := bys_st (sp := none) hu (i := j) (by omega) (mk1 i j)
      have hv : (37 * (i : Int) + (j : Int)) % 256 = (37 * (i : Int) + (j : Int)) % 256 := rfl
      have hm1 : IntKind.wrap .u8 (37 * (i : Int) + (j : Int)) = ((mk1 i j).v : Int) := wrapC _
      simp (disch := omega) only [Option.bind_some, Option.map_some, cond_true, cond_false, wrap_i64, tmod_pos, tdiv_pos, inRange_yes, inUpto_yes, isZero_no, decide_eq_true, decide_eq_false, Bool.not_true, Bool.not_false, Int.toNat_natCast, Nat.mul_one, beqI_yes, beqI_no, bneI_yes, bneI_no, isNil_nil, isNil_iface, wr_wr, Option.isNone_none, Option.isNone_some, plus, Nat.zero_add, Nat.add_zero, inM, s1, hm1, e1]
      have hDne : ∀ p : Nat, p ≠ D i → (wr m2 (D i) (bys (L i) (put u j (mk1 i j))))[p]? = m2[p]? := fun p hp => wr_ne (Ne.symm hp)
      refine hnx' (r' - 1) _ _ _ _ _ _ _ _ _ (by omega) ⟨rfl, rfl, rfl, rfl, rfl, rfl, rfl, j + 1, by omega, by omega, ⟨by rw [wr_len]; exact hS.len, by rw [hDne q (fun h => hqd i hiM h.symm)]; exact hS.box, fun j' hj' => ?_, ?_, fun j' hj' => ?_⟩, fun p hp hpd => by rw [hDne p (hpd i hiM)]; exact hfr p hp hpd, _, wr_get hu, fun k hk => ?_⟩
      · by_cases h1 : j' = i
        · subst h1; exact ⟨_, wr_get hu, fun h => by omega⟩
        · rw [hDne _ (hne j' i hj' hiM h1)]; exact hS.old j' hj'
      · rcases hS.grow with h | ⟨z, h1, h2, h3, h4⟩
        · exact .inl h
        · exact .inr ⟨z, h1, h2, by rw [hDne z (by have := Dlt i hiM; omega)]; exact h3, h4⟩
      · obtain ⟨h1, u', h2, h3⟩ := hS.g_ j' hj'
        exact ⟨h1, u', by rw [hDne _ (by have := Dlt i hiM; omega)]; exact h2, h3⟩
      · unfold put
        by_cases h1 : k = j
        · rw [if_pos h1, h1]
        · rw [if_neg h1]; exact hw k (by omega)
    · obtain rfl : j = nn i := by omega
      clear hnx'
      simp (disch := omega) only [Option.bind_some, Option.map_some, cond_true, cond_false, wrap_i64, tmod_pos, tdiv_pos, inRange_yes, inUpto_yes, isZero_no, decide_eq_true, decide_eq_false, Bool.not_true, Bool.not_false, Int.toNat_natCast, Nat.mul_one, beqI_yes, beqI_no, bneI_yes, bneI_no, isNil_nil, isNil_iface, wr_wr, Option.isNone_none, Option.isNone_some, plus, Nat.zero_add, Nat.add_zero, inM, s1]
      -- seven more
      refine patinaref01_Apart_l4_rule k _ (fun r x0a x0n x0c y3a y3n y3c x4 x6a x6n x6c x7 m' => (some ⟨q, 0, sq⟩ : Option Addr) = x0a ∧ M = x0n ∧ cc = x0c ∧ x3a = y3a ∧ i = y3n ∧ i = y3c ∧ (i : Int) = x4 ∧ ∃ (t : Nat), x7 = t ∧ t + r = 7 ∧ nn i + t = x6n ∧ nn i + t = x6c ∧ ApS m m' q M D nn L i x3a G ∧ (∀ p, p < m.length → (∀ j, j < M → p ≠ D j) → m'[p]? = m[p]?) ∧ (∃ u, m'[D i]? = some (.live (bys (L i) u)) ∧ ∀ k, k < nn i → u k = mk1 i k) ∧
        ((t = 0 ∧ some ⟨D i, 0, none⟩ = x6a) ∨ ∃ g u, some ⟨g, 0, some 1⟩ = x6a ∧ m.length ≤ g ∧ m'[g]? = some (.live (bys (nn i + t) u)) ∧ (∀ k, k < nn i → u k = mk1 i k) ∧ (∀ k, k < t → u (nn i + k) = mk2 i k) ∧ (∀ j, j < i → G j ≠ g) ∧ ∀ z, x3a = some ⟨z, 0, some 1⟩ → z ≠ g)) ?_ k 7 _ _ _ _ _ _ _ _ _ _ _ _ (by omega)
        ⟨rfl, rfl, rfl, rfl, rfl, rfl, rfl, 0, rfl, by omega, rfl, rfl, hS, hfr, ⟨u, hu, hw⟩, .inl ⟨rfl, rfl⟩⟩
      clear hS hfr hu hw u s1
      rintro r' nx' _ _ _ _ _ _ _ x6a _ _ _ m3 ⟨rfl, rfl, rfl, rfl, rfl, rfl, rfl, t, rfl, hr', rfl, rfl, hS, hfr, ⟨u, hu, hw⟩, hg⟩ hnx'
      unfold patinaref01_Apart_l4_b
      have hS3 := hS.len
      have Gcl : ∀ z, x3a = some ⟨z, 0, some 1⟩ → z < m3.length := by
        rintro z rfl
        rcases hS.grow with ⟨h, _⟩ | ⟨z', h1, h2, h3, h4⟩
        · cases h
        · simp only [Option.some.injEq, Addr.mk.injEq] at h1
          obtain ⟨rfl, _⟩ := h1
          exact get_lt h3
      have Gl : ∀ j, j < i → G j < m3.length := fun j hj => by obtain ⟨_, u', h2, _⟩ := hS.g_ j hj; exact get_lt h2
      by_cases ht : (t : Int) < 7
      · have hm2 : IntKind.wrap .u8 (100 + 37 * (i : Int) + (t : Int)) = ((mk2 i t).v : Int) := wrapC _
        -- the append
        have step : ∃ m4 u4, appM 1 1 (m3 ++ [.live [.int .u8 ((mk2 i t).v : Int)]]) x6a (nn i + t) (nn i + t) 1 [.int .u8 ((mk2 i t).v : Int)] = some (⟨some ⟨m3.length + 1, 0, some 1⟩, nn i + t + 1, nn i + t + 1⟩, m4) ∧ m4.length = m3.length + 2 ∧ m4[m3.length + 1]? = some (.live (bys (nn i + t + 1) u4)) ∧ (∀ k, k < nn i → u4 k = mk1 i k) ∧ (∀ k, k < t + 1 → u4 (nn i + k) = mk2 i k) ∧ ∀ p, p < m3.length → (∀ g, x6a = some ⟨g, 0, some 1⟩ → p ≠ g) → m4[p]? = m3[p]? := by
          rcases hg with ⟨rfl, rfl⟩ | ⟨g, u', rfl, g1, g2, g3, g4, _⟩
          · have hc : [Value.int .u8 ((mk2 i 0).v : Int)] = bys 1 fun _ => mk2 i 0 := rfl
            refine ⟨m3 ++ [.live [.int .u8 ((mk2 i 0).v : Int)]] ++ [.live (bys (nn i + 0 + 1) fun z => if z < nn i then u z else mk2 i 0)], fun z => if z < nn i then u z else mk2 i 0, ?_, by simp, get_last (by simp), fun k hk => by dsimp only; rw [if_pos hk]; exact hw k hk, fun k hk => by dsimp only; rw [if_neg (by omega), show k = 0 by omega], fun p hp _ => by rw [get_app_lt (by simp; omega), get_app_lt hp]⟩
            unfold appM
            rw [if_neg (by omega), if_pos (by unfold most; omega)]
            simp only
            have h1 := bys_rd (sp := none) (get_grow (g := [.live [.int .u8 ((mk2 i 0).v : Int)]]) hu) (o := 0) (l := nn i) (by omega)
            have h2 : ldCells (m3 ++ [.live [.int .u8 ((mk2 i 0).v : Int)]]) ⟨D i, 0, none⟩ ((nn i + 0) * 1) = some (bys (nn i) u) := by
              rw [ldCells_of (get_grow hu) (by rw [bys_len]; omega)]
              have := bys_sub (n := L i) (o := 0) (l := nn i) (w := u) (by omega)
              rw [show (nn i + 0) * 1 = nn i by omega, this]
              congr 1
              exact bys_congr fun k _ => by rw [Nat.zero_add]
            rw [h2]
            have hl2 : (m3 ++ [MObj.live [.int .u8 ((mk2 i 0).v : Int)]]).length = m3.length + 1 := by simp
            simp only [Option.bind_some]
            have hl3 : (m3 ++ [MObj.live (bys 1 fun _ => mk2 i 0)]).length = m3.length + 1 := by simp
            rw [hc, bys_append, hl3]
          · obtain ⟨m4, a1, _, a3, a4, a5, _⟩ := (show Ac 0 m3 (some ⟨g, 0, some 1⟩) (nn i + t) u' from .inr ⟨g, rfl, by omega, g2⟩).one (by omega) (mk2 i t) (by unfold most; omega)
            refine ⟨m4, _, a1, a3, a4, fun k hk => ?_, fun k hk => ?_, fun p hp hpg => a5 p hp hpg⟩
            · unfold put; rw [if_neg (by omega)]; exact g3 k hk
            · unfold put
              by_cases h1 : k = t
              · rw [if_pos (by omega), h1]
              · rw [if_neg (by omega)]; exact g4 k (by omega)
        obtain ⟨m4, u4, e1, e2, e3, e4, e5, e6⟩ := step
        simp (disch := omega) only [Option.bind_some, Option.map_some, cond_true, cond_false, wrap_i64, tmod_pos, tdiv_pos, inRange_yes, inUpto_yes, isZero_no, decide_eq_true, decide_eq_false, Bool.not_true, Bool.not_false, Int.toNat_natCast, Nat.mul_one, beqI_yes, beqI_no, bneI_yes, bneI_no, isNil_nil, isNil_iface, wr_wr, Option.isNone_none, Option.isNone_some, plus, Nat.zero_add, Nat.add_zero, hm2, rdSl_new, e1]
        have keep : ∀ p, p < m3.length → (∀ g, x6a = some ⟨g, 0, some 1⟩ → p ≠ g) → m4[p]? = m3[p]? := e6
        have notg : ∀ p : Nat, p < m.length → ∀ g, x6a = some ⟨g, 0, some 1⟩ → p ≠ g := by
          rintro p hp g rfl
          rcases hg with ⟨_, h⟩ | ⟨g', _, h, h2, _⟩
          · simp at h
          · simp only [Option.some.injEq, Addr.mk.injEq] at h; omega
        refine hnx' (r' - 1) _ _ _ _ _ _ _ _ _ _ _ _ (by omega) ⟨rfl, rfl, rfl, rfl, rfl, rfl, rfl, t + 1, by omega, by omega, by omega, by omega, ⟨by omega, by rw [keep q (by omega) (notg q qlt)]; exact hS.box, fun j' hj' => ?_, ?_, fun j' hj' => ?_⟩, fun p hp hpd => by rw [keep p (by omega) (notg p hp)]; exact hfr p hp hpd, ⟨u, by rw [keep _ (get_lt hu) (notg _ (Dlt i hiM))]; exact hu, hw⟩, .inr ⟨_, u4, rfl, by omega, e3, e4, e5, fun j' hj' => by have := Gl j' hj'; omega, fun z hz => by have := Gcl z hz; omega⟩⟩
        · obtain ⟨u', h1, h2⟩ := hS.old j' hj'
          exact ⟨u', by rw [keep _ (get_lt h1) (notg _ (Dlt j' hj'))]; exact h1, h2⟩
        · rcases hS.grow with h | ⟨z, h1, h2, h3, h4⟩
          · exact .inl h
          · refine .inr ⟨z, h1, h2, ?_, h4⟩
            rw [keep z (get_lt h3) ?_]; exact h3
            rintro g rfl
            rcases hg with ⟨_, h⟩ | ⟨g', u', h, b1, b2, b3, b4, b5, b6⟩
            · simp at h
            · simp only [Option.some.injEq, Addr.mk.injEq] at h
              obtain ⟨rfl, _⟩ := h
              exact b6 z h1
        · obtain ⟨h1, u', h2, h3⟩ := hS.g_ j' hj'
          refine ⟨h1, u', ?_, h3⟩
          rw [keep _ (get_lt h2) ?_]; exact h2
          rintro g rfl
          rcases hg with ⟨_, h⟩ | ⟨g', u', h, b1, b2, b3, b4, b5, b6⟩
          · simp at h
          · simp only [Option.some.injEq, Addr.mk.injEq] at h
            obtain ⟨rfl, _⟩ := h
            exact b5 j' hj'
      · obtain rfl : t = 7 := by omega
        clear hnx'
        rcases hg with ⟨h, _⟩ | ⟨g, u', rfl, g1, g2, g3, g4, g5, g6⟩
        · omega
        -- the grown row is kept
        let G' : Nat → Nat := fun j => if j = i then g else G j
        have hG' : ∀ j, j < i → G' j = G j := fun j hj => if_neg (by omega)
        have hGi : G' i = g := if_pos rfl
        have hsl : sls i G (fun i => nn i + 7) (some 1) = sls i G' (fun i => nn i + 7) (some 1) := sls_congr fun j hj => ⟨(hG' j hj).symm, rfl⟩
        have step : ∃ m4, appM 1 24 (m3 ++ [.live [.slice (some ⟨g, 0, some 1⟩) (nn i + 7) (nn i + 7)]]) x3a i i 1 [.slice (some ⟨g, 0, some 1⟩) (nn i + 7) (nn i + 7)] = some (⟨some ⟨m3.length + 1, 0, some 1⟩, i + 1, i + 1⟩, m4) ∧ m4.length = m3.length + 2 ∧ m4[m3.length + 1]? = some (.live (sls (i + 1) G' (fun i => nn i + 7) (some 1))) ∧ ∀ p, p < m3.length → (∀ z, x3a = some ⟨z, 0, some 1⟩ → p ≠ z) → m4[p]? = m3[p]? := by
          have hl2 : (m3 ++ [MObj.live [.slice (some ⟨g, 0, some 1⟩) (nn i + 7) (nn i + 7)]]).length = m3.length + 1 := by simp
          have hone : [Value.slice (some ⟨g, 0, some 1⟩) (nn i + 7) (nn i + 7)] = [.slice (some ⟨G' i, 0, some 1⟩) (nn i + 7) (nn i + 7)] := by rw [hGi]
          rcases hS.grow with ⟨rfl, h0⟩ | ⟨z, rfl, h2, h3, h4⟩
          · subst h0
            have h5 := appM_first (z := 1) (y := 24) (m := m3 ++ [.live [.slice (some ⟨g, 0, some 1⟩) (nn 0 + 7) (nn 0 + 7)]]) (l := 1) (new := [.slice (some ⟨g, 0, some 1⟩) (nn 0 + 7) (nn 0 + 7)]) (by omega) (by unfold most; omega) (by unfold most; omega)
            rw [hl2] at h5
            refine ⟨_, h5, by simp, ?_, fun p hp _ => by rw [get_app_lt (by simp; omega), get_app_lt hp]⟩
            rw [get_last hl2, ← sls_snoc, hone]; rfl
          · have h5 := appM_grow (z := 1) (y := 24) (m := m3 ++ [.live [.slice (some ⟨g, 0, some 1⟩) (nn i + 7) (nn i + 7)]]) (b := z) (n := i) (l := 1) (new := [.slice (some ⟨g, 0, some 1⟩) (nn i + 7) (nn i + 7)]) (get_grow h3) (by rw [sls_len]; omega) (by omega) (by unfold most; omega) (by unfold most; omega)
            rw [hl2] at h5
            refine ⟨_, h5, by simp, ?_, fun p hp hz => by rw [get_app_lt (by simp; omega), get_set_ne (fun h => hz z rfl h.symm), get_app_lt hp]⟩
            rw [get_last (by simp), hsl, hone, sls_snoc]
        obtain ⟨m4, e1, e2, e3, e4⟩ := step
        simp (disch := omega) only [Option.bind_some, Option.map_some, cond_true, cond_false, wrap_i64, tmod_pos, tdiv_pos, inRange_yes, inUpto_yes, isZero_no, decide_eq_true, decide_eq_false, Bool.not_true, Bool.not_false, Int.toNat_natCast, Nat.mul_one, beqI_yes, beqI_no, bneI_yes, bneI_no, isNil_nil, isNil_iface, wr_wr, Option.isNone_none, Option.isNone_some, plus, Nat.zero_add, Nat.add_zero, rdSl_new, e1]
        have notz : ∀ p : Nat, p < m.length → ∀ z, x3a = some ⟨z, 0, some 1⟩ → p ≠ z := by
          rintro p hp z rfl
          rcases hS.grow with ⟨h, _⟩ | ⟨z', h1, h2, _⟩
          · cases h
          · simp only [Option.some.injEq, Addr.mk.injEq] at h1; omega
        have gne : ∀ j, j < i → ∀ z, x3a = some ⟨z, 0, some 1⟩ → G j ≠ z := by
          rintro j hj z rfl
          rcases hS.grow with ⟨h, _⟩ | ⟨z', h1, h2, h3, h4⟩
          · cases h
          · simp only [Option.some.injEq, Addr.mk.injEq] at h1
            obtain ⟨rfl, _⟩ := h1
            exact h4 j hj
        refine hnx (r - 1) _ _ _ _ _ _ _ _ (by omega) ⟨rfl, rfl, rfl, i + 1, G', by omega, rfl, rfl, by omega, ⟨by omega, by rw [e4 q (by omega) (notz q qlt)]; exact hS.box, fun j' hj' => ?_, .inr ⟨_, rfl, by omega, e3, fun j' hj' => ?_⟩, fun j' hj' => ?_⟩, fun p hp hpd => by rw [e4 p (by omega) (notz p hp)]; exact hfr p hp hpd⟩
        · obtain ⟨u1, h1, h2⟩ := hS.old j' hj'
          by_cases h3 : j' = i
          · subst h3
            exact ⟨u, by rw [e4 _ (get_lt hu) (notz _ (Dlt j' hj'))]; exact hu, fun _ => hw⟩
          · exact ⟨u1, by rw [e4 _ (get_lt h1) (notz _ (Dlt j' hj'))]; exact h1, fun h => h2 (by omega)⟩
        · by_cases h3 : j' = i
          · rw [h3, hGi]; have := get_lt g2; omega
          · rw [hG' j' (by omega)]; have := Gl j' (by omega); omega
        · by_cases h3 : j' = i
          · subst h3
            rw [hGi]
            exact ⟨g1, u', by rw [e4 g (get_lt g2) fun z hz h => g6 z hz h.symm]; exact g2, g3, g4⟩
          · rw [hG' j' (by omega)]
            obtain ⟨h1, u1, h2, h4⟩ := hS.g_ j' (by omega)
            exact ⟨h1, u1, by rw [e4 _ (get_lt h2) (gne j' (by omega))]; exact h2, h4⟩
  · -- all is looked at
    obtain rfl : i = M := by omega
    clear hnx
    rw [decide_eq_false hi, cond_false]
    refine patinaref01_Apart_l6_rule k _ _ (fun r x0a x0n x0c y3a y3n y3c x8 m2 => (some ⟨q, 0, sq⟩ : Option Addr) = x0a ∧ i = x0n ∧ cc = x0c ∧ x3a = y3a ∧ i = y3n ∧ i = y3c ∧ m' = m2 ∧ ∃ j : Nat, x8 = j ∧ j + r = i) ?_ k i _ _ _ _ _ _ _ _ (by omega) ⟨rfl, rfl, rfl, rfl, rfl, rfl, rfl, 0, rfl, by omega⟩
    rintro r nx _ _ _ _ _ _ _ _ ⟨rfl, rfl, rfl, rfl, rfl, rfl, rfl, j, rfl, hr⟩ hnx
    unfold patinaref01_Apart_l6_b
    by_cases hj : (j : Int) < i
    · have hjM : j < i := by omega
      obtain ⟨hLj, hLk⟩ := hL j hjM
      obtain ⟨u, hu, hw⟩ := hS.old j hjM
      have hw := hw hjM
      obtain ⟨hg1, ug, hg2, hg3, hg4⟩ := hS.g_ j hjM
      obtain ⟨z, rfl, hz2, hz3, hz4⟩ : ∃ z, x3a = some ⟨z, 0, some 1⟩ ∧ m.length ≤ z ∧ m'[z]? = some (.live (sls i G (fun i => nn i + 7) (some 1))) ∧ ∀ j, j < i → G j ≠ z := by
        rcases hS.grow with ⟨_, h⟩ | h
        · omega
        · exact h
      have inM : inRange (j : Int) i = true := inRange_yes (by omega) (by omega)
      have s1 : ldSl m' ⟨q, j, sq⟩ = some ⟨some ⟨D j, 0, none⟩, nn j, nn j⟩ := ldSl_of hS.box (sls_get hjM)
      have s2 : ldSl m' ⟨z, j, some 1⟩ = some ⟨some ⟨G j, 0, some 1⟩, nn j + 7, nn j + 7⟩ := ldSl_of hz3 (sls_get hjM)
      simp (disch := omega) only [Option.bind_some, Option.map_some, cond_true, cond_false, wrap_i64, tmod_pos, tdiv_pos, inRange_yes, inUpto_yes, isZero_no, decide_eq_true, decide_eq_false, Bool.not_true, Bool.not_false, Int.toNat_natCast, Nat.mul_one, beqI_yes, beqI_no, bneI_yes, bneI_no, isNil_nil, isNil_iface, wr_wr, Option.isNone_none, Option.isNone_some, plus, Nat.zero_add, Nat.add_zero, inM, s1]
      refine patinaref01_Apart_l8_rule k _ _ (fun r x0a x0n x0c y3a y3n y3c x8 x9 x10 m2 => (some ⟨q, 0, sq⟩ : Option Addr) = x0a ∧ i = x0n ∧ cc = x0c ∧ (some ⟨z, 0, some 1⟩ : Option Addr) = y3a ∧ i = y3n ∧ i = y3c ∧ (j : Int) = x8 ∧ (nn j : Int) = x9 ∧ m' = m2 ∧ ∃ t : Nat, x10 = t ∧ t + r = nn j) ?_ k (nn j) _ _ _ _ _ _ _ _ _ _ (by omega) ⟨rfl, rfl, rfl, rfl, rfl, rfl, rfl, rfl, rfl, 0, rfl, by omega⟩
      rintro r' nx' _ _ _ _ _ _ _ _ _ _ ⟨rfl, rfl, rfl, rfl, rfl, rfl, rfl, rfl, rfl, t, rfl, hr'⟩ hnx'
      unfold patinaref01_Apart_l8_b
      by_cases ht : (t : Int) < nn j
      · have e1 := bys_ld (sp := none) hu (i := t) (by omega)
        rw [hw t (by omega)] at e1
        have e2 := bys_ld (sp := some 1) hg2 (i := t) (by omega)
        rw [hg3 t (by omega)] at e2
        have hm1 : IntKind.wrap .u8 (37 * (j : Int) + (t : Int)) = ((mk1 j t).v : Int) := wrapC _
        have i1 : inRange (t : Int) (nn j) = true := inRange_yes (by omega) (by omega)
        have i2 : inRange (t : Int) (nn j + 7) = true := inRange_yes (by omega) (by omega)
        have hb : (((mk1 j t).v : Int) != ((mk1 j t).v : Int)) = false := bneI_no rfl
        simp (disch := omega) only [Option.bind_some, Option.map_some, cond_true, cond_false, wrap_i64, tmod_pos, tdiv_pos, inRange_yes, inUpto_yes, isZero_no, decide_eq_true, decide_eq_false, Bool.not_true, Bool.not_false, Int.toNat_natCast, Nat.mul_one, beqI_yes, beqI_no, bneI_yes, bneI_no, isNil_nil, isNil_iface, wr_wr, Option.isNone_none, Option.isNone_some, plus, Nat.zero_add, Nat.add_zero, inM, s1, i1, e1, hm1, hb, s2, i2, e2]
        exact hnx' (r' - 1) _ _ _ _ _ _ _ _ _ _ (by omega) ⟨rfl, rfl, rfl, rfl, rfl, rfl, rfl, rfl, rfl, t + 1, by omega, by omega⟩
      · obtain rfl : t = nn j := by omega
        clear hnx'
        simp (disch := omega) only [Option.bind_some, Option.map_some, cond_true, cond_false, wrap_i64, tmod_pos, tdiv_pos, inRange_yes, inUpto_yes, isZero_no, decide_eq_true, decide_eq_false, Bool.not_true, Bool.not_false, Int.toNat_natCast, Nat.mul_one, beqI_yes, beqI_no, bneI_yes, bneI_no, isNil_nil, isNil_iface, wr_wr, Option.isNone_none, Option.isNone_some, plus, Nat.zero_add, Nat.add_zero]
        refine patinaref01_Apart_l10_rule k _ _ (fun r x0a x0n x0c y3a y3n y3c x8 x9 x11 m2 => (some ⟨q, 0, sq⟩ : Option Addr) = x0a ∧ i = x0n ∧ cc = x0c ∧ (some ⟨z, 0, some 1⟩ : Option Addr) = y3a ∧ i = y3n ∧ i = y3c ∧ (j : Int) = x8 ∧ (nn j : Int) = x9 ∧ m' = m2 ∧ ∃ t : Nat, x11 = t ∧ t + r = 7) ?_ k 7 _ _ _ _ _ _ _ _ _ _ (by omega) ⟨rfl, rfl, rfl, rfl, rfl, rfl, rfl, rfl, rfl, 0, rfl, by omega⟩
        rintro r' nx' _ _ _ _ _ _ _ _ _ _ ⟨rfl, rfl, rfl, rfl, rfl, rfl, rfl, rfl, rfl, t, rfl, hr'⟩ hnx'
        unfold patinaref01_Apart_l10_b
        by_cases ht : (t : Int) < 7
        · have e2 := bys_ld (sp := some 1) hg2 (i := nn j + t) (by omega)
          rw [hg4 t (by omega)] at e2
          have hm2 : IntKind.wrap .u8 (100 + 37 * (j : Int) + (t : Int)) = ((mk2 j t).v : Int) := wrapC _
          have i2 : inRange ((nn j : Int) + (t : Int)) (nn j + 7) = true := inRange_yes (by omega) (by omega)
          have tn : ((nn j : Int) + (t : Int)).toNat = nn j + t := by omega
          have hb : (((mk2 j t).v : Int) != ((mk2 j t).v : Int)) = false := bneI_no rfl
          simp (disch := omega) only [Option.bind_some, Option.map_some, cond_true, cond_false, wrap_i64, tmod_pos, tdiv_pos, inRange_yes, inUpto_yes, isZero_no, decide_eq_true, decide_eq_false, Bool.not_true, Bool.not_false, Int.toNat_natCast, Nat.mul_one, beqI_yes, beqI_no, bneI_yes, bneI_no, isNil_nil, isNil_iface, wr_wr, Option.isNone_none, Option.isNone_some, plus, Nat.zero_add, Nat.add_zero, inM, s2, i2, tn, e2, hm2, hb]
          exact hnx' (r' - 1) _ _ _ _ _ _ _ _ _ _ (by omega) ⟨rfl, rfl, rfl, rfl, rfl, rfl, rfl, rfl, rfl, t + 1, by omega, by omega⟩
        · obtain rfl : t = 7 := by omega
          simp (disch := omega) only [Option.bind_some, Option.map_some, cond_true, cond_false, wrap_i64, tmod_pos, tdiv_pos, inRange_yes, inUpto_yes, isZero_no, decide_eq_true, decide_eq_false, Bool.not_true, Bool.not_false, Int.toNat_natCast, Nat.mul_one, beqI_yes, beqI_no, bneI_yes, bneI_no, isNil_nil, isNil_iface, wr_wr, Option.isNone_none, Option.isNone_some, plus, Nat.zero_add, Nat.add_zero]
          exact hnx (r - 1) _ _ _ _ _ _ _ _ (by omega) ⟨rfl, rfl, rfl, rfl, rfl, rfl, rfl, j + 1, by omega, by omega⟩
    · obtain rfl : j = i := by omega
      simp (disch := omega) only [Option.bind_some, Option.map_some, cond_true, cond_false, wrap_i64, tmod_pos, tdiv_pos, inRange_yes, inUpto_yes, isZero_no, decide_eq_true, decide_eq_false, Bool.not_true, Bool.not_false, Int.toNat_natCast, Nat.mul_one, beqI_yes, beqI_no, bneI_yes, bneI_no, isNil_nil, isNil_iface, wr_wr, Option.isNone_none, Option.isNone_some, plus, Nat.zero_add, Nat.add_zero]
      exact .some ⟨rfl, hS.len, hfr⟩
end Go.Proofs.Ytlbbcgjfkpnilaa
