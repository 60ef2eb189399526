/- The document's test of lists that came out: it answers true, and touches nothing but them. -/
import Derived.Test.YtlbbcgjfkpnilaaApart2
set_option linter.unusedVariables false
set_option linter.unusedSectionVars false
set_option linter.unusedSimpArgs false
namespace Go.Proofs.Ytlbbcgjfkpnilaa
open Go.Mx

theorem app_old {m : Mem} {d n : Nat} {w : Nat → GF} (v : GF) (h : m[d]? = some (.live (bys n w))) (hb : n + 1 ≤ most) : ∃ m4, appM 1 1 (m ++ [.live [.int .u8 (v.v : Int)]]) (some ⟨d, 0, some 1⟩) n n 1 [.int .u8 (v.v : Int)] = some (⟨some ⟨m.length + 1, 0, some 1⟩, n + 1, n + 1⟩, m4) ∧ m4.length = m.length + 2 ∧
    m4[d]? = some (.old (bys n w) (m.length + 1)) ∧ m4[m.length + 1]? = some (.live (bys (n + 1) (put w n v))) ∧ ∀ p, p < m.length → p ≠ d → m4[p]? = m[p]? := by
  have hc : [Value.int .u8 (v.v : Int)] = bys 1 fun _ => v := rfl
  have hlt := get_lt h
  have hl : (m ++ [MObj.live (bys 1 fun _ => v)]).length = m.length + 1 := by simp
  have h1 := appM_grow (z := 1) (y := 1) (l := 1) (n := n) (new := bys 1 fun _ => v) (get_grow (g := [.live (bys 1 fun _ => v)]) h) (by rw [bys_len, Nat.mul_one]) (by omega) (by omega) (by omega)
  rw [hl] at h1
  have e : bys n w ++ bys 1 (fun _ => v) = bys (n + 1) (put w n v) := by
    rw [bys_append]
    refine bys_congr fun i hi => ?_
    unfold put
    by_cases h3 : i = n
    · rw [if_pos h3, if_neg (by omega)]
    · rw [if_neg h3, if_pos (by omega)]
  rw [e] at h1
  rw [hc]
  refine ⟨_, h1, by simp, ?_, get_last (by simp), fun p hp hd => ?_⟩
  · rw [get_app_lt (by simp; omega), List.getElem?_set, if_pos rfl, if_pos (by simp; omega)]
  · rw [get_app_lt (by simp; omega), get_set_ne (fun h => hd h.symm), get_app_lt hp]
theorem app_new {m : Mem} {n : Nat} {r : RA} {L : Nat} (v : GF) (hr : ∀ D, r ≠ some (D, true)) {P : (Nat → GF) → Prop} (h : RowLive m r n L P) (hb : n + 1 ≤ most) : ∃ m4 u, appM 1 1 (m ++ [.live [.int .u8 (v.v : Int)]]) (rowA r) n n 1 [.int .u8 (v.v : Int)] = some (⟨some ⟨m.length + 1, 0, some 1⟩, n + 1, n + 1⟩, m4) ∧ m4.length = m.length + 2 ∧
    (r = none ∨ P u) ∧ m4[m.length + 1]? = some (.live (bys (n + 1) (put u n v))) ∧ ∀ p, p < m.length → m4[p]? = m[p]? := by
  have hc : [Value.int .u8 (v.v : Int)] = bys 1 fun _ => v := rfl
  have hl : (m ++ [MObj.live (bys 1 fun _ => v)]).length = m.length + 1 := by simp
  have e : ∀ u : Nat → GF, bys n u ++ bys 1 (fun _ => v) = bys (n + 1) (put u n v) := by
    intro u
    rw [bys_append]
    refine bys_congr fun i hi => ?_
    unfold put
    by_cases h3 : i = n
    · rw [if_pos h3, if_neg (by omega)]
    · rw [if_neg h3, if_pos (by omega)]
  rw [hc]
  cases r with
  | none =>
    have h0 : n = 0 := h
    subst h0
    have h1 := appM_first (z := 1) (y := 1) (m := m ++ [.live (bys 1 fun _ => v)]) (l := 1) (new := bys 1 fun _ => v) (by omega) (by unfold most; omega) (by unfold most; omega)
    rw [hl] at h1
    refine ⟨_, fun _ => v, h1, by simp, .inl rfl, ?_, fun p hp => by rw [get_app_lt (by simp; omega), get_app_lt hp]⟩
    rw [get_last (by simp)]
    rw [bys_congr (u := put (fun _ => v) 0 v) (w := fun _ => v) fun i _ => by unfold put; split <;> rfl]
  | some x =>
    obtain ⟨D, a⟩ := x
    cases a with
    | true => exact absurd rfl (hr D)
    | false =>
      obtain ⟨u, h1, h2, h3, _⟩ := h
      refine ⟨m ++ [.live (bys 1 fun _ => v)] ++ [.live (bys (n + 1) (put u n v))], u, ?_, by simp, .inr h2, get_last (by simp), fun p hp => by rw [get_app_lt (by simp; omega), get_app_lt hp]⟩
      unfold appM
      rw [if_neg (by omega), if_pos (by omega)]
      show (ldCells _ ⟨D, 0, none⟩ (n * 1)).bind _ = _
      have h4 : ldCells (m ++ [.live (bys 1 fun _ => v)]) ⟨D, 0, none⟩ (n * 1) = some (bys n u) := by
        rw [ldCells_of (get_grow h1) (by rw [bys_len]; omega)]
        have := bys_sub (n := L) (o := 0) (l := n) (w := u) (by omega)
        rw [Nat.mul_one, this]
        congr 1
        exact bys_congr fun k _ => by rw [Nat.zero_add]
      rw [h4]
      simp only [Option.bind_some]
      rw [e u, hl]

def mks (i n : Nat) : (Nat → GF) → Prop := fun u => ∀ k, k < n → u k = mk1 i k
/-- the grown rows so far -/
def Gz (b : Nat) (m : Mem) (a : Option Addr) (N : Nat) (G : Nat → Nat) (nn : Nat → Nat) : Prop := (a = none ∧ N = 0) ∨ ∃ q, a = some ⟨q, 0, some 1⟩ ∧ b ≤ q ∧ m[q]? = some (.live (sls N G (fun i => nn i + 7) (some 1))) ∧ ∀ i, i < N → G i < q
/-- where the first part stands: i rows are written and grown, and those from s on are as they were -/
structure ApT (m0 m : Mem) (q M : Nat) (R : Nat → RA) (nn L : Nat → Nat) (i s : Nat) (a : Option Addr) (G : Nat → Nat) : Prop where
  len : m0.length ≤ m.length
  box : m[q]? = some (.live (slr M R nn))
  todo : ∀ j, s ≤ j → j < M → RowLive m (R j) (nn j) (L j) fun _ => True
  grow : Gz m0.length m a i G nn
  done : ∀ j, j < i → m0.length ≤ G j ∧ (∃ lo, m0.length ≤ lo ∧ RowGrown m (R j) (nn j) (L j) lo (G j) 7 (mks j (nn j))) ∧ ∃ u, m[G j]? = some (.live (bys (nn j + 7) u)) ∧ mks j (nn j) u ∧ ∀ k, k < 7 → u (nn j + k) = mk2 j k
theorem ApT.keep {m0 m m' : Mem} {q M : Nat} {R : Nat → RA} {nn L : Nat → Nat} {i s : Nat} {a : Option Addr} {G : Nat → Nat} (h : ApT m0 m q M R nn L i s a G) (hs : i < s) (hiM : i < M) (hl : m.length ≤ m'.length) (hq : m'[q]? = m[q]?)
    (hD : ∀ j, j < M → j ≠ i → ∀ D, rowD (R j) = some D → m'[D]? = m[D]?) (hz : ∀ z, a = some ⟨z, 0, some 1⟩ → ∀ p, m0.length ≤ p → p ≤ z → m'[p]? = m[p]?) : ApT m0 m' q M R nn L i s a G := by
  refine ⟨Nat.le_trans h.len hl, by rw [hq]; exact h.box, fun j h1 h2 => (h.todo j h1 h2).keep (hD j h2 (by omega)), ?_, fun j hj => ?_⟩
  · rcases h.grow with h1 | ⟨z, h1, h2, h3, h4⟩
    · exact .inl h1
    · exact .inr ⟨z, h1, h2, by rw [hz z h1 z h2 (Nat.le_refl _)]; exact h3, h4⟩
  · obtain ⟨h1, ⟨lo, h2, h3⟩, u, h4, h5⟩ := h.done j hj
    rcases h.grow with ⟨_, h6⟩ | ⟨z, h6, h7, h8, h9⟩
    · omega
    · have := h9 j hj
      exact ⟨h1, ⟨lo, h2, h3.keep (hD j (by omega) (by omega)) fun p hp hp' => hz z h6 p (by omega) (by omega)⟩, u, by rw [hz z h6 _ h1 (by omega)]; exact h4, h5⟩

theorem RowLive.src {m : Mem} {r : RA} {n L : Nat} {w : Nat → GF} (h : RowLive m r n L fun u => ∀ i, i < n → u i = w i) : Src m (rowA r) n w := by
  cases r with
  | none => have h0 : n = 0 := h; subst h0; rfl
  | some x =>
    obtain ⟨D, a⟩ := x
    obtain ⟨u, h1, h2, h3, _⟩ := h
    cases a
    · exact (Src.take (sp := none) h1 h3).congr fun i hi => (h2 i hi).symm
    · exact (Src.take (sp := some 1) h1 h3).congr fun i hi => (h2 i hi).symm
theorem RowLive.weak {m : Mem} {r : RA} {n L : Nat} {P Q : (Nat → GF) → Prop} (h : RowLive m r n L P) (hq : ∀ u, P u → Q u) : RowLive m r n L Q := by
  cases r with
  | none => exact h
  | some x => obtain ⟨D, a⟩ := x; obtain ⟨u, h1, h2, h3⟩ := h; exact ⟨u, h1, hq u h2, h3⟩
theorem RowLive.lt {m : Mem} {r : RA} {n L : Nat} {P : (Nat → GF) → Prop} (h : RowLive m r n L P) : ∀ D, rowD r = some D → D < m.length := by
  intro D hD
  cases r with
  | none => cases hD
  | some x => obtain ⟨D', a⟩ := x; obtain ⟨u, h1, _⟩ := h; cases hD; exact get_lt h1
theorem RowLive.grow {m m' : Mem} {r : RA} {n L : Nat} {P : (Nat → GF) → Prop} (h : RowLive m r n L P) (hg : Gr m m') : RowLive m' r n L P := by
  cases r with
  | none => exact h
  | some x => obtain ⟨D, a⟩ := x; obtain ⟨u, h1, h2⟩ := h; exact ⟨u, hg.get h1, h2⟩

theorem apart2_ok (k : Nat) (hk : 1000 < k) {m : Mem} {q M : Nat} {sq : Option Nat} {cc : Nat} {R : Nat → RA} {nn L : Nat → Nat} (hq : m[q]? = some (.live (slr M R nn))) (hR : ∀ j, j < M → RowLive m (R j) (nn j) (L j) fun _ => True) (hL : ∀ j, j < M → nn j < 1000)
    (hne : ∀ i j, i < M → j < M → i ≠ j → ∀ D, rowD (R i) = some D → rowD (R j) ≠ some D) (hqd : ∀ i, i < M → rowD (R i) ≠ some q) (hM : M < 4000000000000) (hkM : M < k) :
    Ok (patinaref01_Apart k (some ⟨q, 0, sq⟩) M cc m) fun r => r.1 = true ∧ m.length ≤ r.2.length ∧ ∀ p, p < m.length → (∀ j, j < M → rowD (R j) ≠ some p) → r.2[p]? = m[p]? := by
  have qlt := get_lt hq
  have Dlt : ∀ j, j < M → ∀ D, rowD (R j) = some D → D < m.length := fun j hj D hD => by
    have := hR j hj
    cases h : R j with
    | none => rw [h] at hD; cases hD
    | some x =>
      obtain ⟨D', a⟩ := x
      rw [h] at this hD
      obtain ⟨u, h1, _⟩ := this
      cases hD
      exact get_lt h1
  unfold patinaref01_Apart
  refine patinaref01_Apart_l0_rule k _ (fun r x0a x0n x0c x3a x3n x3c x4 m' => (some ⟨q, 0, sq⟩ : Option Addr) = x0a ∧ M = x0n ∧ cc = x0c ∧ ∃ (i : Nat) (G : Nat → Nat), x4 = i ∧ i = x3n ∧ i = x3c ∧ i + r = M ∧ ApT m m' q M R nn L i i x3a G ∧ ∀ p, p < m.length → (∀ j, j < M → rowD (R j) ≠ some p) → m'[p]? = m[p]?) ?_ k M _ _ _ _ _ _ _ _ (by omega)
    ⟨rfl, rfl, rfl, 0, fun _ => 0, rfl, rfl, rfl, by omega, ⟨Nat.le_refl _, hq, fun j _ hj => hR j hj, .inl ⟨rfl, rfl⟩, fun j hj => by omega⟩, fun _ _ _ => rfl⟩
  rintro r nx _ _ _ x3a _ _ _ m' ⟨rfl, rfl, rfl, i, G, rfl, rfl, rfl, hr, hS, hfr⟩ hnx
  unfold patinaref01_Apart_l0_b
  by_cases hi : (i : Int) < M
  · -- its bytes are written
    have hiM : i < M := by omega
    have hLk := hL i hiM
    rw [decide_eq_true hi, cond_true]
    have hS1 : ApT m m' q M R nn L i (i + 1) x3a G := ⟨hS.len, hS.box, fun j h1 h2 => hS.todo j (by omega) h2, hS.grow, hS.done⟩
    have hrow : RowLive m' (R i) (nn i) (L i) (mks i 0) := by
      have := hS.todo i (Nat.le_refl _) hiM
      cases h : R i with
      | none => rw [h] at this; exact this
      | some x =>
        rw [h] at this
        obtain ⟨u, h1, _, h3⟩ := this
        exact ⟨u, h1, fun k hk => by omega, h3⟩
    refine patinaref01_Apart_l2_rule k _ (fun r x0a x0n x0c y3a y3n y3c x4 x5 m' => (some ⟨q, 0, sq⟩ : Option Addr) = x0a ∧ M = x0n ∧ cc = x0c ∧ x3a = y3a ∧ i = y3n ∧ i = y3c ∧ (i : Int) = x4 ∧ ∃ j : Nat, x5 = j ∧ j + r = nn i ∧ ApT m m' q M R nn L i (i + 1) x3a G ∧ (∀ p, p < m.length → (∀ j, j < M → rowD (R j) ≠ some p) → m'[p]? = m[p]?) ∧ RowLive m' (R i) (nn i) (L i) (mks i j)) ?_ k (nn i) _ _ _ _ _ _ _ _ _ (by omega)
      ⟨rfl, rfl, rfl, rfl, rfl, rfl, rfl, 0, rfl, by omega, hS1, hfr, hrow⟩
    clear hS hS1 hfr hrow
    rintro r' nx' _ _ _ _ _ _ _ _ m2 ⟨rfl, rfl, rfl, rfl, rfl, rfl, rfl, j, rfl, hr', hS, hfr, hrow⟩ hnx'
    unfold patinaref01_Apart_l2_b
    have inM : inRange (i : Int) M = true := inRange_yes (by omega) (by omega)
    have s1 : ldSl m2 ⟨q, i, sq⟩ = some ⟨rowA (R i), nn i, nn i⟩ := ldSl_of hS.box (slr_get hiM)
    by_cases hj : (j : Int) < nn i
    · cases hRi : R i with
      | none => rw [hRi] at hrow; have h0 : nn i = 0 := hrow; omega
      | some x =>
      obtain ⟨D, a⟩ := x
      rw [hRi] at hrow
      obtain ⟨u, hu, hw, hLi, ha⟩ := hrow
      have hDi : rowD (R i) = some D := by rw [hRi]; rfl
      have hD0 := Dlt i hiM D hDi
      have hA : rowA (R i) = some ⟨D, 0, if a then some 1 else none⟩ := by rw [hRi]; cases a <;> rfl
      have e1 := bys_st (sp := if a then some 1 else none) hu (i := j) (by omega) (mk1 i j)
      have hm1 : IntKind.wrap .u8 (37 * (i : Int) + (j : Int)) = ((mk1 i j).v : Int) := wrapC _
      rw [hA] at s1
      simp (disch := omega) only [Option.bind_some, Option.map_some, cond_true, cond_false, wrap_i64, tmod_pos, tdiv_pos, inRange_yes, inUpto_yes, isZero_no, decide_eq_true, decide_eq_false, Bool.not_true, Bool.not_false, Int.toNat_natCast, Nat.mul_one, beqI_yes, beqI_no, bneI_yes, bneI_no, isNil_nil, isNil_iface, wr_wr, Option.isNone_none, Option.isNone_some, plus, Nat.zero_add, Nat.add_zero, inM, s1, hm1, e1]
      have hDne : ∀ p : Nat, p ≠ D → (wr m2 D (bys (L i) (put u j (mk1 i j))))[p]? = m2[p]? := fun p hp => wr_ne (Ne.symm hp)
      refine hnx' (r' - 1) _ _ _ _ _ _ _ _ _ (by omega) ⟨rfl, rfl, rfl, rfl, rfl, rfl, rfl, j + 1, by omega, by omega,
        hS.keep (by omega) hiM (by rw [wr_len]; exact Nat.le_refl _) (hDne q fun h => hqd i hiM (by rw [hDi, h])) (fun j' h1 h2 D' h3 => hDne D' fun h => hne i j' hiM h1 (fun h => h2 h.symm) D hDi (by rw [h3, h])) (fun z _ p hp _ => hDne p (by omega)), fun p hp hpd => by rw [hDne p fun h => hpd i hiM (by rw [hDi, h])]; exact hfr p hp hpd, ?_⟩
      rw [hRi]
      refine ⟨_, wr_get hu, fun k hk => ?_, hLi, ha⟩
      unfold put
      by_cases h1 : k = j
      · rw [if_pos h1, h1]
      · rw [if_neg h1]; exact hw k (by omega)
    · obtain rfl : j = nn i := by omega
      clear hnx'
      simp (disch := omega) only [Option.bind_some, Option.map_some, cond_true, cond_false, wrap_i64, tmod_pos, tdiv_pos, inRange_yes, inUpto_yes, isZero_no, decide_eq_true, decide_eq_false, Bool.not_true, Bool.not_false, Int.toNat_natCast, Nat.mul_one, beqI_yes, beqI_no, bneI_yes, bneI_no, isNil_nil, isNil_iface, wr_wr, Option.isNone_none, Option.isNone_some, plus, Nat.zero_add, Nat.add_zero, inM, s1]
      -- seven more
      refine patinaref01_Apart_l4_rule k _ (fun r x0a x0n x0c y3a y3n y3c x4 x6a x6n x6c x7 m' => (some ⟨q, 0, sq⟩ : Option Addr) = x0a ∧ M = x0n ∧ cc = x0c ∧ x3a = y3a ∧ i = y3n ∧ i = y3c ∧ (i : Int) = x4 ∧ ∃ (t : Nat), x7 = t ∧ t + r = 7 ∧ nn i + t = x6n ∧ nn i + t = x6c ∧ ApT m m' q M R nn L i (i + 1) x3a G ∧ (∀ p, p < m.length → (∀ j, j < M → rowD (R j) ≠ some p) → m'[p]? = m[p]?) ∧
        ((t = 0 ∧ rowA (R i) = x6a ∧ RowLive m' (R i) (nn i) (L i) (mks i (nn i))) ∨ ∃ g u lo, 0 < t ∧ some ⟨g, 0, some 1⟩ = x6a ∧ m.length ≤ lo ∧ lo ≤ g ∧ (∀ z, x3a = some ⟨z, 0, some 1⟩ → z < lo) ∧ RowGrown m' (R i) (nn i) (L i) lo g t (mks i (nn i)) ∧ m'[g]? = some (.live (bys (nn i + t) u)) ∧ mks i (nn i) u ∧ ∀ k, k < t → u (nn i + k) = mk2 i k)) ?_ k 7 _ _ _ _ _ _ _ _ _ _ _ _ (by omega)
        ⟨rfl, rfl, rfl, rfl, rfl, rfl, rfl, 0, rfl, by omega, rfl, rfl, hS, hfr, .inl ⟨rfl, rfl, hrow⟩⟩
      clear hS hfr hrow s1
      rintro r' nx' _ _ _ _ _ _ _ x6a _ _ _ m3 ⟨rfl, rfl, rfl, rfl, rfl, rfl, rfl, t, rfl, hr', rfl, rfl, hS, hfr, hg⟩ hnx'
      unfold patinaref01_Apart_l4_b
      have hS3 := hS.len
      have Gcl : ∀ z, x3a = some ⟨z, 0, some 1⟩ → m.length ≤ z ∧ z < m3.length := by
        rintro z rfl
        rcases hS.grow with ⟨h, _⟩ | ⟨z', h1, h2, h3, h4⟩
        · cases h
        · simp only [Option.some.injEq, Addr.mk.injEq] at h1
          obtain ⟨rfl, _⟩ := h1
          exact ⟨h2, get_lt h3⟩
      by_cases ht : (t : Int) < 7
      · have hm2 : IntKind.wrap .u8 (100 + 37 * (i : Int) + (t : Int)) = ((mk2 i t).v : Int) := wrapC _
        have mput : ∀ u : Nat → GF, mks i (nn i) u → mks i (nn i) (put u (nn i + t) (mk2 i t)) := fun u hu k hk => by unfold put; rw [if_neg (by omega)]; exact hu k hk
        have m2put : ∀ u : Nat → GF, (∀ k, k < t → u (nn i + k) = mk2 i k) → ∀ k, k < t + 1 → put u (nn i + t) (mk2 i t) (nn i + k) = mk2 i k := fun u hu k hk => by
          unfold put
          by_cases h1 : k = t
          · rw [if_pos (by omega), h1]
          · rw [if_neg (by omega)]; exact hu k (by omega)
        -- the append: an object d is given up (if any), another one is new
        have step : ∃ m4 u4 lo d, appM 1 1 (m3 ++ [.live [.int .u8 ((mk2 i t).v : Int)]]) x6a (nn i + t) (nn i + t) 1 [.int .u8 ((mk2 i t).v : Int)] = some (⟨some ⟨m3.length + 1, 0, some 1⟩, nn i + t + 1, nn i + t + 1⟩, m4) ∧ m4.length = m3.length + 2 ∧ m4[m3.length + 1]? = some (.live (bys (nn i + t + 1) u4)) ∧ mks i (nn i) u4 ∧ (∀ k, k < t + 1 → u4 (nn i + k) = mk2 i k) ∧
            (∀ p, p < m3.length → p ≠ d → m4[p]? = m3[p]?) ∧ (rowD (R i) = some d ∨ (∀ z, x3a = some ⟨z, 0, some 1⟩ → z < d) ∧ m.length ≤ d) ∧ m.length ≤ lo ∧ lo ≤ m3.length + 1 ∧ (∀ z, x3a = some ⟨z, 0, some 1⟩ → z < lo) ∧ RowGrown m4 (R i) (nn i) (L i) lo (m3.length + 1) (t + 1) (mks i (nn i)) := by
          rcases hg with ⟨rfl, rfl, hrow⟩ | ⟨g, u, lo, t0, rfl, l1, l2, l3, hrow, hu, hw1, hw2⟩
          · cases hRi : R i with
            | none =>
              rw [hRi] at hrow
              obtain ⟨m4, u, a1, a2, a3, a4, a5⟩ := app_new (mk2 i 0) (fun D h => by cases h) hrow (by unfold most; omega)
              have h0 : nn i = 0 := hrow
              exact ⟨m4, _, m3.length + 1, m3.length + 1, a1, a2, a4, mput u fun k hk => by omega, m2put u fun k hk => by omega, fun p hp _ => a5 p hp, .inr ⟨fun z hz => by have := Gcl z hz; omega, by omega⟩, by omega, by omega, fun z hz => by have := Gcl z hz; omega, h0⟩
            | some x =>
              obtain ⟨D, a⟩ := x
              rw [hRi] at hrow
              cases a with
              | false =>
                obtain ⟨m4, u, a1, a2, a3, a4, a5⟩ := app_new (mk2 i 0) (fun D h => by cases h) hrow (by unfold most; omega)
                have a3 : mks i (nn i) u := by rcases a3 with h | h; · cases h
                                               · exact h
                obtain ⟨u', b1, b2, b3, _⟩ := hrow
                exact ⟨m4, _, m3.length + 1, m3.length + 1, a1, a2, a4, mput u a3, m2put u fun k hk => by omega, fun p hp _ => a5 p hp, .inr ⟨fun z hz => by have := Gcl z hz; omega, by omega⟩, by omega, by omega, fun z hz => by have := Gcl z hz; omega, u', by rw [a5 D (get_lt b1)]; exact b1, b2, b3⟩
              | true =>
                obtain ⟨u', b1, b2, b3, b4⟩ := hrow
                rw [← b4 rfl] at b1
                obtain ⟨m4, a1, a2, a3, a4, a5⟩ := app_old (mk2 i 0) b1 (by unfold most; omega)
                exact ⟨m4, _, m3.length + 1, D, a1, a2, a4, mput u' b2, m2put u' fun k hk => by omega, a5, .inl rfl, by omega, by omega, fun z hz => by have := Gcl z hz; omega, u', _, 0, a3, b2, Nat.le_refl _, by omega, rfl, _, a4, preB_bys (by omega) fun k hk => by unfold put; rw [if_neg (by omega)]⟩
          · obtain ⟨m4, a1, a2, a3, a4, a5⟩ := app_old (mk2 i t) hu (by unfold most; omega)
            have gl := get_lt hu
            refine ⟨m4, _, lo, g, a1, a2, a4, mput u hw1, m2put u hw2, a5, .inr ⟨fun z hz => by have := l3 z hz; omega, by omega⟩, l1, by omega, l3, ?_⟩
            cases hRi : R i with
            | none => rw [hRi] at hrow; exact hrow
            | some x =>
              obtain ⟨D, a⟩ := x
              rw [hRi] at hrow
              have hD0 := Dlt i hiM D (by rw [hRi]; rfl)
              cases a with
              | false =>
                obtain ⟨u', b1, b2, b3⟩ := hrow
                exact ⟨u', by rw [a5 D (get_lt b1) (by omega)]; exact b1, b2, b3⟩
              | true =>
                obtain ⟨u', q', c, b1, b2, b3, b4, b5⟩ := hrow
                exact ⟨u', q', c + 1, by rw [a5 D (get_lt b1) (by omega)]; exact b1, b2, b3, by omega, b5.more hu a3 a4 (by omega) (preB_bys (by omega) fun k hk => by unfold put; rw [if_neg (by omega)]) fun p hp => a5 p (by omega) (by omega)⟩
        obtain ⟨m4, u4, lo, d, e1, e2, e3, e4, e5, e6, e7, e8, e9, e10, e11⟩ := step
        simp (disch := omega) only [Option.bind_some, Option.map_some, cond_true, cond_false, wrap_i64, tmod_pos, tdiv_pos, inRange_yes, inUpto_yes, isZero_no, decide_eq_true, decide_eq_false, Bool.not_true, Bool.not_false, Int.toNat_natCast, Nat.mul_one, beqI_yes, beqI_no, bneI_yes, bneI_no, isNil_nil, isNil_iface, wr_wr, Option.isNone_none, Option.isNone_some, plus, Nat.zero_add, Nat.add_zero, hm2, rdSl_new, e1]
        have dq : q ≠ d := by
          rcases e7 with h | ⟨_, h⟩
          · rintro rfl; exact hqd i hiM h
          · omega
        refine hnx' (r' - 1) _ _ _ _ _ _ _ _ _ _ _ _ (by omega) ⟨rfl, rfl, rfl, rfl, rfl, rfl, rfl, t + 1, by omega, by omega, by omega, by omega, hS.keep (by omega) hiM (by omega) (e6 q (by omega) dq) (fun j' h1 h2 D' h3 => e6 D' (by have := Dlt j' h1 D' h3; omega) ?_) (fun z hz p hp hp' => e6 p (by have := Gcl z hz; omega) ?_), fun p hp hpd => ?_, .inr ⟨_, u4, lo, by omega, rfl, e8, e9, e10, e11, e3, e4, e5⟩⟩
        · rcases e7 with h | ⟨_, h⟩
          · rintro rfl; exact hne i j' hiM h1 (fun h => h2 h.symm) _ h h3
          · have := Dlt j' h1 D' h3; omega
        · rcases e7 with h | ⟨h, _⟩
          · have := Dlt i hiM d h; omega
          · have := h z hz; omega
        · rw [e6 p (by omega) ?_]; exact hfr p hp hpd
          rcases e7 with h | ⟨_, h⟩
          · rintro rfl; exact hpd i hiM h
          · omega
      · obtain rfl : t = 7 := by omega
        clear hnx'
        rcases hg with ⟨h, _⟩ | ⟨g, u, lo, t0, rfl, l1, l2, l3, hrow, hu, hw1, hw2⟩
        · omega
        have gl := get_lt hu
        -- the grown row is kept
        let G' : Nat → Nat := fun j => if j = i then g else G j
        have hG' : ∀ j, j < i → G' j = G j := fun j hj => if_neg (by omega)
        have hGi : G' i = g := if_pos rfl
        have hsl : sls i G (fun i => nn i + 7) (some 1) = sls i G' (fun i => nn i + 7) (some 1) := sls_congr fun j hj => ⟨(hG' j hj).symm, rfl⟩
        have step : ∃ m4, appM 1 24 (m3 ++ [.live [.slice (some ⟨g, 0, some 1⟩) (nn i + 7) (nn i + 7)]]) x3a i i 1 [.slice (some ⟨g, 0, some 1⟩) (nn i + 7) (nn i + 7)] = some (⟨some ⟨m3.length + 1, 0, some 1⟩, i + 1, i + 1⟩, m4) ∧ m4.length = m3.length + 2 ∧ m4[m3.length + 1]? = some (.live (sls (i + 1) G' (fun i => nn i + 7) (some 1))) ∧ ∀ p, p < m3.length → (∀ z, x3a = some ⟨z, 0, some 1⟩ → p ≠ z) → m4[p]? = m3[p]? := by
          have hl2 : (m3 ++ [MObj.live [.slice (some ⟨g, 0, some 1⟩) (nn i + 7) (nn i + 7)]]).length = m3.length + 1 := by simp
          have hone : [Value.slice (some ⟨g, 0, some 1⟩) (nn i + 7) (nn i + 7)] = [.slice (some ⟨G' i, 0, some 1⟩) (nn i + 7) (nn i + 7)] := by rw [hGi]
          rcases hS.grow with ⟨rfl, h0⟩ | ⟨z, rfl, h2, h3, h4⟩
          · subst h0
            have h5 := appM_first (z := 1) (y := 24) (m := m3 ++ [.live [.slice (some ⟨g, 0, some 1⟩) (nn 0 + 7) (nn 0 + 7)]]) (l := 1) (new := [.slice (some ⟨g, 0, some 1⟩) (nn 0 + 7) (nn 0 + 7)]) (by omega) (by unfold most; omega) (by unfold most; omega)
            rw [hl2] at h5
            refine ⟨_, h5, by simp, ?_, fun p hp _ => by rw [get_app_lt (by simp; omega), get_app_lt hp]⟩
            rw [get_last hl2, ← sls_snoc, hone]; rfl
          · have h5 := appM_grow (z := 1) (y := 24) (m := m3 ++ [.live [.slice (some ⟨g, 0, some 1⟩) (nn i + 7) (nn i + 7)]]) (b := z) (n := i) (l := 1) (new := [.slice (some ⟨g, 0, some 1⟩) (nn i + 7) (nn i + 7)]) (get_grow h3) (by rw [sls_len]; omega) (by omega) (by unfold most; omega) (by unfold most; omega)
            rw [hl2] at h5
            refine ⟨_, h5, by simp, ?_, fun p hp hz => by rw [get_app_lt (by simp; omega), get_set_ne (fun h => hz z rfl h.symm), get_app_lt hp]⟩
            rw [get_last (by simp), hsl, hone, sls_snoc]
        obtain ⟨m4, e1, e2, e3, e4⟩ := step
        simp (disch := omega) only [Option.bind_some, Option.map_some, cond_true, cond_false, wrap_i64, tmod_pos, tdiv_pos, inRange_yes, inUpto_yes, isZero_no, decide_eq_true, decide_eq_false, Bool.not_true, Bool.not_false, Int.toNat_natCast, Nat.mul_one, beqI_yes, beqI_no, bneI_yes, bneI_no, isNil_nil, isNil_iface, wr_wr, Option.isNone_none, Option.isNone_some, plus, Nat.zero_add, Nat.add_zero, rdSl_new, e1]
        have notz : ∀ p : Nat, p < m.length → ∀ z, x3a = some ⟨z, 0, some 1⟩ → p ≠ z := fun p hp z hz => by have := Gcl z hz; omega
        have Gz' : ∀ j, j < i → ∀ z, x3a = some ⟨z, 0, some 1⟩ → G j < z := by
          rintro j hj z rfl
          rcases hS.grow with ⟨h, _⟩ | ⟨z', h1, h2, h3, h4⟩
          · cases h
          · simp only [Option.some.injEq, Addr.mk.injEq] at h1
            obtain ⟨rfl, _⟩ := h1
            exact h4 j hj
        have Gl : ∀ j, j < i → G j < m3.length := fun j hj => by obtain ⟨_, _, u', h2, _⟩ := hS.done j hj; exact get_lt h2
        refine hnx (r - 1) _ _ _ _ _ _ _ _ (by omega) ⟨rfl, rfl, rfl, i + 1, G', by omega, rfl, rfl, by omega, ⟨by omega, by rw [e4 q (by omega) (notz q qlt)]; exact hS.box, fun j' h1 h2 => (hS.todo j' h1 h2).keep fun D hD => e4 D (by have := Dlt j' h2 D hD; omega) (notz D (Dlt j' h2 D hD)), .inr ⟨_, rfl, by omega, e3, fun j' hj' => ?_⟩, fun j' hj' => ?_⟩, fun p hp hpd => by rw [e4 p (by omega) (notz p hp)]; exact hfr p hp hpd⟩
        · by_cases h3 : j' = i
          · rw [h3, hGi]; omega
          · rw [hG' j' (by omega)]; have := Gl j' (by omega); omega
        · by_cases h3 : j' = i
          · subst h3
            rw [hGi]
            exact ⟨by omega, ⟨lo, l1, hrow.keep (fun D hD => e4 D (by have := Dlt j' hiM D hD; omega) (notz D (Dlt j' hiM D hD))) fun p hp hp' => e4 p (by omega) fun z hz => by have := l3 z hz; omega⟩, u, by rw [e4 g gl fun z hz => by have := l3 z hz; omega]; exact hu, hw1, hw2⟩
          · rw [hG' j' (by omega)]
            obtain ⟨h1, ⟨lo', h2, h4⟩, u1, h5, h6⟩ := hS.done j' (by omega)
            have hjl := Gl j' (by omega)
            exact ⟨h1, ⟨lo', h2, h4.keep (fun D hD => e4 D (by have := Dlt j' (by omega) D hD; omega) (notz D (Dlt j' (by omega) D hD))) fun p hp hp' => e4 p (by omega) fun z hz => by have := Gz' j' (by omega) z hz; omega⟩, u1, by rw [e4 _ hjl fun z hz => by have := Gz' j' (by omega) z hz; omega]; exact h5, h6⟩
  · -- all is looked at
    obtain rfl : i = M := by omega
    clear hnx
    rw [decide_eq_false hi, cond_false]
    refine patinaref01_Apart_l6_rule k _ _ (fun r x0a x0n x0c y3a y3n y3c x8 m2 => (some ⟨q, 0, sq⟩ : Option Addr) = x0a ∧ i = x0n ∧ cc = x0c ∧ x3a = y3a ∧ i = y3n ∧ i = y3c ∧ m' = m2 ∧ ∃ j : Nat, x8 = j ∧ j + r = i) ?_ k i _ _ _ _ _ _ _ _ (by omega) ⟨rfl, rfl, rfl, rfl, rfl, rfl, rfl, 0, rfl, by omega⟩
    rintro r nx _ _ _ _ _ _ _ _ ⟨rfl, rfl, rfl, rfl, rfl, rfl, rfl, j, rfl, hr⟩ hnx
    unfold patinaref01_Apart_l6_b
    by_cases hj : (j : Int) < i
    · have hjM : j < i := by omega
      have hLk := hL j hjM
      obtain ⟨hg1, ⟨lo, hlo, hrow⟩, ug, hg2, hg3, hg4⟩ := hS.done j hjM
      obtain ⟨z, rfl, hz2, hz3, hz4⟩ : ∃ z, x3a = some ⟨z, 0, some 1⟩ ∧ m.length ≤ z ∧ m'[z]? = some (.live (sls i G (fun i => nn i + 7) (some 1))) ∧ ∀ j, j < i → G j < z := by
        rcases hS.grow with ⟨_, h⟩ | h
        · omega
        · exact h
      obtain ⟨u, hw, hu⟩ := hrow.src
      have inM : inRange (j : Int) i = true := inRange_yes (by omega) (by omega)
      have s1 : ldSl m' ⟨q, j, sq⟩ = some ⟨rowA (R j), nn j, nn j⟩ := ldSl_of hS.box (slr_get hjM)
      have s2 : ldSl m' ⟨z, j, some 1⟩ = some ⟨some ⟨G j, 0, some 1⟩, nn j + 7, nn j + 7⟩ := ldSl_of hz3 (sls_get hjM)
      simp (disch := omega) only [Option.bind_some, Option.map_some, cond_true, cond_false, wrap_i64, tmod_pos, tdiv_pos, inRange_yes, inUpto_yes, isZero_no, decide_eq_true, decide_eq_false, Bool.not_true, Bool.not_false, Int.toNat_natCast, Nat.mul_one, beqI_yes, beqI_no, bneI_yes, bneI_no, isNil_nil, isNil_iface, wr_wr, Option.isNone_none, Option.isNone_some, plus, Nat.zero_add, Nat.add_zero, inM, s1]
      refine patinaref01_Apart_l8_rule k _ _ (fun r x0a x0n x0c y3a y3n y3c x8 x9 x10 m2 => (some ⟨q, 0, sq⟩ : Option Addr) = x0a ∧ i = x0n ∧ cc = x0c ∧ (some ⟨z, 0, some 1⟩ : Option Addr) = y3a ∧ i = y3n ∧ i = y3c ∧ (j : Int) = x8 ∧ (nn j : Int) = x9 ∧ m' = m2 ∧ ∃ t : Nat, x10 = t ∧ t + r = nn j) ?_ k (nn j) _ _ _ _ _ _ _ _ _ _ (by omega) ⟨rfl, rfl, rfl, rfl, rfl, rfl, rfl, rfl, rfl, 0, rfl, by omega⟩
      rintro r' nx' _ _ _ _ _ _ _ _ _ _ ⟨rfl, rfl, rfl, rfl, rfl, rfl, rfl, rfl, rfl, t, rfl, hr'⟩ hnx'
      unfold patinaref01_Apart_l8_b
      by_cases ht : (t : Int) < nn j
      · obtain ⟨ad, had, e1⟩ := hu.ld (i := t) (by omega)
        have hw : mks j (nn j) u := by
          rcases hw with h | h
          · rw [h] at had; cases had
          · exact h
        rw [hw t (by omega)] at e1
        unfold plus at e1
        have e2 := bys_ld (sp := some 1) hg2 (i := t) (by omega)
        rw [hg3 t (by omega)] at e2
        have hm1 : IntKind.wrap .u8 (37 * (j : Int) + (t : Int)) = ((mk1 j t).v : Int) := wrapC _
        have i1 : inRange (t : Int) (nn j) = true := inRange_yes (by omega) (by omega)
        have i2 : inRange (t : Int) (nn j + 7) = true := inRange_yes (by omega) (by omega)
        have hb : (((mk1 j t).v : Int) != ((mk1 j t).v : Int)) = false := bneI_no rfl
        rw [had] at s1
        simp (disch := omega) only [Option.bind_some, Option.map_some, cond_true, cond_false, wrap_i64, tmod_pos, tdiv_pos, inRange_yes, inUpto_yes, isZero_no, decide_eq_true, decide_eq_false, Bool.not_true, Bool.not_false, Int.toNat_natCast, Nat.mul_one, beqI_yes, beqI_no, bneI_yes, bneI_no, isNil_nil, isNil_iface, wr_wr, Option.isNone_none, Option.isNone_some, plus, Nat.zero_add, Nat.add_zero, inM, s1, i1, e1, hm1, hb, s2, i2, e2]
        exact hnx' (r' - 1) _ _ _ _ _ _ _ _ _ _ (by omega) ⟨rfl, rfl, rfl, rfl, rfl, rfl, rfl, rfl, rfl, t + 1, by omega, by omega⟩
      · obtain rfl : t = nn j := by omega
        clear hnx'
        simp (disch := omega) only [Option.bind_some, Option.map_some, cond_true, cond_false, wrap_i64, tmod_pos, tdiv_pos, inRange_yes, inUpto_yes, isZero_no, decide_eq_true, decide_eq_false, Bool.not_true, Bool.not_false, Int.toNat_natCast, Nat.mul_one, beqI_yes, beqI_no, bneI_yes, bneI_no, isNil_nil, isNil_iface, wr_wr, Option.isNone_none, Option.isNone_some, plus, Nat.zero_add, Nat.add_zero]
        refine patinaref01_Apart_l10_rule k _ _ (fun r x0a x0n x0c y3a y3n y3c x8 x9 x11 m2 => (some ⟨q, 0, sq⟩ : Option Addr) = x0a ∧ i = x0n ∧ cc = x0c ∧ (some ⟨z, 0, some 1⟩ : Option Addr) = y3a ∧ i = y3n ∧ i = y3c ∧ (j : Int) = x8 ∧ (nn j : Int) = x9 ∧ m' = m2 ∧ ∃ t : Nat, x11 = t ∧ t + r = 7) ?_ k 7 _ _ _ _ _ _ _ _ _ _ (by omega) ⟨rfl, rfl, rfl, rfl, rfl, rfl, rfl, rfl, rfl, 0, rfl, by omega⟩
        rintro r' nx' _ _ _ _ _ _ _ _ _ _ ⟨rfl, rfl, rfl, rfl, rfl, rfl, rfl, rfl, rfl, t, rfl, hr'⟩ hnx'
        unfold patinaref01_Apart_l10_b
        by_cases ht : (t : Int) < 7
        · have e2 := bys_ld (sp := some 1) hg2 (i := nn j + t) (by omega)
          rw [hg4 t (by omega)] at e2
          have hm2 : IntKind.wrap .u8 (100 + 37 * (j : Int) + (t : Int)) = ((mk2 j t).v : Int) := wrapC _
          have i2 : inRange ((nn j : Int) + (t : Int)) (nn j + 7) = true := inRange_yes (by omega) (by omega)
          have tn : ((nn j : Int) + (t : Int)).toNat = nn j + t := by omega
          have hb : (((mk2 j t).v : Int) != ((mk2 j t).v : Int)) = false := bneI_no rfl
          simp (disch := omega) only [Option.bind_some, Option.map_some, cond_true, cond_false, wrap_i64, tmod_pos, tdiv_pos, inRange_yes, inUpto_yes, isZero_no, decide_eq_true, decide_eq_false, Bool.not_true, Bool.not_false, Int.toNat_natCast, Nat.mul_one, beqI_yes, beqI_no, bneI_yes, bneI_no, isNil_nil, isNil_iface, wr_wr, Option.isNone_none, Option.isNone_some, plus, Nat.zero_add, Nat.add_zero, inM, s2, i2, tn, e2, hm2, hb]
          exact hnx' (r' - 1) _ _ _ _ _ _ _ _ _ _ (by omega) ⟨rfl, rfl, rfl, rfl, rfl, rfl, rfl, rfl, rfl, t + 1, by omega, by omega⟩
        · obtain rfl : t = 7 := by omega
          simp (disch := omega) only [Option.bind_some, Option.map_some, cond_true, cond_false, wrap_i64, tmod_pos, tdiv_pos, inRange_yes, inUpto_yes, isZero_no, decide_eq_true, decide_eq_false, Bool.not_true, Bool.not_false, Int.toNat_natCast, Nat.mul_one, beqI_yes, beqI_no, bneI_yes, bneI_no, isNil_nil, isNil_iface, wr_wr, Option.isNone_none, Option.isNone_some, plus, Nat.zero_add, Nat.add_zero]
          exact hnx (r - 1) _ _ _ _ _ _ _ _ (by omega) ⟨rfl, rfl, rfl, rfl, rfl, rfl, rfl, j + 1, by omega, by omega⟩
    · obtain rfl : j = i := by omega
      simp (disch := omega) only [Option.bind_some, Option.map_some, cond_true, cond_false, wrap_i64, tmod_pos, tdiv_pos, inRange_yes, inUpto_yes, isZero_no, decide_eq_true, decide_eq_false, Bool.not_true, Bool.not_false, Int.toNat_natCast, Nat.mul_one, beqI_yes, beqI_no, bneI_yes, bneI_no, isNil_nil, isNil_iface, wr_wr, Option.isNone_none, Option.isNone_some, plus, Nat.zero_add, Nat.add_zero]
      exact .some ⟨rfl, hS.len, hfr⟩
end Go.Proofs.Ytlbbcgjfkpnilaa
