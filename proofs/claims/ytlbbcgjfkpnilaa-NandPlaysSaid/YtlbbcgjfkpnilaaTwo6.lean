/- Two chips: clones, the change of places; every operation. -/
import Derived.Test.YtlbbcgjfkpnilaaTwo5
set_option linter.unusedVariables false
set_option linter.unusedSectionVars false
set_option linter.unusedSimpArgs false
namespace Go.Proofs.Ytlbbcgjfkpnilaa
open Go.Mx

section
variable {m0 m : Mem} {T c d r s : Nat} {ro : Nat → Option Role} {gr gs : RG} {σ ρ τ υ : ChipS} {X : TX} (h : TI m0 m T c d r s ro gr gs σ ρ τ υ X)
include h
/-- the other chips are clones -/
theorem TI.clone {m5 : Mem} {D S : Nat} {lab' : Nat → Option Lab} {gs' : RG} (hl : m.length ≤ m5.length) (hk : ∀ p, p < m.length → p ≠ T → m5[p]? = m[p]?) (hT : m5[T]? = some (.live (tcell c D r S X))) (hD : m5[D]? = some (.live (chipC σ))) (hDm : m.length ≤ D)
    (hS : RefX m5 S lab' gs' ρ) (hSm : ∀ p, lab' p ≠ none → m.length ≤ p) (hDS : lab' D = none) : ∃ ro', TI m0 m5 T c D r S ro' gr gs' σ ρ σ ρ X := by
  have hml := h.base.len
  let old : Option Role → Option Role := fun x => match x with
    | some .d => none
    | some (.s _) => none
    | x => x
  let ro' : Nat → Option Role := fun p => if p = D then some .d else match lab' p with
    | some l => some (.s l)
    | none => old (ro p)
  have rlt : ∀ p, m.length ≤ p → ro p = none := fun p hp => by
    cases hr : ro p with
    | none => rfl
    | some l => have := (h.lt p (by rw [hr]; simp)).2; omega
  have llt : ∀ p, p < m.length → lab' p = none := fun p hp => by
    cases hr : lab' p with
    | none => rfl
    | some l => have := hSm p (by rw [hr]; simp); omega
  have low : ∀ p, p < m.length → ro' p = old (ro p) := fun p hp => by
    show (if p = D then some Role.d else match lab' p with | some l => some (.s l) | none => old (ro p)) = _
    rw [if_neg (by omega), llt p hp]
  have keep : ∀ p l, ro p = some l → l ≠ .d → (∀ x, l ≠ .s x) → ro' p = some l := fun p l hp h1 h2 => by
    rw [low p (h.lt p (by rw [hp]; simp)).2, hp]
    cases l <;> first | rfl | exact absurd rfl h1 | exact absurd rfl (h2 _)
  have get : ∀ p l, ro p = some l → l ≠ .T → m5[p]? = m[p]? := fun p l hp h1 => hk p (h.lt p (by rw [hp]; simp)).2 fun he => by rw [he, h.t_.2] at hp; cases hp; exact h1 rfl
  have e1 : lrOf ro' = lrOf ro := by
    funext p
    rcases Nat.lt_or_ge p m.length with hp | hp
    · unfold lrOf
      rw [low p hp]
      cases hr : ro p with
      | none => rfl
      | some l => cases l <;> rfl
    · have h1 : lrOf ro p = none := by unfold lrOf; rw [rlt p hp]
      rw [h1]
      unfold lrOf
      show (match (if p = D then some Role.d else match lab' p with | some l => some (.s l) | none => old (ro p)) with | some (.r l) => some l | _ => none) = none
      rw [rlt p hp]
      by_cases hD : p = D
      · rw [if_pos hD]
      · rw [if_neg hD]
        cases lab' p <;> rfl
  have e2 : lsOf ro' = lab' := by
    funext p
    unfold lsOf
    show (match (if p = D then some Role.d else match lab' p with | some l => some (.s l) | none => old (ro p)) with | some (.s l) => some l | _ => none) = lab' p
    by_cases hD : p = D
    · rw [if_pos hD, hD, hDS]
    · rw [if_neg hD]
      cases hq : lab' p with
      | some l => rfl
      | none =>
        cases hr : ro p with
        | none => rfl
        | some l => cases l <;> rfl
  refine ⟨ro', h.gr_of hl (fun p hp hn => hk p hp fun he => by rw [he, h.t_.2] at hn; cases hn), ⟨hT, keep T _ h.t_.2 (by simp) (by simp)⟩, ⟨by rw [get c _ h.c_.2 (by simp)]; exact h.c_.1, keep c _ h.c_.2 (by simp) (by simp)⟩, ⟨hD, if_pos rfl⟩,
    by rw [e1]; exact h.r_.keep hl fun p hp => by obtain ⟨l, h1, _⟩ := lrOf_some hp; exact get p _ h1 (by simp), by rw [e2]; exact hS, ?_, ?_, fun i hlo hi => ?_, fun i hlo hi => ?_, fun p hp => ?_⟩
  · rcases h.ta_ with h1 | ⟨q, h1, h2, h3⟩
    · exact .inl h1
    · exact .inr ⟨q, h1, by rw [get q _ h3 (by simp)]; exact h2, keep q _ h3 (by simp) (by simp)⟩
  · rcases h.wa_ with h1 | ⟨q, h1, h2, h3⟩
    · exact .inl h1
    · exact .inr ⟨q, h1, by rw [get q _ h3 (by simp)]; exact h2, keep q _ h3 (by simp) (by simp)⟩
  · obtain ⟨h1, h2, h3⟩ := h.rows i hlo hi
    exact ⟨h1, h2.keep fun D hD => get D _ (h3 D hD) (by simp), fun D hD => keep D _ (h3 D hD) (by simp) (by simp)⟩
  · obtain ⟨h1, h2, h3⟩ := h.rows' i hlo hi
    exact ⟨h1, h2.keep fun D hD => get D _ (h3 D hD) (by simp), fun D hD => keep D _ (h3 D hD) (by simp) (by simp)⟩
  · have hp : (if p = D then some Role.d else match lab' p with | some l => some (.s l) | none => old (ro p)) ≠ none := hp
    split at hp
    · rename_i hD'; subst hD'; exact ⟨by omega, get_lt hD⟩
    · cases hq : lab' p with
      | some l =>
        have := hSm p (by rw [hq]; simp)
        exact ⟨by omega, hS.lt p (by rw [hq]; simp)⟩
      | none =>
        rw [hq] at hp
        have hn : ro p ≠ none := fun hn => by rw [hn] at hp; exact hp rfl
        have := h.lt p hn
        omega
def swR : Role → Role
  | .c => .d
  | .d => .c
  | .r l => .s l
  | .s l => .r l
  | x => x
/-- the two change places -/
theorem TI.swap : TI m0 (wr m T (tcell d c s r X)) T d c s r (fun p => (ro p).map swR) gs gr τ υ σ ρ X := by
  have hlen : m.length ≤ (wr m T (tcell d c s r X)).length := by rw [wr_len]; exact Nat.le_refl _
  have get : ∀ p l, ro p = some l → l ≠ .T → (wr m T (tcell d c s r X))[p]? = m[p]? := fun p l hp h1 => wr_ne fun he => by rw [← he, h.t_.2] at hp; cases hp; exact h1 rfl
  have rl : ∀ p l, ro p = some l → (ro p).map swR = some (swR l) := fun p l hp => by rw [hp]; rfl
  have e1 : lrOf (fun p => (ro p).map swR) = lsOf ro := by
    funext p
    unfold lrOf lsOf
    cases hr : ro p with
    | none => simp [hr]
    | some l => cases l <;> simp [hr, swR]
  have e2 : lsOf (fun p => (ro p).map swR) = lrOf ro := by
    funext p
    unfold lrOf lsOf
    cases hr : ro p with
    | none => simp [hr]
    | some l => cases l <;> simp [hr, swR]
  refine ⟨h.gr_of hlen (fun p hp hn => wr_ne fun he => by rw [← he, h.t_.2] at hn; cases hn), ⟨wr_get h.t_.1, rl T _ h.t_.2⟩, ⟨by rw [get d _ h.d_.2 (by simp)]; exact h.d_.1, rl d _ h.d_.2⟩, ⟨by rw [get c _ h.c_.2 (by simp)]; exact h.c_.1, rl c _ h.c_.2⟩,
    by rw [e1]; exact h.s_.keep hlen fun p hp => by obtain ⟨l, h1, _⟩ := lsOf_some hp; exact get p _ h1 (by simp), by rw [e2]; exact h.r_.keep hlen fun p hp => by obtain ⟨l, h1, _⟩ := lrOf_some hp; exact get p _ h1 (by simp), ?_, ?_, fun i hlo hi => ?_, fun i hlo hi => ?_, fun p hp => ?_⟩
  · rcases h.ta_ with h1 | ⟨q, h1, h2, h3⟩
    · exact .inl h1
    · exact .inr ⟨q, h1, by rw [get q _ h3 (by simp)]; exact h2, rl q _ h3⟩
  · rcases h.wa_ with h1 | ⟨q, h1, h2, h3⟩
    · exact .inl h1
    · exact .inr ⟨q, h1, by rw [get q _ h3 (by simp)]; exact h2, rl q _ h3⟩
  · obtain ⟨h1, h2, h3⟩ := h.rows i hlo hi
    exact ⟨h1, h2.keep fun D hD => get D _ (h3 D hD) (by simp), fun D hD => rl D _ (h3 D hD)⟩
  · obtain ⟨h1, h2, h3⟩ := h.rows' i hlo hi
    exact ⟨h1, h2.keep fun D hD => get D _ (h3 D hD) (by simp), fun D hD => rl D _ (h3 D hD)⟩
  · rw [wr_len]
    refine h.lt p fun hn => ?_
    simp only [hn, Option.map_none] at hp
    exact hp rfl
/-- the rows told are turned: nothing is known of them any more -/
theorem TI.drop {m' : Mem} (hl : m.length ≤ m'.length) (hN : X.N = X.N') (hk : ∀ p, p < m.length → (∀ i, ro p ≠ some (.row i)) → m'[p]? = m[p]?) : TI m0 m' T c d r s ro gr gs σ ρ τ υ { X with lo := X.N } := by
  have get : ∀ p l, ro p = some l → (∀ i, l ≠ .row i) → m'[p]? = m[p]? := fun p l hp h1 => hk p (h.lt p (by rw [hp]; simp)).2 fun i he => by rw [hp] at he; cases he; exact h1 i rfl
  refine ⟨h.gr_of hl (fun p hp hn => hk p hp fun i he => by rw [hn] at he; cases he), ⟨by rw [get T _ h.t_.2 (by simp)]; exact h.t_.1, h.t_.2⟩, ⟨by rw [get c _ h.c_.2 (by simp)]; exact h.c_.1, h.c_.2⟩, ⟨by rw [get d _ h.d_.2 (by simp)]; exact h.d_.1, h.d_.2⟩,
    h.r_.keep hl fun p hp => (by obtain ⟨l, h1, _⟩ := lrOf_some hp; exact get p _ h1 (by simp)), h.s_.keep hl fun p hp => (by obtain ⟨l, h1, _⟩ := lsOf_some hp; exact get p _ h1 (by simp)), ?_, ?_, fun i hlo hi => ?_, fun i hlo hi => ?_, fun p hp => ⟨(h.lt p hp).1, Nat.lt_of_lt_of_le (h.lt p hp).2 hl⟩⟩
  · rcases h.ta_ with h1 | ⟨q, h1, h2, h3⟩
    · exact .inl h1
    · exact .inr ⟨q, h1, by rw [get q _ h3 (by simp)]; exact h2, h3⟩
  · rcases h.wa_ with h1 | ⟨q, h1, h2, h3⟩
    · exact .inl h1
    · exact .inr ⟨q, h1, by rw [get q _ h3 (by simp)]; exact h2, h3⟩
  · simp only at hlo hi; omega
  · simp only at hlo hi; omega
end

/-- how both stand behind an operation -/
def Dd (m0 : Mem) (T n lo : Nat) (x : Bool × Mem) : Prop :=
  x.1 = true ∧ ∃ c d r s ro gr gs σ τ X, TI m0 x.2 T c d r s ro gr gs σ σ τ τ X ∧ Wf (n + 1) σ ∧ Wf (n + 1) τ ∧ Eqs X ∧ X.N ≤ n + 1 ∧ X.lo = lo

section
variable (k : Nat) (hk : 1000 < k) {m0 m : Mem} {T c d r s n : Nat} {ro : Nat → Option Role} {gr gs : RG} {σ τ : ChipS} {X : TX} (h : TI m0 m T c d r s ro gr gs σ σ τ τ X) (hw : Wf n σ) (hw' : Wf n τ) (hn : n < 3000000000000) (hX : Eqs X) (hN : X.N ≤ n)
  {kk a b : Int} {sa : Option Addr} {sn sc : Nat} {w : Nat → GF} (hd : ∀ M, Gr m0 M → Src M sa sn w) (hsn : sn ≤ 140737488351232) (hkn : sn + 5 < k)
  (ha : -9223372036854775808 ≤ a ∧ a < 9223372036854775808) (hb : -9223372036854775808 ≤ b ∧ b < 9223372036854775808)
include hk h hw hw' hn hX hN hd hsn hkn ha hb

theorem two_kind8 (hp : ∀ M, patinalaw05_pick k kk 11 M = some (8, M)) : Ok (patinalaw05_Two_step k (some ⟨T, 0, none⟩) [.int .i64 kk, .int .i64 a, .int .i64 b, .slice sa sn sc] m) (Dd m0 T n X.lo) := by
  unfold patinalaw05_Two_step
  have L4 : Nat.beq (List.length [Value.int .i64 kk, .int .i64 a, .int .i64 b, .slice sa sn sc]) 4 = true := rfl
  have ho := get_last (m := m) (o := .live [Value.int .i64 kk, .int .i64 a, .int .i64 b, .slice sa sn sc]) rfl
  have h1 := h.grow (Gr.app m [.live [Value.int .i64 kk, .int .i64 a, .int .i64 b, .slice sa sn sc]])
  have z0 : ((8 : Int) == 0) = false := rfl
  have z1 : ((8 : Int) == 1) = false := rfl
  have z2 : ((8 : Int) == 2) = false := rfl
  have z3 : ((8 : Int) == 3) = false := rfl
  have z4 : ((8 : Int) == 4) = false := rfl
  have z5 : ((8 : Int) == 5) = false := rfl
  have z6 : ((8 : Int) == 6) = false := rfl
  have z7 : ((8 : Int) == 7) = false := rfl
  have z8 : ((8 : Int) == 8) = true := rfl
  generalize m ++ [.live [Value.int .i64 kk, .int .i64 a, .int .i64 b, .slice sa sn sc]] = m1 at *
  have p0 : ldInt .i64 m1 ⟨m.length, 0, none⟩ = some kk := ldInt_of ho rfl
  have p1 : ldInt .i64 m1 ⟨m.length, 1, none⟩ = some a := ldInt_of ho rfl
  have p1b : ldInt .i64 m1 ⟨m.length, 2, none⟩ = some b := ldInt_of ho rfl
  simp (disch := omega) only [Option.bind_some, Option.map_some, cond_true, cond_false, wrap_i64, tmod_pos, tdiv_pos, inRange_yes, inUpto_yes, isZero_no, decide_eq_true, decide_eq_false, Bool.not_true, Bool.not_false, Int.toNat_natCast, Nat.mul_one, beqI_yes, beqI_no, bneI_yes, bneI_no, isNil_nil, isNil_iface, wr_wr, Option.isNone_none, Option.isNone_some, plus, Nat.zero_add, Nat.add_zero, L4, p0, hp, z0, z1, z2, z3, z4, z5, z6, z7, z8, p1, p1b]
  refine .bind (two_knows k hk h1 hw hX (by omega) a b) ?_
  rintro ⟨_, m2⟩ ⟨rfl, ro', X', h2, h3, h4, h5⟩
  exact .some ⟨rfl, c, d, r, s, ro', gr, gs, σ, τ, X', h2, hw.mono (by omega), hw'.mono (by omega), h3, by omega, h5⟩

theorem two_kind9 (hp : ∀ M, patinalaw05_pick k kk 11 M = some (9, M)) : Ok (patinalaw05_Two_step k (some ⟨T, 0, none⟩) [.int .i64 kk, .int .i64 a, .int .i64 b, .slice sa sn sc] m) (Dd m0 T n X.lo) := by
  unfold patinalaw05_Two_step
  have L4 : Nat.beq (List.length [Value.int .i64 kk, .int .i64 a, .int .i64 b, .slice sa sn sc]) 4 = true := rfl
  have ho := get_last (m := m) (o := .live [Value.int .i64 kk, .int .i64 a, .int .i64 b, .slice sa sn sc]) rfl
  have h1 := h.grow (Gr.app m [.live [Value.int .i64 kk, .int .i64 a, .int .i64 b, .slice sa sn sc]])
  have z0 : ((9 : Int) == 0) = false := rfl
  have z1 : ((9 : Int) == 1) = false := rfl
  have z2 : ((9 : Int) == 2) = false := rfl
  have z3 : ((9 : Int) == 3) = false := rfl
  have z4 : ((9 : Int) == 4) = false := rfl
  have z5 : ((9 : Int) == 5) = false := rfl
  have z6 : ((9 : Int) == 6) = false := rfl
  have z7 : ((9 : Int) == 7) = false := rfl
  have z8 : ((9 : Int) == 8) = false := rfl
  have z9 : ((9 : Int) == 9) = true := rfl
  generalize m ++ [.live [Value.int .i64 kk, .int .i64 a, .int .i64 b, .slice sa sn sc]] = m1 at *
  have p0 : ldInt .i64 m1 ⟨m.length, 0, none⟩ = some kk := ldInt_of ho rfl
  have q0 : ldPtr m1 ⟨T, 0, none⟩ = some (some ⟨c, 0, none⟩) := ldPtr_of h1.t_.1 rfl
  obtain ⟨_, e1, rfl⟩ := chipClone_is k (by omega) h1.c_.1
  have Tl := (h1.lt T (by rw [h1.t_.2]; simp)).2
  have cl := (h1.lt c (by rw [h1.c_.2]; simp)).2
  have s1 := st_wr (sp := none) (off := 1) (v := .pointer (some ⟨m1.length, 0, none⟩)) (get_grow (g := [MObj.live (chipC σ)]) h1.t_.1) (by simp [tcell])
  have hs1 : (tcell c d r s X).set 1 (.pointer (some ⟨m1.length, 0, none⟩)) = tcell c m1.length r s X := rfl
  rw [hs1] at s1
  obtain ⟨m2, hm2⟩ : ∃ m2, m2 = wr (m1 ++ [MObj.live (chipC σ)]) T (tcell c m1.length r s X) := ⟨_, rfl⟩
  rw [← hm2] at s1
  have t2 : m2[T]? = some (.live (tcell c m1.length r s X)) := by rw [hm2]; exact wr_get (get_grow h1.t_.1)
  have l2 : m2.length = m1.length + 1 := by rw [hm2, wr_len]; simp
  have k2 : ∀ p, p < m1.length → p ≠ T → m2[p]? = m1[p]? := fun p hp hT => by rw [hm2, wr_ne (Ne.symm hT), get_app_lt hp]
  have d2 : m2[m1.length]? = some (.live (chipC σ)) := by rw [hm2, wr_ne (by omega)]; exact get_last rfl
  have r2 : RefX m2 r (lrOf ro) gr σ := h1.r_.keep (by omega) fun p hp => by
    obtain ⟨l, h2, _⟩ := lrOf_some hp
    exact k2 p (h1.lt p (by rw [h2]; simp)).2 fun he => by rw [he, h1.t_.2] at h2; cases h2
  have q2 : ldPtr m2 ⟨T, 2, none⟩ = some (some ⟨r, 0, none⟩) := ldPtr_of t2 rfl
  simp (disch := omega) only [Option.bind_some, Option.map_some, cond_true, cond_false, wrap_i64, tmod_pos, tdiv_pos, inRange_yes, inUpto_yes, isZero_no, decide_eq_true, decide_eq_false, Bool.not_true, Bool.not_false, Int.toNat_natCast, Nat.mul_one, beqI_yes, beqI_no, bneI_yes, bneI_no, isNil_nil, isNil_iface, wr_wr, Option.isNone_none, Option.isNone_some, plus, Nat.zero_add, Nat.add_zero, L4, p0, hp, z0, z1, z2, z3, z4, z5, z6, z7, z8, z9, q0, e1, s1, q2]
  refine .bind (refClone_ok r2 k (by omega)) ?_
  rintro ⟨_, m3⟩ ⟨rfl, lab', g', h3, h4, h5⟩
  simp only at h3 h4
  have t3 := h4.get t2
  have s3 := st_wr (sp := none) (off := 3) (v := .pointer (some ⟨m2.length, 0, none⟩)) t3 (by simp [tcell])
  have hs3 : (tcell c m1.length r s X).set 3 (.pointer (some ⟨m2.length, 0, none⟩)) = tcell c m1.length r m2.length X := rfl
  rw [hs3] at s3
  have t4 := wr_get (cs := tcell c m1.length r m2.length X) t3
  have q3 : ldPtr (wr m3 T (tcell c m1.length r m2.length X)) ⟨T, 1, none⟩ = some (some ⟨m1.length, 0, none⟩) := ldPtr_of t4 rfl
  have l4 := h4.len
  obtain ⟨ro', h6⟩ := h1.clone (m5 := wr m3 T (tcell c m1.length r m2.length X)) (D := m1.length) (S := m2.length) (lab' := lab') (gs' := g') (by rw [wr_len]; omega) (fun p hp hT => by rw [wr_ne (Ne.symm hT), ← k2 p hp hT]; obtain ⟨g, hg⟩ := h4; rw [hg]; exact get_app_lt (by omega)) t4
    (by rw [wr_ne (by omega)]; exact h4.get d2) (Nat.le_refl _) (h3.keep (by rw [wr_len]; exact Nat.le_refl _) fun p hp => wr_ne (by have := h5 p hp; omega)) (fun p hp => by have := h5 p hp; omega) (by
      cases hq : lab' m1.length with
      | none => rfl
      | some l => have := h5 m1.length (by rw [hq]; simp); omega)
  simp (disch := omega) only [Option.bind_some, Option.map_some, cond_true, cond_false, wrap_i64, tmod_pos, tdiv_pos, inRange_yes, inUpto_yes, isZero_no, decide_eq_true, decide_eq_false, Bool.not_true, Bool.not_false, Int.toNat_natCast, Nat.mul_one, beqI_yes, beqI_no, bneI_yes, bneI_no, isNil_nil, isNil_iface, wr_wr, Option.isNone_none, Option.isNone_some, plus, Nat.zero_add, Nat.add_zero, s3, q3]
  exact .some ⟨rfl, c, m1.length, r, m2.length, ro', gr, g', σ, σ, X, h6, hw.mono (by omega), hw.mono (by omega), hX, by omega, rfl⟩

theorem two_kind10 (hp : ∀ M, patinalaw05_pick k kk 11 M = some (10, M)) : Ok (patinalaw05_Two_step k (some ⟨T, 0, none⟩) [.int .i64 kk, .int .i64 a, .int .i64 b, .slice sa sn sc] m) (Dd m0 T n X.lo) := by
  unfold patinalaw05_Two_step
  have L4 : Nat.beq (List.length [Value.int .i64 kk, .int .i64 a, .int .i64 b, .slice sa sn sc]) 4 = true := rfl
  have ho := get_last (m := m) (o := .live [Value.int .i64 kk, .int .i64 a, .int .i64 b, .slice sa sn sc]) rfl
  have h1 := h.grow (Gr.app m [.live [Value.int .i64 kk, .int .i64 a, .int .i64 b, .slice sa sn sc]])
  have z0 : ((10 : Int) == 0) = false := rfl
  have z1 : ((10 : Int) == 1) = false := rfl
  have z2 : ((10 : Int) == 2) = false := rfl
  have z3 : ((10 : Int) == 3) = false := rfl
  have z4 : ((10 : Int) == 4) = false := rfl
  have z5 : ((10 : Int) == 5) = false := rfl
  have z6 : ((10 : Int) == 6) = false := rfl
  have z7 : ((10 : Int) == 7) = false := rfl
  have z8 : ((10 : Int) == 8) = false := rfl
  have z9 : ((10 : Int) == 9) = false := rfl
  have z10 : ((10 : Int) == 10) = true := rfl
  generalize m ++ [.live [Value.int .i64 kk, .int .i64 a, .int .i64 b, .slice sa sn sc]] = m1 at *
  have p0 : ldInt .i64 m1 ⟨m.length, 0, none⟩ = some kk := ldInt_of ho rfl
  have t1 := h1.t_.1
  have q0 : ldPtr m1 ⟨T, 0, none⟩ = some (some ⟨c, 0, none⟩) := ldPtr_of t1 rfl
  have q2 : ldPtr m1 ⟨T, 2, none⟩ = some (some ⟨r, 0, none⟩) := ldPtr_of t1 rfl
  have q1 : ldPtr m1 ⟨T, 1, none⟩ = some (some ⟨d, 0, none⟩) := ldPtr_of t1 rfl
  have s0 : st m1 ⟨T, 0, none⟩ (.pointer (some ⟨d, 0, none⟩)) = some (wr m1 T (tcell d d r s X)) := st_wr (sp := none) (off := 0) t1 (by simp [tcell])
  have t2 := wr_get (cs := tcell d d r s X) t1
  have q3 : ldPtr (wr m1 T (tcell d d r s X)) ⟨T, 3, none⟩ = some (some ⟨s, 0, none⟩) := ldPtr_of t2 rfl
  have s2 : st (wr m1 T (tcell d d r s X)) ⟨T, 2, none⟩ (.pointer (some ⟨s, 0, none⟩)) = some (wr m1 T (tcell d d s s X)) := by rw [st_wr (sp := none) (off := 2) t2 (by simp [tcell]), wr_wr]; rfl
  have t3 := wr_get (cs := tcell d d s s X) t1
  have s1 : st (wr m1 T (tcell d d s s X)) ⟨T, 1, none⟩ (.pointer (some ⟨c, 0, none⟩)) = some (wr m1 T (tcell d c s s X)) := by rw [st_wr (sp := none) (off := 1) t3 (by simp [tcell]), wr_wr]; rfl
  have t4 := wr_get (cs := tcell d c s s X) t1
  have s3 : st (wr m1 T (tcell d c s s X)) ⟨T, 3, none⟩ (.pointer (some ⟨r, 0, none⟩)) = some (wr m1 T (tcell d c s r X)) := by rw [st_wr (sp := none) (off := 3) t4 (by simp [tcell]), wr_wr]; rfl
  simp (disch := omega) only [Option.bind_some, Option.map_some, cond_true, cond_false, wrap_i64, tmod_pos, tdiv_pos, inRange_yes, inUpto_yes, isZero_no, decide_eq_true, decide_eq_false, Bool.not_true, Bool.not_false, Int.toNat_natCast, Nat.mul_one, beqI_yes, beqI_no, bneI_yes, bneI_no, isNil_nil, isNil_iface, wr_wr, Option.isNone_none, Option.isNone_some, plus, Nat.zero_add, Nat.add_zero, L4, p0, hp, z0, z1, z2, z3, z4, z5, z6, z7, z8, z9, z10, q0, q2, q1, s0, q3, s2, s1, s3, patinalaw05_Two_step_j1]
  exact .some ⟨rfl, d, c, s, r, _, gs, gr, τ, σ, X, h1.swap, hw'.mono (by omega), hw.mono (by omega), hX, by omega, rfl⟩

/-- every operation -/
theorem two_all {p : Int} (hp : ∀ M, patinalaw05_pick k kk 11 M = some (p, M)) (h0 : 0 ≤ p) (h11 : p < 11) : Ok (patinalaw05_Two_step k (some ⟨T, 0, none⟩) [.int .i64 kk, .int .i64 a, .int .i64 b, .slice sa sn sc] m) (Dd m0 T n X.lo) := by
  have did : ∀ x, Did m0 T c d r s n gs τ τ X.lo x → Dd m0 T n X.lo x := by
    rintro x ⟨h1, ro', gr', σ', X', h2, h3, h4, h5, h6⟩
    exact ⟨h1, c, d, r, s, ro', gr', gs, σ', τ, X', h2, h3, hw'.mono (by omega), h4, h5, h6⟩
  have hp' : p = 0 ∨ p = 1 ∨ p = 2 ∨ p = 3 ∨ p = 4 ∨ p = 5 ∨ p = 6 ∨ p = 7 ∨ p = 8 ∨ p = 9 ∨ p = 10 := by omega
  rcases hp' with rfl | rfl | rfl | rfl | rfl | rfl | rfl | rfl | rfl | rfl | rfl
  · exact (two_read k hk h hw (by omega) hX hN hd hsn hkn ha hb hp).mono did
  · exact (two_write k hk h hw (by omega) hX hN hd hsn hkn ha hb hp).mono did
  · exact (two_erase k hk h hw (by omega) hX hN hd hsn hkn ha hb hp).mono did
  · exact (two_flip k hk h hw (by omega) hX hN hd hsn hkn ha hb hp).mono did
  · exact (two_failp k hk h hw (by omega) hX hN hd hsn hkn ha hb hp).mono did
  · exact (two_faile k hk h hw (by omega) hX hN hd hsn hkn ha hb hp).mono did
  · exact (two_cut k hk h hw (by omega) hX hN hd hsn hkn ha hb hp).mono did
  · exact (two_power k hk h hw (by omega) hX hN hd hsn hkn ha hb hp).mono did
  · exact two_kind8 k hk h hw hw' hn hX hN hd hsn hkn ha hb hp
  · exact two_kind9 k hk h hw hw' hn hX hN hd hsn hkn ha hb hp
  · exact two_kind10 k hk h hw hw' hn hX hN hd hsn hkn ha hb hp
end
end Go.Proofs.Ytlbbcgjfkpnilaa
