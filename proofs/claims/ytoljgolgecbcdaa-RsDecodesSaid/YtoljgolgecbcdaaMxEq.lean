/- Two structs or arrays that are compared: cell by cell. -/
import Derived.Test.YtoljgolgecbcdaaMxOps2
import Derived.Laws.StructEq
import Derived.ChangeKeysEq
set_option linter.unusedVariables false
set_option linter.unusedSimpArgs false
namespace Go.Mx

theorem cellsEq_app : ∀ {k1 k2 : List EK} {x1 x2 y1 y2 : List Value}, x1.length = k1.length → y1.length = k1.length → x2.length = k2.length → y2.length = k2.length →
    cellsEq (k1 ++ k2) (x1 ++ x2) (y1 ++ y2) = (cellsEq k1 x1 y1).bind fun c => bif c then cellsEq k2 x2 y2 else some false
  | [], k2, x1, x2, y1, y2, hx, hy, _, _ => by
    have e1 : x1 = [] := List.length_eq_zero_iff.1 hx
    have e2 : y1 = [] := List.length_eq_zero_iff.1 hy
    subst e1; subst e2; rfl
  | k :: k1, k2, [], x2, y1, y2, hx, hy, _, _ => by simp at hx
  | k :: k1, k2, x :: x1, x2, [], y2, hx, hy, _, _ => by simp at hy
  | k :: k1, k2, x :: x1, x2, y :: y1, y2, hx, hy, h1, h2 => by
    simp only [List.cons_append, cellsEq]
    have hx' : x1.length = k1.length := by simpa using hx
    have hy' : y1.length = k1.length := by simpa using hy
    cases h : cellEq k x y with
    | none => rfl
    | some c =>
      cases c
      · simp only [Option.bind_some, cond_false, List.length_append, hx', hy', h1, h2, Nat.beq_refl, Bool.and_self, cond_true]
      · simp only [Option.bind_some, cond_true]
        exact cellsEq_app hx' hy' h1 h2
theorem cellsEq_split {ks : List EK} {xs ys : List Value} {z : Nat} (hz : z ≤ ks.length) (hx : xs.length = ks.length) (hy : ys.length = ks.length) :
    cellsEq ks xs ys = (cellsEq (ks.take z) (xs.take z) (ys.take z)).bind fun c => bif c then cellsEq (ks.drop z) (xs.drop z) (ys.drop z) else some false := by
  rw [← cellsEq_app (by simp; omega) (by simp; omega) (by simp; omega) (by simp; omega)]
  simp only [List.take_append_drop]
theorem cellsEq_len : ∀ {ks : List EK} {xs ys : List Value} {c : Bool}, cellsEq ks xs ys = some c → xs.length = ks.length ∧ ys.length = ks.length
  | [], [], [], c, h => by simp
  | [], [], _ :: _, c, h => by simp [cellsEq] at h
  | [], _ :: _, _, c, h => by simp [cellsEq] at h
  | k :: ks, [], _, c, h => by simp [cellsEq] at h
  | k :: ks, x :: xs, [], c, h => by simp [cellsEq] at h
  | k :: ks, x :: xs, y :: ys, c, h => by
    simp only [cellsEq] at h
    obtain ⟨d, h1, h2⟩ := Option.bind_eq_some_iff.1 h
    cases d
    · simp only [cond_false] at h2
      cases h3 : (Nat.beq xs.length ks.length && Nat.beq ys.length ks.length) with
      | false => rw [h3] at h2; simp at h2
      | true =>
        simp only [Bool.and_eq_true] at h3
        have a := Nat.eq_of_beq_eq_true h3.1
        have b := Nat.eq_of_beq_eq_true h3.2
        simp [a, b]
    · have := cellsEq_len h2
      simp [this.1, this.2]

theorem VRs.uncons {ρ : Rn} {L : Nat} {x : Value} {xs cs' : List Value} (h : VRs ρ L (x :: xs) cs') : ∃ x' xs', cs' = x' :: xs' ∧ VR ρ L x x' ∧ VRs ρ L xs xs' := by
  cases cs' with
  | nil => have := h.len; simp at this
  | cons x' xs' =>
    refine ⟨x', xs', rfl, ?_, by simpa using h.len, fun v hv => h.one v (by simp [hv]), fun i v hi => ?_⟩
    · obtain ⟨v', h1, h2⟩ := h.all 0 x rfl
      simp at h1; subst h1; exact h2
    · obtain ⟨v', h1, h2⟩ := h.all (i + 1) v (by simpa using hi)
      exact ⟨v', by simpa using h1, h2⟩
theorem cellEq_rel {ρ : Rn} {L : Nat} {e : EK} {x x' y y' : Value} {c : Bool} (hx : VR ρ L x x') (hy : VR ρ L y y') (h : cellEq e x y = some c) : cellEq e x' y' = some c := by
  unfold cellEq at h
  split at h
  · rw [hx.int_inv, hy.int_inv]; exact h
  · rw [hx.bool_inv, hy.bool_inv]; exact h
  · rw [hx.str_inv, hy.str_inv]; exact h
  · simp at h
theorem cellsEq_rel {ρ : Rn} {L : Nat} : ∀ {ks : List EK} {xs xs' ys ys' : List Value} {c : Bool}, VRs ρ L xs xs' → VRs ρ L ys ys' → cellsEq ks xs ys = some c → cellsEq ks xs' ys' = some c
  | [], [], xs', [], ys', c, hx, hy, h => by
    have e1 : xs' = [] := List.length_eq_zero_iff.1 hx.len.symm
    have e2 : ys' = [] := List.length_eq_zero_iff.1 hy.len.symm
    subst e1; subst e2; exact h
  | [], [], _, _ :: _, _, c, hx, hy, h => by simp [cellsEq] at h
  | [], _ :: _, _, _, _, c, hx, hy, h => by simp [cellsEq] at h
  | k :: ks, [], _, _, _, c, hx, hy, h => by simp [cellsEq] at h
  | k :: ks, x :: xs, _, [], _, c, hx, hy, h => by simp [cellsEq] at h
  | k :: ks, x :: xs, xs', y :: ys, ys', c, hx, hy, h => by
    obtain ⟨x', xs', rfl, a1, a2⟩ := hx.uncons
    obtain ⟨y', ys', rfl, b1, b2⟩ := hy.uncons
    simp only [cellsEq] at h ⊢
    obtain ⟨d, h1, h2⟩ := Option.bind_eq_some_iff.1 h
    rw [cellEq_rel a1 b1 h1, Option.bind_some]
    cases d
    · simp only [cond_false] at h2 ⊢
      rw [← a2.len, ← b2.len]; exact h2
    · simp only [cond_true] at h2 ⊢
      exact cellsEq_rel a2 b2 h2

/-- what a value of a type is, of some cells -/
def IsV (T : TT) (t : Nat) (xs : List Value) (x : Value) : Prop := if agg? (T t).d = true then x = .agg ⟨xs⟩ else xs = [x]

theorem part_isV {P : Program} {T : TT} (hT : TOk P T) {t : Nat} (hne : (T t).d ≠ .other) {cs : List Value} {i : Nat} (hl : i + (T t).size ≤ cs.length) (w : World) :
    ∃ x, (part t ⟨cs⟩ i).run P w = .ok x w ∧ IsV T t ((cs.drop i).take (T t).size) x := by
  have ht := hT t hne
  unfold IsV
  by_cases ha : agg? (T t).d = true
  · refine ⟨_, part_agg ht ha w, ?_⟩
    rw [if_pos ha]
    congr 1
    apply Array.toList_inj.1
    rw [Array.toList_extract]
    simp [List.extract_eq_take_drop]
  · have ha' : agg? (T t).d = false := by simpa using ha
    have h1 := ht.one ha'
    have hi : i < cs.length := by omega
    refine ⟨cs[i], part_one ht ha' (by simp [hi]) w, ?_⟩
    rw [if_neg ha, h1, List.take_one, List.head?_drop]
    simp [hi]

theorem eq_leaf {k : EK} {x y : Value} {c : Bool} (h : cellsEq [k] [x] [y] = some c) : cellEq k x y = some c := by
  simp only [cellsEq] at h
  obtain ⟨d, h1, h2⟩ := Option.bind_eq_some_iff.1 h
  rw [h1]
  cases d <;> simpa using h2

theorem cellEq_bool {a b : Value} {c : Bool} (h : cellEq .bool a b = some c) : ∃ x y, a = .bool x ∧ b = .bool y ∧ (x == y) = c := by
  unfold cellEq at h
  split at h <;> simp_all
theorem cellEq_int {k : IntKind} {a b : Value} {c : Bool} (h : cellEq (.int k) a b = some c) : ∃ x y, a = .int k x ∧ b = .int k y ∧ (x == y) = c := by
  unfold cellEq at h
  split at h
  · rename_i h1
    injection h1 with h1
    subst h1
    split at h
    · rename_i h2
      obtain ⟨rfl, rfl⟩ := h2
      exact ⟨_, _, rfl, rfl, by simpa using h⟩
    · cases h
  · simp at *
  · simp at *
  · cases h
theorem cellEq_str {a b : Value} {c : Bool} (h : cellEq .str a b = some c) : ∃ x y, a = .string x ∧ b = .string y ∧ strEq x y = c := by
  unfold cellEq at h
  split at h <;> simp_all

theorem eqIn_sound {P : Program} {T : TT} (hT : TOk P T) : ∀ (f d : Nat) (t : Nat) (ks : List EK), (T t).d ≠ .other → eqTy P T f t ks = true → ∀ (w : World) (xs ys : List Value) (x y : Value) (c : Bool), IsV T t xs x → IsV T t ys y → xs.length = ks.length → ys.length = ks.length →
    cellsEq ks xs ys = some c → (Op.equalIn (d + f) t x y).run P w = .ok c w
  | 0, d, t, ks, hne, h, _, _, _, _, _, _, _, _, _, _, _ => by simp [eqTy] at h
  | f + 1, d, t, ks, hne, h, w, xs, ys, x, y, c, hx, hy, lx, ly, hc => by
    have ht := hT t hne
    have hdd := ht.desc
    rw [← Nat.add_assoc]
    unfold eqTy at h
    -- one cell
    have leaf : ∀ k, ks = [k] → agg? (T t).d = false → (∀ a b, cellEq k a b = some c → (Op.equalIn (d + f + 1) t a b).run P w = .ok c w) → (Op.equalIn (d + f + 1) t x y).run P w = .ok c w := by
      rintro k rfl ha hk
      unfold IsV at hx hy
      rw [if_neg (by simp [ha])] at hx hy
      subst hx; subst hy
      exact hk _ _ (eq_leaf hc)
    split at h
    · rename_i hu
      have hk : ks = [.bool] := by simpa using h
      refine leaf _ hk (by cases hd : (T t).d <;> rw [hd] at hdd <;> simp_all [descOk, agg?]) fun a b hab => ?_
      obtain ⟨x, y, rfl, rfl, rfl⟩ := cellEq_bool hab
      exact run_equalIn_bool' w (d + f) t _ _ hu
    · rename_i q hu
      have hk : ks = [.int q] := by simpa using h
      refine leaf _ hk (by cases hd : (T t).d <;> rw [hd] at hdd <;> simp_all [descOk, agg?]) fun a b hab => ?_
      obtain ⟨x, y, rfl, rfl, rfl⟩ := cellEq_int hab
      exact run_equalIn_int w (d + f) t _ _ _ _ hu
    · rename_i hu
      have hk : ks = [.str] := by simpa using h
      refine leaf _ hk (by cases hd : (T t).d <;> rw [hd] at hdd <;> simp_all [descOk, agg?]) fun a b hab => ?_
      obtain ⟨x, y, rfl, rfl, rfl⟩ := cellEq_str hab
      exact run_equalIn_string w (d + f) t _ _ hu
    · rename_i fs hu
      simp only [Bool.and_eq_true, Bool.not_eq_true'] at h
      obtain ⟨⟨hp, hlen⟩, hfs⟩ := h
      have ha : agg? (T t).d = true := by cases hd : (T t).d <;> rw [hd] at hdd <;> simp_all [descOk, agg?]
      unfold IsV at hx hy
      rw [if_pos ha] at hx hy
      subst hx; subst hy
      have hfo : P.fieldsOf t = fs := by simp [Program.fieldsOf, hu]
      rw [run_equalIn_struct w (d + f) t _ _ (by rw [hfo]; exact hu) hp, hfo]
      have go : ∀ (gs : List Field) (off : Nat) (ks : List EK), eqFs (eqTy P T f) T gs off ks = true → off + ks.length = xs.length → off + ks.length = ys.length → cellsEq ks (xs.drop off) (ys.drop off) = some c →
          (Op.eqFields (d + f) ⟨xs⟩ ⟨ys⟩ gs).run P w = .ok c w := by
        intro gs
        induction gs with
        | nil =>
          intro off ks h1 h2 h3 h4
          simp only [eqFs, List.isEmpty_iff] at h1
          subst h1
          simp only [List.length_nil, Nat.add_zero] at h2 h3
          rw [List.drop_of_length_le (by omega), List.drop_of_length_le (by omega)] at h4
          simp only [cellsEq, Option.some.injEq] at h4
          subst h4
          simp [Op.eqFields]
        | cons g gs ih =>
          intro off ks h1 h2 h3 h4
          simp only [eqFs, Bool.and_eq_true, bne_iff_ne] at h1
          obtain ⟨⟨⟨⟨⟨b1, b2⟩, b3⟩, b4⟩, b5⟩, b6⟩ := h1
          have e2 := Nat.eq_of_beq_eq_true b2
          have e4 := Nat.le_of_ble_eq_true b4
          have hgne := notOther_ne b3
          subst e2
          obtain ⟨u, p1, p2⟩ := part_isV (P := P) hT hgne (cs := xs) (i := g.offset) (by omega) w
          obtain ⟨v, p3, p4⟩ := part_isV (P := P) hT hgne (cs := ys) (i := g.offset) (by omega) w
          rw [cellsEq_split e4 (by simp; omega) (by simp; omega)] at h4
          obtain ⟨c1, h5, h6⟩ := Option.bind_eq_some_iff.1 h4
          have h7 := eqIn_sound hT f d g.type _ hgne b5 w _ _ u v c1 p2 p4 (by simp; omega) (by simp; omega) h5
          simp only [Op.eqFields, b1, ne_eq, not_false_eq_true, if_true, Sem.run_bind, p1, p3, h7, Result.andThen_ok]
          cases c1
          · simp at h6; subst h6; simp
          · simp only [cond_true] at h6
            rw [List.drop_drop, List.drop_drop] at h6
            simpa using ih (g.offset + (T g.type).size) _ b6 (by simp; omega) (by simp; omega) h6
      exact go fs.toList 0 ks hfs (by omega) (by omega) (by simpa using hc)
    · rename_i n e hu
      simp only [Bool.and_eq_true, List.all_eq_true, List.mem_range] at h
      obtain ⟨⟨⟨b1, b2⟩, b3⟩, b4⟩ := h
      have hene := notOther_ne b1
      have e3 := Nat.eq_of_beq_eq_true b3
      have ha : agg? (T t).d = true := by cases hd : (T t).d <;> rw [hd] at hdd <;> simp_all [descOk, agg?]
      unfold IsV at hx hy
      rw [if_pos ha] at hx hy
      subst hx; subst hy
      obtain ⟨i, hi, hi2, _⟩ := (hT e hene).info
      have hce : P.cellsOf e = (T e).size := by simp [Program.cellsOf, hi, hi2]
      rw [run_equalIn_array w (d + f) _ _ hu hi, hce]
      have go : ∀ (m j : Nat), j + m = n → cellsEq (ks.drop (j * (T e).size)) (xs.drop (j * (T e).size)) (ys.drop (j * (T e).size)) = some c →
          (Op.eqItems (d + f) e (T e).size ⟨xs⟩ ⟨ys⟩ (List.range' j m)).run P w = .ok c w := by
        intro m
        induction m with
        | zero =>
          intro j hj h4
          have : j = n := by omega
          subst this
          rw [List.drop_of_length_le (by omega), List.drop_of_length_le (by omega), List.drop_of_length_le (by omega)] at h4
          simp only [cellsEq, Option.some.injEq] at h4
          subst h4
          simp [Op.eqItems]
        | succ m ih =>
          intro j hj h4
          have hj2 : j * (T e).size + (T e).size ≤ n * (T e).size := by
            have := Nat.mul_le_mul_right (T e).size (show j + 1 ≤ n by omega)
            rwa [Nat.succ_mul] at this
          obtain ⟨u, p1, p2⟩ := part_isV (P := P) hT hene (cs := xs) (i := j * (T e).size) (by omega) w
          obtain ⟨v, p3, p4⟩ := part_isV (P := P) hT hene (cs := ys) (i := j * (T e).size) (by omega) w
          rw [cellsEq_split (z := (T e).size) (by simp; omega) (by simp; omega) (by simp; omega)] at h4
          obtain ⟨c1, h5, h6⟩ := Option.bind_eq_some_iff.1 h4
          have h7 := eqIn_sound hT f d e _ hene (b4 j (by omega)) w _ _ u v c1 p2 p4 (by simp; omega) (by simp; omega) h5
          rw [List.range'_succ]
          simp only [Op.eqItems, Sem.run_bind, p1, p3, h7, Result.andThen_ok]
          cases c1
          · simp at h6; subst h6; simp
          · simp only [cond_true] at h6
            rw [List.drop_drop, List.drop_drop, List.drop_drop] at h6
            simpa [Nat.succ_mul] using ih (j + 1) (by omega) (by rw [Nat.succ_mul]; exact h6)
      rw [List.range_eq_range']
      exact go n 0 (by omega) (by simpa using hc)
    · simp at h
end Go.Mx
