/- What a word is decoded to, plain: the one codeword within two places, or nothing. -/
import Derived.Test.YtmfmoanjecjeeaaRsT
set_option linter.unusedVariables false
set_option linter.unusedSectionVars false
set_option linter.unusedSimpArgs false
namespace Go.Proofs.Ytmfmoanjecjeeaa
namespace GF

def flip (w : Nat → GF) (i : Nat) (e : GF) : Nat → GF := fun k => if k = i then w k + e else w k
theorem syn_flip (w : Nat → GF) {i : Nat} (hi : i < 64) (e : GF) (j : Nat) : syn (flip w i e) j = syn w j + e * pw (j * (63 - i)) := by
  have h : syn (flip w i e) j = syn (fun k => w k + (if k = i then e else 0)) j := syn_congr (fun k _ => by unfold flip; split; rfl; rw [add_zero]) j
  rw [h, syn_add]
  congr 1
  unfold syn
  rw [sum_one hi fun k _ hk => by show (if k = i then e else 0) * _ = 0; rw [if_neg hk, zero_mul]]
  show (if i = i then e else 0) * _ = _
  rw [if_pos rfl]
theorem wt_single {e : Nat → GF} {i0 : Nat} : ∀ {n : Nat}, i0 < n → e i0 ≠ 0 → (∀ i, i < n → i ≠ i0 → e i = 0) → wt e n = 1
  | n + 1, hi, h0, h => by
    rw [wt]
    by_cases h1 : i0 = n
    · subst h1
      have : wt e i0 = 0 := Nat.le_zero.1 (Nat.le_trans (wt_le (e := fun _ => 0) fun i hi _ => h i (by omega) (by omega)) (by
        have : ∀ n, wt (fun _ => (0 : GF)) n = 0 := fun n => by
          induction n with
          | zero => rfl
          | succ n ih => rw [wt, ih, if_pos rfl]
        rw [this]; exact Nat.le_refl _))
      rw [this, if_neg h0]
    · rw [wt_single (n := n) (by omega) h0 fun i hi => h i (by omega), if_pos (h n (by omega) (by omega))]
theorem wt_pair {e : Nat → GF} {i0 i1 : Nat} : ∀ {n : Nat}, i0 < i1 → i1 < n → e i0 ≠ 0 → e i1 ≠ 0 → (∀ i, i < n → i ≠ i0 → i ≠ i1 → e i = 0) → wt e n = 2
  | n + 1, hlt, hi, h0, h1, h => by
    rw [wt]
    by_cases h2 : i1 = n
    · subst h2
      rw [wt_single (n := i1) hlt h0 fun i hi hne => h i (by omega) hne (by omega), if_neg h1]
    · rw [wt_pair (n := n) hlt (by omega) h0 h1 fun i hi => h i (by omega), if_pos (h n (by omega) (by omega) (by omega))]
theorem df_flip (w : Nat → GF) {i : Nat} (hi : i < 64) {e : GF} (he : e ≠ 0) : df w (flip w i e) = 1 := by
  refine wt_single (i0 := i) hi ?_ fun k _ hk => ?_
  · show w i + flip w i e i ≠ 0
    unfold flip; rw [if_pos rfl, add_cancel]; exact he
  · show w k + flip w i e k = 0
    unfold flip; rw [if_neg hk, add_self]
theorem df_flip2 (w : Nat → GF) {i k : Nat} (hi : i < 64) (hk : k < 64) (hne : i ≠ k) {e f : GF} (he : e ≠ 0) (hf : f ≠ 0) : df w (flip (flip w i e) k f) = 2 := by
  have v1 : w i + flip (flip w i e) k f i ≠ 0 := by unfold flip; rw [if_neg hne, if_pos rfl, add_cancel]; exact he
  have v2 : w k + flip (flip w i e) k f k ≠ 0 := by unfold flip; rw [if_pos rfl, if_neg (Ne.symm hne), add_cancel]; exact hf
  have v3 : ∀ j, j < 64 → j ≠ i → j ≠ k → w j + flip (flip w i e) k f j = 0 := fun j _ h1 h2 => by unfold flip; rw [if_neg h2, if_neg h1, add_self]
  rcases Nat.lt_or_gt_of_ne hne with h | h
  · exact wt_pair h hk v1 v2 v3
  · exact wt_pair h hi v2 v1 fun j hj h1 h2 => v3 j hj h2 h1

def oneOk (s : Nat → GF) : Prop := s 0 ≠ 0 ∧ s 1 ≠ 0 ∧ (∀ j, 1 ≤ j → j < 6 → s (j - 1) * div (s 1) (s 0) = s j) ∧ lg (div (s 1) (s 0)) < 64
def det (s : Nat → GF) : GF := s 1 * s 1 + s 0 * s 2
def cA (s : Nat → GF) : GF := div (s 1 * s 2 + s 0 * s 3) (det s)
def cB (s : Nat → GF) : GF := div (s 2 * s 2 + s 1 * s 3) (det s)
def isRoot (a b : GF) (k : Nat) : Bool := decide (pw k * pw k + a * pw k + b = 0)
def roots (a b : GF) (n : Nat) : List Nat := (List.range n).filter (isRoot a b)
def part (s : Nat → GF) (k0 k1 : Nat) : GF := div (s 1 + s 0 * pw k1) (pw k0 + pw k1)
def two (s : Nat → GF) : Option (Nat × Nat × GF) :=
  if det s = 0 then none else match roots (cA s) (cB s) 64 with
    | [k0, k1] => if part s k0 k1 = 0 ∨ part s k0 k1 = s 0 then none else some (k0, k1, part s k0 k1)
    | _ => none
open Classical in
noncomputable def fix (w : Nat → GF) : Option ((Nat → GF) × Nat) :=
  if oneOk (syn w) then some (flip w (63 - lg (div (syn w 1) (syn w 0))) (syn w 0), 1) else match two (syn w) with
    | some (k0, k1, e) => some (flip (flip w (63 - k0) e) (63 - k1) (e + syn w 0), 2)
    | none => none
open Classical in
noncomputable def dec (w : Nat → GF) : Option ((Nat → GF) × Nat) :=
  if Code w then some (w, 0) else match fix w with
    | some (c, n) => if Code c then some (c, n) else none
    | none => none

theorem roots_mem {a b : GF} {n k : Nat} : k ∈ roots a b n ↔ k < n ∧ isRoot a b k = true := by unfold roots; rw [List.mem_filter, List.mem_range]
theorem roots_nodup (a b : GF) (n : Nat) : (roots a b n).Nodup := by unfold roots; exact List.nodup_range.sublist List.filter_sublist
theorem two_some {s : Nat → GF} {k0 k1 : Nat} {e : GF} (h : two s = some (k0, k1, e)) : k0 < 64 ∧ k1 < 64 ∧ k0 ≠ k1 ∧ e ≠ 0 ∧ e ≠ s 0 := by
  unfold two at h
  split at h
  · cases h
  · split at h
    · rename_i a b hr
      split at h
      · cases h
      · rename_i hne
        simp only [Option.some.injEq, Prod.mk.injEq] at h
        obtain ⟨rfl, rfl, rfl⟩ := h
        have h0 : a ∈ roots (cA s) (cB s) 64 := by rw [hr]; simp
        have h1 : b ∈ roots (cA s) (cB s) 64 := by rw [hr]; simp
        have hn := roots_nodup (cA s) (cB s) 64
        rw [hr] at hn
        refine ⟨(roots_mem.1 h0).1, (roots_mem.1 h1).1, fun he => ?_, fun he => hne (.inl he), fun he => hne (.inr he)⟩
        subst he; simp at hn
    · cases h
theorem fix_some {w c : Nat → GF} {n : Nat} (h : fix w = some (c, n)) : df w c = n ∧ n ≤ 2 := by
  unfold fix at h
  split at h
  · rename_i ho
    simp only [Option.some.injEq, Prod.mk.injEq] at h
    obtain ⟨rfl, rfl⟩ := h
    exact ⟨df_flip w (by omega) ho.1, by omega⟩
  · split at h
    · rename_i k0 k1 e ht
      simp only [Option.some.injEq, Prod.mk.injEq] at h
      obtain ⟨rfl, rfl⟩ := h
      obtain ⟨h0, h1, h2, h3, h4⟩ := two_some ht
      exact ⟨df_flip2 w (by omega) (by omega) (by omega) h3 (fun h5 => h4 (add_eq_zero.1 h5)), by omega⟩
    · cases h

/-- the powers of what a single place bears -/
theorem one_pow {s : Nat → GF} (h : oneOk s) : ∀ j, j < 6 → s j = s 0 * pw (j * lg (div (s 1) (s 0))) := by
  obtain ⟨h0, h1, h2, h3⟩ := h
  have hx : div (s 1) (s 0) ≠ 0 := fun h => by
    have := div_mul (a := s 1) h0
    rw [h, zero_mul] at this
    exact h1 this.symm
  intro j
  induction j with
  | zero => intro _; rw [Nat.zero_mul, pw_zero, mul_one]
  | succ j ih =>
    intro hj
    rw [← h2 (j + 1) (by omega) hj, show j + 1 - 1 = j by omega, ih (by omega), Nat.succ_mul, ← pw_pw, pw_lg hx, mul_assoc]

theorem one_code {w : Nat → GF} (h : oneOk (syn w)) : Code (flip w (63 - lg (div (syn w 1) (syn w 0))) (syn w 0)) := by
  intro j hj
  have h3 := h.2.2.2
  rw [syn_flip w (by omega), show 63 - (63 - lg (div (syn w 1) (syn w 0))) = lg (div (syn w 1) (syn w 0)) by omega, ← one_pow h j hj, add_self]

theorem syn_two {e : Nat → GF} {i0 i1 : Nat} (hlt : i0 < i1) (hi : i1 < 64) (h : ∀ i, i < 64 → i ≠ i0 → i ≠ i1 → e i = 0) (j : Nat) : syn e j = e i0 * pw (j * (63 - i0)) + e i1 * pw (j * (63 - i1)) := by
  have h1 : syn e j = syn (fun i => (if i = i0 then e i else 0) + (if i = i1 then e i else 0)) j := syn_congr (fun i hi => by
    by_cases h0 : i = i0
    · subst h0; rw [if_pos rfl, if_neg (by omega), add_zero]
    · by_cases h2 : i = i1
      · subst h2; rw [if_neg h0, if_pos rfl, zero_add]
      · rw [if_neg h0, if_neg h2, h i hi h0 h2, add_zero]) j
  rw [h1, syn_add]
  unfold syn
  rw [sum_one (i0 := i0) (by omega) fun i _ hne => by show (if i = i0 then e i else 0) * _ = 0; rw [if_neg hne, zero_mul], sum_one (i0 := i1) hi fun i _ hne => by show (if i = i1 then e i else 0) * _ = 0; rw [if_neg hne, zero_mul]]
  show (if i0 = i0 then e i0 else 0) * _ + (if i1 = i1 then e i1 else 0) * _ = _
  rw [if_pos rfl, if_pos rfl]

theorem two_is {s : Nat → GF} {E F : GF} {k l : Nat} (hk : k < 64) (hl : l < 64) (hne : k ≠ l) (hE : E ≠ 0) (hF : F ≠ 0) (hs : ∀ j, j < 6 → s j = E * pw (j * k) + F * pw (j * l)) :
    two s = some (k, l, E) ∨ two s = some (l, k, F) := by
  have hX : pw k + pw l ≠ 0 := fun h => hne (pw_inj (by omega) (by omega) (add_eq_zero.1 h))
  generalize hx : pw k = X at hX
  generalize hy : pw l = Y at hX
  have p2 : ∀ n : Nat, pw (2 * n) = pw n * pw n := fun n => by rw [pw_pw, Nat.two_mul]
  have p3 : ∀ n : Nat, pw (3 * n) = pw n * (pw n * pw n) := fun n => by rw [pw_pw, pw_pw]; congr 1; omega
  have s0 : s 0 = E + F := by rw [hs 0 (by omega), Nat.zero_mul, Nat.zero_mul, pw_zero, mul_one, mul_one]
  have s1 : s 1 = E * X + F * Y := by rw [hs 1 (by omega), Nat.one_mul, Nat.one_mul, hx, hy]
  have s2 : s 2 = E * (X * X) + F * (Y * Y) := by rw [hs 2 (by omega), p2, p2, hx, hy]
  have s3 : s 3 = E * (X * (X * X)) + F * (Y * (Y * Y)) := by rw [hs 3 (by omega), p3, p3, hx, hy]
  have hdet : det s = E * F * ((X + Y) * (X + Y)) := by
    unfold det
    rw [s0, s1, s2]
    simp only [mul_add, add_mul, mul_assoc, mul_comm, mul_left_comm, add_assoc, add_comm, add_left_comm, add_self, add_cancel, add_zero, zero_add]
  have hd : det s ≠ 0 := by rw [hdet]; exact mul_ne (mul_ne hE hF) (mul_ne hX hX)
  have ha : cA s = X + Y := by
    unfold cA
    rw [show s 1 * s 2 + s 0 * s 3 = (X + Y) * det s by
      rw [hdet, s0, s1, s2, s3]
      simp only [mul_add, add_mul, mul_assoc, mul_comm, mul_left_comm, add_assoc, add_comm, add_left_comm, add_self, add_cancel, add_zero, zero_add], mul_div hd]
  have hb : cB s = X * Y := by
    unfold cB
    rw [show s 2 * s 2 + s 1 * s 3 = (X * Y) * det s by
      rw [hdet, s1, s2, s3]
      simp only [mul_add, add_mul, mul_assoc, mul_comm, mul_left_comm, add_assoc, add_comm, add_left_comm, add_self, add_cancel, add_zero, zero_add], mul_div hd]
  have hroot : ∀ n, n < 64 → (isRoot (X + Y) (X * Y) n = true ↔ n = k ∨ n = l) := by
    intro n hn
    unfold isRoot
    rw [decide_eq_true_eq, show pw n * pw n + (X + Y) * pw n + X * Y = (pw n + X) * (pw n + Y) by
      generalize pw n = Z
      simp only [mul_add, add_mul, mul_assoc, mul_comm, mul_left_comm, add_assoc, add_comm, add_left_comm]]
    constructor
    · intro h
      rcases mul_eq_zero h with h | h
      · exact .inl (pw_inj (by omega) (by omega) (by rw [hx]; exact add_eq_zero.1 h))
      · exact .inr (pw_inj (by omega) (by omega) (by rw [hy]; exact add_eq_zero.1 h))
    · rintro (rfl | rfl)
      · rw [hx, add_self, zero_mul]
      · rw [hy, add_self, mul_zero]
  have hperm : (roots (X + Y) (X * Y) 64).Perm [k, l] := by
    refine (List.perm_ext_iff_of_nodup (roots_nodup _ _ _) (by simp [hne])).2 fun n => ?_
    rw [roots_mem]
    simp only [List.mem_cons, List.not_mem_nil, or_false]
    constructor
    · rintro ⟨h1, h2⟩; exact (hroot n h1).1 h2
    · intro h
      have hn : n < 64 := by rcases h with rfl | rfl <;> assumption
      exact ⟨hn, (hroot n hn).2 h⟩
  have hpart : ∀ {A B : GF} {Z V : GF}, Z + V ≠ 0 → div (A * Z + B * V + (A + B) * V) (Z + V) = A := by
    intro A B Z V h
    rw [show A * Z + B * V + (A + B) * V = A * (Z + V) by
      simp only [mul_add, add_mul, mul_assoc, mul_comm, mul_left_comm, add_assoc, add_comm, add_left_comm, add_self, add_cancel, add_zero, zero_add], mul_div h]
  have hlen := hperm.length_eq
  unfold two
  rw [if_neg hd, ha, hb]
  match hr : roots (X + Y) (X * Y) 64, hlen with
  | [a, b], _ =>
    rw [hr] at hperm
    simp only
    have hm := (List.perm_ext_iff_of_nodup (by have := roots_nodup (X + Y) (X * Y) 64; rwa [hr] at this) (by simp [hne])).1 hperm
    have ha := (hm a).1 (by simp)
    have hb := (hm b).1 (by simp)
    have hab : a ≠ b := by
      have := roots_nodup (X + Y) (X * Y) 64
      rw [hr] at this
      simpa using this
    simp only [List.mem_cons, List.not_mem_nil, or_false] at ha hb
    rcases ha with rfl | rfl
    · have hb' : b = l := by rcases hb with h | h; exact absurd h.symm hab; exact h
      subst hb'
      left
      have hp : part s a b = E := by unfold part; rw [s0, s1, hx, hy]; exact hpart hX
      rw [hp, s0, if_neg]
      rintro (h | h)
      · exact hE h
      · have := add_eq_zero.2 h
        rw [add_cancel] at this
        exact hF this
    · have hb' : b = k := by rcases hb with h | h; exact h; exact absurd h.symm hab
      subst hb'
      right
      have hX' : Y + X ≠ 0 := by rw [add_comm]; exact hX
      have hp : part s a b = F := by
        unfold part
        rw [s0, s1, hx, hy, add_comm (E * X), add_comm E F]; exact hpart hX'
      rw [hp, s0, if_neg]
      rintro (h | h)
      · exact hF h
      · have := add_eq_zero.2 h
        rw [add_comm E F, add_cancel] at this
        exact hE this

open Classical in
theorem dec_spec (w : Nat → GF) : (∃ c n, dec w = some (c, n) ∧ Code c ∧ df w c = n ∧ n ≤ 2) ∨ (dec w = none ∧ ∀ c, Code c → 2 < df w c) := by
  by_cases h0 : Code w
  · exact .inl ⟨w, 0, by unfold dec; rw [if_pos h0], h0, df_self fun _ _ => rfl, by omega⟩
  · have e : dec w = match fix w with
      | some (c, n) => if Code c then some (c, n) else none
      | none => none := by unfold dec; rw [if_neg h0]
    by_cases hd : ∃ c n, fix w = some (c, n) ∧ Code c
    · obtain ⟨c, n, h1, h2⟩ := hd
      obtain ⟨h3, h4⟩ := fix_some h1
      refine .inl ⟨c, n, ?_, h2, h3, h4⟩
      rw [e, h1]
      simp only [if_pos h2]
    · have hno : ∀ c n, fix w = some (c, n) → ¬ Code c := fun c n h1 h2 => hd ⟨c, n, h1, h2⟩
      refine .inr ⟨?_, fun c hc => ?_⟩
      · rw [e]
        match hf : fix w with
        | some (c, n) => simp only [if_neg (hno c n hf)]
        | none => rfl
      · apply Classical.byContradiction
        intro hle
        have hle : df w c ≤ 2 := by omega
        have hs : ∀ j, j < 6 → syn w j = syn (fun i => w i + c i) j := fun j hj => by rw [syn_add, hc j hj, add_zero]
        by_cases h1 : oneOk (syn w)
        · exact hno _ _ (by unfold fix; rw [if_pos h1]) (one_code h1)
        · have hz : df w c ≠ 0 := fun h => h0 (hc.congr (df_zero h))
          by_cases hd1 : df w c = 1
          · obtain ⟨i0, a1, a2, a3⟩ := wt_one hd1
            apply h1
            have hp : ∀ j, j < 6 → syn w j = (w i0 + c i0) * pw (j * (63 - i0)) := by
              intro j hj
              rw [hs j hj]
              unfold syn
              rw [sum_one a1 fun i hi hne => by show (w i + c i) * _ = 0; rw [a3 i hi hne, zero_mul]]
            have q0 : syn w 0 = w i0 + c i0 := by rw [hp 0 (by omega), Nat.zero_mul, pw_zero, mul_one]
            have q1 : syn w 1 = pw (63 - i0) * (w i0 + c i0) := by rw [hp 1 (by omega), Nat.one_mul, mul_comm]
            have q2 : div (syn w 1) (syn w 0) = pw (63 - i0) := by rw [q0, q1, mul_div a2]
            refine ⟨by rw [q0]; exact a2, by rw [q1]; exact mul_ne pw_ne a2, fun j h2 h3 => ?_, by rw [q2, lg_pw (by omega)]; omega⟩
            rw [q2, hp (j - 1) (by omega), hp j h3, mul_assoc, pw_pw, ← Nat.succ_mul, show (j - 1).succ = j by omega]
          · obtain ⟨i0, i1, a1, a2, a3, a4, a5⟩ := wt_two (show wt (fun i => w i + c i) 64 = 2 by unfold df at hle hz hd1; omega)
            have ht := two_is (s := syn w) (k := 63 - i0) (l := 63 - i1) (by omega) (by omega) (by omega) a3 a4 fun j hj => by rw [hs j hj, syn_two a1 a2 a5]
            have hs0 : syn w 0 = (w i0 + c i0) + (w i1 + c i1) := by
              rw [hs 0 (by omega), syn_two a1 a2 a5, Nat.zero_mul, Nat.zero_mul, pw_zero, mul_one, mul_one]
            rcases ht with ht | ht
            · refine hno (flip (flip w (63 - (63 - i0)) (w i0 + c i0)) (63 - (63 - i1)) (w i0 + c i0 + syn w 0)) 2 (by unfold fix; rw [if_neg h1, ht]) (hc.congr fun i hi => ?_)
              rw [hs0, add_cancel, show 63 - (63 - i0) = i0 by omega, show 63 - (63 - i1) = i1 by omega]
              unfold flip
              by_cases b1 : i = i1
              · subst b1; rw [if_pos rfl, if_neg (by omega), add_cancel]
              · rw [if_neg b1]
                by_cases b0 : i = i0
                · subst b0; rw [if_pos rfl, add_cancel]
                · rw [if_neg b0]; exact add_eq_zero.1 (a5 i hi b0 b1)
            · refine hno (flip (flip w (63 - (63 - i1)) (w i1 + c i1)) (63 - (63 - i0)) (w i1 + c i1 + syn w 0)) 2 (by unfold fix; rw [if_neg h1, ht]) (hc.congr fun i hi => ?_)
              rw [hs0, add_comm (w i0 + c i0), add_cancel, show 63 - (63 - i0) = i0 by omega, show 63 - (63 - i1) = i1 by omega]
              unfold flip
              by_cases b1 : i = i1
              · subst b1; rw [if_neg (by omega), if_pos rfl, add_cancel]
              · by_cases b0 : i = i0
                · subst b0; rw [if_pos rfl, if_neg (by omega), add_cancel]
                · rw [if_neg b0, if_neg b1]; exact add_eq_zero.1 (a5 i hi b0 b1)
end GF
end Go.Proofs.Ytmfmoanjecjeeaa
