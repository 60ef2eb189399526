/- Codewords, plain: words of 64 bytes of which six sums are nought; two of them differ in seven places at the least; what a word near one is decoded to. -/
import Derived.Test.YtmfmoanjecjeeaaGf
set_option linter.unusedVariables false
set_option linter.unusedSectionVars false
set_option linter.unusedSimpArgs false
namespace Go.Proofs.Ytmfmoanjecjeeaa
namespace GF

/-! ## sums -/
def sum : Nat → (Nat → GF) → GF
  | 0, _ => 0
  | n + 1, f => sum n f + f n
theorem sum_congr {n : Nat} {f g : Nat → GF} (h : ∀ i, i < n → f i = g i) : sum n f = sum n g := by
  induction n with
  | zero => rfl
  | succ n ih => rw [sum, sum, ih fun i hi => h i (by omega), h n (by omega)]
theorem sum_zero {n : Nat} {f : Nat → GF} (h : ∀ i, i < n → f i = 0) : sum n f = 0 := by
  induction n with
  | zero => rfl
  | succ n ih => rw [sum, ih fun i hi => h i (by omega), h n (by omega), add_zero]
theorem sum_add (n : Nat) (f g : Nat → GF) : sum n (fun i => f i + g i) = sum n f + sum n g := by
  induction n with
  | zero => exact (add_zero 0).symm
  | succ n ih => simp only [sum, ih, add_assoc, add_left_comm]
theorem sum_mul (n : Nat) (f : Nat → GF) (c : GF) : sum n (fun i => f i * c) = sum n f * c := by
  induction n with
  | zero => exact (zero_mul c).symm
  | succ n ih => simp only [sum, ih, add_mul]
theorem sum_one {n i0 : Nat} {f : Nat → GF} (hi : i0 < n) (h : ∀ i, i < n → i ≠ i0 → f i = 0) : sum n f = f i0 := by
  induction n with
  | zero => omega
  | succ n ih =>
    rw [sum]
    by_cases h1 : i0 = n
    · subst h1
      rw [sum_zero fun i hi => h i (by omega) (by omega), zero_add]
    · rw [ih (by omega) fun i hi => h i (by omega), h n (by omega) (by omega), add_zero]

/-! ## a word's sums -/
def syn (w : Nat → GF) (j : Nat) : GF := sum 64 fun i => w i * pw (j * (63 - i))
theorem syn_congr {u w : Nat → GF} (h : ∀ i, i < 64 → u i = w i) (j : Nat) : syn u j = syn w j := sum_congr fun i hi => by rw [h i hi]
theorem syn_add (u w : Nat → GF) (j : Nat) : syn (fun i => u i + w i) j = syn u j + syn w j := by
  unfold syn; rw [← sum_add]; exact sum_congr fun i _ => add_mul _ _ _
def wt (e : Nat → GF) : Nat → Nat
  | 0 => 0
  | n + 1 => wt e n + if e n = 0 then 0 else 1
theorem wt_zero {e : Nat → GF} : ∀ {n : Nat}, wt e n = 0 → ∀ i, i < n → e i = 0
  | n + 1, h, i, hi => by
    rw [wt] at h
    by_cases h1 : i = n
    · subst h1
      split at h
      · assumption
      · omega
    · exact wt_zero (n := n) (by omega) i (by omega)
theorem wt_le {e e' : Nat → GF} : ∀ {n : Nat}, (∀ i, i < n → e i = 0 → e' i = 0) → wt e' n ≤ wt e n
  | 0, _ => Nat.le_refl _
  | n + 1, h => by
    have h1 := wt_le (n := n) fun i hi => h i (by omega)
    have h2 := h n (by omega)
    rw [wt, wt]
    split
    · split <;> omega
    · split
      · rename_i h3 h4; exact absurd (h2 h4) h3
      · omega
theorem wt_lt {e e' : Nat → GF} {i0 : Nat} : ∀ {n : Nat}, (∀ i, i < n → e i = 0 → e' i = 0) → i0 < n → e i0 ≠ 0 → e' i0 = 0 → wt e' n < wt e n
  | n + 1, h, hi, h0, h1 => by
    rw [wt, wt]
    by_cases h2 : i0 = n
    · subst h2
      have := wt_le (n := i0) fun i hi => h i (by omega)
      rw [if_pos h1, if_neg h0]; omega
    · have := wt_lt (n := n) (fun i hi => h i (by omega)) (by omega) h0 h1
      have h3 := h n (by omega)
      split
      · split <;> omega
      · split
        · rename_i h4 h5; exact absurd (h3 h5) h4
        · omega
theorem wt_congr {e e' : Nat → GF} {n : Nat} (h : ∀ i, i < n → e i = e' i) : wt e n = wt e' n := by
  induction n with
  | zero => rfl
  | succ n ih => rw [wt, wt, ih fun i hi => h i (by omega), h n (by omega)]
theorem wt_add (u w : Nat → GF) (n : Nat) : wt (fun i => u i + w i) n ≤ wt u n + wt w n := by
  induction n with
  | zero => exact Nat.le_refl _
  | succ n ih =>
    simp only [wt]
    by_cases h3 : u n + w n = 0
    · simp only [h3, if_true]; split <;> split <;> omega
    · simp only [h3, if_false]
      by_cases h1 : u n = 0
      · have h2 : w n ≠ 0 := fun h => h3 (by rw [h1, h, add_zero])
        simp only [h1, h2, if_true, if_false]; omega
      · simp only [h1, if_false]; split <;> omega
theorem wt_bound (e : Nat → GF) (n : Nat) : wt e n ≤ n := by
  induction n with
  | zero => exact Nat.le_refl _
  | succ n ih => rw [wt]; split <;> omega
theorem wt_one {e : Nat → GF} : ∀ {n : Nat}, wt e n = 1 → ∃ i0, i0 < n ∧ e i0 ≠ 0 ∧ ∀ i, i < n → i ≠ i0 → e i = 0
  | n + 1, h => by
    rw [wt] at h
    by_cases h0 : e n = 0
    · rw [if_pos h0] at h
      obtain ⟨i0, h1, h2, h3⟩ := wt_one (n := n) (by omega)
      refine ⟨i0, by omega, h2, fun i hi hne => ?_⟩
      by_cases h4 : i = n
      · rw [h4]; exact h0
      · exact h3 i (by omega) hne
    · rw [if_neg h0] at h
      exact ⟨n, by omega, h0, fun i hi hne => wt_zero (n := n) (by omega) i (by omega)⟩
theorem wt_two {e : Nat → GF} : ∀ {n : Nat}, wt e n = 2 → ∃ i0 i1, i0 < i1 ∧ i1 < n ∧ e i0 ≠ 0 ∧ e i1 ≠ 0 ∧ ∀ i, i < n → i ≠ i0 → i ≠ i1 → e i = 0
  | n + 1, h => by
    rw [wt] at h
    by_cases h0 : e n = 0
    · rw [if_pos h0] at h
      obtain ⟨i0, i1, h1, h2, h3, h4, h5⟩ := wt_two (n := n) (by omega)
      refine ⟨i0, i1, h1, by omega, h3, h4, fun i hi ha hb => ?_⟩
      by_cases h6 : i = n
      · rw [h6]; exact h0
      · exact h5 i (by omega) ha hb
    · rw [if_neg h0] at h
      obtain ⟨i0, h1, h2, h3⟩ := wt_one (e := e) (n := n) (by omega)
      exact ⟨i0, n, h1, by omega, h2, h0, fun i hi ha hb => h3 i (by omega) ha⟩

/-- so many sums and places: nothing -/
theorem vander : ∀ (n : Nat) (e : Nat → GF), wt e 64 ≤ n → (∀ j, j < n → syn e j = 0) → ∀ i, i < 64 → e i = 0
  | 0, e, h, _ => fun i hi => wt_zero (n := 64) (by omega) i hi
  | n + 1, e, h, hs => by
    by_cases hz : ∀ i, i < 64 → e i = 0
    · exact hz
    · exfalso
      simp only [Classical.not_forall] at hz
      obtain ⟨i0, hi0, he0⟩ := hz
      let e' : Nat → GF := fun i => e i * (pw (63 - i) + pw (63 - i0))
      have hw : wt e' 64 < wt e 64 := wt_lt (fun i _ h0 => by show e i * _ = 0; rw [h0, zero_mul]) hi0 he0 (by show e i0 * _ = 0; rw [add_self, mul_zero])
      have hsyn : ∀ j, syn e' j = syn e (j + 1) + syn e j * pw (63 - i0) := by
        intro j
        unfold syn
        rw [← sum_mul, ← sum_add]
        refine sum_congr fun i hi => ?_
        show e i * (pw (63 - i) + pw (63 - i0)) * pw (j * (63 - i)) = _
        rw [Nat.succ_mul, ← pw_pw]
        simp only [mul_add, add_mul, mul_assoc, mul_comm, mul_left_comm]
      have h0 := vander n e' (show wt e' 64 ≤ n by omega) fun j hj => by rw [hsyn, hs (j + 1) (by omega), hs j (by omega), zero_mul, add_zero]
      have h1 : ∀ i, i < 64 → i ≠ i0 → e i = 0 := by
        intro i hi hne
        rcases mul_eq_zero (h0 i hi) with h1 | h1
        · exact h1
        · exfalso
          have := pw_inj (i := 63 - i) (j := 63 - i0) (by omega) (by omega) (add_eq_zero.1 h1)
          omega
      have h2 := hs 0 (by omega)
      unfold syn at h2
      rw [sum_one hi0 fun i hi hne => by rw [h1 i hi hne, zero_mul], Nat.zero_mul, pw_zero, mul_one] at h2
      exact he0 h2

def Code (c : Nat → GF) : Prop := ∀ j, j < 6 → syn c j = 0
def df (u w : Nat → GF) : Nat := wt (fun i => u i + w i) 64
theorem df_comm (u w : Nat → GF) : df u w = df w u := wt_congr fun i _ => add_comm _ _
theorem df_tri (u w x : Nat → GF) : df u x ≤ df u w + df w x := by
  unfold df
  refine Nat.le_trans (Nat.le_of_eq (wt_congr fun i _ => ?_)) (wt_add _ _ _)
  show u i + x i = u i + w i + (w i + x i)
  rw [add_assoc, add_cancel]
theorem df_zero {u w : Nat → GF} (h : df u w = 0) : ∀ i, i < 64 → u i = w i := fun i hi => add_eq_zero.1 (wt_zero h i hi)
theorem df_self {u w : Nat → GF} (h : ∀ i, i < 64 → u i = w i) : df u w = 0 := by
  have : ∀ n, n ≤ 64 → wt (fun i => u i + w i) n = 0 := by
    intro n
    induction n with
    | zero => exact fun _ => rfl
    | succ n ih => intro hn; rw [wt, ih (by omega), if_pos (by show u n + w n = 0; rw [h n (by omega), add_self])]
  exact this 64 (Nat.le_refl _)
theorem Code.add {u w : Nat → GF} (h : Code u) (h' : Code w) : Code fun i => u i + w i := fun j hj => by rw [syn_add, h j hj, h' j hj, add_zero]
theorem Code.congr {u w : Nat → GF} (h : Code u) (e : ∀ i, i < 64 → w i = u i) : Code w := fun j hj => by rw [syn_congr e, h j hj]
/-- two codewords that are near are one -/
theorem Code.near {u w : Nat → GF} (h : Code u) (h' : Code w) (hd : df u w ≤ 6) : ∀ i, i < 64 → u i = w i := fun i hi => add_eq_zero.1 (vander 6 _ hd (h.add h') i hi)

/-! ## Horner's way -/
def hor (w : Nat → GF) (x : GF) : Nat → GF
  | 0 => 0
  | n + 1 => hor w x n * x + w n
theorem hor_congr {u w : Nat → GF} {x : GF} {n : Nat} (h : ∀ i, i < n → u i = w i) : hor u x n = hor w x n := by
  induction n with
  | zero => rfl
  | succ n ih => rw [hor, hor, ih fun i hi => h i (by omega), h n (by omega)]
theorem hor_sum (w : Nat → GF) (j : Nat) : ∀ n, hor w (pw j) n = sum n fun i => w i * pw (j * (n - 1 - i))
  | 0 => rfl
  | n + 1 => by
    rw [hor, hor_sum w j n, ← sum_mul, sum]
    congr 1
    · refine sum_congr fun i hi => ?_
      rw [mul_assoc, pw_pw, ← Nat.mul_succ, show (n - 1 - i).succ = n + 1 - 1 - i by omega]
    · rw [show n + 1 - 1 - n = 0 by omega, Nat.mul_zero, pw_zero, mul_one]
theorem syn_hor (w : Nat → GF) (j : Nat) : hor w (pw j) 64 = syn w j := hor_sum w j 64

/-! ## how a word is made of a message -/
def lstep (g : Nat → GF) (r : Nat → GF) (m : GF) : Nat → GF := fun k => (if k < 5 then r (k + 1) else 0) + (r 0 + m) * g k
def rest (g m : Nat → GF) : Nat → Nat → GF
  | 0 => fun _ => 0
  | n + 1 => lstep g (rest g m n) (m n)
def cw (g m : Nat → GF) : Nat → GF := fun i => if i < 58 then m i else rest g m 58 (i - 58)
theorem hor6 (r : Nat → GF) (x : GF) : hor r x 6 = r 0 * (x * (x * (x * (x * x)))) + (r 1 * (x * (x * (x * x))) + (r 2 * (x * (x * x)) + (r 3 * (x * x) + (r 4 * x + r 5)))) := by
  simp only [hor, zero_mul, zero_add, add_mul, mul_assoc, add_assoc]
theorem hor_lin (a g : Nat → GF) (t x : GF) (n : Nat) : hor (fun k => a k + t * g k) x n = hor a x n + t * hor g x n := by
  induction n with
  | zero => show (0 : GF) = 0 + t * 0; rw [mul_zero, add_zero]
  | succ n ih => simp only [hor, ih, add_mul, mul_add, mul_assoc, add_assoc, add_left_comm]
theorem rest_hor {g : Nat → GF} {x : GF} (hg : hor g x 6 = x * (x * (x * (x * (x * x))))) (m : Nat → GF) : ∀ n, hor m x n * (x * (x * (x * (x * (x * x))))) = hor (rest g m n) x 6
  | 0 => by
    show 0 * _ = _
    rw [zero_mul, hor6]
    simp only [rest, zero_mul, add_zero]
  | n + 1 => by
    have ih := rest_hor hg m n
    rw [hor, add_mul, mul_assoc, mul_comm x, ← mul_assoc, ih]
    rw [show ∀ a : GF, a * (x * (x * (x * (x * (x * x))))) = a * hor g x 6 from fun a => by rw [hg]]
    rw [rest]
    generalize rest g m n = r
    have e : hor r x 6 * x = r 0 * hor g x 6 + hor (fun k => if k < 5 then r (k + 1) else 0) x 6 := by
      rw [hg, hor6, hor6]
      simp only [show (0:Nat) < 5 from by omega, show (1:Nat) < 5 from by omega, show (2:Nat) < 5 from by omega, show (3:Nat) < 5 from by omega, show (4:Nat) < 5 from by omega, show ¬ (5:Nat) < 5 from by omega, if_true, if_false, Nat.zero_add, Nat.reduceAdd, add_zero, add_mul, mul_assoc]
    have e2 : hor (lstep g r (m n)) x 6 = hor (fun k => if k < 5 then r (k + 1) else 0) x 6 + (r 0 + m n) * hor g x 6 := hor_lin _ _ _ _ _
    rw [e, e2, add_mul]
    generalize hor g x 6 = G
    generalize hor (fun k => if k < 5 then r (k + 1) else 0) x 6 = S
    simp only [add_assoc, add_comm, add_left_comm]
theorem hor_tail (g m : Nat → GF) (x : GF) : hor (cw g m) x 64 = hor m x 58 * (x * (x * (x * (x * (x * x))))) + hor (rest g m 58) x 6 := by
  have e : hor (cw g m) x 58 = hor m x 58 := hor_congr fun i hi => by unfold cw; rw [if_pos hi]
  have c : ∀ k, k < 6 → cw g m (58 + k) = rest g m 58 k := fun k hk => by unfold cw; rw [if_neg (by omega), show 58 + k - 58 = k by omega]
  show ((((((hor (cw g m) x 58 * x + cw g m (58 + 0)) * x + cw g m (58 + 1)) * x + cw g m (58 + 2)) * x + cw g m (58 + 3)) * x + cw g m (58 + 4)) * x + cw g m (58 + 5)) = _
  rw [e, c 0 (by omega), c 1 (by omega), c 2 (by omega), c 3 (by omega), c 4 (by omega), c 5 (by omega), hor6]
  simp only [add_mul, mul_assoc, add_assoc]
def Gen (g : Nat → GF) : Prop := ∀ j, j < 6 → hor g (pw j) 6 = pw j * (pw j * (pw j * (pw j * (pw j * pw j))))
theorem cw_code {g : Nat → GF} (hg : Gen g) (m : Nat → GF) : Code (cw g m) := fun j hj => by
  rw [← syn_hor, hor_tail, rest_hor (hg j hj), add_self]
theorem wt_tail {e : Nat → GF} (h : ∀ i, i < 58 → e i = 0) : wt e 64 ≤ 6 := by
  have h0 : ∀ n, n ≤ 58 → wt e n = 0 := by
    intro n
    induction n with
    | zero => exact fun _ => rfl
    | succ n ih => intro hn; rw [wt, ih (by omega), if_pos (h n (by omega))]
  have h1 : ∀ k, wt e (58 + k) ≤ k := by
    intro k
    induction k with
    | zero => rw [Nat.add_zero, h0 58 (by omega)]; exact Nat.le_refl _
    | succ k ih => rw [show 58 + (k + 1) = (58 + k) + 1 by omega, wt]; split <;> omega
  exact h1 6
/-- a codeword is made of its own message -/
theorem Code.own {g c : Nat → GF} (hg : Gen g) (hc : Code c) : ∀ i, i < 64 → c i = cw g c i := hc.near (cw_code hg c) (wt_tail fun i hi => by show c i + cw g c i = 0; unfold cw; rw [if_pos hi, add_self])
theorem cw_congr {g m m' : Nat → GF} (h : ∀ i, i < 58 → m i = m' i) : ∀ i, cw g m i = cw g m' i := by
  have h1 : ∀ n, n ≤ 58 → rest g m n = rest g m' n := by
    intro n
    induction n with
    | zero => exact fun _ => rfl
    | succ n ih => intro hn; rw [rest, rest, ih (by omega), h n (by omega)]
  intro i
  unfold cw
  rw [h1 58 (Nat.le_refl _)]
  split
  · exact h i (by assumption)
  · rfl
end GF
end Go.Proofs.Ytmfmoanjecjeeaa
