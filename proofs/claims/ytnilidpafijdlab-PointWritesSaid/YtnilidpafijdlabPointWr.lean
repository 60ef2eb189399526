/- What the reference's checkpoints' functions do: those that write. -/
import Derived.Test.YtnilidpafijdlabPointW
import Derived.Test.YtnilidpafijdlabFpatinaref09
set_option linter.unusedVariables false
set_option linter.unusedSectionVars false
set_option linter.unusedSimpArgs false
namespace Go.Proofs.Ytnilidpafijdlab
open Go.Mx

theorem seq_is (k : Nat) (v : Int) (m : Mem) : patinaref09_seq k v m = some (decide (inSeq v), m) := by
  unfold patinaref09_seq inSeq
  by_cases h : 0 ≤ v
  · have h2 : decide (v ≥ 0) = true := decide_eq_true h
    simp [h2, h]
  · have h2 : decide (v ≥ 0) = false := decide_eq_false h
    simp [h2, h]

theorem rtold_ok (k : Nat) (hk : 200 < k) {m : Mem} {σ : Ck} {F : Heap} (hO : Own m F) : Ok (patinaref09_Told k (ckC σ) m) fun r => r.1 = decide (Told σ) ∧ Own r.2 F := by
  unfold patinaref09_Told
  have h1 := hO.new (.live (ckC σ))
  have hl : Nat.beq (ckC σ).length 62 = true := by rw [ckC_len]; rfl
  simp (disch := omega) only [Option.bind_some, Option.map_some, cond_true, cond_false, wrap_i64, tmod_pos, tdiv_pos, inRange_yes, inUpto_yes, isZero_no, decide_eq_true, decide_eq_false, Bool.not_true, Bool.not_false, Int.toNat_natCast, Nat.mul_one, beqI_yes, beqI_no, bneI_yes, bneI_no, isNil_nil, isNil_iface, wr_wr, Option.isNone_none, Option.isNone_some, plus, Nat.zero_add, Nat.add_zero, hl]
  generalize m ++ [MObj.live (ckC σ)] = m1 at h1 ⊢
  generalize m.length = x1 at h1 ⊢
  have no : ¬ Told σ → (false = decide (Told σ) ∧ Own m1 F) := fun h => ⟨(decide_eq_false h).symm, h1.tail⟩
  refine patinaref09_Told_l0_rule k _ _ (fun d y1 y3 m' => (⟨x1, 0, none⟩ : Addr) = y1 ∧ m1 = m' ∧ ∃ j : Nat, y3 = j ∧ j + d = 24 ∧ ∀ q : Nat, q < j → inSeq (σ.fl q)) ?_ k 24 _ 0 _ (by omega) ⟨rfl, rfl, 0, rfl, by omega, by omega⟩
  rintro d nx _ _ _ ⟨rfl, rfl, j, rfl, hd, hj⟩ hnx
  unfold patinaref09_Told_l0_b
  by_cases h2 : j < 24
  · have e := ldInt_of (sp := none) (h1.at 0 rfl) (ck_fl h2)
    by_cases hs : inSeq (σ.fl j)
    · have e2 := decide_eq_true hs
      simp (disch := omega) only [Option.bind_some, Option.map_some, cond_true, cond_false, wrap_i64, tmod_pos, tdiv_pos, inRange_yes, inUpto_yes, isZero_no, decide_eq_true, decide_eq_false, Bool.not_true, Bool.not_false, Int.toNat_natCast, Nat.mul_one, beqI_yes, beqI_no, bneI_yes, bneI_no, isNil_nil, isNil_iface, wr_wr, Option.isNone_none, Option.isNone_some, plus, Nat.zero_add, Nat.add_zero, e, seq_is, e2]
      refine hnx (d - 1) _ _ _ (by omega) ⟨rfl, rfl, j + 1, by omega, by omega, fun q hq => ?_⟩
      by_cases hqj : q = j
      · subst hqj; exact hs
      · exact hj q (by omega)
    · have e2 := decide_eq_false hs
      simp (disch := omega) only [Option.bind_some, Option.map_some, cond_true, cond_false, wrap_i64, tmod_pos, tdiv_pos, inRange_yes, inUpto_yes, isZero_no, decide_eq_true, decide_eq_false, Bool.not_true, Bool.not_false, Int.toNat_natCast, Nat.mul_one, beqI_yes, beqI_no, bneI_yes, bneI_no, isNil_nil, isNil_iface, wr_wr, Option.isNone_none, Option.isNone_some, plus, Nat.zero_add, Nat.add_zero, e, seq_is, e2]
      exact .some (no fun t => hs (t.fl j h2))
  obtain rfl : j = 24 := by omega
  clear hnx
  simp (disch := omega) only [Option.bind_some, Option.map_some, cond_true, cond_false, wrap_i64, tmod_pos, tdiv_pos, inRange_yes, inUpto_yes, isZero_no, decide_eq_true, decide_eq_false, Bool.not_true, Bool.not_false, Int.toNat_natCast, Nat.mul_one, beqI_yes, beqI_no, bneI_yes, bneI_no, isNil_nil, isNil_iface, wr_wr, Option.isNone_none, Option.isNone_some, plus, Nat.zero_add, Nat.add_zero]
  refine patinaref09_Told_l2_rule k _ _ (fun d y1 y3 m' => (⟨x1, 0, none⟩ : Addr) = y1 ∧ m1 = m' ∧ ∃ j : Nat, y3 = j ∧ j + d = 12 ∧ ∀ q : Nat, q < j → (0 ≤ σ.rd q ∧ σ.rd q ≤ 65535) ∧ (0 ≤ σ.sc q ∧ σ.sc q ≤ 255)) ?_ k 12 _ 0 _ (by omega) ⟨rfl, rfl, 0, rfl, by omega, by omega⟩
  rintro d nx _ _ _ ⟨rfl, rfl, j, rfl, hd, hr⟩ hnx
  unfold patinaref09_Told_l2_b
  by_cases h2 : j < 12
  · have e := ldInt_of (sp := none) (h1.at 0 rfl) (ck_rd h2)
    have e3 := ldInt_of (sp := none) (h1.at 0 rfl) (ck_sc h2)
    by_cases c1 : σ.rd j < 0
    · simp (disch := omega) only [Option.bind_some, Option.map_some, cond_true, cond_false, wrap_i64, tmod_pos, tdiv_pos, inRange_yes, inUpto_yes, isZero_no, decide_eq_true, decide_eq_false, Bool.not_true, Bool.not_false, Int.toNat_natCast, Nat.mul_one, beqI_yes, beqI_no, bneI_yes, bneI_no, isNil_nil, isNil_iface, wr_wr, Option.isNone_none, Option.isNone_some, plus, Nat.zero_add, Nat.add_zero, e]
      exact .some (no fun t => by have := (t.rs j h2).1; omega)
    by_cases c2 : σ.rd j > 65535
    · simp (disch := omega) only [Option.bind_some, Option.map_some, cond_true, cond_false, wrap_i64, tmod_pos, tdiv_pos, inRange_yes, inUpto_yes, isZero_no, decide_eq_true, decide_eq_false, Bool.not_true, Bool.not_false, Int.toNat_natCast, Nat.mul_one, beqI_yes, beqI_no, bneI_yes, bneI_no, isNil_nil, isNil_iface, wr_wr, Option.isNone_none, Option.isNone_some, plus, Nat.zero_add, Nat.add_zero, e]
      exact .some (no fun t => by have := (t.rs j h2).1; omega)
    by_cases c3 : σ.sc j < 0
    · simp (disch := omega) only [Option.bind_some, Option.map_some, cond_true, cond_false, wrap_i64, tmod_pos, tdiv_pos, inRange_yes, inUpto_yes, isZero_no, decide_eq_true, decide_eq_false, Bool.not_true, Bool.not_false, Int.toNat_natCast, Nat.mul_one, beqI_yes, beqI_no, bneI_yes, bneI_no, isNil_nil, isNil_iface, wr_wr, Option.isNone_none, Option.isNone_some, plus, Nat.zero_add, Nat.add_zero, e, e3]
      exact .some (no fun t => by have := (t.rs j h2).2; omega)
    by_cases c4 : σ.sc j > 255
    · simp (disch := omega) only [Option.bind_some, Option.map_some, cond_true, cond_false, wrap_i64, tmod_pos, tdiv_pos, inRange_yes, inUpto_yes, isZero_no, decide_eq_true, decide_eq_false, Bool.not_true, Bool.not_false, Int.toNat_natCast, Nat.mul_one, beqI_yes, beqI_no, bneI_yes, bneI_no, isNil_nil, isNil_iface, wr_wr, Option.isNone_none, Option.isNone_some, plus, Nat.zero_add, Nat.add_zero, e, e3]
      exact .some (no fun t => by have := (t.rs j h2).2; omega)
    simp (disch := omega) only [Option.bind_some, Option.map_some, cond_true, cond_false, wrap_i64, tmod_pos, tdiv_pos, inRange_yes, inUpto_yes, isZero_no, decide_eq_true, decide_eq_false, Bool.not_true, Bool.not_false, Int.toNat_natCast, Nat.mul_one, beqI_yes, beqI_no, bneI_yes, bneI_no, isNil_nil, isNil_iface, wr_wr, Option.isNone_none, Option.isNone_some, plus, Nat.zero_add, Nat.add_zero, e, e3]
    refine hnx (d - 1) _ _ _ (by omega) ⟨rfl, rfl, j + 1, by omega, by omega, fun q hq => ?_⟩
    by_cases hqj : q = j
    · subst hqj; omega
    · exact hr q (by omega)
  obtain rfl : j = 12 := by omega
  clear hnx
  have e1 := ldInt_of (sp := none) (h1.at 0 rfl) (off := 24) ck_nx
  have e2 := ldInt_of (sp := none) (h1.at 0 rfl) (off := 37) ck_cu
  by_cases hs : inSeq σ.nx
  · have e3 := decide_eq_true hs
    by_cases c1 : 0 ≤ σ.cu
    · by_cases c2 : σ.cu ≤ 95
      · simp (disch := omega) only [Option.bind_some, Option.map_some, cond_true, cond_false, wrap_i64, tmod_pos, tdiv_pos, inRange_yes, inUpto_yes, isZero_no, decide_eq_true, decide_eq_false, Bool.not_true, Bool.not_false, Int.toNat_natCast, Nat.mul_one, beqI_yes, beqI_no, bneI_yes, bneI_no, isNil_nil, isNil_iface, wr_wr, Option.isNone_none, Option.isNone_some, plus, Nat.zero_add, Nat.add_zero, e1, seq_is, e3, e2]
        exact .some ⟨(decide_eq_true (p := Told σ) ⟨hs, ⟨c1, c2⟩, hj, hr⟩).symm, h1.tail⟩
      · simp (disch := omega) only [Option.bind_some, Option.map_some, cond_true, cond_false, wrap_i64, tmod_pos, tdiv_pos, inRange_yes, inUpto_yes, isZero_no, decide_eq_true, decide_eq_false, Bool.not_true, Bool.not_false, Int.toNat_natCast, Nat.mul_one, beqI_yes, beqI_no, bneI_yes, bneI_no, isNil_nil, isNil_iface, wr_wr, Option.isNone_none, Option.isNone_some, plus, Nat.zero_add, Nat.add_zero, e1, seq_is, e3, e2]
        exact .some (no fun t => c2 t.cu.2)
    · simp (disch := omega) only [Option.bind_some, Option.map_some, cond_true, cond_false, wrap_i64, tmod_pos, tdiv_pos, inRange_yes, inUpto_yes, isZero_no, decide_eq_true, decide_eq_false, Bool.not_true, Bool.not_false, Int.toNat_natCast, Nat.mul_one, beqI_yes, beqI_no, bneI_yes, bneI_no, isNil_nil, isNil_iface, wr_wr, Option.isNone_none, Option.isNone_some, plus, Nat.zero_add, Nat.add_zero, e1, seq_is, e3, e2]
      exact .some (no fun t => c1 t.cu.1)
  · have e3 := decide_eq_false hs
    simp (disch := omega) only [Option.bind_some, Option.map_some, cond_true, cond_false, wrap_i64, tmod_pos, tdiv_pos, inRange_yes, inUpto_yes, isZero_no, decide_eq_true, decide_eq_false, Bool.not_true, Bool.not_false, Int.toNat_natCast, Nat.mul_one, beqI_yes, beqI_no, bneI_yes, bneI_no, isNil_nil, isNil_iface, wr_wr, Option.isNone_none, Option.isNone_some, plus, Nat.zero_add, Nat.add_zero, e1, seq_is, e3]
    exact .some (no fun t => hs t.nx)

theorem bytes_ok (k : Nat) (hk : 10 < k) {m : Mem} {v : Int} {l : Nat} {F : Heap} (hO : Own m F) (h0 : 0 ≤ v) (h1 : v < 9223372036854775808) (hl : l ≤ 5) {p : Int} (hp : p = l) :
    Ok (patinaref09_bytes k v p m) fun r => ∃ b, r.1 = ⟨some ⟨b, 0, none⟩, l, l⟩ ∧ Own r.2 ((b, .live (arr .u8 l (byteAt v))) :: F) := by
  subst hp
  unfold patinaref09_bytes
  have hb : (tt 5).bytes = 1 := rfl
  have hc : (decide (0 ≤ (l : Int)) && decide ((l : Int) ≤ l) && decide ((l : Int) * (((tt 5).bytes : Nat) : Int) ≤ ((most : Nat) : Int)) && decide ((l : Int) ≤ ((most : Nat) : Int))) = true := by
    rw [hb]; unfold most
    simp only [Bool.and_eq_true, decide_eq_true_eq]
    omega
  have h2 := hO.new (.live (arr .u8 l fun _ => 0))
  rw [hc, cond_true]
  simp (disch := omega) only [Option.bind_some, Option.map_some, cond_true, cond_false, wrap_i64, tmod_pos, tdiv_pos, inRange_yes, inUpto_yes, isZero_no, decide_eq_true, decide_eq_false, Bool.not_true, Bool.not_false, Int.toNat_natCast, Nat.mul_one, beqI_yes, beqI_no, bneI_yes, bneI_no, isNil_nil, isNil_iface, wr_wr, Option.isNone_none, Option.isNone_some, plus, Nat.zero_add, Nat.add_zero, repl_int]
  generalize m ++ [MObj.live (arr .u8 l fun _ => 0)] = m1 at h2 ⊢
  generalize m.length = b at h2 ⊢
  refine patinaref09_bytes_l0_rule k _ (fun d x0 x1 x5a x5n x5c x6 m' => (l : Int) = x1 ∧ (some ⟨b, 0, none⟩ : Option Addr) = x5a ∧ l = x5n ∧ l = x5c ∧ ∃ j : Nat, x6 = j ∧ j + d = l ∧ v / 256 ^ j = x0 ∧ Own m' ((b, .live (arr .u8 l fun i => if i < j then byteAt v i else 0)) :: F)) ?_ k l v _ _ _ _ 0 _ (by omega)
    ⟨rfl, rfl, rfl, rfl, 0, rfl, by omega, by simp, by
      rw [arr_congr (f := fun i => if i < ((0 : Nat) : Int) then byteAt v i else 0) (g := fun _ => 0) fun i h3 h4 => if_neg (by omega)]; exact h2⟩
  rintro d nx _ _ _ _ _ _ m' ⟨rfl, rfl, rfl, rfl, j, rfl, hd, rfl, hO2⟩ hnx
  unfold patinaref09_bytes_l0_b
  by_cases h3 : j < l
  · have hq : 0 ≤ v / 256 ^ j ∧ v / 256 ^ j < 9223372036854775808 := by
      have hp : (0 : Int) < 256 ^ j := Int.pow_pos (by omega)
      have g1 := Int.ediv_nonneg h0 (Int.le_of_lt hp)
      have g2 := Int.ediv_le_self (256 ^ j) h0
      omega
    have ev : IntKind.wrap .u8 (Int.tmod (v / 256 ^ j) 256) = byteAt v j := by
      rw [tmod_pos hq.1, wrap_u8]; unfold byteAt; rw [Int.toNat_natCast]; omega
    have eq : v / 256 ^ j / 256 = v / 256 ^ (j + 1) := by
      rw [Int.ediv_ediv_of_nonneg (by
        have hp : (0 : Int) < 256 ^ j := Int.pow_pos (by omega)
        omega), Int.pow_succ]
    have e := arr_stn (sp := none) (v := byteAt v j) (hO2.at 0 rfl) h3
    have h4 := hO2.wr 0 rfl (arr .u8 l (upd (fun i => if i < (j : Int) then byteAt v i else 0) j (byteAt v j)))
    have hdv : Int.tdiv (v / 256 ^ j) 256 = v / 256 ^ (j + 1) := by rw [Int.tdiv_eq_ediv_of_nonneg hq.1, eq]
    have hw : IntKind.wrap .i64 (v / 256 ^ (j + 1)) = v / 256 ^ (j + 1) := wrap_i64 (by rw [← eq]; omega) (by rw [← eq]; omega)
    rw [ev, hdv, hw]
    simp (disch := omega) only [Option.bind_some, Option.map_some, cond_true, cond_false, wrap_i64, tmod_pos, tdiv_pos, inRange_yes, inUpto_yes, isZero_no, decide_eq_true, decide_eq_false, Bool.not_true, Bool.not_false, Int.toNat_natCast, Nat.mul_one, beqI_yes, beqI_no, bneI_yes, bneI_no, isNil_nil, isNil_iface, wr_wr, Option.isNone_none, Option.isNone_some, plus, Nat.zero_add, Nat.add_zero, e]
    refine hnx (d - 1) _ _ _ _ _ _ _ (by omega) ⟨rfl, rfl, rfl, rfl, j + 1, by omega, by omega, rfl, ?_⟩
    rw [arr_congr (f := fun i => if i < ((j + 1 : Nat) : Int) then byteAt v i else 0) (g := upd (fun i => if i < (j : Int) then byteAt v i else 0) j (byteAt v j)) fun i h5 h6 => by
      unfold upd
      by_cases h7 : i = j
      · subst h7; rw [if_pos (by omega), if_pos rfl]
      · rw [if_neg h7]
        by_cases h8 : i < (j : Int)
        · simp only [if_pos h8]; rw [if_pos (by omega)]
        · simp only [if_neg h8]; rw [if_neg (by omega)]]
    exact h4
  · obtain rfl : j = l := by omega
    simp (disch := omega) only [Option.bind_some, Option.map_some, cond_true, cond_false, wrap_i64, tmod_pos, tdiv_pos, inRange_yes, inUpto_yes, isZero_no, decide_eq_true, decide_eq_false, Bool.not_true, Bool.not_false, Int.toNat_natCast, Nat.mul_one, beqI_yes, beqI_no, bneI_yes, bneI_no, isNil_nil, isNil_iface, wr_wr, Option.isNone_none, Option.isNone_some, plus, Nat.zero_add, Nat.add_zero]
    refine .some ⟨b, rfl, ?_⟩
    rw [arr_congr (f := byteAt v) (g := fun i => if i < (j : Int) then byteAt v i else 0) fun i h5 h6 => (if_pos h6).symm]
    exact hO2

theorem arr_add {k : IntKind} {N l : Nat} {f g : Int → Int} (h : ∀ i : Nat, i < l → f ((N + i : Nat) : Int) = g i) : arr k N f ++ arr k l g = arr k (N + l) f := by
  apply List.ext_getElem?
  intro i
  by_cases h1 : i < N
  · rw [List.getElem?_append_left (by simpa using h1), arr_get h1, arr_get (by omega)]
  · rw [List.getElem?_append_right (by simp; omega), arr_length]
    by_cases h2 : i < N + l
    · rw [arr_get (by omega), arr_get h2]
      have := h (i - N) (by omega)
      rw [show N + (i - N) = i by omega] at this
      rw [this]
    · rw [List.getElem?_eq_none (by simp; omega), List.getElem?_eq_none (by simp; omega)]

section
variable {R : Type} {P : R → Prop} {σ : Ck} {a : Option Addr} {m : Mem} {N l : Nat} {v : Int} {F : Heap} {K : Sl × Mem → Option R} (hA : App 1 a N N (arr .u8 N (enc σ))) (hO : Own m (slH a (arr .u8 N (enc σ)) ++ F)) (hN : N ≤ 1000)
  (hK : ∀ a' m', App 1 a' (N + l) (N + l) (arr .u8 (N + l) (enc σ)) → Own m' (slH a' (arr .u8 (N + l) (enc σ)) ++ F) → Ok (K (⟨a', N + l, N + l⟩, m')) P)
include hA hO hN hK
theorem grow_ok (k : Nat) (hk : 10 < k) (h0 : 0 ≤ v) (h1 : v < 9223372036854775808) (hl : 0 < l ∧ l ≤ 5) {p : Int} (hp : p = l) (he : ∀ i : Nat, i < l → enc σ ((N + i : Nat) : Int) = byteAt v i) :
    Ok ((patinaref09_bytes k v p m).bind fun r5 => (rdSl r5.2 r5.1.a r5.1.len 1).bind fun l6 => (appM 1 1 r5.2 a N N r5.1.len l6).bind K) P := by
  refine .bind (bytes_ok k hk hO h0 h1 hl.2 hp) ?_
  rintro ⟨s, m1⟩ ⟨b, rfl, hO1⟩
  have e := rdSl_all (sp := none) (n := l) (z := 1) (hO1.at 0 rfl) (by simp)
  obtain ⟨a', m2, e2, hA2, hO2⟩ := hA.app (y := 1) (new := arr .u8 l (byteAt v)) hO1.tail hl.1 (by simp) (by unfold most; omega) (by unfold most; omega)
  rw [arr_add he] at hA2 hO2
  simp (disch := omega) only [Option.bind_some, Option.map_some, cond_true, cond_false, wrap_i64, tmod_pos, tdiv_pos, inRange_yes, inUpto_yes, isZero_no, decide_eq_true, decide_eq_false, Bool.not_true, Bool.not_false, Int.toNat_natCast, Nat.mul_one, beqI_yes, beqI_no, bneI_yes, bneI_no, isNil_nil, isNil_iface, wr_wr, Option.isNone_none, Option.isNone_some, plus, Nat.zero_add, Nat.add_zero, e, e2]
  exact hK a' m2 hA2 hO2
theorem one_ok (hl : l = 1) (he : enc σ (N : Int) = v) :
    Ok ((appM 1 1 (m ++ [.live [.int .u8 v]]) a N N 1 [.int .u8 v]).bind K) P := by
  subst hl
  obtain ⟨a', m2, e2, hA2, hO2⟩ := hA.one (y := 1) (v := .int .u8 v) hO (by unfold most; omega) (by unfold most; omega)
  have e3 : arr .u8 N (enc σ) ++ [Value.int .u8 v] = arr .u8 (N + 1) (enc σ) := by
    have := arr_add (k := .u8) (N := N) (l := 1) (f := enc σ) (g := fun _ => v) fun i hi => by
      obtain rfl : i = 0 := by omega
      exact he
    exact this
  rw [e3] at hA2 hO2
  simp (disch := omega) only [Option.bind_some, Option.map_some, cond_true, cond_false, wrap_i64, tmod_pos, tdiv_pos, inRange_yes, inUpto_yes, isZero_no, decide_eq_true, decide_eq_false, Bool.not_true, Bool.not_false, Int.toNat_natCast, Nat.mul_one, beqI_yes, beqI_no, bneI_yes, bneI_no, isNil_nil, isNil_iface, wr_wr, Option.isNone_none, Option.isNone_some, plus, Nat.zero_add, Nat.add_zero, e2]
  exact hK a' m2 hA2 hO2
end

theorem rWrite_ok (k : Nat) (hk : 200 < k) {m : Mem} {σ : Ck} {F : Heap} (hO : Own m F) :
    Ok (patinaref09_Write k (ckC σ) m) fun r => (Told σ → ∃ a, r.1 = ⟨a, 174, 174⟩ ∧ r.2.1 = 0 ∧ App 1 a 174 174 (arr .u8 174 (enc σ)) ∧ Own r.2.2 (slH a (arr .u8 174 (enc σ)) ++ F)) ∧ (¬ Told σ → r.1 = ⟨none, 0, 0⟩ ∧ r.2.1 = 1 ∧ Own r.2.2 F) := by
  unfold patinaref09_Write
  have h1 := hO.new (.live (ckC σ))
  have hl : Nat.beq (ckC σ).length 62 = true := by rw [ckC_len]; rfl
  have e1 := ldCells_of (n := 62) (sp := none) (h1.at 0 rfl) (off := 0) (by simp)
  rw [List.drop_zero, List.take_of_length_le (by simp)] at e1
  simp (disch := omega) only [Option.bind_some, Option.map_some, cond_true, cond_false, wrap_i64, tmod_pos, tdiv_pos, inRange_yes, inUpto_yes, isZero_no, decide_eq_true, decide_eq_false, Bool.not_true, Bool.not_false, Int.toNat_natCast, Nat.mul_one, beqI_yes, beqI_no, bneI_yes, bneI_no, isNil_nil, isNil_iface, wr_wr, Option.isNone_none, Option.isNone_some, plus, Nat.zero_add, Nat.add_zero, hl, e1]
  generalize m ++ [MObj.live (ckC σ)] = m1 at h1 e1 ⊢
  generalize m.length = x1 at h1 e1 ⊢
  refine .bind (rtold_ok k hk h1) ?_
  rintro ⟨_, m2⟩ ⟨rfl, h2⟩
  by_cases ht : Told σ
  rotate_left
  · rw [decide_eq_false ht]
    simp (disch := omega) only [Option.bind_some, Option.map_some, cond_true, cond_false, wrap_i64, tmod_pos, tdiv_pos, inRange_yes, inUpto_yes, isZero_no, decide_eq_true, decide_eq_false, Bool.not_true, Bool.not_false, Int.toNat_natCast, Nat.mul_one, beqI_yes, beqI_no, bneI_yes, bneI_no, isNil_nil, isNil_iface, wr_wr, Option.isNone_none, Option.isNone_some, plus, Nat.zero_add, Nat.add_zero]
    exact .some ⟨fun h => absurd h ht, fun _ => ⟨rfl, rfl, h2.tail⟩⟩
  rw [decide_eq_true ht]
  simp only at h2
  simp (disch := omega) only [Option.bind_some, Option.map_some, cond_true, cond_false, wrap_i64, tmod_pos, tdiv_pos, inRange_yes, inUpto_yes, isZero_no, decide_eq_true, decide_eq_false, Bool.not_true, Bool.not_false, Int.toNat_natCast, Nat.mul_one, beqI_yes, beqI_no, bneI_yes, bneI_no, isNil_nil, isNil_iface, wr_wr, Option.isNone_none, Option.isNone_some, plus, Nat.zero_add, Nat.add_zero]
  -- the checkpoint lies behind what is grown
  have ck : ∀ {m' : Mem} {a : Option Addr} {vs : List Value}, Own m' (slH a vs ++ ((x1, .live (ckC σ)) :: F)) → m'[x1]? = some (.live (ckC σ)) := fun h => h.back.at 0 rfl
  refine patinaref09_Write_l0_rule k _ (fun d y1 ya yn yc i m' => (⟨x1, 0, none⟩ : Addr) = y1 ∧ ∃ j : Nat, i = j ∧ j + d = 24 ∧ 5 * j = yn ∧ 5 * j = yc ∧ App 1 ya (5 * j) (5 * j) (arr .u8 (5 * j) (enc σ)) ∧ Own m' (slH ya (arr .u8 (5 * j) (enc σ)) ++ ((x1, .live (ckC σ)) :: F))) ?_ k 24 _ _ _ _ 0 _ (by omega)
    ⟨rfl, 0, rfl, by omega, rfl, rfl, .nil, by simpa [slH] using h2⟩
  clear h2
  rintro d nx _ ya _ _ _ m' ⟨rfl, j, rfl, hd, rfl, rfl, hA, h2⟩ hnx
  unfold patinaref09_Write_l0_b
  by_cases h3 : j < 24
  · have e := ldInt_of (sp := none) (ck h2) (ck_fl h3)
    have ht2 := ht.fl j h3
    unfold inSeq at ht2
    simp (disch := omega) only [Option.bind_some, Option.map_some, cond_true, cond_false, wrap_i64, tmod_pos, tdiv_pos, inRange_yes, inUpto_yes, isZero_no, decide_eq_true, decide_eq_false, Bool.not_true, Bool.not_false, Int.toNat_natCast, Nat.mul_one, beqI_yes, beqI_no, bneI_yes, bneI_no, isNil_nil, isNil_iface, wr_wr, Option.isNone_none, Option.isNone_some, plus, Nat.zero_add, Nat.add_zero, e]
    refine grow_ok (l := 5) hA h2 (by omega) ?_ k (by omega) ht2.1 (by omega) (by omega) rfl fun i hi => by
      unfold enc
      rw [if_pos (by omega), show ((5 * j + i : Nat) : Int) / 5 = j by omega, show ((5 * j + i : Nat) : Int) % 5 = i by omega]
    intro a' m4 hA4 h4
    exact hnx (d - 1) _ _ _ _ _ _ (by omega) ⟨rfl, j + 1, by omega, by omega, rfl, rfl, hA4, h4⟩
  obtain rfl : j = 24 := by omega
  clear hnx
  have hA : App 1 ya 120 120 (arr .u8 120 (enc σ)) := hA
  have h2 : Own m' (slH ya (arr .u8 120 (enc σ)) ++ ((x1, .live (ckC σ)) :: F)) := h2
  have e := ldInt_of (sp := none) (ck h2) (off := 24) ck_nx
  have ht2 := ht.nx
  unfold inSeq at ht2
  simp (disch := omega) only [Option.bind_some, Option.map_some, cond_true, cond_false, wrap_i64, tmod_pos, tdiv_pos, inRange_yes, inUpto_yes, isZero_no, decide_eq_true, decide_eq_false, Bool.not_true, Bool.not_false, Int.toNat_natCast, Nat.mul_one, beqI_yes, beqI_no, bneI_yes, bneI_no, isNil_nil, isNil_iface, wr_wr, Option.isNone_none, Option.isNone_some, plus, Nat.zero_add, Nat.add_zero, e]
  refine grow_ok (N := 120) (l := 5) hA h2 (by omega) ?_ k (by omega) ht2.1 (by omega) (by omega) rfl fun i hi => by
    unfold enc
    rw [if_neg (by omega), if_pos (by omega), show ((120 + i : Nat) : Int) - 120 = i by omega]
  intro a4 m4 hA4 h4
  clear hA h2 e ht2
  refine patinaref09_Write_l2_rule k _ (fun d y1 ya yn yc y7 y8 i m' => (⟨x1, 0, none⟩ : Addr) = y1 ∧ a4 = ya ∧ 125 = yn ∧ 125 = yc ∧ m4 = m' ∧ ∃ j : Nat, i = j ∧ j + d = 12 ∧ bits σ.bad j = y7 ∧ 2 ^ j = y8) ?_ k 12 _ _ _ _ _ _ 0 _ (by omega) ⟨rfl, rfl, rfl, rfl, rfl, 0, rfl, by omega, rfl, rfl⟩
  rintro d nx _ _ _ _ _ _ _ _ ⟨rfl, rfl, rfl, rfl, rfl, j, rfl, hd, rfl, rfl⟩ hnx
  unfold patinaref09_Write_l2_b
  by_cases h3 : j < 12
  · have e := ldBool_of (sp := none) (ck h4) (ck_bad h3)
    have hb := bits_bd σ.bad j
    have hp : (0 : Int) < 2 ^ j := Int.pow_pos (by omega)
    have hp2 : (2 : Int) ^ j ≤ 4096 := by
      rcases pow2_12 (show j ≤ 12 by omega) with rfl | rfl | rfl | rfl | rfl | rfl | rfl | rfl | rfl | rfl | rfl | rfl | rfl <;> decide
    have hp3 : (2 : Int) ^ (j + 1) = 2 * 2 ^ j := by rw [Int.pow_succ, Int.mul_comm]
    have go : ∀ y, y = bits σ.bad (j + 1) → Ok (nx ⟨x1, 0, none⟩ a4 125 125 y (2 * 2 ^ j) (j + 1) m4) _ := fun y hy => hnx (d - 1) _ _ _ _ _ _ _ _ (by omega) ⟨rfl, rfl, rfl, rfl, rfl, j + 1, by omega, by omega, hy.symm, hp3⟩
    simp (disch := omega) only [Option.bind_some, Option.map_some, cond_true, cond_false, wrap_i64, tmod_pos, tdiv_pos, inRange_yes, inUpto_yes, isZero_no, decide_eq_true, decide_eq_false, Bool.not_true, Bool.not_false, Int.toNat_natCast, Nat.mul_one, beqI_yes, beqI_no, bneI_yes, bneI_no, isNil_nil, isNil_iface, wr_wr, Option.isNone_none, Option.isNone_some, plus, Nat.zero_add, Nat.add_zero, e, patinaref09_Write_j1]
    cases hbj : σ.bad j with
    | true =>
      simp (disch := omega) only [Option.bind_some, Option.map_some, cond_true, cond_false, wrap_i64, tmod_pos, tdiv_pos, inRange_yes, inUpto_yes, isZero_no, decide_eq_true, decide_eq_false, Bool.not_true, Bool.not_false, Int.toNat_natCast, Nat.mul_one, beqI_yes, beqI_no, bneI_yes, bneI_no, isNil_nil, isNil_iface, wr_wr, Option.isNone_none, Option.isNone_some, plus, Nat.zero_add, Nat.add_zero]
      exact go _ (by rw [bits, cb, hbj]; simp)
    | false =>
      simp (disch := omega) only [Option.bind_some, Option.map_some, cond_true, cond_false, wrap_i64, tmod_pos, tdiv_pos, inRange_yes, inUpto_yes, isZero_no, decide_eq_true, decide_eq_false, Bool.not_true, Bool.not_false, Int.toNat_natCast, Nat.mul_one, beqI_yes, beqI_no, bneI_yes, bneI_no, isNil_nil, isNil_iface, wr_wr, Option.isNone_none, Option.isNone_some, plus, Nat.zero_add, Nat.add_zero]
      exact go _ (by rw [bits, cb, hbj]; simp)
  obtain rfl : j = 12 := by omega
  clear hnx
  have hb := bits_bd σ.bad 12
  simp only [Int.reducePow] at hb
  simp (disch := omega) only [Option.bind_some, Option.map_some, cond_true, cond_false, wrap_i64, tmod_pos, tdiv_pos, inRange_yes, inUpto_yes, isZero_no, decide_eq_true, decide_eq_false, Bool.not_true, Bool.not_false, Int.toNat_natCast, Nat.mul_one, beqI_yes, beqI_no, bneI_yes, bneI_no, isNil_nil, isNil_iface, wr_wr, Option.isNone_none, Option.isNone_some, plus, Nat.zero_add, Nat.add_zero]
  refine grow_ok (N := 125) (l := 2) hA4 h4 (by omega) ?_ k (by omega) hb.1 (by omega) (by omega) rfl fun i hi => by
    unfold enc
    rw [if_neg (by omega), if_neg (by omega), if_pos (by omega), show ((125 + i : Nat) : Int) - 125 = i by omega]
  intro a5 m5 hA5 h5
  clear hA4 h4
  have e := ldInt_of (sp := none) (ck h5) (off := 37) ck_cu
  have hcu := ht.cu
  simp (disch := omega) only [Option.bind_some, Option.map_some, cond_true, cond_false, wrap_i64, tmod_pos, tdiv_pos, inRange_yes, inUpto_yes, isZero_no, decide_eq_true, decide_eq_false, Bool.not_true, Bool.not_false, Int.toNat_natCast, Nat.mul_one, beqI_yes, beqI_no, bneI_yes, bneI_no, isNil_nil, isNil_iface, wr_wr, Option.isNone_none, Option.isNone_some, plus, Nat.zero_add, Nat.add_zero, e, wrap_u8, rdSl_new]
  refine one_ok (N := 127) (l := 1) hA5 h5 (by omega) ?_ rfl (by
    unfold enc
    rw [if_neg (by omega), if_neg (by omega), if_neg (by omega), if_pos (by omega), byteAt_zero])
  intro a6 m6 hA6 h6
  clear hA5 h5 e
  refine patinaref09_Write_l4_rule k _ (fun d y1 ya yn yc i m' => (⟨x1, 0, none⟩ : Addr) = y1 ∧ ∃ j : Nat, i = j ∧ j + d = 12 ∧ 128 + 2 * j = yn ∧ 128 + 2 * j = yc ∧ App 1 ya (128 + 2 * j) (128 + 2 * j) (arr .u8 (128 + 2 * j) (enc σ)) ∧ Own m' (slH ya (arr .u8 (128 + 2 * j) (enc σ)) ++ ((x1, .live (ckC σ)) :: F))) ?_ k 12 _ _ _ _ 0 _ (by omega)
    ⟨rfl, 0, rfl, by omega, rfl, rfl, hA6, h6⟩
  clear hA6 h6
  rintro d nx _ ya _ _ _ m' ⟨rfl, j, rfl, hd, rfl, rfl, hA, h2⟩ hnx
  unfold patinaref09_Write_l4_b
  by_cases h3 : j < 12
  · have e := ldInt_of (sp := none) (ck h2) (ck_rd h3)
    have ht2 := (ht.rs j h3).1
    simp (disch := omega) only [Option.bind_some, Option.map_some, cond_true, cond_false, wrap_i64, tmod_pos, tdiv_pos, inRange_yes, inUpto_yes, isZero_no, decide_eq_true, decide_eq_false, Bool.not_true, Bool.not_false, Int.toNat_natCast, Nat.mul_one, beqI_yes, beqI_no, bneI_yes, bneI_no, isNil_nil, isNil_iface, wr_wr, Option.isNone_none, Option.isNone_some, plus, Nat.zero_add, Nat.add_zero, e]
    refine grow_ok (l := 2) hA h2 (by omega) ?_ k (by omega) ht2.1 (by omega) (by omega) rfl fun i hi => by
      unfold enc
      rw [if_neg (by omega), if_neg (by omega), if_neg (by omega), if_neg (by omega), if_pos (by omega), show (((128 + 2 * j + i : Nat) : Int) - 128) / 2 = j by omega, show (((128 + 2 * j + i : Nat) : Int) - 128) % 2 = i by omega]
    intro a' m4 hA4 h4
    exact hnx (d - 1) _ _ _ _ _ _ (by omega) ⟨rfl, j + 1, by omega, by omega, rfl, rfl, hA4, h4⟩
  obtain rfl : j = 12 := by omega
  clear hnx
  have hA : App 1 ya 152 152 (arr .u8 152 (enc σ)) := hA
  have h2 : Own m' (slH ya (arr .u8 152 (enc σ)) ++ ((x1, .live (ckC σ)) :: F)) := h2
  simp (disch := omega) only [Option.bind_some, Option.map_some, cond_true, cond_false, wrap_i64, tmod_pos, tdiv_pos, inRange_yes, inUpto_yes, isZero_no, decide_eq_true, decide_eq_false, Bool.not_true, Bool.not_false, Int.toNat_natCast, Nat.mul_one, beqI_yes, beqI_no, bneI_yes, bneI_no, isNil_nil, isNil_iface, wr_wr, Option.isNone_none, Option.isNone_some, plus, Nat.zero_add, Nat.add_zero]
  refine patinaref09_Write_l6_rule k _ (fun d y1 ya yn yc i m' => (⟨x1, 0, none⟩ : Addr) = y1 ∧ ∃ j : Nat, i = j ∧ j + d = 12 ∧ 152 + j = yn ∧ 152 + j = yc ∧ App 1 ya (152 + j) (152 + j) (arr .u8 (152 + j) (enc σ)) ∧ Own m' (slH ya (arr .u8 (152 + j) (enc σ)) ++ ((x1, .live (ckC σ)) :: F))) ?_ k 12 _ _ _ _ 0 _ (by omega)
    ⟨rfl, 0, rfl, by omega, rfl, rfl, hA, h2⟩
  clear hA h2
  rintro d nx _ ya _ _ _ m' ⟨rfl, j, rfl, hd, rfl, rfl, hA, h2⟩ hnx
  unfold patinaref09_Write_l6_b
  by_cases h3 : j < 12
  · have e := ldInt_of (sp := none) (ck h2) (ck_sc h3)
    simp (disch := omega) only [Option.bind_some, Option.map_some, cond_true, cond_false, wrap_i64, tmod_pos, tdiv_pos, inRange_yes, inUpto_yes, isZero_no, decide_eq_true, decide_eq_false, Bool.not_true, Bool.not_false, Int.toNat_natCast, Nat.mul_one, beqI_yes, beqI_no, bneI_yes, bneI_no, isNil_nil, isNil_iface, wr_wr, Option.isNone_none, Option.isNone_some, plus, Nat.zero_add, Nat.add_zero, e, wrap_u8, rdSl_new]
    refine one_ok (l := 1) hA h2 (by omega) ?_ rfl (by
      unfold enc
      rw [if_neg (by omega), if_neg (by omega), if_neg (by omega), if_neg (by omega), if_neg (by omega), if_pos (by omega), byteAt_zero, show ((152 + j : Nat) : Int) - 152 = j by omega])
    intro a' m4 hA4 h4
    exact hnx (d - 1) _ _ _ _ _ _ (by omega) ⟨rfl, j + 1, by omega, by omega, rfl, rfl, hA4, h4⟩
  obtain rfl : j = 12 := by omega
  clear hnx
  have hA : App 1 ya 164 164 (arr .u8 164 (enc σ)) := hA
  have h2 : Own m' (slH ya (arr .u8 164 (enc σ)) ++ ((x1, .live (ckC σ)) :: F)) := h2
  have t10 : Int.toNat 10 = 10 := rfl
  obtain ⟨a', m2, e2, hA2, hO2⟩ := hA.app (y := 1) (l := 10) (new := arr .u8 10 fun _ => 0) h2 (by omega) (by simp) (by unfold most; omega) (by unfold most; omega)
  rw [arr_add fun i hi => by
    unfold enc
    rw [if_neg (by omega), if_neg (by omega), if_neg (by omega), if_neg (by omega), if_neg (by omega), if_neg (by omega)]] at hA2 hO2
  simp (disch := omega) only [Option.bind_some, Option.map_some, cond_true, cond_false, wrap_i64, tmod_pos, tdiv_pos, inRange_yes, inUpto_yes, isZero_no, decide_eq_true, decide_eq_false, Bool.not_true, Bool.not_false, Int.toNat_natCast, Nat.mul_one, beqI_yes, beqI_no, bneI_yes, bneI_no, isNil_nil, isNil_iface, wr_wr, Option.isNone_none, Option.isNone_some, plus, Nat.zero_add, Nat.add_zero, t10, repl_int, e2]
  exact .some ⟨fun _ => ⟨a', rfl, rfl, hA2, by
    have := Own.blk (m := m2) [slH a' (arr .u8 174 (enc σ)), [(x1, .live (ckC σ))], F] [0, 2] (by simpa using hO2) (by decide)
    simpa using this⟩, fun h => absurd ht h⟩
end Go.Proofs.Ytnilidpafijdlab
