/- The plain law of PmapPlays: the map and the document's go together. -/
import Derived.Test.YtnilidpafijdlacPmap
import Derived.Test.YtnilidpafijdlacFLPmapPlays
set_option linter.unusedVariables false
set_option linter.unusedSimpArgs false
namespace Go.Proofs.Ytnilidpafijdlac
open Go.Mx

theorem pick12_eq (k : Nat) (c n : Int) (m : Mem) (h1 : -9223372036854775808 ≤ c) (h2 : c < 9223372036854775808) (hn : 0 < n) : patinalaw12_pick k c n m = some ((if c < 0 then -(c + 1) else c) % n, m) := by
  unfold patinalaw12_pick patinalaw12_pick_j1
  by_cases h : c < 0
  · simp (disch := omega) only [Option.bind_some, Option.map_some, cond_true, cond_false, wrap_i64, tmod_pos, tdiv_pos, inRange_yes, inUpto_yes, isZero_no, decide_eq_true, decide_eq_false, Bool.not_true, Bool.not_false, Int.toNat_natCast, Nat.mul_one, beqI_yes, beqI_no, bneI_yes, bneI_no, isNil_nil, isNil_iface, wr_wr, Option.isNone_none, Option.isNone_some, plus, Nat.zero_add, Nat.add_zero, if_pos h]
    simp only [show 0 - (c + 1) = -(c + 1) by omega]
  · simp (disch := omega) only [Option.bind_some, Option.map_some, cond_true, cond_false, wrap_i64, tmod_pos, tdiv_pos, inRange_yes, inUpto_yes, isZero_no, decide_eq_true, decide_eq_false, Bool.not_true, Bool.not_false, Int.toNat_natCast, Nat.mul_one, beqI_yes, beqI_no, bneI_yes, bneI_no, isNil_nil, isNil_iface, wr_wr, Option.isNone_none, Option.isNone_some, plus, Nat.zero_add, Nat.add_zero, if_neg h]
def pickI (c n : Int) : Int := (if c < 0 then -(c + 1) else c) % n
theorem pickI_range (c : Int) {n : Int} (hn : 0 < n) : 0 ≤ pickI c n ∧ pickI c n < n := ⟨Int.emod_nonneg _ (by omega), Int.emod_lt_of_pos _ hn⟩
theorem pick12_ok (k : Nat) (c n : Int) (m : Mem) (h : (Lit.int .i64 c).wf = true) (hn : 0 < n) : patinalaw12_pick k c n m = some (pickI c n, m) := by
  have := wf_i64 h
  exact pick12_eq k c n m this.1 this.2 hn
theorem same12_go (k : Nat) (kx0 : Bool → Mem → Option (Bool × Mem)) (kx2 : Mem → Option (Bool × Mem)) {P : Bool × Mem → Prop} {b d n c c' : Nat} {sp sp' : Option Nat} {l : List Int} {F : Heap} (hn : l.length = n) (hs : n < 1000000) (hx : ∀ m, Own m F → Ok (kx2 m) P) {m : Mem} {f : Nat} (hf : n < f)
    (hO : Own m ((b, .live (ints l)) :: (d, .live (ints l)) :: F)) : Ok (patinalaw12_same_l0 k kx0 kx2 f (some ⟨b, 0, sp⟩) n c (some ⟨d, 0, sp'⟩) n c' 0 m) P := by
  refine patinalaw12_same_l0_rule k kx0 kx2 (fun r x0a x0n x0c x1a x1n x1c x5 m => some ⟨b, 0, sp⟩ = x0a ∧ n = x0n ∧ c = x0c ∧ some ⟨d, 0, sp'⟩ = x1a ∧ n = x1n ∧ c' = x1c ∧ 0 ≤ x5 ∧ x5 + r = n ∧
    ∃ t : List Int, Own m ((b, .live (ints t)) :: (d, .live (ints l)) :: F) ∧ t.length = n ∧ ∀ i, x5.toNat ≤ i → t[i]? = l[i]?) ?_ f n _ _ _ _ _ _ 0 m hf ⟨rfl, rfl, rfl, rfl, rfl, rfl, by omega, by omega, l, hO, hn, fun _ _ => rfl⟩
  rintro r nx _ _ _ _ _ _ i m ⟨rfl, rfl, rfl, rfl, rfl, rfl, hi, hr, t, hO, ht, he⟩ hnx
  unfold patinalaw12_same_l0_b
  by_cases h1 : i < (n : Int)
  · have hil : i.toNat < l.length := by omega
    have hit : i.toNat < t.length := by omega
    have e0 := he i.toNat (Nat.le_refl _)
    rw [List.getElem?_eq_getElem hil, List.getElem?_eq_getElem hit, Option.some.injEq] at e0
    have e1 := hO.ldInt (sp := sp) 0 rfl (ints_get hit)
    have e2 := hO.ldInt (sp := sp') 1 rfl (ints_get hil)
    have e3 := st_wr (sp := sp) (v := .int .i64 (-9)) (hO.at 0 rfl) (off := i.toNat) (by simpa using hit)
    simp (disch := omega) only [Option.bind_some, Option.map_some, cond_true, cond_false, wrap_i64, tmod_pos, tdiv_pos, inRange_yes, inUpto_yes, isZero_no, decide_eq_true, decide_eq_false, Bool.not_true, Bool.not_false, Int.toNat_natCast, Nat.mul_one, beqI_yes, beqI_no, bneI_yes, bneI_no, isNil_nil, isNil_iface, wr_wr, Option.isNone_none, Option.isNone_some, plus, Nat.zero_add, Nat.add_zero, e1, e2, e0, e3, bne_self_eq_false]
    have hO2 := hO.wr 0 rfl ((ints t).set i.toNat (.int .i64 (-9)))
    rw [ints_set] at hO2 ⊢
    exact hnx (r - 1) _ _ _ _ _ _ _ _ (by omega) ⟨rfl, rfl, rfl, rfl, rfl, rfl, by omega, by omega, _, hO2, by simpa using ht, fun j hj => by rw [List.getElem?_set_ne (by omega)]; exact he j (by omega)⟩
  · simp (disch := omega) only [Option.bind_some, Option.map_some, cond_true, cond_false, wrap_i64, tmod_pos, tdiv_pos, inRange_yes, inUpto_yes, isZero_no, decide_eq_true, decide_eq_false, Bool.not_true, Bool.not_false, Int.toNat_natCast, Nat.mul_one, beqI_yes, beqI_no, bneI_yes, bneI_no, isNil_nil, isNil_iface, wr_wr, Option.isNone_none, Option.isNone_some, plus, Nat.zero_add, Nat.add_zero]
    exact hx m hO.tail.tail
theorem same12_ok (k : Nat) {a a' : Option Addr} {n c c' : Nat} {l : List Int} {F : Heap} (h1 : Row a n (ints l)) (h2 : Row a' n (ints l)) (hk : n < k) (hs : n < 1000000) {m : Mem} (hO : Own m (slH a (ints l) ++ (slH a' (ints l) ++ F))) :
    Ok (patinalaw12_same k a n c a' n c' m) fun r => r.1 = true ∧ Own r.2 F := by
  unfold patinalaw12_same
  simp only [bne_self_eq_false, cond_false]
  have zero : n = 0 → Own m F → Ok (patinalaw12_same_l0 k (fun y4 m7 => some (y4, m7)) (fun m8 => some (true, m8)) k a n c a' n c' 0 m) fun r => r.1 = true ∧ Own r.2 F := by
    intro h0 hF
    cases k with
    | zero => omega
    | succ k =>
      unfold patinalaw12_same_l0 patinalaw12_same_l0_b
      simp (disch := omega) only [Option.bind_some, Option.map_some, cond_true, cond_false, wrap_i64, tmod_pos, tdiv_pos, inRange_yes, inUpto_yes, isZero_no, decide_eq_true, decide_eq_false, Bool.not_true, Bool.not_false, Int.toNat_natCast, Nat.mul_one, beqI_yes, beqI_no, bneI_yes, bneI_no, isNil_nil, isNil_iface, wr_wr, Option.isNone_none, Option.isNone_some, plus, Nat.zero_add, Nat.add_zero]
      exact .some ⟨rfl, hF⟩
  rcases h1 with ⟨rfl, h3, h4⟩ | ⟨b, sp, rfl, h3⟩
  · exact zero h3 hO.back.back
  · rcases h2 with ⟨rfl, h5, h6⟩ | ⟨d, sp', rfl, h5⟩
    · exact zero h5 hO.tail
    · exact same12_go k _ _ (by simpa using h3) hs (fun m hm => .some ⟨rfl, hm⟩) hk hO

theorem up12_ok (k : Nat) (o : MObj) : ∃ m, patinalaw12_up (k + 40) [o] = some (true, m) ∧ m[0]? = some o := by
  have h : (patinalaw12_up (k + 40) [o]).map (fun r => (r.1, r.2[0]?)) = some (true, some o) := by kernel_rfl
  obtain ⟨⟨b, m⟩, h1, h2⟩ := Option.map_eq_some_iff.1 h
  simp only [Prod.mk.injEq] at h2
  exact ⟨m, by rw [h1, h2.1], h2.2⟩

def rmapC (σ : MapS) : List Value := arr .i64 25 fun i => σ.at_ i - 1
theorem rmapC_upd (at_ : Int → Int) (f v : Int) : upd (fun i => at_ i - 1) f v = fun i => upd at_ f (v + 1) i - 1 := by
  funext i; unfold upd; by_cases h : i = f <;> simp [h]

theorem rholds_is (k : Nat) (p t : Int) (m : Mem) : patinaref04_Holds k p t m = some (if 0 ≤ p ∧ p < 96 ∧ 0 ≤ t ∧ t ≤ 24 then (decide (t = 24 ∨ p % 8 < 6), 0, m) else (false, 1, m)) := by
  unfold patinaref04_Holds patinaref04_Is
  by_cases h1 : 0 ≤ p
  · by_cases h2 : p ≤ 95
    · by_cases h3 : t < 0
      · simp (disch := omega) only [Option.bind_some, Option.map_some, cond_true, cond_false, wrap_i64, tmod_pos, tdiv_pos, inRange_yes, inUpto_yes, isZero_no, decide_eq_true, decide_eq_false, Bool.not_true, Bool.not_false, Int.toNat_natCast, Nat.mul_one, beqI_yes, beqI_no, bneI_yes, bneI_no, isNil_nil, isNil_iface, wr_wr, Option.isNone_none, Option.isNone_some, plus, Nat.zero_add, Nat.add_zero, if_neg (show ¬ (0 ≤ p ∧ p < 96 ∧ 0 ≤ t ∧ t ≤ 24) by omega)]
      · by_cases h4 : t > 24
        · simp (disch := omega) only [Option.bind_some, Option.map_some, cond_true, cond_false, wrap_i64, tmod_pos, tdiv_pos, inRange_yes, inUpto_yes, isZero_no, decide_eq_true, decide_eq_false, Bool.not_true, Bool.not_false, Int.toNat_natCast, Nat.mul_one, beqI_yes, beqI_no, bneI_yes, bneI_no, isNil_nil, isNil_iface, wr_wr, Option.isNone_none, Option.isNone_some, plus, Nat.zero_add, Nat.add_zero, if_neg (show ¬ (0 ≤ p ∧ p < 96 ∧ 0 ≤ t ∧ t ≤ 24) by omega)]
        · by_cases h5 : t = 24
          · simp (disch := omega) only [Option.bind_some, Option.map_some, cond_true, cond_false, wrap_i64, tmod_pos, tdiv_pos, inRange_yes, inUpto_yes, isZero_no, decide_eq_true, decide_eq_false, Bool.not_true, Bool.not_false, Int.toNat_natCast, Nat.mul_one, beqI_yes, beqI_no, bneI_yes, bneI_no, isNil_nil, isNil_iface, wr_wr, Option.isNone_none, Option.isNone_some, plus, Nat.zero_add, Nat.add_zero, if_pos (show (0 ≤ p ∧ p < 96 ∧ 0 ≤ t ∧ t ≤ 24) by omega)]
          · simp (disch := omega) only [Option.bind_some, Option.map_some, cond_true, cond_false, wrap_i64, tmod_pos, tdiv_pos, inRange_yes, inUpto_yes, isZero_no, decide_eq_true, decide_eq_false, Bool.not_true, Bool.not_false, Int.toNat_natCast, Nat.mul_one, beqI_yes, beqI_no, bneI_yes, bneI_no, isNil_nil, isNil_iface, wr_wr, Option.isNone_none, Option.isNone_some, plus, Nat.zero_add, Nat.add_zero, if_pos (show (0 ≤ p ∧ p < 96 ∧ 0 ≤ t ∧ t ≤ 24) by omega)]; simp [h5]
    · simp (disch := omega) only [Option.bind_some, Option.map_some, cond_true, cond_false, wrap_i64, tmod_pos, tdiv_pos, inRange_yes, inUpto_yes, isZero_no, decide_eq_true, decide_eq_false, Bool.not_true, Bool.not_false, Int.toNat_natCast, Nat.mul_one, beqI_yes, beqI_no, bneI_yes, bneI_no, isNil_nil, isNil_iface, wr_wr, Option.isNone_none, Option.isNone_some, plus, Nat.zero_add, Nat.add_zero, if_neg (show ¬ (0 ≤ p ∧ p < 96 ∧ 0 ≤ t ∧ t ≤ 24) by omega)]
  · simp (disch := omega) only [Option.bind_some, Option.map_some, cond_true, cond_false, wrap_i64, tmod_pos, tdiv_pos, inRange_yes, inUpto_yes, isZero_no, decide_eq_true, decide_eq_false, Bool.not_true, Bool.not_false, Int.toNat_natCast, Nat.mul_one, beqI_yes, beqI_no, bneI_yes, bneI_no, isNil_nil, isNil_iface, wr_wr, Option.isNone_none, Option.isNone_some, plus, Nat.zero_add, Nat.add_zero, if_neg (show ¬ (0 ≤ p ∧ p < 96 ∧ 0 ≤ t ∧ t ≤ 24) by omega)]

section
variable (k : Nat) {m : Mem} {p : Nat} {σ : MapS} (h : m[p]? = some (.live (rmapC σ))) (hσ : σ.Wf)
include h
theorem rmap_ld (x : Int) (h0 : 0 ≤ x) (h1 : x < 25) : ldInt .i64 m ⟨p, x.toNat, none⟩ = some (σ.at_ x - 1) := arr_ld h h0 (by omega)
theorem rmap_st (x v : Int) (h0 : 0 ≤ x) (h1 : x < 25) : st m ⟨p, x.toNat, none⟩ (.int .i64 v) = some (wr m p (rmapC { σ with at_ := upd σ.at_ x (v + 1) })) := by
  rw [arr_st h h0 (by omega), rmapC_upd]; rfl
include hσ
theorem rowner_loop (q : Int) (hq : 0 ≤ q ∧ q < 96) (kx0 : Int → Mem → Option (Int × Mem)) (kx2 : Mem → Option (Int × Mem)) : ∀ (d n : Nat) (i : Int), i + d = 25 → 0 ≤ i → d < n → (σ.ow q ≠ 0 → i ≤ σ.ow q - 1) →
    patinaref12_Map_owner_l0 k kx0 kx2 n (some ⟨p, 0, none⟩) q i m = if σ.ow q ≠ 0 then kx0 (σ.ow q - 1) m else kx2 m
  | 0, n + 1, i, h1, h2, h3, h4 => by
    have := hσ.o q hq.1 hq.2
    unfold patinaref12_Map_owner_l0 patinaref12_Map_owner_l0_b
    simp (disch := omega) only [Option.bind_some, Option.map_some, cond_true, cond_false, wrap_i64, tmod_pos, tdiv_pos, inRange_yes, inUpto_yes, isZero_no, decide_eq_true, decide_eq_false, Bool.not_true, Bool.not_false, Int.toNat_natCast, Nat.mul_one, beqI_yes, beqI_no, bneI_yes, bneI_no, isNil_nil, isNil_iface, wr_wr, Option.isNone_none, Option.isNone_some, plus, Nat.zero_add, Nat.add_zero]
    rw [if_neg (by omega)]
  | d + 1, n + 1, i, h1, h2, h3, h4 => by
    have ho := hσ.o q hq.1 hq.2
    have hf := hσ.iff i q h2 (by omega) hq.1 hq.2
    unfold patinaref12_Map_owner_l0 patinaref12_Map_owner_l0_b
    by_cases h5 : σ.ow q = i + 1
    · have := hf.2 h5
      simp (disch := omega) only [Option.bind_some, Option.map_some, cond_true, cond_false, wrap_i64, tmod_pos, tdiv_pos, inRange_yes, inUpto_yes, isZero_no, decide_eq_true, decide_eq_false, Bool.not_true, Bool.not_false, Int.toNat_natCast, Nat.mul_one, beqI_yes, beqI_no, bneI_yes, bneI_no, isNil_nil, isNil_iface, wr_wr, Option.isNone_none, Option.isNone_some, plus, Nat.zero_add, Nat.add_zero, rmap_ld h i h2]
      rw [if_pos (by omega), show σ.ow q - 1 = i by omega]
    · have h6 : ¬ σ.at_ i = q + 1 := fun h7 => h5 (hf.1 h7)
      have ih := rowner_loop q hq kx0 kx2 d n (i + 1) (by omega) (by omega) (by omega) (by omega)
      simp (disch := omega) only [Option.bind_some, Option.map_some, cond_true, cond_false, wrap_i64, tmod_pos, tdiv_pos, inRange_yes, inUpto_yes, isZero_no, decide_eq_true, decide_eq_false, Bool.not_true, Bool.not_false, Int.toNat_natCast, Nat.mul_one, beqI_yes, beqI_no, bneI_yes, bneI_no, isNil_nil, isNil_iface, wr_wr, Option.isNone_none, Option.isNone_some, plus, Nat.zero_add, Nat.add_zero, rmap_ld h i h2, ih]
theorem rowner_is (q : Int) (hq : 0 ≤ q ∧ q < 96) (hk : 25 < k) : patinaref12_Map_owner k (some ⟨p, 0, none⟩) q m = some (σ.ow q - 1, m) := by
  have ho := hσ.o q hq.1 hq.2
  unfold patinaref12_Map_owner
  rw [rowner_loop k h hσ q hq _ _ 25 k 0 rfl (by omega) hk (by omega)]
  split
  · rfl
  · rw [show σ.ow q - 1 = -1 by omega]
theorem rmap_Set_is (f q : Int) (hk : 25 < k) : patinaref12_Map_Set k (some ⟨p, 0, none⟩) f q m = some (σ.setCode f q, wr m p (rmapC (σ.setTo f q))) := by
  have hs := wr_same h
  unfold patinaref12_Map_Set
  rw [rholds_is]
  by_cases h1 : 0 ≤ q ∧ q < 96 ∧ 0 ≤ f ∧ f ≤ 24
  · obtain ⟨a1, a2, a3, a4⟩ := h1
    rw [if_pos ⟨a1, a2, a3, a4⟩]
    by_cases h2 : f = 24 ∨ q % 8 < 6
    · have ho := hσ.o q a1 a2
      have e1 : (σ.put f q).at_ = upd σ.at_ f (q + 1) := rfl
      have hj : patinaref12_Map_Set_j1 k (some ⟨p, 0, none⟩) f q m = some (0, wr m p (rmapC (σ.put f q))) := by
        unfold patinaref12_Map_Set_j1
        simp (disch := omega) only [Option.bind_some, Option.map_some, cond_true, cond_false, wrap_i64, tmod_pos, tdiv_pos, inRange_yes, inUpto_yes, isZero_no, decide_eq_true, decide_eq_false, Bool.not_true, Bool.not_false, Int.toNat_natCast, Nat.mul_one, beqI_yes, beqI_no, bneI_yes, bneI_no, isNil_nil, isNil_iface, wr_wr, Option.isNone_none, Option.isNone_some, plus, Nat.zero_add, Nat.add_zero, rmap_st h f]
        rfl
      simp (disch := omega) only [Option.bind_some, Option.map_some, cond_true, cond_false, wrap_i64, tmod_pos, tdiv_pos, inRange_yes, inUpto_yes, isZero_no, decide_eq_true, decide_eq_false, Bool.not_true, Bool.not_false, Int.toNat_natCast, Nat.mul_one, beqI_yes, beqI_no, bneI_yes, bneI_no, isNil_nil, isNil_iface, wr_wr, Option.isNone_none, Option.isNone_some, plus, Nat.zero_add, Nat.add_zero, decide_eq_true h2, rowner_is k h hσ q]
      by_cases h3 : σ.ow q = 0
      · have hc : σ.setCode f q = 0 := by unfold MapS.setCode; grind
        simp (disch := omega) only [Option.bind_some, Option.map_some, cond_true, cond_false, wrap_i64, tmod_pos, tdiv_pos, inRange_yes, inUpto_yes, isZero_no, decide_eq_true, decide_eq_false, Bool.not_true, Bool.not_false, Int.toNat_natCast, Nat.mul_one, beqI_yes, beqI_no, bneI_yes, bneI_no, isNil_nil, isNil_iface, wr_wr, Option.isNone_none, Option.isNone_some, plus, Nat.zero_add, Nat.add_zero, hj]
        simp [MapS.setTo, hc]
      · by_cases h4 : σ.ow q = f + 1
        · have hc : σ.setCode f q = 0 := by unfold MapS.setCode; grind
          simp (disch := omega) only [Option.bind_some, Option.map_some, cond_true, cond_false, wrap_i64, tmod_pos, tdiv_pos, inRange_yes, inUpto_yes, isZero_no, decide_eq_true, decide_eq_false, Bool.not_true, Bool.not_false, Int.toNat_natCast, Nat.mul_one, beqI_yes, beqI_no, bneI_yes, bneI_no, isNil_nil, isNil_iface, wr_wr, Option.isNone_none, Option.isNone_some, plus, Nat.zero_add, Nat.add_zero, hj]
          simp [MapS.setTo, hc]
        · have hc : σ.setCode f q = 12 := by unfold MapS.setCode; grind
          simp (disch := omega) only [Option.bind_some, Option.map_some, cond_true, cond_false, wrap_i64, tmod_pos, tdiv_pos, inRange_yes, inUpto_yes, isZero_no, decide_eq_true, decide_eq_false, Bool.not_true, Bool.not_false, Int.toNat_natCast, Nat.mul_one, beqI_yes, beqI_no, bneI_yes, bneI_no, isNil_nil, isNil_iface, wr_wr, Option.isNone_none, Option.isNone_some, plus, Nat.zero_add, Nat.add_zero]
          simp [MapS.setTo, hc, hs]
    · have hc : σ.setCode f q = 1 := by unfold MapS.setCode; grind
      simp (disch := omega) only [Option.bind_some, Option.map_some, cond_true, cond_false, wrap_i64, tmod_pos, tdiv_pos, inRange_yes, inUpto_yes, isZero_no, decide_eq_true, decide_eq_false, Bool.not_true, Bool.not_false, Int.toNat_natCast, Nat.mul_one, beqI_yes, beqI_no, bneI_yes, bneI_no, isNil_nil, isNil_iface, wr_wr, Option.isNone_none, Option.isNone_some, plus, Nat.zero_add, Nat.add_zero, decide_eq_false h2]
      simp [MapS.setTo, hc, hs]
  · have hc : σ.setCode f q = 1 := by unfold MapS.setCode; grind
    rw [if_neg h1]
    simp (disch := omega) only [Option.bind_some, Option.map_some, cond_true, cond_false, wrap_i64, tmod_pos, tdiv_pos, inRange_yes, inUpto_yes, isZero_no, decide_eq_true, decide_eq_false, Bool.not_true, Bool.not_false, Int.toNat_natCast, Nat.mul_one, beqI_yes, beqI_no, bneI_yes, bneI_no, isNil_nil, isNil_iface, wr_wr, Option.isNone_none, Option.isNone_some, plus, Nat.zero_add, Nat.add_zero]
    simp [MapS.setTo, hc, hs]
theorem rmap_At_is (f : Int) : patinaref12_Map_At k (some ⟨p, 0, none⟩) f m = some (σ.atV f, σ.atCode f, m) := by
  unfold patinaref12_Map_At
  by_cases h1 : f < 0
  · simp (disch := omega) only [Option.bind_some, Option.map_some, cond_true, cond_false, wrap_i64, tmod_pos, tdiv_pos, inRange_yes, inUpto_yes, isZero_no, decide_eq_true, decide_eq_false, Bool.not_true, Bool.not_false, Int.toNat_natCast, Nat.mul_one, beqI_yes, beqI_no, bneI_yes, bneI_no, isNil_nil, isNil_iface, wr_wr, Option.isNone_none, Option.isNone_some, plus, Nat.zero_add, Nat.add_zero]; simp [MapS.atV, MapS.atCode, h1]
  · by_cases h2 : f > 24
    · simp (disch := omega) only [Option.bind_some, Option.map_some, cond_true, cond_false, wrap_i64, tmod_pos, tdiv_pos, inRange_yes, inUpto_yes, isZero_no, decide_eq_true, decide_eq_false, Bool.not_true, Bool.not_false, Int.toNat_natCast, Nat.mul_one, beqI_yes, beqI_no, bneI_yes, bneI_no, isNil_nil, isNil_iface, wr_wr, Option.isNone_none, Option.isNone_some, plus, Nat.zero_add, Nat.add_zero]; simp [MapS.atV, MapS.atCode, h2]
    · have := hσ.a f (by omega) (by omega)
      by_cases h3 : σ.at_ f = 0
      · simp (disch := omega) only [Option.bind_some, Option.map_some, cond_true, cond_false, wrap_i64, tmod_pos, tdiv_pos, inRange_yes, inUpto_yes, isZero_no, decide_eq_true, decide_eq_false, Bool.not_true, Bool.not_false, Int.toNat_natCast, Nat.mul_one, beqI_yes, beqI_no, bneI_yes, bneI_no, isNil_nil, isNil_iface, wr_wr, Option.isNone_none, Option.isNone_some, plus, Nat.zero_add, Nat.add_zero, rmap_ld h f]; simp [MapS.atV, MapS.atCode, h1, h2, h3]
      · simp (disch := omega) only [Option.bind_some, Option.map_some, cond_true, cond_false, wrap_i64, tmod_pos, tdiv_pos, inRange_yes, inUpto_yes, isZero_no, decide_eq_true, decide_eq_false, Bool.not_true, Bool.not_false, Int.toNat_natCast, Nat.mul_one, beqI_yes, beqI_no, bneI_yes, bneI_no, isNil_nil, isNil_iface, wr_wr, Option.isNone_none, Option.isNone_some, plus, Nat.zero_add, Nat.add_zero, rmap_ld h f]; simp [MapS.atV, MapS.atCode, h1, h2, h3]
theorem rmap_Drop_is (f : Int) : patinaref12_Map_Drop k (some ⟨p, 0, none⟩) f m = some (σ.atCode f, wr m p (rmapC (σ.dropTo f))) := by
  have hs := wr_same h
  unfold patinaref12_Map_Drop
  by_cases h1 : f < 0
  · simp (disch := omega) only [Option.bind_some, Option.map_some, cond_true, cond_false, wrap_i64, tmod_pos, tdiv_pos, inRange_yes, inUpto_yes, isZero_no, decide_eq_true, decide_eq_false, Bool.not_true, Bool.not_false, Int.toNat_natCast, Nat.mul_one, beqI_yes, beqI_no, bneI_yes, bneI_no, isNil_nil, isNil_iface, wr_wr, Option.isNone_none, Option.isNone_some, plus, Nat.zero_add, Nat.add_zero]; simp [MapS.dropTo, MapS.atCode, h1, hs]
  · by_cases h2 : f > 24
    · simp (disch := omega) only [Option.bind_some, Option.map_some, cond_true, cond_false, wrap_i64, tmod_pos, tdiv_pos, inRange_yes, inUpto_yes, isZero_no, decide_eq_true, decide_eq_false, Bool.not_true, Bool.not_false, Int.toNat_natCast, Nat.mul_one, beqI_yes, beqI_no, bneI_yes, bneI_no, isNil_nil, isNil_iface, wr_wr, Option.isNone_none, Option.isNone_some, plus, Nat.zero_add, Nat.add_zero]; simp [MapS.dropTo, MapS.atCode, h2, hs]
    · have := hσ.a f (by omega) (by omega)
      by_cases h3 : σ.at_ f = 0
      · simp (disch := omega) only [Option.bind_some, Option.map_some, cond_true, cond_false, wrap_i64, tmod_pos, tdiv_pos, inRange_yes, inUpto_yes, isZero_no, decide_eq_true, decide_eq_false, Bool.not_true, Bool.not_false, Int.toNat_natCast, Nat.mul_one, beqI_yes, beqI_no, bneI_yes, bneI_no, isNil_nil, isNil_iface, wr_wr, Option.isNone_none, Option.isNone_some, plus, Nat.zero_add, Nat.add_zero, rmap_ld h f]; simp [MapS.dropTo, MapS.atCode, h1, h2, h3, hs]
      · simp (disch := omega) only [Option.bind_some, Option.map_some, cond_true, cond_false, wrap_i64, tmod_pos, tdiv_pos, inRange_yes, inUpto_yes, isZero_no, decide_eq_true, decide_eq_false, Bool.not_true, Bool.not_false, Int.toNat_natCast, Nat.mul_one, beqI_yes, beqI_no, bneI_yes, bneI_no, isNil_nil, isNil_iface, wr_wr, Option.isNone_none, Option.isNone_some, plus, Nat.zero_add, Nat.add_zero, rmap_ld h f, rmap_st h f]; simp [MapS.dropTo, MapS.atCode, h1, h2, h3]; rfl
theorem rmap_Owner_is (q : Int) (hk : 25 < k) : patinaref12_Map_Owner k (some ⟨p, 0, none⟩) q m = some (σ.ownV q, σ.ownCode q, m) := by
  unfold patinaref12_Map_Owner patinaref04_Is
  by_cases h1 : 0 ≤ q ∧ q < 96
  · obtain ⟨a1, a2⟩ := h1
    have := hσ.o q a1 a2
    by_cases h3 : σ.ow q = 0
    · simp (disch := omega) only [Option.bind_some, Option.map_some, cond_true, cond_false, wrap_i64, tmod_pos, tdiv_pos, inRange_yes, inUpto_yes, isZero_no, decide_eq_true, decide_eq_false, Bool.not_true, Bool.not_false, Int.toNat_natCast, Nat.mul_one, beqI_yes, beqI_no, bneI_yes, bneI_no, isNil_nil, isNil_iface, wr_wr, Option.isNone_none, Option.isNone_some, plus, Nat.zero_add, Nat.add_zero, rowner_is k h hσ q]; simp [MapS.ownV, MapS.ownCode, a1, a2, h3]
    · simp (disch := omega) only [Option.bind_some, Option.map_some, cond_true, cond_false, wrap_i64, tmod_pos, tdiv_pos, inRange_yes, inUpto_yes, isZero_no, decide_eq_true, decide_eq_false, Bool.not_true, Bool.not_false, Int.toNat_natCast, Nat.mul_one, beqI_yes, beqI_no, bneI_yes, bneI_no, isNil_nil, isNil_iface, wr_wr, Option.isNone_none, Option.isNone_some, plus, Nat.zero_add, Nat.add_zero, rowner_is k h hσ q]; simp [MapS.ownV, MapS.ownCode, a1, a2, h3]
  · by_cases h2 : q ≥ 0
    · simp (disch := omega) only [Option.bind_some, Option.map_some, cond_true, cond_false, wrap_i64, tmod_pos, tdiv_pos, inRange_yes, inUpto_yes, isZero_no, decide_eq_true, decide_eq_false, Bool.not_true, Bool.not_false, Int.toNat_natCast, Nat.mul_one, beqI_yes, beqI_no, bneI_yes, bneI_no, isNil_nil, isNil_iface, wr_wr, Option.isNone_none, Option.isNone_some, plus, Nat.zero_add, Nat.add_zero]; simp [MapS.ownV, MapS.ownCode, h1]
    · simp (disch := omega) only [Option.bind_some, Option.map_some, cond_true, cond_false, wrap_i64, tmod_pos, tdiv_pos, inRange_yes, inUpto_yes, isZero_no, decide_eq_true, decide_eq_false, Bool.not_true, Bool.not_false, Int.toNat_natCast, Nat.mul_one, beqI_yes, beqI_no, bneI_yes, bneI_no, isNil_nil, isNil_iface, wr_wr, Option.isNone_none, Option.isNone_some, plus, Nat.zero_add, Nat.add_zero]; simp [MapS.ownV, MapS.ownCode, h1]
end

theorem rmap_Of_ok (k : Nat) (hk : 25 < k) {m : Mem} {p : Nat} {σ : MapS} {F : Heap} (hO : Own m ((p, .live (rmapC σ)) :: F)) (hσ : σ.Wf) (b : Int) :
    Ok (patinaref12_Map_Of k (some ⟨p, 0, none⟩) b m) fun r => ∃ l, r.2.1 = (if 0 ≤ b ∧ b < 12 then 0 else 1) ∧ (l = if 0 ≤ b ∧ b < 12 then σ.ofTo (8 * b) 8 else []) ∧ App 1 r.1.a r.1.len r.1.cap (ints l) ∧ Own r.2.2 (slH r.1.a (ints l) ++ (p, .live (rmapC σ)) :: F) := by
  unfold patinaref12_Map_Of
  by_cases h1 : 0 ≤ b ∧ b < 12
  · obtain ⟨b0, b1⟩ := h1
    simp (disch := omega) only [Option.bind_some, Option.map_some, cond_true, cond_false, wrap_i64, tmod_pos, tdiv_pos, inRange_yes, inUpto_yes, isZero_no, decide_eq_true, decide_eq_false, Bool.not_true, Bool.not_false, Int.toNat_natCast, Nat.mul_one, beqI_yes, beqI_no, bneI_yes, bneI_no, isNil_nil, isNil_iface, wr_wr, Option.isNone_none, Option.isNone_some, plus, Nat.zero_add, Nat.add_zero]
    refine patinaref12_Map_Of_l0_rule k _ (fun d x0 x1 x6a x6n x6c x7 m => some ⟨p, 0, none⟩ = x0 ∧ b = x1 ∧ 8 * b ≤ x7 ∧ x7 + d = 8 * b + 8 ∧
      App 1 x6a x6n x6c (ints (σ.ofTo (8 * b) (x7 - 8 * b).toNat)) ∧ Own m (slH x6a (ints (σ.ofTo (8 * b) (x7 - 8 * b).toNat)) ++ (p, .live (rmapC σ)) :: F)) ?_ k 8 _ _ _ _ _ _ _ (by omega) ⟨rfl, rfl, by omega, by omega, by simp [MapS.ofTo, ints, App.nil], by simpa [MapS.ofTo, ints, slH] using hO⟩
    rintro d nx _ _ a n c i m ⟨rfl, rfl, hi, hd, hA, hO⟩ hnx
    unfold patinaref12_Map_Of_l0_b
    by_cases h2 : i < 8 * b + 8
    · have e4 : σ.ofTo (8 * b) ((i + 1 - 8 * b).toNat) = σ.ofTo (8 * b) (i - 8 * b).toNat ++ if σ.ow i ≠ 0 then [σ.ow i - 1] else [] := by
        rw [show (i + 1 - 8 * b).toNat = (i - 8 * b).toNat + 1 by omega]
        show σ.ofTo (8 * b) (i - 8 * b).toNat ++ _ = _
        rw [show 8 * b + ((i - 8 * b).toNat : Int) = i by omega]
      have ho := hσ.o i (by omega) (by omega)
      have hlen := σ.ofTo_len (8 * b) (i - 8 * b).toNat
      have hn : n ≤ 8 := by have := hA.len; simp at this; omega
      simp (disch := omega) only [Option.bind_some, Option.map_some, cond_true, cond_false, wrap_i64, tmod_pos, tdiv_pos, inRange_yes, inUpto_yes, isZero_no, decide_eq_true, decide_eq_false, Bool.not_true, Bool.not_false, Int.toNat_natCast, Nat.mul_one, beqI_yes, beqI_no, bneI_yes, bneI_no, isNil_nil, isNil_iface, wr_wr, Option.isNone_none, Option.isNone_some, plus, Nat.zero_add, Nat.add_zero, rowner_is k (hO.back.at 0 rfl) hσ i (by omega) hk, patinaref12_Map_Of_j1, rdSl_new]
      by_cases h3 : σ.ow i = 0
      · simp (disch := omega) only [Option.bind_some, Option.map_some, cond_true, cond_false, wrap_i64, tmod_pos, tdiv_pos, inRange_yes, inUpto_yes, isZero_no, decide_eq_true, decide_eq_false, Bool.not_true, Bool.not_false, Int.toNat_natCast, Nat.mul_one, beqI_yes, beqI_no, bneI_yes, bneI_no, isNil_nil, isNil_iface, wr_wr, Option.isNone_none, Option.isNone_some, plus, Nat.zero_add, Nat.add_zero]
        rw [if_neg (by simp [h3]), List.append_nil] at e4
        exact hnx (d - 1) _ _ _ _ _ _ _ (by omega) ⟨rfl, rfl, by omega, by omega, by rw [e4]; exact hA, by rw [e4]; exact hO⟩
      · obtain ⟨a', m', q1, q2, q3⟩ := hA.one (y := 8) (v := .int .i64 (σ.ow i - 1)) hO (by unfold most; omega) (by unfold most; omega)
        simp (disch := omega) only [Option.bind_some, Option.map_some, cond_true, cond_false, wrap_i64, tmod_pos, tdiv_pos, inRange_yes, inUpto_yes, isZero_no, decide_eq_true, decide_eq_false, Bool.not_true, Bool.not_false, Int.toNat_natCast, Nat.mul_one, beqI_yes, beqI_no, bneI_yes, bneI_no, isNil_nil, isNil_iface, wr_wr, Option.isNone_none, Option.isNone_some, plus, Nat.zero_add, Nat.add_zero, q1]
        rw [if_pos h3] at e4
        exact hnx (d - 1) _ _ _ _ _ _ _ (by omega) ⟨rfl, rfl, by omega, by omega, by rw [e4, ints_append]; exact q2, by rw [e4, ints_append]; exact q3⟩
    · have : i = 8 * b + 8 := by omega
      subst this
      rw [show (8 * b + 8 - 8 * b).toNat = 8 by omega] at hA hO
      simp (disch := omega) only [Option.bind_some, Option.map_some, cond_true, cond_false, wrap_i64, tmod_pos, tdiv_pos, inRange_yes, inUpto_yes, isZero_no, decide_eq_true, decide_eq_false, Bool.not_true, Bool.not_false, Int.toNat_natCast, Nat.mul_one, beqI_yes, beqI_no, bneI_yes, bneI_no, isNil_nil, isNil_iface, wr_wr, Option.isNone_none, Option.isNone_some, plus, Nat.zero_add, Nat.add_zero]
      exact .some ⟨_, by rw [if_pos ⟨b0, b1⟩], by rw [if_pos ⟨b0, b1⟩], hA, hO⟩
  · by_cases h2 : b < 0
    · simp (disch := omega) only [Option.bind_some, Option.map_some, cond_true, cond_false, wrap_i64, tmod_pos, tdiv_pos, inRange_yes, inUpto_yes, isZero_no, decide_eq_true, decide_eq_false, Bool.not_true, Bool.not_false, Int.toNat_natCast, Nat.mul_one, beqI_yes, beqI_no, bneI_yes, bneI_no, isNil_nil, isNil_iface, wr_wr, Option.isNone_none, Option.isNone_some, plus, Nat.zero_add, Nat.add_zero]
      exact .some ⟨[], by rw [if_neg h1], by rw [if_neg h1], .nil, hO⟩
    · simp (disch := omega) only [Option.bind_some, Option.map_some, cond_true, cond_false, wrap_i64, tmod_pos, tdiv_pos, inRange_yes, inUpto_yes, isZero_no, decide_eq_true, decide_eq_false, Bool.not_true, Bool.not_false, Int.toNat_natCast, Nat.mul_one, beqI_yes, beqI_no, bneI_yes, bneI_no, isNil_nil, isNil_iface, wr_wr, Option.isNone_none, Option.isNone_some, plus, Nat.zero_add, Nat.add_zero]
      exact .some ⟨[], by rw [if_neg h1], by rw [if_neg h1], .nil, hO⟩

theorem rmapNew_ok (k : Nat) (hk : 25 < k) {m : Mem} {F : Heap} (hO : Own m F) : Ok (patinaref12_New k m) fun r => ∃ b, r.1 = some ⟨b, 0, none⟩ ∧ Own r.2 ((b, .live (rmapC .empty)) :: F) := by
  unfold patinaref12_New
  have hO1 := hO.new (.live (repl 25 [.int .i64 0]))
  rw [show repl 25 [Value.int .i64 0] = arr .i64 25 (fun _ => 0) from repl_int] at hO1 ⊢
  simp (disch := omega) only [Option.bind_some, Option.map_some, cond_true, cond_false, wrap_i64, tmod_pos, tdiv_pos, inRange_yes, inUpto_yes, isZero_no, decide_eq_true, decide_eq_false, Bool.not_true, Bool.not_false, Int.toNat_natCast, Nat.mul_one, beqI_yes, beqI_no, bneI_yes, bneI_no, isNil_nil, isNil_iface, wr_wr, Option.isNone_none, Option.isNone_some, plus, Nat.zero_add, Nat.add_zero]
  refine patinaref12_New_l0_rule k _ (fun d x1 x2 m' => ⟨m.length, 0, none⟩ = x1 ∧ 0 ≤ x2 ∧ x2 + d = 25 ∧ ∃ f : Int → Int, (∀ i, 0 ≤ i → i < x2 → f i = -1) ∧ Own m' ((m.length, .live (arr .i64 25 f)) :: F)) ?_ k 25 _ 0 _ hk ⟨rfl, by omega, by omega, _, fun i h1 h2 => by omega, hO1⟩
  rintro d nx _ i m' ⟨rfl, hi, hd, f, hf, hO⟩ hnx
  unfold patinaref12_New_l0_b
  by_cases h1 : i < 25
  · simp (disch := omega) only [Option.bind_some, Option.map_some, cond_true, cond_false, wrap_i64, tmod_pos, tdiv_pos, inRange_yes, inUpto_yes, isZero_no, decide_eq_true, decide_eq_false, Bool.not_true, Bool.not_false, Int.toNat_natCast, Nat.mul_one, beqI_yes, beqI_no, bneI_yes, bneI_no, isNil_nil, isNil_iface, wr_wr, Option.isNone_none, Option.isNone_some, plus, Nat.zero_add, Nat.add_zero, arr_st (hO.at 0 rfl)]
    exact hnx (d - 1) _ _ _ (by omega) ⟨rfl, by omega, by omega, _, fun j h2 h3 => by unfold upd; have := hf j h2; grind, hO.wr 0 rfl _⟩
  · simp (disch := omega) only [Option.bind_some, Option.map_some, cond_true, cond_false, wrap_i64, tmod_pos, tdiv_pos, inRange_yes, inUpto_yes, isZero_no, decide_eq_true, decide_eq_false, Bool.not_true, Bool.not_false, Int.toNat_natCast, Nat.mul_one, beqI_yes, beqI_no, bneI_yes, bneI_no, isNil_nil, isNil_iface, wr_wr, Option.isNone_none, Option.isNone_some, plus, Nat.zero_add, Nat.add_zero]
    refine .some ⟨_, rfl, ?_⟩
    have : arr .i64 25 f = rmapC .empty := arr_congr fun j h2 h3 => by simp [MapS.empty, hf j h2 (by omega)]
    rw [← this]; exact hO

theorem stands12_ok (k : Nat) (hk : 100 < k) {m : Mem} {p r : Nat} {σ : MapS} {F : Heap} (hO : Own m ((p, .live (mapC σ)) :: (r, .live (rmapC σ)) :: F)) (hσ : σ.Wf) :
    Ok (patinalaw12_stands k (some ⟨p, 0, none⟩) (some ⟨r, 0, none⟩) m) fun q => q.1 = true ∧ Own q.2 ((p, .live (mapC σ)) :: (r, .live (rmapC σ)) :: F) := by
  unfold patinalaw12_stands
  refine .bind (pmap_Live_ok k (by omega) hO hσ) ?_
  rintro ⟨_, m1⟩ ⟨w, rfl, hO1⟩
  simp (disch := omega) only [Option.bind_some, Option.map_some, cond_true, cond_false, wrap_i64, tmod_pos, tdiv_pos, inRange_yes, inUpto_yes, isZero_no, decide_eq_true, decide_eq_false, Bool.not_true, Bool.not_false, Int.toNat_natCast, Nat.mul_one, beqI_yes, beqI_no, bneI_yes, bneI_no, isNil_nil, isNil_iface, wr_wr, Option.isNone_none, Option.isNone_some, plus, Nat.zero_add, Nat.add_zero]
  refine patinalaw12_stands_l0_rule k _ _ (fun d x0 x1 x5a x5n x5c x6 m' => some ⟨p, 0, none⟩ = x0 ∧ some ⟨r, 0, none⟩ = x1 ∧ some ⟨w, 0, none⟩ = x5a ∧ 12 = x5n ∧ 12 = x5c ∧ 0 ≤ x6 ∧ x6 + d = 12 ∧
    Own m' ((w, .live (arr .i64 12 (σ.liveTo 25))) :: (p, .live (mapC σ)) :: (r, .live (rmapC σ)) :: F)) ?_ k 12 _ _ _ _ _ 0 _ (by omega) ⟨rfl, rfl, rfl, rfl, rfl, by omega, by omega, hO1⟩
  rintro d nx _ _ _ _ _ i m' ⟨rfl, rfl, rfl, rfl, rfl, hi, hd, hO⟩ hnx
  unfold patinalaw12_stands_l0_b
  by_cases h1 : i < 12
  · simp (disch := omega) only [Option.bind_some, Option.map_some, cond_true, cond_false, wrap_i64, tmod_pos, tdiv_pos, inRange_yes, inUpto_yes, isZero_no, decide_eq_true, decide_eq_false, Bool.not_true, Bool.not_false, Int.toNat_natCast, Nat.mul_one, beqI_yes, beqI_no, bneI_yes, bneI_no, isNil_nil, isNil_iface, wr_wr, Option.isNone_none, Option.isNone_some, plus, Nat.zero_add, Nat.add_zero]
    refine .bind (pmap_Of_ok k (by omega) (hO.pick [1, 2, 0] 3 (by decide)) hσ i) ?_
    rintro ⟨⟨a, n, c⟩, _, m2⟩ ⟨_, rfl, rfl, hA, hO2⟩
    simp only at hA hO2 ⊢
    have hi2 : 0 ≤ i ∧ i < 12 := ⟨hi, h1⟩
    rw [if_pos hi2] at hA hO2 ⊢
    have hO2' : Own m2 ((r, .live (rmapC σ)) :: (slH a (ints (σ.ofTo (8 * i) 8)) ++ (p, .live (mapC σ)) :: (w, .live (arr .i64 12 (σ.liveTo 25))) :: F)) := by
      simpa using Own.blk [slH a (ints (σ.ofTo (8 * i) 8)), [(p, .live (mapC σ))], [(r, .live (rmapC σ))], [(w, .live (arr .i64 12 (σ.liveTo 25)))], F] [2, 0, 1, 3, 4] (by simpa using hO2) (by decide)
    refine .bind (rmap_Of_ok k (by omega) hO2' hσ i) ?_
    rintro ⟨⟨a', n', c''⟩, _, m3⟩ ⟨_, rfl, rfl, hA', hO3⟩
    simp only at hA' hO3 ⊢
    rw [if_pos hi2] at hA' hO3
    have hlen := σ.ofTo_len (8 * i) 8
    have hn : n = n' := by have := hA.len; have := hA'.len; simp at *; omega
    have hn2 : n = (σ.ofTo (8 * i) 8).length := by have := hA.len; simp at *; omega
    subst hn
    have hO3' : Own m3 (slH a (ints (σ.ofTo (8 * i) 8)) ++ (slH a' (ints (σ.ofTo (8 * i) 8)) ++ ((w, .live (arr .i64 12 (σ.liveTo 25))) :: (p, .live (mapC σ)) :: (r, .live (rmapC σ)) :: F))) := by
      simpa using Own.blk [slH a' (ints (σ.ofTo (8 * i) 8)), [(r, .live (rmapC σ))], slH a (ints (σ.ofTo (8 * i) 8)), [(p, .live (mapC σ))], [(w, .live (arr .i64 12 (σ.liveTo 25)))], F] [2, 0, 4, 3, 1, 5] (by simpa using hO3) (by decide)
    refine .bind (same12_ok k hA.row hA'.row (by omega) (by omega) hO3') ?_
    rintro ⟨_, m4⟩ ⟨rfl, hO4⟩
    have hl := σ.live_is hσ i hi h1
    simp (disch := omega) only [Option.bind_some, Option.map_some, cond_true, cond_false, wrap_i64, tmod_pos, tdiv_pos, inRange_yes, inUpto_yes, isZero_no, decide_eq_true, decide_eq_false, Bool.not_true, Bool.not_false, Int.toNat_natCast, Nat.mul_one, beqI_yes, beqI_no, bneI_yes, bneI_no, isNil_nil, isNil_iface, wr_wr, Option.isNone_none, Option.isNone_some, plus, Nat.zero_add, Nat.add_zero, errC_zero, arr_ld (hO4.at 0 rfl)]
    exact hnx (d - 1) _ _ _ _ _ _ _ (by omega) ⟨rfl, rfl, rfl, rfl, rfl, by omega, by omega, hO4⟩
  · simp (disch := omega) only [Option.bind_some, Option.map_some, cond_true, cond_false, wrap_i64, tmod_pos, tdiv_pos, inRange_yes, inUpto_yes, isZero_no, decide_eq_true, decide_eq_false, Bool.not_true, Bool.not_false, Int.toNat_natCast, Nat.mul_one, beqI_yes, beqI_no, bneI_yes, bneI_no, isNil_nil, isNil_iface, wr_wr, Option.isNone_none, Option.isNone_some, plus, Nat.zero_add, Nat.add_zero]
    exact .some ⟨rfl, hO.tail⟩

theorem step12_ok (k : Nat) (hk : 100 < k) {m : Mem} {p r : Nat} {σ : MapS} {F : Heap} (hO : Own m ((p, .live (mapC σ)) :: (r, .live (rmapC σ)) :: F)) (hσ : σ.Wf) {u v w : Int}
    (w1 : (Lit.int .i64 u).wf = true) (w2 : (Lit.int .i64 v).wf = true) (w3 : (Lit.int .i64 w).wf = true) :
    Ok (patinalaw12_step k (some ⟨p, 0, none⟩) (some ⟨r, 0, none⟩) [.int .i64 u, .int .i64 v, .int .i64 w] m) fun q => q.1 = true ∧ ∃ τ : MapS, τ.Wf ∧ Own q.2 ((p, .live (mapC τ)) :: (r, .live (rmapC τ)) :: F) := by
  unfold patinalaw12_step
  have hO1 := hO.new (.live [.int .i64 u, .int .i64 v, .int .i64 w])
  have l0 := hO1.ldInt (sp := none) 0 rfl (off := 0) (k := .i64) (z := u) rfl
  have l1 := hO1.ldInt (sp := none) 0 rfl (off := 1) (k := .i64) (z := v) rfl
  have l2 := hO1.ldInt (sp := none) 0 rfl (off := 2) (k := .i64) (z := w) rfl
  obtain ⟨a1, a2⟩ := pickI_range u (n := 6) (by omega)
  have hp := hO1.at 1 rfl
  have hr := hO1.at 2 rfl
  simp (disch := omega) only [Option.bind_some, Option.map_some, cond_true, cond_false, wrap_i64, tmod_pos, tdiv_pos, inRange_yes, inUpto_yes, isZero_no, decide_eq_true, decide_eq_false, Bool.not_true, Bool.not_false, Int.toNat_natCast, Nat.mul_one, beqI_yes, beqI_no, bneI_yes, bneI_no, isNil_nil, isNil_iface, wr_wr, Option.isNone_none, Option.isNone_some, plus, Nat.zero_add, Nat.add_zero, l0, pick12_ok k u 6 _ w1 (by omega), show Nat.beq (List.length [Value.int .i64 u, Value.int .i64 v, Value.int .i64 w]) 3 = true from rfl, l1, l2]
  generalize hm : m ++ [MObj.live [.int .i64 u, .int .i64 v, .int .i64 w]] = m1 at *
  generalize pickI u 6 = t at *
  by_cases g0 : t = 0
  · have hO2 := hO1.wr 1 rfl (mapC (σ.setTo v w))
    have k1 := hO2.ldInt (sp := none) 0 rfl (off := 1) (k := .i64) (z := v) rfl
    have k2 := hO2.ldInt (sp := none) 0 rfl (off := 2) (k := .i64) (z := w) rfl
    have hO3 := hO2.wr 2 rfl (rmapC (σ.setTo v w))
    have hc : 0 ≤ σ.setCode v w ∧ σ.setCode v w < 20 := by unfold MapS.setCode; grind
    simp (disch := omega) only [Option.bind_some, Option.map_some, cond_true, cond_false, wrap_i64, tmod_pos, tdiv_pos, inRange_yes, inUpto_yes, isZero_no, decide_eq_true, decide_eq_false, Bool.not_true, Bool.not_false, Int.toNat_natCast, Nat.mul_one, beqI_yes, beqI_no, bneI_yes, bneI_no, isNil_nil, isNil_iface, wr_wr, Option.isNone_none, Option.isNone_some, plus, Nat.zero_add, Nat.add_zero, pmap_Set_is k hp hσ v w, code_is k _ _ hc, k1, k2, rmap_Set_is k (hO2.at 2 rfl) hσ v w (by omega)]
    exact .some ⟨rfl, σ.setTo v w, MapS.setTo_wf hσ v w, hO3.tail⟩
  · have hc : 0 ≤ σ.atCode v ∧ σ.atCode v < 20 := by unfold MapS.atCode; grind
    by_cases g1 : t = 1
    · have hO2 := hO1.wr 1 rfl (mapC (σ.dropTo v))
      have k1 := hO2.ldInt (sp := none) 0 rfl (off := 1) (k := .i64) (z := v) rfl
      have hO3 := hO2.wr 2 rfl (rmapC (σ.dropTo v))
      simp (disch := omega) only [Option.bind_some, Option.map_some, cond_true, cond_false, wrap_i64, tmod_pos, tdiv_pos, inRange_yes, inUpto_yes, isZero_no, decide_eq_true, decide_eq_false, Bool.not_true, Bool.not_false, Int.toNat_natCast, Nat.mul_one, beqI_yes, beqI_no, bneI_yes, bneI_no, isNil_nil, isNil_iface, wr_wr, Option.isNone_none, Option.isNone_some, plus, Nat.zero_add, Nat.add_zero, pmap_Drop_is k hp v hσ, code_is k _ _ hc, k1, rmap_Drop_is k (hO2.at 2 rfl) hσ v]
      exact .some ⟨rfl, σ.dropTo v, MapS.dropTo_wf hσ v, hO3.tail⟩
    · by_cases g2 : t = 2
      · simp (disch := omega) only [Option.bind_some, Option.map_some, cond_true, cond_false, wrap_i64, tmod_pos, tdiv_pos, inRange_yes, inUpto_yes, isZero_no, decide_eq_true, decide_eq_false, Bool.not_true, Bool.not_false, Int.toNat_natCast, Nat.mul_one, beqI_yes, beqI_no, bneI_yes, bneI_no, isNil_nil, isNil_iface, wr_wr, Option.isNone_none, Option.isNone_some, plus, Nat.zero_add, Nat.add_zero, pmap_At_is k hp v hσ, rmap_At_is k hr hσ v, l1, code_is k _ _ hc]
        exact .some ⟨rfl, σ, hσ, hO1.tail⟩
      · by_cases g3 : t = 3
        · have hc : 0 ≤ σ.ownCode v ∧ σ.ownCode v < 20 := by unfold MapS.ownCode; grind
          simp (disch := omega) only [Option.bind_some, Option.map_some, cond_true, cond_false, wrap_i64, tmod_pos, tdiv_pos, inRange_yes, inUpto_yes, isZero_no, decide_eq_true, decide_eq_false, Bool.not_true, Bool.not_false, Int.toNat_natCast, Nat.mul_one, beqI_yes, beqI_no, bneI_yes, bneI_no, isNil_nil, isNil_iface, wr_wr, Option.isNone_none, Option.isNone_some, plus, Nat.zero_add, Nat.add_zero, pmap_Owner_is k hp v hσ, rmap_Owner_is k hr hσ v (by omega), l1, code_is k _ _ hc]
          exact .some ⟨rfl, σ, hσ, hO1.tail⟩
        · by_cases g4 : t = 4
          · simp (disch := omega) only [Option.bind_some, Option.map_some, cond_true, cond_false, wrap_i64, tmod_pos, tdiv_pos, inRange_yes, inUpto_yes, isZero_no, decide_eq_true, decide_eq_false, Bool.not_true, Bool.not_false, Int.toNat_natCast, Nat.mul_one, beqI_yes, beqI_no, bneI_yes, bneI_no, isNil_nil, isNil_iface, wr_wr, Option.isNone_none, Option.isNone_some, plus, Nat.zero_add, Nat.add_zero]
            refine .bind (pmap_Of_ok k (by omega) (hO1.pick [1, 0, 2] 3 (by decide)) hσ v) ?_
            rintro ⟨⟨a, n, c⟩, _, m2⟩ ⟨l, rfl, el, hA, hO2⟩
            simp only at hA hO2 ⊢
            have hO2' : Own m2 ((m.length, .live [.int .i64 u, .int .i64 v, .int .i64 w]) :: (r, .live (rmapC σ)) :: (slH a (ints l) ++ (p, .live (mapC σ)) :: F)) := by
              simpa using Own.blk [slH a (ints l), [(p, .live (mapC σ))], [(m.length, .live [.int .i64 u, .int .i64 v, .int .i64 w])], [(r, .live (rmapC σ))], F] [2, 3, 0, 1, 4] (by simpa using hO2) (by decide)
            have k1 := hO2'.ldInt (sp := none) 0 rfl (off := 1) (k := .i64) (z := v) rfl
            simp (disch := omega) only [Option.bind_some, Option.map_some, cond_true, cond_false, wrap_i64, tmod_pos, tdiv_pos, inRange_yes, inUpto_yes, isZero_no, decide_eq_true, decide_eq_false, Bool.not_true, Bool.not_false, Int.toNat_natCast, Nat.mul_one, beqI_yes, beqI_no, bneI_yes, bneI_no, isNil_nil, isNil_iface, wr_wr, Option.isNone_none, Option.isNone_some, plus, Nat.zero_add, Nat.add_zero, k1]
            refine .bind (rmap_Of_ok k (by omega) hO2'.tail hσ v) ?_
            rintro ⟨⟨a', n', c''⟩, _, m3⟩ ⟨l', rfl, el', hA', hO3⟩
            simp only at hA' hO3 ⊢
            have : l' = l := by rw [el, el']
            subst this
            have hlen : l'.length ≤ 8 := by rw [el]; split
                                            · exact σ.ofTo_len _ _
                                            · simp
            have hn : n = n' := by have := hA.len; have := hA'.len; simp at *; omega
            have hn2 : n = l'.length := by have := hA.len; simp at *; omega
            subst hn
            have hO3' : Own m3 (slH a (ints l') ++ (slH a' (ints l') ++ ((p, .live (mapC σ)) :: (r, .live (rmapC σ)) :: F))) := by
              simpa using Own.blk [slH a' (ints l'), [(r, .live (rmapC σ))], slH a (ints l'), [(p, .live (mapC σ))], F] [2, 0, 3, 1, 4] (by simpa using hO3) (by decide)
            refine .bind (same12_ok k hA.row hA'.row (by omega) (by omega) hO3') ?_
            rintro ⟨_, m4⟩ ⟨rfl, hO4⟩
            simp (disch := omega) only [Option.bind_some, Option.map_some, cond_true, cond_false, wrap_i64, tmod_pos, tdiv_pos, inRange_yes, inUpto_yes, isZero_no, decide_eq_true, decide_eq_false, Bool.not_true, Bool.not_false, Int.toNat_natCast, Nat.mul_one, beqI_yes, beqI_no, bneI_yes, bneI_no, isNil_nil, isNil_iface, wr_wr, Option.isNone_none, Option.isNone_some, plus, Nat.zero_add, Nat.add_zero, code_is k _ _ (show 0 ≤ (if 0 ≤ v ∧ v < 12 then (0 : Int) else 1) ∧ (if 0 ≤ v ∧ v < 12 then (0 : Int) else 1) < 20 by split <;> omega)]
            exact .some ⟨by simp, σ, hσ, hO4⟩
          · simp (disch := omega) only [Option.bind_some, Option.map_some, cond_true, cond_false, wrap_i64, tmod_pos, tdiv_pos, inRange_yes, inUpto_yes, isZero_no, decide_eq_true, decide_eq_false, Bool.not_true, Bool.not_false, Int.toNat_natCast, Nat.mul_one, beqI_yes, beqI_no, bneI_yes, bneI_no, isNil_nil, isNil_iface, wr_wr, Option.isNone_none, Option.isNone_some, plus, Nat.zero_add, Nat.add_zero]
            refine .bind (stands12_ok k hk hO1.tail hσ) fun r hr => .some ⟨hr.1, σ, hσ, hr.2⟩

theorem pmapPlays_run (o : MObj) (q : Option Addr) (N c' : Nat) (cs : List Value) (hh : Holds o 0 q N [.int .i64, .int .i64, .int .i64] cs) (hc : N ≤ c') (hN : N * 24 ≤ 140737488351232) :
    ∃ k m', patinalaw12_PmapPlays k q N c' [o] = some (true, m') := by
  obtain ⟨m1, e1, e3⟩ := up12_ok (N + 1000) o
  have hk : 100 + N < N + 1000 + 40 := by omega
  generalize N + 1000 + 40 = k at e1 hk
  refine ⟨k, ?_⟩
  have key : Ok (patinalaw12_PmapPlays k q N c' [o]) fun r => r.1 = true := by
    unfold patinalaw12_PmapPlays
    have hO0 : Own m1 [(0, o)] := ⟨by simp, by simp [e3]⟩
    simp (disch := omega) only [Option.bind_some, Option.map_some, cond_true, cond_false, wrap_i64, tmod_pos, tdiv_pos, inRange_yes, inUpto_yes, isZero_no, decide_eq_true, decide_eq_false, Bool.not_true, Bool.not_false, Int.toNat_natCast, Nat.mul_one, beqI_yes, beqI_no, bneI_yes, bneI_no, isNil_nil, isNil_iface, wr_wr, Option.isNone_none, Option.isNone_some, plus, Nat.zero_add, Nat.add_zero, e1, pmapNew_is]
    have hO1 := hO0.new (.live (mapC .empty))
    refine .bind (rmapNew_ok k (by omega) hO1) ?_
    rintro ⟨_, m2⟩ ⟨r, rfl, hO2⟩
    simp (disch := omega) only [Option.bind_some, Option.map_some, cond_true, cond_false, wrap_i64, tmod_pos, tdiv_pos, inRange_yes, inUpto_yes, isZero_no, decide_eq_true, decide_eq_false, Bool.not_true, Bool.not_false, Int.toNat_natCast, Nat.mul_one, beqI_yes, beqI_no, bneI_yes, bneI_no, isNil_nil, isNil_iface, wr_wr, Option.isNone_none, Option.isNone_some, plus, Nat.zero_add, Nat.add_zero]
    refine patinalaw12_PmapPlays_l0_rule k _ _ (fun d x0a x0n x0c x4 x5 x6 m => q = x0a ∧ N = x0n ∧ c' = x0c ∧ some ⟨m1.length, 0, none⟩ = x4 ∧ some ⟨r, 0, none⟩ = x5 ∧ 0 ≤ x6 ∧ x6 + d = N ∧ ∃ σ : MapS, Own m [(m1.length, .live (mapC σ)), (r, .live (rmapC σ)), (0, o)] ∧ σ.Wf)
      ?_ k N _ _ _ _ _ 0 _ (by omega) ⟨rfl, rfl, rfl, rfl, rfl, by omega, by omega, .empty, hO2.pick [1, 0, 2] 3 (by decide), MapS.empty_wf⟩
    rintro d nx _ _ _ _ _ i m ⟨rfl, rfl, rfl, rfl, rfl, hi, hd, σ, hO, hσ⟩ hnx
    unfold patinalaw12_PmapPlays_l0_b
    by_cases h1 : i < N
    · have hp := hh.ptr (j := i.toNat) (by omega)
      subst hp
      obtain ⟨u, v, w, l, w1, w2, w3⟩ := hh.ld3 (hO.at 2 rfl) hi h1
      simp (disch := omega) only [Option.bind_some, Option.map_some, cond_true, cond_false, wrap_i64, tmod_pos, tdiv_pos, inRange_yes, inUpto_yes, isZero_no, decide_eq_true, decide_eq_false, Bool.not_true, Bool.not_false, Int.toNat_natCast, Nat.mul_one, beqI_yes, beqI_no, bneI_yes, bneI_no, isNil_nil, isNil_iface, wr_wr, Option.isNone_none, Option.isNone_some, plus, Nat.zero_add, Nat.add_zero, l]
      refine .bind (step12_ok k (by omega) hO hσ w1 w2 w3) ?_
      rintro ⟨_, m'⟩ ⟨rfl, τ, hτ, hO'⟩
      simp (disch := omega) only [Option.bind_some, Option.map_some, cond_true, cond_false, wrap_i64, tmod_pos, tdiv_pos, inRange_yes, inUpto_yes, isZero_no, decide_eq_true, decide_eq_false, Bool.not_true, Bool.not_false, Int.toNat_natCast, Nat.mul_one, beqI_yes, beqI_no, bneI_yes, bneI_no, isNil_nil, isNil_iface, wr_wr, Option.isNone_none, Option.isNone_some, plus, Nat.zero_add, Nat.add_zero]
      exact hnx (d - 1) _ _ _ _ _ _ _ (by omega) ⟨rfl, rfl, rfl, rfl, rfl, by omega, by omega, τ, hO', hτ⟩
    · simp (disch := omega) only [Option.bind_some, Option.map_some, cond_true, cond_false, wrap_i64, tmod_pos, tdiv_pos, inRange_yes, inUpto_yes, isZero_no, decide_eq_true, decide_eq_false, Bool.not_true, Bool.not_false, Int.toNat_natCast, Nat.mul_one, beqI_yes, beqI_no, bneI_yes, bneI_no, isNil_nil, isNil_iface, wr_wr, Option.isNone_none, Option.isNone_some, plus, Nat.zero_add, Nat.add_zero]
      exact .bind (stands12_ok k (by omega) hO hσ) fun r hr => .some hr.1
  obtain ⟨⟨r, m'⟩, h1, h2⟩ := key
  exact ⟨m', by rw [h1]; simp only at h2; rw [h2]⟩
end Go.Proofs.Ytnilidpafijdlac
