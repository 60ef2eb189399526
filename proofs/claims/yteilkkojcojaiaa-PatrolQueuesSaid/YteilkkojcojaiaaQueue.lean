/- What the list of blocks does. -/
import Derived.Test.YteilkkojcojaiaaFpatrol
import Derived.Test.YteilkkojcojaiaaErr
set_option linter.unusedVariables false
set_option linter.unusedSimpArgs false
namespace Go.Proofs.Yteilkkojcojaiaa
open Go.Mx

theorem index_loop (k : Nat) {m : Mem} {a : Option Addr} {n c : Nat} {l : List Int} {H F : Heap} (h : Vec 1 a n (ints l) H) (hO : Own m (H ++ F)) (hn : n < 1000000) (v : Int) (kx0 : Int → Mem → Option (Int × Mem)) (kx2 : Mem → Option (Int × Mem)) : ∀ (d f i : Nat), i + d = n → d < f →
    slices_Index_int_int_l0 k kx0 kx2 f a n c v n i m = if v ∈ l.drop i then kx0 ((i + (l.drop i).idxOf v : Nat) : Int) m else kx2 m
  | 0, f + 1, i, h1, h3 => by
    have hl := h.len
    simp only [ints_length, Nat.mul_one] at hl
    unfold slices_Index_int_int_l0 slices_Index_int_int_l0_b
    simp (disch := omega) only [Option.bind_some, Option.map_some, cond_true, cond_false, wrap_i64, tmod_pos, tdiv_pos, inRange_yes, inUpto_yes, isZero_no, decide_eq_true, decide_eq_false, Bool.not_true, Bool.not_false, Int.toNat_natCast, Nat.mul_one, beqI_yes, beqI_no, bneI_yes, bneI_no, isNil_nil, isNil_iface, wr_wr, Option.isNone_none, Option.isNone_some, plus, Nat.zero_add, Nat.add_zero]
    rw [List.drop_of_length_le (by omega)]; simp
  | d + 1, f + 1, i, h1, h3 => by
    have hl := h.len
    simp only [ints_length, Nat.mul_one] at hl
    have ih := index_loop (c := c) k h hO hn v kx0 kx2 d f (i + 1) (by omega) (by omega)
    rw [show ((i + 1 : Nat) : Int) = (i : Int) + 1 by omega] at ih
    obtain ⟨b, off, sp, cs, rfl, e1, e2⟩ := h.get hO (i := i) (by omega) (ints_get (by omega))
    unfold slices_Index_int_int_l0 slices_Index_int_int_l0_b
    simp (disch := omega) only [Option.bind_some, Option.map_some, cond_true, cond_false, wrap_i64, tmod_pos, tdiv_pos, inRange_yes, inUpto_yes, isZero_no, decide_eq_true, decide_eq_false, Bool.not_true, Bool.not_false, Int.toNat_natCast, Nat.mul_one, beqI_yes, beqI_no, bneI_yes, bneI_no, isNil_nil, isNil_iface, wr_wr, Option.isNone_none, Option.isNone_some, plus, Nat.zero_add, Nat.add_zero, ldInt_of e1 e2, ih]
    rw [List.drop_eq_getElem_cons (show i < l.length by omega)]
    clear ih e2
    generalize l.drop (i + 1) = t
    generalize l[i] = w
    by_cases hv : v = w
    · simp [hv]
    · have hv' : ¬ w = v := fun h => hv h.symm
      simp [hv, hv', List.idxOf_cons, Nat.add_assoc, Nat.add_comm 1, beqI_no hv']
theorem contains_is (k : Nat) {m : Mem} {a : Option Addr} {n c : Nat} {l : List Int} {H F : Heap} (h : Vec 1 a n (ints l) H) (hO : Own m (H ++ F)) (hn : n < 1000000) (hk : n < k) (v : Int) :
    slices_Contains_int_int k a n c v m = some (decide (v ∈ l), m) := by
  unfold slices_Contains_int_int slices_Index_int_int
  rw [show (0 : Int) = ((0 : Nat) : Int) from rfl, index_loop k h hO hn v _ _ n k 0 (by omega) hk]
  simp only [List.drop_zero]
  by_cases hv : v ∈ l
  · rw [if_pos hv]
    simp only [Option.bind_some, decide_eq_true hv]
    rw [decide_eq_true (by omega)]
  · rw [if_neg hv]
    simp only [Option.bind_some, decide_eq_false hv]
    rfl

/-- the list of blocks at q holds l -/
def Que (m : Mem) (q : Nat) (l : List Int) (F : Heap) : Prop := ∃ a n H, Vec 1 a n (ints l) H ∧ Own m ((q, .live [.slice a n n]) :: (H ++ F))
theorem Que.perm {m : Mem} {q : Nat} {l : List Int} {F F' : Heap} (h : Que m q l F) (hp : ∀ m H, Own m (H ++ F) → Own m (H ++ F')) : Que m q l F' := by
  obtain ⟨a, n, H, h1, h2⟩ := h
  exact ⟨a, n, H, h1, hp m ((q, .live [.slice a n n]) :: H) h2⟩

theorem clone_ok (k : Nat) {m : Mem} {b off n c : Nat} {sp : Option Nat} {cs vs : List Value} {F : Heap} (hm : m[b]? = some (.live cs)) (h1 : off + n ≤ cs.length) (h2 : (cs.drop off).take n = vs) (hn : n < 1000000) (hO : Own m F) :
    Ok (slices_Clone_int_int k (some ⟨b, off, sp⟩) n c m) fun r => ∃ H, Vec 1 r.1.a n vs H ∧ r.1.len = n ∧ r.1.cap = n ∧ Own r.2 (H ++ F) := by
  unfold slices_Clone_int_int
  have hO1 := hO.new (.live [])
  have hb : (m ++ [MObj.live []])[b]? = some (.live cs) := get_grow hm
  have e : rdSl (m ++ [MObj.live []]) (some ⟨b, off, sp⟩) n 1 = some vs := by rw [rdSl_live hb (by omega)]; simp [h2]
  have hl : vs.length = n := by rw [← h2, List.length_take, List.length_drop]; omega
  simp (disch := omega) only [Option.bind_some, Option.map_some, cond_true, cond_false, wrap_i64, tmod_pos, tdiv_pos, inRange_yes, inUpto_yes, isZero_no, decide_eq_true, decide_eq_false, Bool.not_true, Bool.not_false, Int.toNat_natCast, Nat.mul_one, beqI_yes, beqI_no, bneI_yes, bneI_no, isNil_nil, isNil_iface, wr_wr, Option.isNone_none, Option.isNone_some, plus, Nat.zero_add, Nat.add_zero, e]
  rcases Nat.eq_zero_or_pos n with h0 | h0
  · subst h0
    have : vs = [] := List.length_eq_zero_iff.1 hl
    subst this
    have e2 := appM_zero (z := 1) (y := 8) (m := m ++ [MObj.live []]) (s := ⟨m.length, 0, none⟩) (n := 0) (c := 0) (by omega) (stCells_nil (off := 0) (sp := none) (hO1.at 0 rfl) (by simp))
    simp (disch := omega) only [Option.bind_some, Option.map_some, cond_true, cond_false, wrap_i64, tmod_pos, tdiv_pos, inRange_yes, inUpto_yes, isZero_no, decide_eq_true, decide_eq_false, Bool.not_true, Bool.not_false, Int.toNat_natCast, Nat.mul_one, beqI_yes, beqI_no, bneI_yes, bneI_no, isNil_nil, isNil_iface, wr_wr, Option.isNone_none, Option.isNone_some, plus, Nat.zero_add, Nat.add_zero, e2]
    exact .some ⟨[(m.length, .live [])], .inr ⟨_, _, _, _, rfl, rfl, rfl, by simp, by simp, .inl rfl⟩, rfl, rfl, hO1⟩
  · have e2 := appM_make (z := 1) (y := 8) (l := n) (new := vs) (hO1.at 0 rfl) h0 (by unfold most; omega) (by unfold most; omega)
    simp (disch := omega) only [Option.bind_some, Option.map_some, cond_true, cond_false, wrap_i64, tmod_pos, tdiv_pos, inRange_yes, inUpto_yes, isZero_no, decide_eq_true, decide_eq_false, Bool.not_true, Bool.not_false, Int.toNat_natCast, Nat.mul_one, beqI_yes, beqI_no, bneI_yes, bneI_no, isNil_nil, isNil_iface, wr_wr, Option.isNone_none, Option.isNone_some, plus, Nat.zero_add, Nat.add_zero, e2]
    have hO2 := hO1.new (.live vs)
    exact .some ⟨_, .inr ⟨_, 0, some 1, vs, rfl, rfl, by omega, by omega, by simp [← hl], .inr rfl⟩, rfl, rfl, hO2.pick [0] 2 (by decide)⟩

def addL (l : List Int) (v : Int) : List Int := if v < 0 ∨ v ≥ 12 then l else if v ∈ l then l else l ++ [v]
def addC (v : Int) : Int := if v < 0 ∨ v ≥ 12 then 1 else 0
/-- what such a list is -/
structure QWf (l : List Int) : Prop where
  nd : l.Nodup
  r : ∀ x ∈ l, 0 ≤ x ∧ x < 12
theorem QWf.len {l : List Int} (h : QWf l) : l.length ≤ 12 := nodup_le 12 l h.nd h.r
theorem QWf.nil : QWf [] := ⟨by simp, by simp⟩
theorem QWf.add {l : List Int} (h : QWf l) (v : Int) : QWf (addL l v) := by
  unfold addL
  split
  · exact h
  · split
    · exact h
    · rename_i h1 h2
      refine ⟨by rw [List.nodup_append]; refine ⟨h.nd, by simp, fun a ha b hb => ?_⟩; simp at hb; subst hb; exact fun h3 => h2 (h3 ▸ ha), fun x hx => ?_⟩
      rcases List.mem_append.1 hx with h3 | h3
      · exact h.r x h3
      · simp at h3; subst h3; omega
theorem QWf.tail {l : List Int} (h : QWf l) : QWf l.tail := ⟨h.nd.tail, fun x hx => h.r x (List.mem_of_mem_tail hx)⟩

theorem queue_Add_ok (k : Nat) (hk : 20 < k) {m : Mem} {q : Nat} {l : List Int} {F : Heap} (hQ : Que m q l F) (hl : QWf l) (v : Int) :
    Ok (patrol_Queue_Add k (some ⟨q, 0, none⟩) v m) fun r => r.1 = errC (addC v) ∧ Que r.2 q (addL l v) F := by
  unfold patrol_Queue_Add addC addL
  by_cases h1 : v < 0
  · simp (disch := omega) only [Option.bind_some, Option.map_some, cond_true, cond_false, wrap_i64, tmod_pos, tdiv_pos, inRange_yes, inUpto_yes, isZero_no, decide_eq_true, decide_eq_false, Bool.not_true, Bool.not_false, Int.toNat_natCast, Nat.mul_one, beqI_yes, beqI_no, bneI_yes, bneI_no, isNil_nil, isNil_iface, wr_wr, Option.isNone_none, Option.isNone_some, plus, Nat.zero_add, Nat.add_zero, if_pos (show v < 0 ∨ v ≥ 12 by omega)]; exact .some ⟨rfl, hQ⟩
  · by_cases h2 : v ≥ 12
    · simp (disch := omega) only [Option.bind_some, Option.map_some, cond_true, cond_false, wrap_i64, tmod_pos, tdiv_pos, inRange_yes, inUpto_yes, isZero_no, decide_eq_true, decide_eq_false, Bool.not_true, Bool.not_false, Int.toNat_natCast, Nat.mul_one, beqI_yes, beqI_no, bneI_yes, bneI_no, isNil_nil, isNil_iface, wr_wr, Option.isNone_none, Option.isNone_some, plus, Nat.zero_add, Nat.add_zero, if_pos (show v < 0 ∨ v ≥ 12 by omega)]; exact .some ⟨rfl, hQ⟩
    · have hlen := hl.len
      obtain ⟨a, n, H, hV, hO⟩ := hQ
      have hn := hV.len
      simp only [ints_length, Nat.mul_one] at hn
      have e := ldSl_of (sp := none) (off := 0) (hO.at 0 rfl) rfl
      simp (disch := omega) only [Option.bind_some, Option.map_some, cond_true, cond_false, wrap_i64, tmod_pos, tdiv_pos, inRange_yes, inUpto_yes, isZero_no, decide_eq_true, decide_eq_false, Bool.not_true, Bool.not_false, Int.toNat_natCast, Nat.mul_one, beqI_yes, beqI_no, bneI_yes, bneI_no, isNil_nil, isNil_iface, wr_wr, Option.isNone_none, Option.isNone_some, plus, Nat.zero_add, Nat.add_zero, e, contains_is k hV hO.tail (show n < 1000000 by omega) (show n < k by omega), patrol_Queue_Add_j1, if_neg (show ¬ (v < 0 ∨ v ≥ 12) by omega)]
      by_cases h3 : v ∈ l
      · simp (disch := omega) only [Option.bind_some, Option.map_some, cond_true, cond_false, wrap_i64, tmod_pos, tdiv_pos, inRange_yes, inUpto_yes, isZero_no, decide_eq_true, decide_eq_false, Bool.not_true, Bool.not_false, Int.toNat_natCast, Nat.mul_one, beqI_yes, beqI_no, bneI_yes, bneI_no, isNil_nil, isNil_iface, wr_wr, Option.isNone_none, Option.isNone_some, plus, Nat.zero_add, Nat.add_zero, decide_eq_true h3, if_pos h3]
        exact .some ⟨rfl, a, n, H, hV, hO⟩
      · have hO' : Own m (H ++ ((q, .live [.slice a n n]) :: F)) := by
          simpa using Own.blk [[(q, .live [.slice a n n])], H, F] [1, 0, 2] (by simpa using hO) (by decide)
        obtain ⟨a', m', e1, e2, e3⟩ := hV.one (y := 8) (v := .int .i64 v) hO' (by unfold most; omega) (by unfold most; omega)
        have e3' : Own m' ((q, .live [.slice a n n]) :: (slH a' (ints l ++ [.int .i64 v]) ++ F)) := by
          simpa using Own.blk [slH a' (ints l ++ [.int .i64 v]), [(q, .live [.slice a n n])], F] [1, 0, 2] (by simpa using e3) (by decide)
        simp (disch := omega) only [Option.bind_some, Option.map_some, cond_true, cond_false, wrap_i64, tmod_pos, tdiv_pos, inRange_yes, inUpto_yes, isZero_no, decide_eq_true, decide_eq_false, Bool.not_true, Bool.not_false, Int.toNat_natCast, Nat.mul_one, beqI_yes, beqI_no, bneI_yes, bneI_no, isNil_nil, isNil_iface, wr_wr, Option.isNone_none, Option.isNone_some, plus, Nat.zero_add, Nat.add_zero, decide_eq_false h3, if_neg h3, rdSl_new, e1, st_wr (sp := none) (off := 0) (v := .slice a' (n + 1) (n + 1)) (e3'.at 0 rfl) (by simp)]
        refine .some ⟨rfl, a', n + 1, _, ?_, e3'.wr 0 rfl _⟩
        rw [ints_append]; exact e2.vec
theorem queue_Next_ok (k : Nat) {m : Mem} {q : Nat} {l : List Int} {F : Heap} (hQ : Que m q l F) (hl : QWf l) :
    Ok (patrol_Queue_Next k (some ⟨q, 0, none⟩) m) fun r => r.1 = l.headD 0 ∧ r.2.1 = !l.isEmpty ∧ Que r.2.2 q l.tail F := by
  unfold patrol_Queue_Next
  have hlen := hl.len
  obtain ⟨a, n, H, hV, hO⟩ := hQ
  have hn := hV.len
  simp only [ints_length, Nat.mul_one] at hn
  have e := ldSl_of (sp := none) (off := 0) (hO.at 0 rfl) rfl
  cases l with
  | nil =>
    simp only [List.length_nil] at hn
    simp (disch := omega) only [Option.bind_some, Option.map_some, cond_true, cond_false, wrap_i64, tmod_pos, tdiv_pos, inRange_yes, inUpto_yes, isZero_no, decide_eq_true, decide_eq_false, Bool.not_true, Bool.not_false, Int.toNat_natCast, Nat.mul_one, beqI_yes, beqI_no, bneI_yes, bneI_no, isNil_nil, isNil_iface, wr_wr, Option.isNone_none, Option.isNone_some, plus, Nat.zero_add, Nat.add_zero, e]
    exact .some ⟨rfl, rfl, a, n, H, hV, hO⟩
  | cons x l =>
    simp only [List.length_cons] at hn hlen
    have hg := hV.get hO.tail (i := 0) (by omega) (show (ints (x :: l))[0]? = some (.int .i64 x) from rfl)
    rcases hV with ⟨_, h1, _, _⟩ | ⟨b, off, sp, cs, rfl, rfl, h2, h3, h4, h5⟩
    · omega
    · obtain ⟨b', off', sp', cs', h6, h7, h8⟩ := hg
      simp only [Option.some.injEq, Addr.mk.injEq] at h6
      obtain ⟨rfl, rfl, rfl⟩ := h6
      have hb := hO.at 1 rfl
      rw [hb] at h7; simp only [Option.some.injEq, MObj.live.injEq] at h7; subst h7
      have h8' : cs[off]? = some (.int .i64 x) := by simpa using h8
      have hz : sliceK.okZ (some ⟨b, off, sp⟩) 1 false = true := by
        rcases h5 with rfl | rfl <;> rfl
      have h1u : inUpto 1 n = true := inUpto_yes (by omega) (by omega)
      simp (disch := omega) only [Option.bind_some, Option.map_some, cond_true, cond_false, wrap_i64, tmod_pos, tdiv_pos, inRange_yes, inUpto_yes, isZero_no, decide_eq_true, decide_eq_false, Bool.not_true, Bool.not_false, Int.toNat_natCast, Nat.mul_one, beqI_yes, beqI_no, bneI_yes, bneI_no, isNil_nil, isNil_iface, wr_wr, Option.isNone_none, Option.isNone_some, plus, Nat.zero_add, Nat.add_zero, e, ldInt_of (sp := sp) hb h8', show (0 : Int).toNat = 0 from rfl, hz, h1u, Bool.and_true, sliceK.clear, show (1 : Int).toNat = 1 from rfl, List.headD_cons, List.isEmpty_cons, List.tail_cons]
      have hv : (cs.drop (off + 1)).take (n - 1) = ints l := by
        rw [Nat.mul_one] at h4
        have := congrArg (List.drop 1) h4
        rw [List.drop_take, List.drop_drop] at this
        rw [this]; rfl
      have hO' : Own m ((q, .live [.slice (some ⟨b, off, sp⟩) n n]) :: F) := hO.pick [0] 2 (by decide)
      refine .bind (clone_ok k hb (by omega) hv (by omega) hO') ?_
      rintro ⟨⟨a', n', c'⟩, m'⟩ ⟨H', hV', rfl, rfl, hO2⟩
      have hO3 : Own m' ((q, .live [.slice (some ⟨b, off, sp⟩) n n]) :: (H' ++ F)) := by
        simpa using Own.blk [H', [(q, .live [.slice (some ⟨b, off, sp⟩) n n])], F] [1, 0, 2] (by simpa using hO2) (by decide)
      simp (disch := omega) only [Option.bind_some, Option.map_some, cond_true, cond_false, wrap_i64, tmod_pos, tdiv_pos, inRange_yes, inUpto_yes, isZero_no, decide_eq_true, decide_eq_false, Bool.not_true, Bool.not_false, Int.toNat_natCast, Nat.mul_one, beqI_yes, beqI_no, bneI_yes, bneI_no, isNil_nil, isNil_iface, wr_wr, Option.isNone_none, Option.isNone_some, plus, Nat.zero_add, Nat.add_zero, st_wr (sp := none) (off := 0) (v := .slice a' (n - 1) (n - 1)) (hO3.at 0 rfl) (by simp)]
      exact .some ⟨rfl, rfl, a', n - 1, H', hV', hO3.wr 0 rfl _⟩
theorem queue_Len_is (k : Nat) {m : Mem} {q : Nat} {l : List Int} {F : Heap} (hQ : Que m q l F) : patrol_Queue_Len k (some ⟨q, 0, none⟩) m = some ((l.length : Int), m) := by
  obtain ⟨a, n, H, hV, hO⟩ := hQ
  have hn := hV.len
  simp only [ints_length, Nat.mul_one] at hn
  unfold patrol_Queue_Len
  simp (disch := omega) only [Option.bind_some, Option.map_some, cond_true, cond_false, wrap_i64, tmod_pos, tdiv_pos, inRange_yes, inUpto_yes, isZero_no, decide_eq_true, decide_eq_false, Bool.not_true, Bool.not_false, Int.toNat_natCast, Nat.mul_one, beqI_yes, beqI_no, bneI_yes, bneI_no, isNil_nil, isNil_iface, wr_wr, Option.isNone_none, Option.isNone_some, plus, Nat.zero_add, Nat.add_zero, ldSl_of (sp := none) (off := 0) (hO.at 0 rfl) rfl, hn]
end Go.Proofs.Yteilkkojcojaiaa
