/- What the checkpoints' functions do: those that write. -/
import Derived.Test.YtnilidpafijdlabCk
import Derived.Test.YtnilidpafijdlabErr
import Derived.Test.YtnilidpafijdlabFpoint
set_option linter.unusedVariables false
set_option linter.unusedSectionVars false
set_option linter.unusedSimpArgs false
namespace Go.Proofs.Ytnilidpafijdlab
open Go.Mx

def inSeq (v : Int) : Prop := 0 ≤ v ∧ v ≤ 1099511627775
instance (v : Int) : Decidable (inSeq v) := inferInstanceAs (Decidable (_ ∧ _))
structure Told (σ : Ck) : Prop where
  nx : inSeq σ.nx
  cu : 0 ≤ σ.cu ∧ σ.cu ≤ 95
  fl : ∀ j : Nat, j < 24 → inSeq (σ.fl j)
  rs : ∀ j : Nat, j < 12 → (0 ≤ σ.rd j ∧ σ.rd j ≤ 65535) ∧ (0 ≤ σ.sc j ∧ σ.sc j ≤ 255)
instance (σ : Ck) : Decidable (Told σ) :=
  if h : inSeq σ.nx ∧ (0 ≤ σ.cu ∧ σ.cu ≤ 95) ∧ (∀ j : Nat, j < 24 → inSeq (σ.fl j)) ∧ ∀ j : Nat, j < 12 → (0 ≤ σ.rd j ∧ σ.rd j ≤ 65535) ∧ (0 ≤ σ.sc j ∧ σ.sc j ≤ 255) then .isTrue ⟨h.1, h.2.1, h.2.2.1, h.2.2.2⟩ else .isFalse fun t => h ⟨t.nx, t.cu, t.fl, t.rs⟩
def cb (g : Int → Bool) (n : Int) : Int := if g n then 1 else 0
def bits (g : Int → Bool) : Nat → Int
  | 0 => 0
  | n + 1 => bits g n + cb g n * 2 ^ n
/-- what a checkpoint is written as -/
def enc (σ : Ck) : Int → Int := fun j =>
  if j < 120 then byteAt (σ.fl (j / 5)) (j % 5) else if j < 125 then byteAt σ.nx (j - 120) else if j < 127 then byteAt (bits σ.bad 12) (j - 125) else if j < 128 then byteAt σ.cu 0
  else if j < 152 then byteAt (σ.rd ((j - 128) / 2)) ((j - 128) % 2) else if j < 164 then byteAt (σ.sc (j - 152)) 0 else 0

theorem within_is (k : Nat) (v w : Int) (m : Mem) : point_within k v w m = some (decide (0 ≤ v ∧ v ≤ w), m) := by
  unfold point_within
  by_cases h : 0 ≤ v
  · have h2 : decide (v ≥ 0) = true := decide_eq_true h
    simp [h2, h]
  · have h2 : decide (v ≥ 0) = false := decide_eq_false h
    simp [h2, h]

theorem told_ok (k : Nat) (hk : 200 < k) {m : Mem} {σ : Ck} {F : Heap} (hO : Own m F) : Ok (point_told k (ckC σ) m) fun r => r.1 = decide (Told σ) ∧ Own r.2 F := by
  unfold point_told
  have h1 := hO.new (.live (ckC σ))
  have hl : Nat.beq (ckC σ).length 62 = true := by rw [ckC_len]; rfl
  have e1 := ldInt_of (sp := none) (h1.at 0 rfl) (off := 24) ck_nx
  have e2 := ldInt_of (sp := none) (h1.at 0 rfl) (off := 37) ck_cu
  have e3 := ldCells_of (n := 24) (sp := none) (h1.at 0 rfl) (off := 0) (by simp)
  rw [ck_tfl] at e3
  simp (disch := omega) only [Option.bind_some, Option.map_some, cond_true, cond_false, wrap_i64, tmod_pos, tdiv_pos, inRange_yes, inUpto_yes, isZero_no, decide_eq_true, decide_eq_false, Bool.not_true, Bool.not_false, Int.toNat_natCast, Nat.mul_one, beqI_yes, beqI_no, bneI_yes, bneI_no, isNil_nil, isNil_iface, wr_wr, Option.isNone_none, Option.isNone_some, plus, Nat.zero_add, Nat.add_zero, hl, e1, within_is, e3]
  generalize m ++ [MObj.live (ckC σ)] = m1 at h1 e1 e2 e3 ⊢
  generalize m.length = x1 at h1 e1 e2 e3 ⊢
  -- both loops, from any start
  have loops : ∀ x : Bool, x = decide (inSeq σ.nx ∧ 0 ≤ σ.cu ∧ σ.cu ≤ 95) → Ok (point_told_l0 k (fun y1 y3 m9 => point_told_l2 k (fun y3 m14 => some (y3, m14)) k y1 y3 0 m9) k ⟨x1, 0, none⟩ x (arr .i64 24 σ.fl) 0 m1) fun r => r.1 = decide (Told σ) ∧ Own r.2 F := by
    intro x hx
    refine point_told_l0_rule k _ (fun d y1 y3 ya yi m' => (⟨x1, 0, none⟩ : Addr) = y1 ∧ arr .i64 24 σ.fl = ya ∧ m1 = m' ∧ ∃ j : Nat, yi = j ∧ j + d = 24 ∧ y3 = (x && decide (∀ q : Nat, q < j → inSeq (σ.fl q)))) ?_ k 24 _ _ _ 0 _ (by omega) ⟨rfl, rfl, rfl, 0, rfl, by omega, by simp⟩
    rintro d nx _ _ _ _ _ ⟨rfl, rfl, rfl, j, rfl, hd, rfl⟩ hnx
    unfold point_told_l0_b
    by_cases h2 : j < 24
    · have e : cInt .i64 (arr .i64 24 σ.fl) j = some (σ.fl j) := by unfold cInt; rw [arr_get h2]; simp
      have go : ∀ y, y = (x && decide (∀ q : Nat, q < j + 1 → inSeq (σ.fl q))) → Ok (nx ⟨x1, 0, none⟩ y (arr .i64 24 σ.fl) (j + 1) m1) fun r => r.1 = decide (Told σ) ∧ Own r.2 F :=
        fun y hy => hnx (d - 1) _ _ _ _ _ (by omega) ⟨rfl, rfl, rfl, j + 1, by omega, by omega, hy⟩
      have hs : (x && decide (∀ q : Nat, q < j + 1 → inSeq (σ.fl q))) = ((x && decide (∀ q : Nat, q < j → inSeq (σ.fl q))) && decide (inSeq (σ.fl j))) := by
        rw [Bool.and_assoc, ← Bool.decide_and]
        congr 2
        refine propext ⟨fun h => ⟨fun q hq => h q (by omega), h j (by omega)⟩, fun h q hq => ?_⟩
        by_cases hqj : q = j
        · subst hqj; exact h.2
        · exact h.1 q (by omega)
      simp (disch := omega) only [Option.bind_some, Option.map_some, cond_true, cond_false, wrap_i64, tmod_pos, tdiv_pos, inRange_yes, inUpto_yes, isZero_no, decide_eq_true, decide_eq_false, Bool.not_true, Bool.not_false, Int.toNat_natCast, Nat.mul_one, beqI_yes, beqI_no, bneI_yes, bneI_no, isNil_nil, isNil_iface, wr_wr, Option.isNone_none, Option.isNone_some, plus, Nat.zero_add, Nat.add_zero, e, within_is, point_told_j1]
      cases hb : (x && decide (∀ q : Nat, q < j → inSeq (σ.fl q))) with
      | true =>
        simp only [cond_true]
        exact go _ (by rw [hs, hb, Bool.true_and]; rfl)
      | false =>
        simp only [cond_false]
        exact go _ (by rw [hs, hb, Bool.false_and])
    obtain rfl : j = 24 := by omega
    clear hnx
    simp (disch := omega) only [Option.bind_some, Option.map_some, cond_true, cond_false, wrap_i64, tmod_pos, tdiv_pos, inRange_yes, inUpto_yes, isZero_no, decide_eq_true, decide_eq_false, Bool.not_true, Bool.not_false, Int.toNat_natCast, Nat.mul_one, beqI_yes, beqI_no, bneI_yes, bneI_no, isNil_nil, isNil_iface, wr_wr, Option.isNone_none, Option.isNone_some, plus, Nat.zero_add, Nat.add_zero]
    refine point_told_l2_rule k _ (fun d y1 y3 yi m' => (⟨x1, 0, none⟩ : Addr) = y1 ∧ m1 = m' ∧ ∃ j : Nat, yi = j ∧ j + d = 12 ∧ y3 = ((x && decide (∀ q : Nat, q < 24 → inSeq (σ.fl q))) && decide (∀ q : Nat, q < j → (0 ≤ σ.rd q ∧ σ.rd q ≤ 65535) ∧ (0 ≤ σ.sc q ∧ σ.sc q ≤ 255)))) ?_ k 12 _ _ 0 _ (by omega) ⟨rfl, rfl, 0, rfl, by omega, by simp⟩
    rintro d nx _ _ _ _ ⟨rfl, rfl, j, rfl, hd, rfl⟩ hnx
    unfold point_told_l2_b
    generalize hX : (x && decide (∀ q : Nat, q < 24 → inSeq (σ.fl q))) = X at hnx ⊢
    by_cases h2 : j < 12
    · have e4 := ldInt_of (sp := none) (h1.at 0 rfl) (ck_rd h2)
      have e5 := ldInt_of (sp := none) (h1.at 0 rfl) (ck_sc h2)
      have go : ∀ y, y = (X && decide (∀ q : Nat, q < j + 1 → (0 ≤ σ.rd q ∧ σ.rd q ≤ 65535) ∧ (0 ≤ σ.sc q ∧ σ.sc q ≤ 255))) → Ok (nx ⟨x1, 0, none⟩ y (j + 1) m1) fun r => r.1 = decide (Told σ) ∧ Own r.2 F :=
        fun y hy => hnx (d - 1) _ _ _ _ (by omega) ⟨rfl, rfl, j + 1, by omega, by omega, hy⟩
      have hs : (X && decide (∀ q : Nat, q < j + 1 → (0 ≤ σ.rd q ∧ σ.rd q ≤ 65535) ∧ (0 ≤ σ.sc q ∧ σ.sc q ≤ 255))) = ((X && decide (∀ q : Nat, q < j → (0 ≤ σ.rd q ∧ σ.rd q ≤ 65535) ∧ (0 ≤ σ.sc q ∧ σ.sc q ≤ 255))) && (decide (0 ≤ σ.rd j ∧ σ.rd j ≤ 65535) && decide (0 ≤ σ.sc j ∧ σ.sc j ≤ 255))) := by
        rw [Bool.and_assoc, ← Bool.decide_and, ← Bool.decide_and]
        congr 2
        refine propext ⟨fun h => ⟨fun q hq => h q (by omega), h j (by omega)⟩, fun h q hq => ?_⟩
        by_cases hqj : q = j
        · subst hqj; exact h.2
        · exact h.1 q (by omega)
      generalize (X && decide (∀ q : Nat, q < j → (0 ≤ σ.rd q ∧ σ.rd q ≤ 65535) ∧ (0 ≤ σ.sc q ∧ σ.sc q ≤ 255))) = Y at hs ⊢
      cases Y with
      | true =>
        simp (disch := omega) only [Option.bind_some, Option.map_some, cond_true, cond_false, wrap_i64, tmod_pos, tdiv_pos, inRange_yes, inUpto_yes, isZero_no, decide_eq_true, decide_eq_false, Bool.not_true, Bool.not_false, Int.toNat_natCast, Nat.mul_one, beqI_yes, beqI_no, bneI_yes, bneI_no, isNil_nil, isNil_iface, wr_wr, Option.isNone_none, Option.isNone_some, plus, Nat.zero_add, Nat.add_zero, e4, within_is, point_told_j2]
        cases hr : decide (0 ≤ σ.rd j ∧ σ.rd j ≤ 65535) with
        | true =>
          simp (disch := omega) only [Option.bind_some, Option.map_some, cond_true, cond_false, wrap_i64, tmod_pos, tdiv_pos, inRange_yes, inUpto_yes, isZero_no, decide_eq_true, decide_eq_false, Bool.not_true, Bool.not_false, Int.toNat_natCast, Nat.mul_one, beqI_yes, beqI_no, bneI_yes, bneI_no, isNil_nil, isNil_iface, wr_wr, Option.isNone_none, Option.isNone_some, plus, Nat.zero_add, Nat.add_zero, e5, within_is]
          exact go _ (by rw [hs, hr, Bool.true_and, Bool.true_and])
        | false =>
          simp (disch := omega) only [Option.bind_some, Option.map_some, cond_true, cond_false, wrap_i64, tmod_pos, tdiv_pos, inRange_yes, inUpto_yes, isZero_no, decide_eq_true, decide_eq_false, Bool.not_true, Bool.not_false, Int.toNat_natCast, Nat.mul_one, beqI_yes, beqI_no, bneI_yes, bneI_no, isNil_nil, isNil_iface, wr_wr, Option.isNone_none, Option.isNone_some, plus, Nat.zero_add, Nat.add_zero]
          exact go _ (by rw [hs, hr, Bool.true_and, Bool.false_and])
      | false =>
        simp (disch := omega) only [Option.bind_some, Option.map_some, cond_true, cond_false, wrap_i64, tmod_pos, tdiv_pos, inRange_yes, inUpto_yes, isZero_no, decide_eq_true, decide_eq_false, Bool.not_true, Bool.not_false, Int.toNat_natCast, Nat.mul_one, beqI_yes, beqI_no, bneI_yes, bneI_no, isNil_nil, isNil_iface, wr_wr, Option.isNone_none, Option.isNone_some, plus, Nat.zero_add, Nat.add_zero, point_told_j2]
        exact go _ (by rw [hs, Bool.false_and])
    obtain rfl : j = 12 := by omega
    simp (disch := omega) only [Option.bind_some, Option.map_some, cond_true, cond_false, wrap_i64, tmod_pos, tdiv_pos, inRange_yes, inUpto_yes, isZero_no, decide_eq_true, decide_eq_false, Bool.not_true, Bool.not_false, Int.toNat_natCast, Nat.mul_one, beqI_yes, beqI_no, bneI_yes, bneI_no, isNil_nil, isNil_iface, wr_wr, Option.isNone_none, Option.isNone_some, plus, Nat.zero_add, Nat.add_zero]
    refine .some ⟨?_, h1.tail⟩
    rw [← hX, hx, ← Bool.decide_and, ← Bool.decide_and]
    simp only
    congr 1
    exact propext ⟨fun h => ⟨h.1.1.1, h.1.1.2, h.1.2, h.2⟩, fun h => ⟨⟨⟨h.nx, h.cu⟩, h.fl⟩, h.rs⟩⟩
  by_cases hn : 0 ≤ σ.nx ∧ σ.nx ≤ 1099511627775
  · rw [decide_eq_true hn]
    simp (disch := omega) only [Option.bind_some, Option.map_some, cond_true, cond_false, wrap_i64, tmod_pos, tdiv_pos, inRange_yes, inUpto_yes, isZero_no, decide_eq_true, decide_eq_false, Bool.not_true, Bool.not_false, Int.toNat_natCast, Nat.mul_one, beqI_yes, beqI_no, bneI_yes, bneI_no, isNil_nil, isNil_iface, wr_wr, Option.isNone_none, Option.isNone_some, plus, Nat.zero_add, Nat.add_zero, e2, within_is, e3]
    exact loops _ (by
      have : inSeq σ.nx := hn
      simp [this])
  · rw [decide_eq_false hn]
    simp (disch := omega) only [Option.bind_some, Option.map_some, cond_true, cond_false, wrap_i64, tmod_pos, tdiv_pos, inRange_yes, inUpto_yes, isZero_no, decide_eq_true, decide_eq_false, Bool.not_true, Bool.not_false, Int.toNat_natCast, Nat.mul_one, beqI_yes, beqI_no, bneI_yes, bneI_no, isNil_nil, isNil_iface, wr_wr, Option.isNone_none, Option.isNone_some, plus, Nat.zero_add, Nat.add_zero, e3]
    exact loops _ (by
      have : ¬ inSeq σ.nx := hn
      simp [this])

/-- the writer at a place -/
def wrt (b n : Nat) : MObj := .live [.slice (some ⟨b, 0, none⟩) n 174]
theorem put_ok (k : Nat) (hk : 10 < k) {m : Mem} {w b n l : Nat} {v : Int} {f : Int → Int} {F : Heap} (hO : Own m ((w, wrt b n) :: (b, .live (arr .u8 174 f)) :: F)) (hl : l ≤ 5) (hn : n + l ≤ 174) {p : Int} (hp : p = l) :
    Ok (point_writer_put k (some ⟨w, 0, none⟩) v p m) fun m' => Own m' ((w, wrt b (n + l)) :: (b, .live (arr .u8 174 fun i => if (n : Int) ≤ i ∧ i < n + l then byteAt v (i - n) else f i)) :: F) := by
  subst hp
  unfold point_writer_put
  refine point_writer_put_l0_rule k _ (fun d y0 y1 y7 y8 m' => (some ⟨w, 0, none⟩ : Option Addr) = y0 ∧ v = y1 ∧ (l : Int) = y7 ∧ ∃ j : Nat, y8 = j ∧ j + d = l ∧
    Own m' ((w, wrt b (n + j)) :: (b, .live (arr .u8 174 fun i => if (n : Int) ≤ i ∧ i < n + j then byteAt v (i - n) else f i)) :: F)) ?_ k l _ _ _ 0 _ (by omega) ⟨rfl, rfl, rfl, 0, rfl, by omega, by
      rw [arr_congr (f := fun i => if (n : Int) ≤ i ∧ i < n + (0 : Nat) then byteAt v (i - n) else f i) (g := f) fun i h1 h2 => if_neg (by omega)]; exact hO⟩
  clear hO
  rintro d nx _ _ _ _ m' ⟨rfl, rfl, rfl, j, rfl, hd, hO⟩ hnx
  unfold point_writer_put_l0_b
  by_cases h1 : j < l
  · have e1 := ldSl_of (sp := none) (hO.at 0 rfl) (off := 0) rfl
    have ev : IntKind.wrap .u8 (shrI .i64 v (8 * (j : Int))) = byteAt v j := by
      rw [wrap_u8, shr_small (i := (j : Int)) (by omega) (by omega)]; rfl
    have h3 := hO.grow [.live [Value.int .u8 (byteAt v j)]]
    have e1' := ldSl_of (sp := none) (h3.at 0 rfl) (off := 0) rfl
    have e2 := stCells_wr (sp := none) (vs := arr .u8 1 fun _ => byteAt v j) (h3.at 1 rfl) (off := n + j) (by simp; omega)
    rw [arr_length, arr_put (n := 174) (o := n + j) (l := 1) (by omega), show arr .u8 1 (fun _ => byteAt v j) = [Value.int .u8 (byteAt v j)] from rfl] at e2
    have h4 := h3.wr 1 rfl (arr .u8 174 fun i => if ((n + j : Nat) : Int) ≤ i ∧ i < ((n + j : Nat) : Int) + ((1 : Nat) : Int) then (fun _ => byteAt v j) (i - ((n + j : Nat) : Int)) else (fun i => if (n : Int) ≤ i ∧ i < n + j then byteAt v (i - n) else f i) i)
    have e3 := st_wr (sp := none) (v := Value.slice (some ⟨b, 0, none⟩) (n + j + 1) 174) (h4.at 0 rfl) (off := 0) (by simp)
    have h5 := h4.wr 0 rfl [Value.slice (some ⟨b, 0, none⟩) (n + j + 1) 174]
    have hc : (decide True && Nat.beq (n + j) (n + j) && Nat.beq 174 174) = true := by simp [Nat.beq_refl]
    simp (disch := omega) only [Option.bind_some, Option.map_some, cond_true, cond_false, wrap_i64, tmod_pos, tdiv_pos, inRange_yes, inUpto_yes, isZero_no, decide_eq_true, decide_eq_false, Bool.not_true, Bool.not_false, Int.toNat_natCast, Nat.mul_one, beqI_yes, beqI_no, bneI_yes, bneI_no, isNil_nil, isNil_iface, wr_wr, Option.isNone_none, Option.isNone_some, plus, Nat.zero_add, Nat.add_zero, e1, ev, rdSl_new, appM_room, e2, e3, e1', hc]
    refine hnx (d - 1) _ _ _ _ _ (by omega) ⟨rfl, rfl, rfl, j + 1, by omega, by omega, ?_⟩
    have ec := arr_congr (k := .u8) (n := 174) (f := fun i => if ((n + j : Nat) : Int) ≤ i ∧ i < ((n + j : Nat) : Int) + ((1 : Nat) : Int) then (fun _ => byteAt v j) (i - ((n + j : Nat) : Int)) else (fun i => if (n : Int) ≤ i ∧ i < n + j then byteAt v (i - n) else f i) i)
      (g := fun i => if (n : Int) ≤ i ∧ i < n + ((j + 1 : Nat) : Int) then byteAt v (i - n) else f i) fun i h6 h7 => by
      by_cases h8 : ((n + j : Nat) : Int) ≤ i ∧ i < ((n + j : Nat) : Int) + ((1 : Nat) : Int)
      · simp only [if_pos h8]
        rw [if_pos (by omega), show i - (n : Int) = j by omega]
      · simp only [if_neg h8]
        by_cases h9 : (n : Int) ≤ i ∧ i < n + j
        · rw [if_pos h9, if_pos (by omega)]
        · rw [if_neg h9, if_neg (by omega)]
    rw [← ec]
    exact h5
  · obtain rfl : j = l := by omega
    simp (disch := omega) only [Option.bind_some, Option.map_some, cond_true, cond_false, wrap_i64, tmod_pos, tdiv_pos, inRange_yes, inUpto_yes, isZero_no, decide_eq_true, decide_eq_false, Bool.not_true, Bool.not_false, Int.toNat_natCast, Nat.mul_one, beqI_yes, beqI_no, bneI_yes, bneI_no, isNil_nil, isNil_iface, wr_wr, Option.isNone_none, Option.isNone_some, plus, Nat.zero_add, Nat.add_zero]
    exact .some hO

def upto (σ : Ck) (N : Nat) : Int → Int := fun i => if i < N then enc σ i else 0
theorem putE (k : Nat) (hk : 10 < k) {m : Mem} {w b N l : Nat} {v : Int} {σ : Ck} {F : Heap} (hO : Own m ((w, wrt b N) :: (b, .live (arr .u8 174 (upto σ N))) :: F)) (hl : l ≤ 5) (hn : N + l ≤ 174) {p : Int} (hp : p = l)
    (he : ∀ i : Int, N ≤ i → i < N + l → enc σ i = byteAt v (i - N)) :
    Ok (point_writer_put k (some ⟨w, 0, none⟩) v p m) fun m' => Own m' ((w, wrt b (N + l)) :: (b, .live (arr .u8 174 (upto σ (N + l)))) :: F) := by
  refine (put_ok k hk hO hl hn hp).mono fun m' h => ?_
  rw [arr_congr (g := upto σ (N + l)) fun i h1 h2 => ?_] at h
  · exact h
  · unfold upto
    by_cases h3 : (N : Int) ≤ i ∧ i < N + l
    · rw [if_pos h3, if_pos (by omega), he i h3.1 h3.2]
    · rw [if_neg h3]
      by_cases h4 : i < N
      · rw [if_pos h4, if_pos (by omega)]
      · rw [if_neg h4, if_neg (by omega)]

theorem cb_bd (g : Int → Bool) (n : Int) : 0 ≤ cb g n ∧ cb g n ≤ 1 := by unfold cb; split <;> omega
theorem bits_bd (g : Int → Bool) : ∀ n : Nat, 0 ≤ bits g n ∧ bits g n < 2 ^ n
  | 0 => by simp [bits]
  | n + 1 => by
    have h := bits_bd g n
    have h2 : (0 : Int) < 2 ^ n := Int.pow_pos (by omega)
    rw [bits, Int.pow_succ]
    unfold cb
    split <;> omega
theorem or_bit {x : Int} {j : Nat} (hj : j < 12) (hx : 0 ≤ x) (hx2 : x < 2 ^ j) : bitI .or .i64 x (shlI .i64 1 j) = x + 2 ^ j := by
  have e : shlI .i64 1 j = 2 ^ j := by
    rcases pow2_12 (show j ≤ 12 by omega) with rfl | rfl | rfl | rfl | rfl | rfl | rfl | rfl | rfl | rfl | rfl | rfl | rfl <;> rfl
  rw [e]
  have h2 : (0 : Int) < 2 ^ j := Int.pow_pos (by omega)
  have h3 : (2 : Int) ^ j ≤ 4096 := by
    rcases pow2_12 (show j ≤ 12 by omega) with rfl | rfl | rfl | rfl | rfl | rfl | rfl | rfl | rfl | rfl | rfl | rfl | rfl <;> decide
  rw [bit_or hx (by omega) (by omega) (by omega)]
  have e2 : ((2 : Int) ^ j).toNat = 2 ^ j := by
    rcases pow2_12 (show j ≤ 12 by omega) with rfl | rfl | rfl | rfl | rfl | rfl | rfl | rfl | rfl | rfl | rfl | rfl | rfl <;> rfl
  have h4 : ((2 ^ j : Nat) : Int) = (2 : Int) ^ j := by simp
  have h5 := @or_disj x.toNat 1 j (by omega)
  rw [Nat.one_mul] at h5
  rw [e2, h5]; omega

theorem Write_ok (k : Nat) (hk : 200 < k) {m : Mem} {σ : Ck} {F : Heap} (hO : Own m F) :
    Ok (point_Write k (ckC σ) m) fun r => (Told σ → ∃ b, r.1 = ⟨some ⟨b, 0, none⟩, 174, 174⟩ ∧ r.2.1 = .nilIface ∧ Own r.2.2 ((b, .live (arr .u8 174 (enc σ))) :: F)) ∧ (¬ Told σ → r.1 = ⟨none, 0, 0⟩ ∧ r.2.1 = errC 1 ∧ Own r.2.2 F) := by
  unfold point_Write
  have h1 := hO.new (.live (ckC σ))
  have hl : Nat.beq (ckC σ).length 62 = true := by rw [ckC_len]; rfl
  have e1 := ldCells_of (n := 62) (sp := none) (h1.at 0 rfl) (off := 0) (by simp)
  rw [List.drop_zero, List.take_of_length_le (by simp)] at e1
  simp (disch := omega) only [Option.bind_some, Option.map_some, cond_true, cond_false, wrap_i64, tmod_pos, tdiv_pos, inRange_yes, inUpto_yes, isZero_no, decide_eq_true, decide_eq_false, Bool.not_true, Bool.not_false, Int.toNat_natCast, Nat.mul_one, beqI_yes, beqI_no, bneI_yes, bneI_no, isNil_nil, isNil_iface, wr_wr, Option.isNone_none, Option.isNone_some, plus, Nat.zero_add, Nat.add_zero, hl, e1]
  generalize m ++ [MObj.live (ckC σ)] = m1 at h1 e1 ⊢
  generalize m.length = x1 at h1 e1 ⊢
  refine .bind (told_ok k hk h1) ?_
  rintro ⟨_, m2⟩ ⟨rfl, h2⟩
  by_cases ht : Told σ
  rotate_left
  · rw [decide_eq_false ht]
    simp (disch := omega) only [Option.bind_some, Option.map_some, cond_true, cond_false, wrap_i64, tmod_pos, tdiv_pos, inRange_yes, inUpto_yes, isZero_no, decide_eq_true, decide_eq_false, Bool.not_true, Bool.not_false, Int.toNat_natCast, Nat.mul_one, beqI_yes, beqI_no, bneI_yes, bneI_no, isNil_nil, isNil_iface, wr_wr, Option.isNone_none, Option.isNone_some, plus, Nat.zero_add, Nat.add_zero]
    exact .some ⟨fun h => absurd h ht, fun _ => ⟨rfl, rfl, h2.tail⟩⟩
  rw [decide_eq_true ht]
  simp only at h2
  have t174 : Int.toNat 174 = 174 := rfl
  have t0 : Int.toNat 0 = 0 := rfl
  have h3 := (h2.new (.live (arr .u8 174 (upto σ 0)))).new (.live [.slice (some ⟨m2.length, 0, none⟩) 0 174])
  have e0 : arr .u8 174 (fun _ => 0) = arr .u8 174 (upto σ 0) := arr_congr fun i h4 h5 => by unfold upto; rw [if_neg (by omega)]
  simp (disch := omega) only [Option.bind_some, Option.map_some, cond_true, cond_false, wrap_i64, tmod_pos, tdiv_pos, inRange_yes, inUpto_yes, isZero_no, decide_eq_true, decide_eq_false, Bool.not_true, Bool.not_false, Int.toNat_natCast, Nat.mul_one, beqI_yes, beqI_no, bneI_yes, bneI_no, isNil_nil, isNil_iface, wr_wr, Option.isNone_none, Option.isNone_some, plus, Nat.zero_add, Nat.add_zero, t174, t0, repl_int, e0]
  generalize m2 ++ [MObj.live (arr .u8 174 (upto σ 0))] ++ [MObj.live [Value.slice (some ⟨m2.length, 0, none⟩) 0 174]] = m3 at h3 ⊢
  generalize (m2 ++ [MObj.live (arr .u8 174 (upto σ 0))]).length = w at h3 ⊢
  generalize m2.length = b at h3 ⊢
  have f1 := ldCells_of (n := 24) (sp := none) (h3.at 2 rfl) (off := 0) (by simp)
  rw [ck_tfl] at f1
  simp (disch := omega) only [Option.bind_some, Option.map_some, cond_true, cond_false, wrap_i64, tmod_pos, tdiv_pos, inRange_yes, inUpto_yes, isZero_no, decide_eq_true, decide_eq_false, Bool.not_true, Bool.not_false, Int.toNat_natCast, Nat.mul_one, beqI_yes, beqI_no, bneI_yes, bneI_no, isNil_nil, isNil_iface, wr_wr, Option.isNone_none, Option.isNone_some, plus, Nat.zero_add, Nat.add_zero, f1]
  clear e0 e1 f1
  -- the floors
  refine point_Write_l0_rule k _ (fun d y1 y4 ya i m' => (⟨x1, 0, none⟩ : Addr) = y1 ∧ (⟨w, 0, none⟩ : Addr) = y4 ∧ arr .i64 24 σ.fl = ya ∧ ∃ j : Nat, i = j ∧ j + d = 24 ∧ Own m' ((w, wrt b (5 * j)) :: (b, .live (arr .u8 174 (upto σ (5 * j)))) :: (x1, .live (ckC σ)) :: F)) ?_ k 24 _ _ _ 0 _ (by omega) ⟨rfl, rfl, rfl, 0, rfl, by omega, h3⟩
  clear h3 h2
  rintro d nx _ _ _ _ m' ⟨rfl, rfl, rfl, j, rfl, hd, h2⟩ hnx
  unfold point_Write_l0_b
  by_cases h3 : j < 24
  · have e : cInt .i64 (arr .i64 24 σ.fl) j = some (σ.fl j) := by unfold cInt; rw [arr_get h3]; simp
    simp (disch := omega) only [Option.bind_some, Option.map_some, cond_true, cond_false, wrap_i64, tmod_pos, tdiv_pos, inRange_yes, inUpto_yes, isZero_no, decide_eq_true, decide_eq_false, Bool.not_true, Bool.not_false, Int.toNat_natCast, Nat.mul_one, beqI_yes, beqI_no, bneI_yes, bneI_no, isNil_nil, isNil_iface, wr_wr, Option.isNone_none, Option.isNone_some, plus, Nat.zero_add, Nat.add_zero, e]
    refine .bind (putE k (by omega) h2 (l := 5) (by omega) (by omega) rfl (v := σ.fl j) fun i h4 h5 => by
      unfold enc
      rw [if_pos (by omega), show i / 5 = j by omega, show i % 5 = i - (5 * j : Nat) by omega]) ?_
    intro m4 h4
    exact hnx (d - 1) _ _ _ _ _ (by omega) ⟨rfl, rfl, rfl, j + 1, by omega, by omega, h4⟩
  obtain rfl : j = 24 := by omega
  clear hnx
  have h2 : Own m' ((w, wrt b 120) :: (b, .live (arr .u8 174 (upto σ 120))) :: (x1, .live (ckC σ)) :: F) := h2
  have e1 := ldInt_of (sp := none) (h2.at 2 rfl) (off := 24) ck_nx
  simp (disch := omega) only [Option.bind_some, Option.map_some, cond_true, cond_false, wrap_i64, tmod_pos, tdiv_pos, inRange_yes, inUpto_yes, isZero_no, decide_eq_true, decide_eq_false, Bool.not_true, Bool.not_false, Int.toNat_natCast, Nat.mul_one, beqI_yes, beqI_no, bneI_yes, bneI_no, isNil_nil, isNil_iface, wr_wr, Option.isNone_none, Option.isNone_some, plus, Nat.zero_add, Nat.add_zero, e1]
  clear e1
  refine .bind (putE k (by omega) h2 (l := 5) (by omega) (by omega) rfl (v := σ.nx) fun i h4 h5 => by
    unfold enc
    rw [if_neg (by omega), if_pos (by omega)]; rfl) ?_
  intro m4 h4
  clear h2
  have e1 := ldCells_of (n := 12) (sp := none) (h4.at 2 rfl) (off := 25) (by simp)
  rw [ck_tbad] at e1
  simp (disch := omega) only [Option.bind_some, Option.map_some, cond_true, cond_false, wrap_i64, tmod_pos, tdiv_pos, inRange_yes, inUpto_yes, isZero_no, decide_eq_true, decide_eq_false, Bool.not_true, Bool.not_false, Int.toNat_natCast, Nat.mul_one, beqI_yes, beqI_no, bneI_yes, bneI_no, isNil_nil, isNil_iface, wr_wr, Option.isNone_none, Option.isNone_some, plus, Nat.zero_add, Nat.add_zero, e1]
  clear e1
  -- the bad ones
  refine point_Write_l2_rule k _ (fun d y1 y4 y7 ya i m' => (⟨x1, 0, none⟩ : Addr) = y1 ∧ (⟨w, 0, none⟩ : Addr) = y4 ∧ barr 12 σ.bad = ya ∧ m4 = m' ∧ ∃ j : Nat, i = j ∧ j + d = 12 ∧ bits σ.bad j = y7) ?_ k 12 _ _ _ _ 0 _ (by omega) ⟨rfl, rfl, rfl, rfl, 0, rfl, by omega, rfl⟩
  rintro d nx _ _ _ _ _ _ ⟨rfl, rfl, rfl, rfl, j, rfl, hd, rfl⟩ hnx
  unfold point_Write_l2_b
  by_cases h3 : j < 12
  · have e : cBool (barr 12 σ.bad) j = some (σ.bad j) := by unfold cBool; rw [barr_get h3]
    have hb := bits_bd σ.bad j
    have go : ∀ y, y = bits σ.bad (j + 1) → Ok (nx ⟨x1, 0, none⟩ ⟨w, 0, none⟩ y (barr 12 σ.bad) (j + 1) m4) _ := fun y hy => hnx (d - 1) _ _ _ _ _ _ (by omega) ⟨rfl, rfl, rfl, rfl, j + 1, by omega, by omega, hy.symm⟩
    simp (disch := omega) only [Option.bind_some, Option.map_some, cond_true, cond_false, wrap_i64, tmod_pos, tdiv_pos, inRange_yes, inUpto_yes, isZero_no, decide_eq_true, decide_eq_false, Bool.not_true, Bool.not_false, Int.toNat_natCast, Nat.mul_one, beqI_yes, beqI_no, bneI_yes, bneI_no, isNil_nil, isNil_iface, wr_wr, Option.isNone_none, Option.isNone_some, plus, Nat.zero_add, Nat.add_zero, e, point_Write_j1]
    cases hbj : σ.bad j with
    | true =>
      simp (disch := omega) only [Option.bind_some, Option.map_some, cond_true, cond_false, wrap_i64, tmod_pos, tdiv_pos, inRange_yes, inUpto_yes, isZero_no, decide_eq_true, decide_eq_false, Bool.not_true, Bool.not_false, Int.toNat_natCast, Nat.mul_one, beqI_yes, beqI_no, bneI_yes, bneI_no, isNil_nil, isNil_iface, wr_wr, Option.isNone_none, Option.isNone_some, plus, Nat.zero_add, Nat.add_zero, or_bit]
      exact go _ (by rw [bits, cb, hbj]; simp)
    | false =>
      simp (disch := omega) only [Option.bind_some, Option.map_some, cond_true, cond_false, wrap_i64, tmod_pos, tdiv_pos, inRange_yes, inUpto_yes, isZero_no, decide_eq_true, decide_eq_false, Bool.not_true, Bool.not_false, Int.toNat_natCast, Nat.mul_one, beqI_yes, beqI_no, bneI_yes, bneI_no, isNil_nil, isNil_iface, wr_wr, Option.isNone_none, Option.isNone_some, plus, Nat.zero_add, Nat.add_zero]
      exact go _ (by rw [bits, cb, hbj]; simp)
  obtain rfl : j = 12 := by omega
  clear hnx
  simp (disch := omega) only [Option.bind_some, Option.map_some, cond_true, cond_false, wrap_i64, tmod_pos, tdiv_pos, inRange_yes, inUpto_yes, isZero_no, decide_eq_true, decide_eq_false, Bool.not_true, Bool.not_false, Int.toNat_natCast, Nat.mul_one, beqI_yes, beqI_no, bneI_yes, bneI_no, isNil_nil, isNil_iface, wr_wr, Option.isNone_none, Option.isNone_some, plus, Nat.zero_add, Nat.add_zero]
  refine .bind (putE k (by omega) h4 (l := 2) (by omega) (by omega) rfl (v := bits σ.bad 12) fun i h4 h5 => by
    unfold enc
    rw [if_neg (by omega), if_neg (by omega), if_pos (by omega)]; rfl) ?_
  intro m5 h5
  clear h4
  have e1 := ldInt_of (sp := none) (h5.at 2 rfl) (off := 37) ck_cu
  simp (disch := omega) only [Option.bind_some, Option.map_some, cond_true, cond_false, wrap_i64, tmod_pos, tdiv_pos, inRange_yes, inUpto_yes, isZero_no, decide_eq_true, decide_eq_false, Bool.not_true, Bool.not_false, Int.toNat_natCast, Nat.mul_one, beqI_yes, beqI_no, bneI_yes, bneI_no, isNil_nil, isNil_iface, wr_wr, Option.isNone_none, Option.isNone_some, plus, Nat.zero_add, Nat.add_zero, e1]
  clear e1
  refine .bind (putE k (by omega) h5 (l := 1) (by omega) (by omega) rfl (v := σ.cu) fun i h4 h5 => by
    unfold enc
    rw [if_neg (by omega), if_neg (by omega), if_neg (by omega), if_pos (by omega)]
    congr 1; omega) ?_
  intro m6 h6
  clear h5
  have e1 := ldCells_of (n := 12) (sp := none) (h6.at 2 rfl) (off := 38) (by simp)
  rw [ck_trd] at e1
  simp (disch := omega) only [Option.bind_some, Option.map_some, cond_true, cond_false, wrap_i64, tmod_pos, tdiv_pos, inRange_yes, inUpto_yes, isZero_no, decide_eq_true, decide_eq_false, Bool.not_true, Bool.not_false, Int.toNat_natCast, Nat.mul_one, beqI_yes, beqI_no, bneI_yes, bneI_no, isNil_nil, isNil_iface, wr_wr, Option.isNone_none, Option.isNone_some, plus, Nat.zero_add, Nat.add_zero, e1]
  clear e1
  -- the reads
  refine point_Write_l4_rule k _ (fun d y1 y4 ya i m' => (⟨x1, 0, none⟩ : Addr) = y1 ∧ (⟨w, 0, none⟩ : Addr) = y4 ∧ arr .i64 12 σ.rd = ya ∧ ∃ j : Nat, i = j ∧ j + d = 12 ∧ Own m' ((w, wrt b (128 + 2 * j)) :: (b, .live (arr .u8 174 (upto σ (128 + 2 * j)))) :: (x1, .live (ckC σ)) :: F)) ?_ k 12 _ _ _ 0 _ (by omega) ⟨rfl, rfl, rfl, 0, rfl, by omega, h6⟩
  clear h6
  rintro d nx _ _ _ _ m' ⟨rfl, rfl, rfl, j, rfl, hd, h2⟩ hnx
  unfold point_Write_l4_b
  by_cases h3 : j < 12
  · have e : cInt .i64 (arr .i64 12 σ.rd) j = some (σ.rd j) := by unfold cInt; rw [arr_get h3]; simp
    simp (disch := omega) only [Option.bind_some, Option.map_some, cond_true, cond_false, wrap_i64, tmod_pos, tdiv_pos, inRange_yes, inUpto_yes, isZero_no, decide_eq_true, decide_eq_false, Bool.not_true, Bool.not_false, Int.toNat_natCast, Nat.mul_one, beqI_yes, beqI_no, bneI_yes, bneI_no, isNil_nil, isNil_iface, wr_wr, Option.isNone_none, Option.isNone_some, plus, Nat.zero_add, Nat.add_zero, e]
    refine .bind (putE k (by omega) h2 (l := 2) (by omega) (by omega) rfl (v := σ.rd j) fun i h4 h5 => by
      unfold enc
      rw [if_neg (by omega), if_neg (by omega), if_neg (by omega), if_neg (by omega), if_pos (by omega), show (i - 128) / 2 = j by omega, show (i - 128) % 2 = i - (128 + 2 * j : Nat) by omega]) ?_
    intro m4 h4
    exact hnx (d - 1) _ _ _ _ _ (by omega) ⟨rfl, rfl, rfl, j + 1, by omega, by omega, h4⟩
  obtain rfl : j = 12 := by omega
  clear hnx
  have h2 : Own m' ((w, wrt b 152) :: (b, .live (arr .u8 174 (upto σ 152))) :: (x1, .live (ckC σ)) :: F) := h2
  have e1 := ldCells_of (n := 12) (sp := none) (h2.at 2 rfl) (off := 50) (by simp)
  rw [ck_tsc] at e1
  simp (disch := omega) only [Option.bind_some, Option.map_some, cond_true, cond_false, wrap_i64, tmod_pos, tdiv_pos, inRange_yes, inUpto_yes, isZero_no, decide_eq_true, decide_eq_false, Bool.not_true, Bool.not_false, Int.toNat_natCast, Nat.mul_one, beqI_yes, beqI_no, bneI_yes, bneI_no, isNil_nil, isNil_iface, wr_wr, Option.isNone_none, Option.isNone_some, plus, Nat.zero_add, Nat.add_zero, e1]
  clear e1
  -- the scores
  refine point_Write_l6_rule k _ (fun d y4 ya i m' => (⟨w, 0, none⟩ : Addr) = y4 ∧ arr .i64 12 σ.sc = ya ∧ ∃ j : Nat, i = j ∧ j + d = 12 ∧ Own m' ((w, wrt b (152 + j)) :: (b, .live (arr .u8 174 (upto σ (152 + j)))) :: (x1, .live (ckC σ)) :: F)) ?_ k 12 _ _ 0 _ (by omega) ⟨rfl, rfl, 0, rfl, by omega, h2⟩
  clear h2
  rintro d nx _ _ _ m' ⟨rfl, rfl, j, rfl, hd, h2⟩ hnx
  unfold point_Write_l6_b
  by_cases h3 : j < 12
  · have e : cInt .i64 (arr .i64 12 σ.sc) j = some (σ.sc j) := by unfold cInt; rw [arr_get h3]; simp
    simp (disch := omega) only [Option.bind_some, Option.map_some, cond_true, cond_false, wrap_i64, tmod_pos, tdiv_pos, inRange_yes, inUpto_yes, isZero_no, decide_eq_true, decide_eq_false, Bool.not_true, Bool.not_false, Int.toNat_natCast, Nat.mul_one, beqI_yes, beqI_no, bneI_yes, bneI_no, isNil_nil, isNil_iface, wr_wr, Option.isNone_none, Option.isNone_some, plus, Nat.zero_add, Nat.add_zero, e]
    refine .bind (putE k (by omega) h2 (l := 1) (by omega) (by omega) rfl (v := σ.sc j) fun i h4 h5 => by
      unfold enc
      rw [if_neg (by omega), if_neg (by omega), if_neg (by omega), if_neg (by omega), if_neg (by omega), if_pos (by omega), show i - 152 = j by omega]
      congr 1; omega) ?_
    intro m4 h4
    exact hnx (d - 1) _ _ _ _ (by omega) ⟨rfl, rfl, j + 1, by omega, by omega, h4⟩
  obtain rfl : j = 12 := by omega
  clear hnx
  have e1 := ldSl_of (sp := none) (h2.at 0 rfl) (off := 0) rfl
  simp (disch := omega) only [Option.bind_some, Option.map_some, cond_true, cond_false, wrap_i64, tmod_pos, tdiv_pos, inRange_yes, inUpto_yes, isZero_no, decide_eq_true, decide_eq_false, Bool.not_true, Bool.not_false, Int.toNat_natCast, Nat.mul_one, beqI_yes, beqI_no, bneI_yes, bneI_no, isNil_nil, isNil_iface, wr_wr, Option.isNone_none, Option.isNone_some, plus, Nat.zero_add, Nat.add_zero, e1, t174, clear_is]
  refine .some ⟨fun _ => ⟨b, rfl, rfl, ?_⟩, fun h => absurd ht h⟩
  have h5 := h2.pick [1] 3 (by decide)
  rw [arr_congr (f := enc σ) (g := upto σ (152 + 12)) fun i h6 h7 => by
    unfold upto
    by_cases h8 : i < ((152 + 12 : Nat) : Int)
    · rw [if_pos h8]
    · rw [if_neg h8]; unfold enc
      rw [if_neg (by omega), if_neg (by omega), if_neg (by omega), if_neg (by omega), if_neg (by omega), if_neg (by omega)]]
  simpa [pickL] using h5
end Go.Proofs.Ytnilidpafijdlab
