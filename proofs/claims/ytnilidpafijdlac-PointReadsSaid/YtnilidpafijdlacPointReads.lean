/- The plain law of PointReads: any bytes are read as their checkpoint, or refused. -/
import Derived.Test.YtnilidpafijdlacPointR
import Derived.Test.YtnilidpafijdlacFLPointReads
set_option linter.unusedVariables false
set_option linter.unusedSectionVars false
set_option linter.unusedSimpArgs false
namespace Go.Proofs.Ytnilidpafijdlac
open Go.Mx

theorem str_arr (n : Nat) (f : Int → Int) : ∃ s, strOf (arr .u8 n f) = some s := by
  have h : ∀ l : List Nat, ∃ t, strOf.strGo (l.map fun i : Nat => Value.int .u8 (f (i : Int))) = some t := by
    intro l
    induction l with
    | nil => exact ⟨[], rfl⟩
    | cons x l ih =>
      obtain ⟨t, ht⟩ := ih
      exact ⟨UInt8.ofNat (f x).toNat :: t, by simp [strOf.strGo, ht]⟩
  obtain ⟨t, ht⟩ := h (List.range n)
  unfold arr strOf
  cases hr : (List.range n).map fun i : Nat => Value.int .u8 (f (i : Int)) with
  | nil => exact ⟨_, rfl⟩
  | cons v vs => rw [hr] at ht; exact ⟨⟨t.toArray⟩, by show Option.map _ (strOf.strGo (v :: vs)) = _; rw [ht]; rfl⟩
theorem strEq_self (s : ByteArray) : strEq s s = true := by unfold strEq; simp
theorem same09_is (k : Nat) {a a' : Option Addr} {n c c' : Nat} {f : Int → Int} {m : Mem} (h1 : rdSl m a n 1 = some (arr .u8 n f)) (h2 : rdSl m a' n 1 = some (arr .u8 n f)) : patinaref09_Same k a n c a' n c' m = some (true, m) := by
  obtain ⟨s, hs⟩ := str_arr n f
  unfold patinaref09_Same
  simp only [h1, h2, hs, Option.bind_some, strEq_self]
def okK : EK → Value → Bool
  | .int k, .int a _ => decide (a = k)
  | .bool, .bool _ => true
  | _, _ => false
theorem cellsEq_self : ∀ (ks : List EK) (xs : List Value), ks.length = xs.length → (List.zipWith okK ks xs).all id = true → cellsEq ks xs xs = some true
  | [], [], _, _ => rfl
  | e :: ks, v :: xs, h, h2 => by
    simp only [List.zipWith_cons_cons, List.all_cons, id, Bool.and_eq_true] at h2
    have ih := cellsEq_self ks xs (by simpa using h) h2.2
    have h3 := h2.1
    unfold cellsEq
    have e1 : cellEq e v v = some true := by
      unfold okK at h3
      split at h3
      · simp only [decide_eq_true_eq] at h3; subst h3; simp [cellEq]
      · simp [cellEq]
      · cases h3
    rw [e1]; simpa using ih
theorem cellsEq_ck (σ : Ck) : cellsEq (eqK tt 60) (ckC σ) (ckC σ) = some true := by
  refine cellsEq_self _ _ ?_ ?_
  · rw [ckC_len]; kernel_rfl
  · kernel_rfl

theorem up09_ok (k : Nat) (o : MObj) : ∃ m, patinalaw09_up (k + 200) [o] = some (true, m) ∧ m[0]? = some o := by
  have h : (patinalaw09_up (k + 200) [o]).map (fun r => (r.1, r.2[0]?)) = some (true, some o) := by kernel_rfl
  obtain ⟨⟨b, m⟩, h1, h2⟩ := Option.map_eq_some_iff.1 h
  simp only [Prod.mk.injEq] at h2
  exact ⟨m, by rw [h1, h2.1], h2.2⟩

/-- the bytes of an argument -/
def argF (N : Nat) (cs : List Value) : Int → Int := fun i => if 0 ≤ i ∧ i < N then intAt (cs.getD i.toNat undef) else 0
theorem arg_byt {o : MObj} {p : Option Addr} {i N : Nat} {cs : List Value} (h : Holds o i p N [.int .u8] cs) : Byt (argF N cs) := by
  intro x
  unfold argF
  split
  · rename_i h1
    have := h.wfI h1.1 h1.2
    generalize intAt (cs.getD x.toNat undef) = v at this ⊢
    simp [Lit.wf, IntKind.min, IntKind.max, IntKind.bits, IntKind.signed] at this
    omega
  · omega
theorem arg_has {o : MObj} {p : Option Addr} {i N : Nat} {cs : List Value} (h : Holds o i p N [.int .u8] cs) (h0 : 0 < N) : p = some ⟨i, 0, none⟩ ∧ Has o 0 N (argF N cs) := by
  obtain ⟨h1, cs', rfl, h2⟩ := h.2.2 h0
  have hl : ∀ j : Nat, j < N → cs'[j]? = some (.int .u8 (argF N cs j)) := by
    intro j hj
    have h3 := h.int (j := j) (q := 0) (k := .u8) hj rfl
    simp only [List.length_cons, List.length_nil, Nat.zero_add, Nat.mul_one, Nat.add_zero] at h3
    rw [h2 j (by simpa using hj), h3.2]
    unfold argF
    rw [if_pos (by omega), Int.toNat_natCast]
  refine ⟨h1, cs', rfl, ?_, fun j hj => by rw [Nat.zero_add]; exact hl j hj⟩
  rw [Nat.zero_add]
  apply Classical.byContradiction
  intro hno
  have := hl cs'.length (by omega)
  simp at this
theorem arg_rd {o : MObj} {p : Option Addr} {i N : Nat} {cs : List Value} {m : Mem} (h : Holds o i p N [.int .u8] cs) (hm : m[i]? = some o) : rdSl m p N 1 = some (arr .u8 N (argF N cs)) := by
  cases N with
  | zero => cases p <;> rfl
  | succ N =>
    obtain ⟨rfl, h2⟩ := arg_has h (by omega)
    exact h2.rd hm

theorem pointReads_run (o : MObj) (q : Option Addr) (N c' : Nat) (cs : List Value) (hh : Holds o 0 q N [.int .u8] cs) (hc : N ≤ c') (hN : N * 1 ≤ 140737488351232) :
    ∃ k m', patinalaw09_PointReads k q N c' [o] = some (true, m') := by
  obtain ⟨m1, e1, e3⟩ := up09_ok 200 o
  have hk : 200 < 200 + 200 := by omega
  generalize 200 + 200 = k at e1 hk
  refine ⟨k, ?_⟩
  have key : Ok (patinalaw09_PointReads k q N c' [o]) fun r => r.1 = true := by
    unfold patinalaw09_PointReads
    have hO0 : Own m1 [(0, o)] := ⟨by simp, by simp [e3]⟩
    have hrd := arg_rd hh e3
    have hf := arg_byt hh
    generalize hfe : argF N cs = f at hrd hf
    -- the copy
    obtain ⟨a, m2, ea, hA, hO1⟩ : ∃ a m2, appM 1 1 m1 none 0 0 N (arr .u8 N f) = some (⟨a, N, N⟩, m2) ∧ App 1 a N N (arr .u8 N f) ∧ Own m2 (slH a (arr .u8 N f) ++ [(0, o)]) := by
      cases N with
      | zero => exact ⟨none, m1, by simp [appM], .nil, by simpa [slH] using hO0⟩
      | succ N =>
        have := App.app (z := 1) (y := 1) (F := [(0, o)]) (l := N + 1) (new := arr .u8 (N + 1) f) App.nil (by simpa [slH] using hO0) (by omega) (by simp) (by unfold most; omega) (by unfold most; omega)
        simpa using this
    have hl : ∀ τ : Ck, Nat.beq (ckC τ).length 62 = true := by intro τ; rw [ckC_len]; rfl
    -- what both read
    obtain ⟨τ, e, he, hr1, hr2⟩ : ∃ (τ : Ck) (e : Int), (0 ≤ e ∧ e < 20) ∧ (Ok (point_Read k a N N m2) fun r => r.1 = ckC τ ∧ r.2.1 = errC e ∧ Own r.2.2 (slH a (arr .u8 N f) ++ [(0, o)])) ∧
        ∀ m w, Own m ((w, .live (ckC τ)) :: (slH a (arr .u8 N f) ++ [(0, o)])) → Ok (patinaref09_Read k q N c' m) fun r => r.1 = ckC τ ∧ r.2.1 = e ∧ Own r.2.2 ((w, .live (ckC τ)) :: (slH a (arr .u8 N f) ++ [(0, o)])) := by
      by_cases h174 : N = 174
      · subst h174
        obtain ⟨rfl, hhas⟩ := arg_has hh (by omega)
        rw [hfe] at hhas
        rcases hA with ⟨_, h2, _⟩ | ⟨b, rfl, _, _⟩
        · omega
        refine ⟨bif good f then dec f else zck, bif good f then 0 else 3, by cases good f <;> simp, ?_, fun m w hm => ?_⟩
        · refine (Read_ok (c := 174) (F := [(0, o)]) (ob := .live (arr .u8 174 f)) ⟨_, rfl, by simp, fun i hi => by rw [Nat.zero_add]; exact arr_get hi⟩ hf (.inr rfl) (Nat.le_refl _) k hk hO1).mono fun r hr => ?_
          refine ⟨hr.1, ?_, hr.2.2⟩
          rw [hr.2.1]
        · have h5 := hm.pick [2, 0, 1] 3 (by decide)
          refine (rRead_ok (c := c') hhas hf (.inl rfl) hc k hk (by simpa [pickL, slH] using h5)).mono fun r hr => ⟨hr.1, hr.2.1, ?_⟩
          have h6 := hr.2.2.pick [1, 2, 0] 3 (by decide)
          simpa [pickL, slH] using h6
      · exact ⟨zck, 3, by omega, rd_short k hO1 h174, fun m w hm => rrd_short k hm h174⟩
    simp (disch := omega) only [Option.bind_some, Option.map_some, cond_true, cond_false, wrap_i64, tmod_pos, tdiv_pos, inRange_yes, inUpto_yes, isZero_no, decide_eq_true, decide_eq_false, Bool.not_true, Bool.not_false, Int.toNat_natCast, Nat.mul_one, beqI_yes, beqI_no, bneI_yes, bneI_no, isNil_nil, isNil_iface, wr_wr, Option.isNone_none, Option.isNone_some, plus, Nat.zero_add, Nat.add_zero, e1, hrd, ea]
    refine .bind hr1 ?_
    rintro ⟨_, _, m3⟩ ⟨rfl, rfl, hO2⟩
    simp only at hO2
    have hO3 := hO2.new (.live (ckC zck))
    have e4 := stCells_wr (sp := none) (vs := ckC τ) (hO3.at 0 rfl) (off := 0) (by simp)
    rw [List.take_zero, List.nil_append, List.drop_of_length_le (by simp), List.append_nil] at e4
    have hO4 := hO3.wr 0 rfl (ckC τ)
    simp only [zck_cells]
    simp (disch := omega) only [Option.bind_some, Option.map_some, cond_true, cond_false, wrap_i64, tmod_pos, tdiv_pos, inRange_yes, inUpto_yes, isZero_no, decide_eq_true, decide_eq_false, Bool.not_true, Bool.not_false, Int.toNat_natCast, Nat.mul_one, beqI_yes, beqI_no, bneI_yes, bneI_no, isNil_nil, isNil_iface, wr_wr, Option.isNone_none, Option.isNone_some, plus, Nat.zero_add, Nat.add_zero, hl, e4]
    generalize wr (m3 ++ [MObj.live (ckC zck)]) m3.length (ckC τ) = m4 at hO4 ⊢
    generalize m3.length = w at hO4 ⊢
    simp only [List.set_cons_zero] at hO4
    refine .bind (hr2 m4 w hO4) ?_
    rintro ⟨t1, t2, m5⟩ ⟨q1, q2, hO5⟩
    simp only at q1 q2 hO5
    subst q1
    dsimp only
    rw [q2]
    clear q2
    have hO6 := hO5.new (.live (ckC zck))
    have e5 := stCells_wr (sp := none) (vs := ckC τ) (hO6.at 0 rfl) (off := 0) (by simp)
    rw [List.take_zero, List.nil_append, List.drop_of_length_le (by simp), List.append_nil] at e5
    have hO7 := hO6.wr 0 rfl (ckC τ)
    simp (disch := omega) only [Option.bind_some, Option.map_some, cond_true, cond_false, wrap_i64, tmod_pos, tdiv_pos, inRange_yes, inUpto_yes, isZero_no, decide_eq_true, decide_eq_false, Bool.not_true, Bool.not_false, Int.toNat_natCast, Nat.mul_one, beqI_yes, beqI_no, bneI_yes, bneI_no, isNil_nil, isNil_iface, wr_wr, Option.isNone_none, Option.isNone_some, plus, Nat.zero_add, Nat.add_zero, hl, e5]
    generalize wr (m5 ++ [MObj.live (ckC zck)]) m5.length (ckC τ) = m6 at hO7 ⊢
    generalize m5.length = v at hO7 ⊢
    simp only [List.set_cons_zero] at hO7
    have r1 := hA.vec.rd hO7.tail.tail
    have r2 := arg_rd hh (hO7.tail.tail.back.at 0 rfl)
    rw [hfe] at r2
    have l1 := ldCells_of (n := 62) (sp := none) (hO7.at 1 rfl) (off := 0) (by simp)
    have l2 := ldCells_of (n := 62) (sp := none) (hO7.at 0 rfl) (off := 0) (by simp)
    rw [List.drop_zero, List.take_of_length_le (by simp)] at l1 l2
    simp (disch := omega) only [Option.bind_some, Option.map_some, cond_true, cond_false, wrap_i64, tmod_pos, tdiv_pos, inRange_yes, inUpto_yes, isZero_no, decide_eq_true, decide_eq_false, Bool.not_true, Bool.not_false, Int.toNat_natCast, Nat.mul_one, beqI_yes, beqI_no, bneI_yes, bneI_no, isNil_nil, isNil_iface, wr_wr, Option.isNone_none, Option.isNone_some, plus, Nat.zero_add, Nat.add_zero, same09_is k r1 r2, l1, l2, cellsEq_ck, code_is k e m6 he, beq_self_eq_true]
    exact .some rfl
  obtain ⟨⟨r, m'⟩, h1, h2⟩ := key
  exact ⟨m', by rw [h1]; simp only at h2; rw [h2]⟩
end Go.Proofs.Ytnilidpafijdlac
