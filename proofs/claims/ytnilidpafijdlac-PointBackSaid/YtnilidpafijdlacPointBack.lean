/- The plain law of PointBack: what is written is read, what is read is written. -/
import Derived.Test.YtnilidpafijdlacPointW
import Derived.Test.YtnilidpafijdlacPointArg
import Derived.Test.YtnilidpafijdlacFLPointBack
set_option linter.unusedVariables false
set_option linter.unusedSectionVars false
set_option linter.unusedSimpArgs false
namespace Go.Proofs.Ytnilidpafijdlac
open Go.Mx

theorem cast_lit (n : Nat) : ((no_index (OfNat.ofNat n) : Nat) : Int) = OfNat.ofNat n := rfl
theorem enc_byt (σ : Ck) : Byt (enc σ) := by
  intro i
  unfold enc
  repeat' split
  all_goals first | exact byteAt_bd _ _ | omega
theorem bits_12 (g : Int → Bool) : bits g 12 = cb g 0 + 2 * cb g 1 + 4 * cb g 2 + 8 * cb g 3 + 16 * cb g 4 + 32 * cb g 5 + 64 * cb g 6 + 128 * cb g 7 + 256 * cb g 8 + 512 * cb g 9 + 1024 * cb g 10 + 2048 * cb g 11 := by
  simp [bits]
  omega
theorem cb_get (g : Int → Bool) {i : Nat} (hi : i < 12) : bits g 12 / 2 ^ i % 2 = cb g i := by
  rw [bits_12]
  have h0 := cb_bd g 0
  have h1 := cb_bd g 1
  have h2 := cb_bd g 2
  have h3 := cb_bd g 3
  have h4 := cb_bd g 4
  have h5 := cb_bd g 5
  have h6 := cb_bd g 6
  have h7 := cb_bd g 7
  have h8 := cb_bd g 8
  have h9 := cb_bd g 9
  have h10 := cb_bd g 10
  have h11 := cb_bd g 11
  rcases (show i = 0 ∨ i = 1 ∨ i = 2 ∨ i = 3 ∨ i = 4 ∨ i = 5 ∨ i = 6 ∨ i = 7 ∨ i = 8 ∨ i = 9 ∨ i = 10 ∨ i = 11 by omega) with rfl | rfl | rfl | rfl | rfl | rfl | rfl | rfl | rfl | rfl | rfl | rfl
  all_goals
    simp only [Int.reducePow, Int.natCast_zero, Int.natCast_one, cast_lit]
    omega
theorem num_byteAt_at {f : Int → Int} {v : Int} {o : Int} {n : Nat} (h0 : 0 ≤ v) (h1 : v < 256 ^ n) (h : ∀ i : Int, 0 ≤ i → i < n → f (o + i) = byteAt v i) : num f o n = v := by
  rw [num_congr (g := byteAt v) (p := 0) fun i h2 h3 => by rw [h i h2 h3, Int.zero_add], num_byteAt n v h0 h1]

/-- what is written is read -/
theorem dec_enc {σ : Ck} (h : Told σ) : ckC (dec (enc σ)) = ckC σ := by
  have hb := bits_bd σ.bad 12
  refine ckC_congr (fun i h0 h1 => ?_) ?_ (fun i h0 h1 => ?_) ?_ (fun i h0 h1 => ?_) fun i h0 h1 => ?_
  · have h2 := h.fl i.toNat (by omega)
    rw [show ((i.toNat : Nat) : Int) = i by omega] at h2
    unfold inSeq at h2
    exact num_byteAt_at (n := 5) h2.1 (by simp only [Int.reducePow]; omega) fun q h3 h4 => by
      unfold enc
      rw [if_pos (by omega), show (5 * i + q) / 5 = i by omega, show (5 * i + q) % 5 = q by omega]
  · have h2 := h.nx
    unfold inSeq at h2
    exact num_byteAt_at (n := 5) h2.1 (by simp only [Int.reducePow]; omega) fun q h3 h4 => by
      unfold enc
      rw [if_neg (by omega), if_pos (by omega), show 120 + q - 120 = q by omega]
  · have e : num (enc σ) 125 2 = bits σ.bad 12 := num_byteAt_at (n := 2) hb.1 (by simp only [Int.reducePow] at hb ⊢; omega) fun q h3 h4 => by
      unfold enc
      rw [if_neg (by omega), if_neg (by omega), if_pos (by omega), show 125 + q - 125 = q by omega]
    show (num (enc σ) 125 2 / 2 ^ i.toNat % 2 == 1) = σ.bad i
    rw [e, cb_get σ.bad (i := i.toNat) (by omega), show ((i.toNat : Nat) : Int) = i by omega]
    unfold cb
    cases σ.bad i <;> rfl
  · have h2 := h.cu
    show enc σ 127 = σ.cu
    unfold enc
    rw [if_neg (by omega), if_neg (by omega), if_neg (by omega), if_pos (by omega), byteAt_zero]; omega
  · have h2 := (h.rs i.toNat (by omega)).1
    rw [show ((i.toNat : Nat) : Int) = i by omega] at h2
    exact num_byteAt_at (n := 2) h2.1 (by simp only [Int.reducePow]; omega) fun q h3 h4 => by
      unfold enc
      rw [if_neg (by omega), if_neg (by omega), if_neg (by omega), if_neg (by omega), if_pos (by omega), show (128 + 2 * i + q - 128) / 2 = i by omega, show (128 + 2 * i + q - 128) % 2 = q by omega]
  · have h2 := (h.rs i.toNat (by omega)).2
    rw [show ((i.toNat : Nat) : Int) = i by omega] at h2
    show enc σ (152 + i) = σ.sc i
    unfold enc
    rw [if_neg (by omega), if_neg (by omega), if_neg (by omega), if_neg (by omega), if_neg (by omega), if_pos (by omega), byteAt_zero, show 152 + i - 152 = i by omega]; omega
theorem good_enc {σ : Ck} (h : Told σ) : good (enc σ) = true := by
  have hb := bits_bd σ.bad 12
  have hc := h.cu
  simp only [Int.reducePow] at hb
  unfold good
  simp only [Bool.and_eq_true, decide_eq_true_eq]
  refine ⟨⟨?_, ?_⟩, fun j hj => ?_⟩
  · have e : enc σ 126 = byteAt (bits σ.bad 12) 1 := by
      unfold enc
      rw [if_neg (by omega), if_neg (by omega), if_pos (by omega)]; rfl
    rw [e]; unfold byteAt
    simp only [Int.toNat_one, Int.pow_one]
    omega
  · have e : enc σ 127 = byteAt σ.cu 0 := by
      unfold enc
      rw [if_neg (by omega), if_neg (by omega), if_neg (by omega), if_pos (by omega)]
    rw [e, byteAt_zero]; omega
  · unfold enc
    rw [if_neg (by omega), if_neg (by omega), if_neg (by omega), if_neg (by omega), if_neg (by omega), if_neg (by omega)]
/-- what is read is written -/
theorem good_facts {f : Int → Int} (h : good f = true) : f 126 ≤ 15 ∧ f 127 ≤ 95 ∧ ∀ j : Nat, j < 10 → f (164 + j) = 0 := by
  unfold good at h
  simp only [Bool.and_eq_true, decide_eq_true_eq] at h
  exact ⟨h.1.1, h.1.2, h.2⟩
theorem told_dec {f : Int → Int} (hf : Byt f) (h : good f = true) : Told (dec f) := by
  obtain ⟨h1, h2, h3⟩ := good_facts h
  have b5 := fun o => num_bd5 hf (n := 5) (by omega) o
  have b2 := fun o => num_bd hf 2 o
  simp only [Int.reducePow] at b2
  refine ⟨?_, ?_, fun j hj => ?_, fun j hj => ⟨?_, ?_⟩⟩
  · have := b5 120
    show 0 ≤ num f 120 5 ∧ num f 120 5 ≤ _
    omega
  · have := hf 127
    show 0 ≤ f 127 ∧ f 127 ≤ 95
    omega
  · have := b5 (5 * (j : Int))
    show 0 ≤ num f (5 * (j : Int)) 5 ∧ num f (5 * (j : Int)) 5 ≤ _
    omega
  · have := b2 (128 + 2 * (j : Int))
    show 0 ≤ num f (128 + 2 * (j : Int)) 2 ∧ num f (128 + 2 * (j : Int)) 2 ≤ _
    omega
  · have := hf (152 + (j : Int))
    show 0 ≤ f (152 + (j : Int)) ∧ f (152 + (j : Int)) ≤ 255
    omega
theorem bits_dec {v : Int} (h0 : 0 ≤ v) (h1 : v < 4096) : bits (fun i => v / 2 ^ i.toNat % 2 == 1) 12 = v := by
  rw [bits_12]
  have hc : ∀ i : Nat, i < 12 → cb (fun i => v / 2 ^ i.toNat % 2 == 1) i = v / 2 ^ i % 2 := by
    intro i hi
    have h2 : v / 2 ^ i % 2 = 0 ∨ v / 2 ^ i % 2 = 1 := by omega
    unfold cb
    simp only [Int.toNat_natCast]
    rcases h2 with h2 | h2 <;> simp [h2]
  have h := fun i hi => hc i hi
  have c0 := hc 0 (by omega)
  have c1 := hc 1 (by omega)
  have c2 := hc 2 (by omega)
  have c3 := hc 3 (by omega)
  have c4 := hc 4 (by omega)
  have c5 := hc 5 (by omega)
  have c6 := hc 6 (by omega)
  have c7 := hc 7 (by omega)
  have c8 := hc 8 (by omega)
  have c9 := hc 9 (by omega)
  have c10 := hc 10 (by omega)
  have c11 := hc 11 (by omega)
  simp only [Int.natCast_zero, Int.natCast_one, cast_lit, Int.reducePow] at c0 c1 c2 c3 c4 c5 c6 c7 c8 c9 c10 c11
  generalize cb (fun i => v / 2 ^ i.toNat % 2 == 1) 0 = d0 at *
  generalize cb (fun i => v / 2 ^ i.toNat % 2 == 1) 1 = d1 at *
  generalize cb (fun i => v / 2 ^ i.toNat % 2 == 1) 2 = d2 at *
  generalize cb (fun i => v / 2 ^ i.toNat % 2 == 1) 3 = d3 at *
  generalize cb (fun i => v / 2 ^ i.toNat % 2 == 1) 4 = d4 at *
  generalize cb (fun i => v / 2 ^ i.toNat % 2 == 1) 5 = d5 at *
  generalize cb (fun i => v / 2 ^ i.toNat % 2 == 1) 6 = d6 at *
  generalize cb (fun i => v / 2 ^ i.toNat % 2 == 1) 7 = d7 at *
  generalize cb (fun i => v / 2 ^ i.toNat % 2 == 1) 8 = d8 at *
  generalize cb (fun i => v / 2 ^ i.toNat % 2 == 1) 9 = d9 at *
  generalize cb (fun i => v / 2 ^ i.toNat % 2 == 1) 10 = d10 at *
  generalize cb (fun i => v / 2 ^ i.toNat % 2 == 1) 11 = d11 at *
  clear hc h
  omega
theorem enc_dec {f : Int → Int} (hf : Byt f) (h : good f = true) : arr .u8 174 (enc (dec f)) = arr .u8 174 f := by
  obtain ⟨h1, h2, h3⟩ := good_facts h
  refine arr_congr fun i h4 h5 => ?_
  have bn := num_bd hf 2 125
  have e2 := num_two f 125
  rw [show (125 + 1 : Int) = 126 from rfl] at e2
  have h125 := hf 125
  have eb : bits (dec f).bad 12 = num f 125 2 := bits_dec bn.1 (by omega)
  unfold enc
  repeat' split
  · have := byteAt_num hf 5 (5 * (i / 5)) (i % 5).toNat (by omega)
    rw [show (((i % 5).toNat : Nat) : Int) = i % 5 by omega] at this
    refine this.trans ?_
    congr 1; omega
  · have := byteAt_num hf 5 120 (i - 120).toNat (by omega)
    rw [show (((i - 120).toNat : Nat) : Int) = i - 120 by omega] at this
    refine this.trans ?_
    congr 1; omega
  · rw [eb]
    have := byteAt_num hf 2 125 (i - 125).toNat (by omega)
    rw [show (((i - 125).toNat : Nat) : Int) = i - 125 by omega] at this
    refine this.trans ?_
    congr 1; omega
  · have := hf 127
    rw [byteAt_zero]
    show f 127 % 256 = f i
    rw [show i = 127 by omega]; omega
  · have := byteAt_num hf 2 (128 + 2 * ((i - 128) / 2)) ((i - 128) % 2).toNat (by omega)
    rw [show ((((i - 128) % 2).toNat : Nat) : Int) = (i - 128) % 2 by omega] at this
    refine this.trans ?_
    congr 1; omega
  · have := hf i
    rw [byteAt_zero]
    show f (152 + (i - 152)) % 256 = f i
    rw [show 152 + (i - 152) = i by omega]; omega
  · have := h3 (i - 164).toNat (by omega)
    rw [show 164 + (((i - 164).toNat : Nat) : Int) = i by omega] at this
    exact this.symm

/-- an argument's cells -/
def boolAt' : Value → Bool
  | .bool b => b
  | _ => false
def ckOf (l : List Value) : Ck := ⟨fun i => intAt (l.getD i.toNat undef), intAt (l.getD 24 undef), fun i => boolAt' (l.getD (25 + i.toNat) undef), intAt (l.getD 37 undef), fun i => intAt (l.getD (38 + i.toNat) undef), fun i => intAt (l.getD (50 + i.toNat) undef)⟩
def ckL : List Leaf := List.replicate 25 (.int .i64) ++ List.replicate 12 .bool ++ List.replicate 25 (.int .i64)
theorem ckOf_is {l : List Value} (h : FlatOk ckL l) : l = ckC (ckOf l) := by
  have hl : l.length = 62 := h.1
  have hi : ∀ i, i < 62 → (i < 25 ∨ 37 ≤ i) → l[i]? = some (.int .i64 (intAt (l.getD i undef))) := by
    intro i h1 h2
    have hk : ckL[i]? = some (.int .i64) := by
      unfold ckL
      rcases h2 with h2 | h2
      · rw [List.getElem?_append_left (by simp; omega), List.getElem?_append_left (by simp; omega), List.getElem?_replicate, if_pos h2]
      · rw [List.getElem?_append_right (by simp; omega), List.getElem?_replicate, if_pos (by simp; omega)]
    obtain ⟨v, h3, n, rfl, _⟩ := h.2 i _ hk
    rw [List.getD_eq_getElem?_getD, h3]; rfl
  have hb : ∀ i, 25 ≤ i → i < 37 → l[i]? = some (.bool (boolAt' (l.getD i undef))) := by
    intro i h1 h2
    have hk : ckL[i]? = some .bool := by
      unfold ckL
      rw [List.getElem?_append_left (by simp; omega), List.getElem?_append_right (by simp; omega), List.getElem?_replicate, if_pos (by simp; omega)]
    obtain ⟨v, h3, n, rfl⟩ := h.2 i _ hk
    rw [List.getD_eq_getElem?_getD, h3]; rfl
  apply List.ext_getElem?
  intro i
  by_cases h1 : i < 24
  · rw [ck_fl h1, hi i (by omega) (by omega)]; rfl
  by_cases h2 : i = 24
  · subst h2; rw [ck_nx, hi 24 (by omega) (by omega)]; rfl
  by_cases h3 : i < 37
  · obtain ⟨j, rfl⟩ : ∃ j, i = 25 + j := ⟨i - 25, by omega⟩
    rw [ck_bad (by omega), hb (25 + j) (by omega) (by omega)]; rfl
  by_cases h4 : i = 37
  · subst h4; rw [ck_cu, hi 37 (by omega) (by omega)]; rfl
  by_cases h5 : i < 50
  · obtain ⟨j, rfl⟩ : ∃ j, i = 38 + j := ⟨i - 38, by omega⟩
    rw [ck_rd (by omega), hi (38 + j) (by omega) (by omega)]; rfl
  by_cases h6 : i < 62
  · obtain ⟨j, rfl⟩ : ∃ j, i = 50 + j := ⟨i - 50, by omega⟩
    rw [ck_sc (by omega), hi (50 + j) (by omega) (by omega)]; rfl
  rw [List.getElem?_eq_none (by omega), List.getElem?_eq_none (by simp; omega)]

theorem up09b_ok (k : Nat) (o x : MObj) : ∃ m, patinalaw09_up (k + 200) [o, x] = some (true, m) ∧ m[0]? = some o ∧ m[1]? = some x := by
  have h : (patinalaw09_up (k + 200) [o, x]).map (fun r => (r.1, r.2[0]?, r.2[1]?)) = some (true, some o, some x) := by kernel_rfl
  obtain ⟨⟨b, m⟩, h1, h2⟩ := Option.map_eq_some_iff.1 h
  simp only [Prod.mk.injEq] at h2
  exact ⟨m, by rw [h1, h2.1], h2.2.1, h2.2.2⟩

theorem keep_ok {m : Mem} {F : Heap} (hO : Own m F) (τ : Ck) : ∃ m', stCells (m ++ [.live (ckC zck)]) ⟨m.length, 0, none⟩ (ckC τ) = some m' ∧ Own m' ((m.length, .live (ckC τ)) :: F) ∧ ldCells m' ⟨m.length, 0, none⟩ 62 = some (ckC τ) := by
  have h3 := hO.new (.live (ckC zck))
  have e4 := stCells_wr (sp := none) (vs := ckC τ) (h3.at 0 rfl) (off := 0) (by simp)
  rw [List.take_zero, List.nil_append, List.drop_of_length_le (by simp), List.append_nil] at e4
  have h4 := h3.wr 0 rfl (ckC τ)
  have e5 := ldCells_of (n := 62) (sp := none) (h4.at 0 rfl) (off := 0) (by simp)
  rw [List.drop_zero, List.take_of_length_le (by simp)] at e5
  exact ⟨_, e4, h4, e5⟩

theorem back_j1_ok (k : Nat) (hk : 200 < k) {o : MObj} {q : Option Addr} {N c' : Nat} {cs : List Value} (hh : Holds o 0 q N [.int .u8] cs) (hc : N ≤ c') {m g : Mem} (hO : Own m [(0, o)]) :
    Ok (patinalaw09_PointBack_j1 k q N c' (true, g) m) fun r => r.1 = true := by
  have hf := arg_byt hh
  have hl : ∀ τ : Ck, Nat.beq (ckC τ).length 62 = true := by intro τ; rw [ckC_len]; rfl
  unfold patinalaw09_PointBack_j1
  simp only [zck_cells]
  -- refused
  have bad : (Ok (point_Read k q N c' m) fun r => r.1 = ckC zck ∧ r.2.1 = errC 3 ∧ Own r.2.2 [(0, o)]) → Ok ((point_Read k q N c' m).bind fun r5 =>
      let m6 : Mem := r5.2.2 ++ [.live (ckC zck)]
      bif Nat.beq (List.length r5.1) 62 then (
      (stCells m6 ⟨List.length r5.2.2, 0, Option.none⟩ r5.1).bind fun m7 =>
      (isNil r5.2.1).bind fun b8 =>
      bif !b8 then (
      bif (true, g).1 then (
      (ldCells m7 ⟨List.length r5.2.2, 0, Option.none⟩ 62).bind fun t9 =>
      (cellsEq (eqK tt 60) t9 (ckC zck)).bind fun b10 =>
      some (b10, m7)) else (
      some (false, m7))) else (
      (ldCells m7 ⟨List.length r5.2.2, 0, Option.none⟩ 62).bind fun t11 =>
      (point_Write k t11 m7).bind fun r12 =>
      bif (true, g).1 then (
      (isNil r12.2.1).bind fun b13 =>
      bif b13 then (
      (rdSl r12.2.2 r12.1.a r12.1.len 1).bind fun l14 =>
      (strOf l14).bind fun s15 =>
      (rdSl r12.2.2 q N 1).bind fun l16 =>
      (strOf l16).bind fun s17 =>
      some (strEq s15 s17, r12.2.2)) else (
      some (false, r12.2.2))) else (
      some (false, r12.2.2)))) else none) fun r => r.1 = true := by
    intro hr
    refine .bind hr ?_
    rintro ⟨t1, t2, m1⟩ ⟨q1, q2, hO1⟩
    simp only at q1 q2 hO1
    subst q1 q2
    obtain ⟨m2, e1, hO2, e2⟩ := keep_ok hO1 zck
    have e3 : decide ((3 : Int) = 0) = false := rfl
    simp (disch := omega) only [Option.bind_some, Option.map_some, cond_true, cond_false, wrap_i64, tmod_pos, tdiv_pos, inRange_yes, inUpto_yes, isZero_no, decide_eq_true, decide_eq_false, Bool.not_true, Bool.not_false, Int.toNat_natCast, Nat.mul_one, beqI_yes, beqI_no, bneI_yes, bneI_no, isNil_nil, isNil_iface, wr_wr, Option.isNone_none, Option.isNone_some, plus, Nat.zero_add, Nat.add_zero, hl, e1, isNil_errC, e3, e2, cellsEq_ck]
    exact .some rfl
  by_cases hN : N = 174
  rotate_left
  · exact bad (rd_short k hO hN)
  subst hN
  obtain ⟨rfl, hhas⟩ := arg_has hh (by omega)
  have hr := Read_ok hhas hf (.inl rfl) hc k hk hO
  cases hg : good (argF 174 cs) with
  | false => rw [hg] at hr; exact bad hr
  | true =>
    rw [hg] at hr
    simp only [cond_true] at hr
    refine .bind hr ?_
    rintro ⟨t1, t2, m1⟩ ⟨q1, q2, hO1⟩
    simp only at q1 q2 hO1
    subst q1 q2
    obtain ⟨m2, e1, hO2, e2⟩ := keep_ok hO1 (dec (argF 174 cs))
    have e3 : decide ((0 : Int) = 0) = true := rfl
    simp (disch := omega) only [Option.bind_some, Option.map_some, cond_true, cond_false, wrap_i64, tmod_pos, tdiv_pos, inRange_yes, inUpto_yes, isZero_no, decide_eq_true, decide_eq_false, Bool.not_true, Bool.not_false, Int.toNat_natCast, Nat.mul_one, beqI_yes, beqI_no, bneI_yes, bneI_no, isNil_nil, isNil_iface, wr_wr, Option.isNone_none, Option.isNone_some, plus, Nat.zero_add, Nat.add_zero, hl, e1, isNil_errC, e3, e2]
    refine .bind (Write_ok k hk hO2) ?_
    rintro ⟨s1, s2, m3⟩ ⟨h1, _⟩
    obtain ⟨b, h2, h3, hO3⟩ := h1 (told_dec hf hg)
    simp only at h2 h3 hO3
    subst h2 h3
    have r1 := Has.rd (sp := none) (o := .live (arr .u8 174 (enc (dec (argF 174 cs))))) (off := 0) (n := 174) (f := enc (dec (argF 174 cs))) ⟨_, rfl, by simp, fun i hi => by rw [Nat.zero_add]; exact arr_get hi⟩ (hO3.at 0 rfl)
    rw [enc_dec hf hg] at r1
    have r2 := hhas.rd (sp := none) (hO3.at 2 rfl)
    obtain ⟨s, hs⟩ := str_arr 174 (argF 174 cs)
    simp (disch := omega) only [Option.bind_some, Option.map_some, cond_true, cond_false, wrap_i64, tmod_pos, tdiv_pos, inRange_yes, inUpto_yes, isZero_no, decide_eq_true, decide_eq_false, Bool.not_true, Bool.not_false, Int.toNat_natCast, Nat.mul_one, beqI_yes, beqI_no, bneI_yes, bneI_no, isNil_nil, isNil_iface, wr_wr, Option.isNone_none, Option.isNone_some, plus, Nat.zero_add, Nat.add_zero, isNil_nil, r1, r2, hs, strEq_self]
    exact .some rfl

theorem pointBack_run (o : MObj) (l : List Value) (q : Option Addr) (N c' : Nat) (cs : List Value) (fl : FlatOk ckL l) (hh : Holds o 0 q N [.int .u8] cs) (hc : N ≤ c') (hN : N * 1 ≤ 140737488351232) :
    ∃ k m', patinalaw09_PointBack k l q N c' [o] = some (true, m') := by
  have hlc := ckOf_is fl
  generalize ckOf l = σ at hlc
  subst hlc
  obtain ⟨m1, e1, e2, e3⟩ := up09b_ok 200 o (.live (ckC σ))
  have hk : 200 < 200 + 200 := by omega
  generalize 200 + 200 = k at e1 hk
  refine ⟨k, ?_⟩
  have hl : ∀ τ : Ck, Nat.beq (ckC τ).length 62 = true := by intro τ; rw [ckC_len]; rfl
  have key : Ok (patinalaw09_PointBack k (ckC σ) q N c' [o]) fun r => r.1 = true := by
    unfold patinalaw09_PointBack
    have hO0 : Own m1 [(1, .live (ckC σ)), (0, o)] := ⟨by simp, by simp [e2, e3]⟩
    have e4 := ldCells_of (n := 62) (sp := none) (hO0.at 0 rfl) (off := 0) (by simp)
    rw [List.drop_zero, List.take_of_length_le (by simp)] at e4
    have e5 : [o] ++ [MObj.live (ckC σ)] = [o, MObj.live (ckC σ)] := rfl
    have e6 : [o].length = 1 := rfl
    simp only [zck_cells, e5, e6]
    simp (disch := omega) only [Option.bind_some, Option.map_some, cond_true, cond_false, wrap_i64, tmod_pos, tdiv_pos, inRange_yes, inUpto_yes, isZero_no, decide_eq_true, decide_eq_false, Bool.not_true, Bool.not_false, Int.toNat_natCast, Nat.mul_one, beqI_yes, beqI_no, bneI_yes, bneI_no, isNil_nil, isNil_iface, wr_wr, Option.isNone_none, Option.isNone_some, plus, Nat.zero_add, Nat.add_zero, hl, e1, e4]
    refine .bind (Write_ok k hk hO0) ?_
    rintro ⟨s1, s2, m3⟩ ⟨h1, h2⟩
    by_cases ht : Told σ
    rotate_left
    · obtain ⟨q1, q2, hO1⟩ := h2 ht
      simp only at q1 q2 hO1
      subst q1 q2
      have e7 : decide ((1 : Int) = 0) = false := rfl
      simp (disch := omega) only [Option.bind_some, Option.map_some, cond_true, cond_false, wrap_i64, tmod_pos, tdiv_pos, inRange_yes, inUpto_yes, isZero_no, decide_eq_true, decide_eq_false, Bool.not_true, Bool.not_false, Int.toNat_natCast, Nat.mul_one, beqI_yes, beqI_no, bneI_yes, bneI_no, isNil_nil, isNil_iface, wr_wr, Option.isNone_none, Option.isNone_some, plus, Nat.zero_add, Nat.add_zero, isNil_errC, e7]
      exact back_j1_ok k hk hh hc hO1.tail
    obtain ⟨b, q1, q2, hO1⟩ := h1 ht
    simp only at q1 q2 hO1
    subst q1 q2
    simp (disch := omega) only [Option.bind_some, Option.map_some, cond_true, cond_false, wrap_i64, tmod_pos, tdiv_pos, inRange_yes, inUpto_yes, isZero_no, decide_eq_true, decide_eq_false, Bool.not_true, Bool.not_false, Int.toNat_natCast, Nat.mul_one, beqI_yes, beqI_no, bneI_yes, bneI_no, isNil_nil, isNil_iface, wr_wr, Option.isNone_none, Option.isNone_some, plus, Nat.zero_add, Nat.add_zero, isNil_nil]
    have hr := Read_ok (sp := none) (c := 174) (ob := .live (arr .u8 174 (enc σ))) (off := 0) (f := enc σ) ⟨_, rfl, by simp, fun i hi => by rw [Nat.zero_add]; exact arr_get hi⟩ (enc_byt σ) (.inl rfl) (Nat.le_refl _) k hk hO1
    rw [good_enc ht] at hr
    simp only [cond_true, dec_enc ht] at hr
    refine .bind hr ?_
    rintro ⟨t1, t2, m4⟩ ⟨q1, q2, hO2⟩
    simp only at q1 q2 hO2
    subst q1 q2
    obtain ⟨m5, f1, hO3, f2⟩ := keep_ok hO2 σ
    have f3 := ldCells_of (n := 62) (sp := none) (hO3.at 2 rfl) (off := 0) (by simp)
    rw [List.drop_zero, List.take_of_length_le (by simp)] at f3
    have e7 : decide ((0 : Int) = 0) = true := rfl
    simp (disch := omega) only [Option.bind_some, Option.map_some, cond_true, cond_false, wrap_i64, tmod_pos, tdiv_pos, inRange_yes, inUpto_yes, isZero_no, decide_eq_true, decide_eq_false, Bool.not_true, Bool.not_false, Int.toNat_natCast, Nat.mul_one, beqI_yes, beqI_no, bneI_yes, bneI_no, isNil_nil, isNil_iface, wr_wr, Option.isNone_none, Option.isNone_some, plus, Nat.zero_add, Nat.add_zero, hl, f1, isNil_errC, e7, f2, f3, cellsEq_ck]
    exact back_j1_ok k hk hh hc hO3.tail.tail.tail
  obtain ⟨⟨r, m'⟩, h1, h2⟩ := key
  exact ⟨m', by rw [h1]; simp only at h2; rw [h2]⟩
end Go.Proofs.Ytnilidpafijdlac
