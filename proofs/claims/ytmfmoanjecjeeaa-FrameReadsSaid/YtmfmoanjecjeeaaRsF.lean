/- What the field's functions do: the tables, made once; products, inverses, powers, Horner's way. -/
import Derived.Test.YtmfmoanjecjeeaaFfield
import Derived.Test.YtmfmoanjecjeeaaMxFlat
import Derived.Test.YtmfmoanjecjeeaaErr0
import Derived.Test.YtmfmoanjecjeeaaRsD
set_option linter.unusedVariables false
set_option linter.unusedSectionVars false
set_option linter.unusedSimpArgs false
namespace Go.Proofs.Ytmfmoanjecjeeaa
open Go.Mx

/-! ## a memory that grew -/
def Gr (m m' : Mem) : Prop := ∃ g, m' = m ++ g
theorem Gr.refl (m : Mem) : Gr m m := ⟨[], by simp⟩
theorem Gr.app (m g : Mem) : Gr m (m ++ g) := ⟨g, rfl⟩
theorem Gr.trans {m m' m'' : Mem} (h : Gr m m') (h' : Gr m' m'') : Gr m m'' := by
  obtain ⟨g, rfl⟩ := h
  obtain ⟨g', rfl⟩ := h'
  exact ⟨g ++ g', by simp⟩
theorem Gr.get {m m' : Mem} (h : Gr m m') {p : Nat} {o : MObj} (hp : m[p]? = some o) : m'[p]? = some o := by
  obtain ⟨g, rfl⟩ := h; exact get_grow hp
theorem Gr.len {m m' : Mem} (h : Gr m m') : m.length ≤ m'.length := by obtain ⟨g, rfl⟩ := h; simp
theorem Gr.wr {m m' : Mem} (h : Gr m m') {p : Nat} (hp : m.length ≤ p) (cs : List Value) : Gr m (wr m' p cs) := by
  obtain ⟨g, rfl⟩ := h
  refine ⟨g.set (p - m.length) (.live cs), ?_⟩
  unfold Mx.wr
  rw [List.set_append_right _ _ hp]
theorem Gr.rd {m m' : Mem} (h : Gr m m') {p : Option Addr} {n z : Nat} {vs : List Value} (hr : rdSl m p n z = some vs) : rdSl m' p n z = some vs := by
  obtain ⟨g, rfl⟩ := h; exact rdSl_grow hr

/-! ## bytes -/
def byI (w : Nat → GF) : Int → Int := fun i => ((w i.toNat).v : Int)
def bys (n : Nat) (w : Nat → GF) : List Value := arr .u8 n (byI w)
theorem bys_len {n : Nat} {w : Nat → GF} : (bys n w).length = n := arr_length
theorem bys_get {n i : Nat} {w : Nat → GF} (h : i < n) : (bys n w)[i]? = some (.int .u8 ((w i).v : Int)) := by
  unfold bys; rw [arr_get h]; unfold byI; rw [Int.toNat_natCast]
theorem bys_congr {n : Nat} {u w : Nat → GF} (h : ∀ i, i < n → u i = w i) : bys n u = bys n w := arr_congr fun i h0 h1 => by unfold byI; rw [h i.toNat (by omega)]
def put (w : Nat → GF) (i : Nat) (e : GF) : Nat → GF := fun k => if k = i then e else w k
theorem bys_set {n i : Nat} {w : Nat → GF} {e : GF} : (bys n w).set i (.int .u8 (e.v : Int)) = bys n (put w i e) := by
  apply List.ext_getElem?
  intro k
  rw [List.getElem?_set]
  by_cases hk : k < n
  · rw [bys_get hk, bys_get hk, bys_len]
    unfold put
    by_cases h : i = k
    · subst h; rw [if_pos rfl, if_pos hk, if_pos rfl]
    · rw [if_neg h, if_neg (fun h2 => h h2.symm)]
  · rw [List.getElem?_eq_none (by rw [bys_len]; omega), List.getElem?_eq_none (by rw [bys_len]; omega), bys_len]
    split
    · rw [if_neg (by omega)]
    · rfl
theorem bys_sub {n o l : Nat} {w : Nat → GF} (h : o + l ≤ n) : ((bys n w).drop o).take l = bys l fun i => w (o + i) := by
  apply List.ext_getElem?
  intro k
  rw [List.getElem?_take]
  by_cases hk : k < l
  · rw [if_pos hk, List.getElem?_drop, bys_get (by omega), bys_get hk]
  · rw [if_neg hk, List.getElem?_eq_none (by rw [bys_len]; omega)]
theorem bys_append {a b : Nat} {u w : Nat → GF} : bys a u ++ bys b w = bys (a + b) fun i => if i < a then u i else w (i - a) := by
  apply List.ext_getElem?
  intro k
  rw [List.getElem?_append, bys_len]
  by_cases hk : k < a
  · rw [if_pos hk, bys_get hk, bys_get (by omega), if_pos hk]
  · rw [if_neg hk]
    by_cases hk2 : k < a + b
    · rw [bys_get (by omega), bys_get hk2, if_neg hk]
    · rw [List.getElem?_eq_none (by rw [bys_len]; omega), List.getElem?_eq_none (by rw [bys_len]; omega)]
theorem bys_zero (n : Nat) : repl n [.int .u8 0] = bys n fun _ => 0 := by rw [repl_int]; rfl
theorem bys_inj {n : Nat} {u w : Nat → GF} (h : bys n u = bys n w) : ∀ i, i < n → u i = w i := by
  intro i hi
  have h1 := bys_get (w := u) hi
  rw [h, bys_get hi] at h1
  simp only [Option.some.injEq, Value.int.injEq, true_and] at h1
  exact GF.v_inj (by omega)
theorem xor_v (a b : GF) : bitI .xor .u8 (a.v : Int) (b.v : Int) = ((a + b).v : Int) := by
  have h1 : BitVec.ofInt 8 (a.v : Int) = (a : BitVec 8) := by
    apply BitVec.eq_of_toNat_eq
    rw [BitVec.toNat_ofInt]
    have := a.v_lt
    show ((a.v : Int) % _).toNat = a.v
    omega
  have h2 : BitVec.ofInt 8 (b.v : Int) = (b : BitVec 8) := by
    apply BitVec.eq_of_toNat_eq
    rw [BitVec.toNat_ofInt]
    have := b.v_lt
    show ((b.v : Int) % _).toNat = b.v
    omega
  show IntKind.u8.wrap ((BitVec.ofInt 8 (a.v : Int) ^^^ BitVec.ofInt 8 (b.v : Int)).toNat : Int) = _
  rw [h1, h2]
  have h3 := (a + b).v_lt
  show IntKind.u8.wrap ((a + b).v : Int) = _
  simp only [IntKind.wrap, IntKind.bits, IntKind.signed, Bool.false_and, Bool.false_eq_true, if_false]
  omega
theorem wrap_v (a : GF) : IntKind.wrap .u8 (a.v : Int) = (a.v : Int) := by
  have := a.v_lt
  simp only [IntKind.wrap, IntKind.bits, IntKind.signed, Bool.false_and, Bool.false_eq_true, if_false]
  omega

section
variable {m : Mem} {d n : Nat} {w : Nat → GF} {sp : Option Nat} (h : m[d]? = some (.live (bys n w)))
include h
theorem bys_ld {i : Nat} (hi : i < n) : ldInt .u8 m ⟨d, i, sp⟩ = some ((w i).v : Int) := ldInt_of h (bys_get hi)
theorem bys_ldI {x : Int} (h0 : 0 ≤ x) (h1 : x < n) : ldInt .u8 m ⟨d, x.toNat, sp⟩ = some ((w x.toNat).v : Int) := bys_ld h (by omega)
theorem bys_st {i : Nat} (hi : i < n) (e : GF) : st m ⟨d, i, sp⟩ (.int .u8 (e.v : Int)) = some (wr m d (bys n (put w i e))) := by
  rw [st_wr h (by rw [bys_len]; exact hi), bys_set]
theorem bys_rd {o l : Nat} (hl : o + l ≤ n) : rdSl m (some ⟨d, o, sp⟩) l 1 = some (bys l fun i => w (o + i)) := by
  rw [rdSl_live h (by rw [bys_len]; omega), Nat.mul_one, bys_sub hl]
theorem bys_rd0 : rdSl m (some ⟨d, 0, sp⟩) n 1 = some (bys n w) := rdSl_all h (by rw [bys_len, Nat.mul_one])
end

/-- bytes that are read -/
def Src (m : Mem) (a : Option Addr) (n : Nat) (w : Nat → GF) : Prop := rdSl m a n 1 = some (bys n w)
theorem Src.grow {m m' : Mem} {a : Option Addr} {n : Nat} {w : Nat → GF} (h : Src m a n w) (hg : Gr m m') : Src m' a n w := hg.rd h
theorem Src.ld {m : Mem} {a : Option Addr} {n : Nat} {w : Nat → GF} (h : Src m a n w) {i : Nat} (hi : i < n) : ∃ ad, a = some ad ∧ ldInt .u8 m (plus ad i) = some ((w i).v : Int) := by
  unfold Src rdSl at h
  cases a with
  | none => simp only at h; rw [if_neg (by omega)] at h; cases h
  | some ad =>
    refine ⟨ad, rfl, ?_⟩
    simp only at h
    rw [if_neg (by omega), Nat.mul_one] at h
    unfold ldCells at h
    obtain ⟨cs, h1, h2⟩ := Option.bind_eq_some_iff.1 h
    unfold cCells at h2
    split at h2
    · simp only [Option.some.injEq] at h2
      have h3 := bys_get (w := w) hi
      rw [← h2, List.getElem?_take, if_pos hi, List.getElem?_drop] at h3
      unfold ldInt
      rw [show (plus ad i).block = ad.block from rfl, h1, Option.bind_some]
      unfold cInt
      rw [show (plus ad i).off = ad.off + i from rfl, h3]
      simp
    · cases h2
theorem Src.of {m : Mem} {d n : Nat} {w : Nat → GF} {sp : Option Nat} (h : m[d]? = some (.live (bys n w))) : Src m (some ⟨d, 0, sp⟩) n w := bys_rd0 h

/-! ## the field -/
def eT : Int → Int := fun i => ((GF.pw i.toNat).v : Int)
def lT : Int → Int := fun i => if i = 0 then 0 else (GF.lg (GF.of i.toNat) : Int)
def fieldC (d s z : Int) (e l : Int → Int) : List Value := [.int .u32 d, .int .i32 s, .int .u32 z] ++ (arr .u8 510 e ++ arr .i64 256 l)
def fldZ : List Value := fieldC 0 0 0 (fun _ => 0) fun _ => 0
def fldR : List Value := fieldC 1 0 0 eT lT
theorem fieldC_len {d s z : Int} {e l : Int → Int} : (fieldC d s z e l).length = 769 := by simp [fieldC]
theorem field_zero : (tt ty_field_Field).zero = fldZ := by
  have e : (tt ty_field_Field).zero = [.int .u32 0, .int .i32 0, .int .u32 0] ++ (repl 510 [.int .u8 0] ++ repl 256 [.int .i64 0]) := by kernel_rfl
  rw [e, repl_int, repl_int]; rfl

section
variable {m : Mem} {f : Nat} {d s z : Int} {e l : Int → Int} (h : m[f]? = some (.live (fieldC d s z e l)))
include h
theorem fld_d : ldInt .u32 m ⟨f, 0, none⟩ = some d := ldInt_of h rfl
theorem fld_s : ldInt .i32 m ⟨f, 1, none⟩ = some s := ldInt_of h rfl
theorem fld_std (v : Int) : st m ⟨f, 0, none⟩ (.int .u32 v) = some (wr m f (fieldC v s z e l)) := by rw [st_wr h (by rw [fieldC_len]; omega)]; rfl
theorem fld_sts (v : Int) : st m ⟨f, 1, none⟩ (.int .i32 v) = some (wr m f (fieldC d v z e l)) := by rw [st_wr h (by rw [fieldC_len]; omega)]; rfl
theorem fld_e {x : Int} (h0 : 0 ≤ x) (h1 : x < 510) : ldInt .u8 m ⟨f, 3 + x.toNat, none⟩ = some (e x) := ldInt_of h (by
  unfold fieldC
  rw [List.getElem?_append_right (by simp), show 3 + x.toNat - [Value.int .u32 d, .int .i32 s, .int .u32 z].length = x.toNat by simp, List.getElem?_append_left (by rw [arr_length]; omega)]
  exact arr_getI h0 (by omega))
theorem fld_l {x : Int} (h0 : 0 ≤ x) (h1 : x < 256) : ldInt .i64 m ⟨f, 513 + x.toNat, none⟩ = some (l x) := ldInt_of h (by
  unfold fieldC
  rw [List.getElem?_append_right (by simp; omega), show 513 + x.toNat - [Value.int .u32 d, .int .i32 s, .int .u32 z].length = 510 + x.toNat by simp; omega, List.getElem?_append_right (by rw [arr_length]; omega), arr_length, Nat.add_sub_cancel_left]
  exact arr_getI h0 (by omega))
theorem fld_ste {x : Int} (h0 : 0 ≤ x) (h1 : x < 510) (v : Int) : st m ⟨f, 3 + x.toNat, none⟩ (.int .u8 v) = some (wr m f (fieldC d s z (upd e x v) l)) := by
  rw [st_wr h (by rw [fieldC_len]; omega)]
  unfold fieldC
  rw [List.set_append_right _ _ (by simp), show 3 + x.toNat - [Value.int .u32 d, .int .i32 s, .int .u32 z].length = x.toNat by simp, List.set_append_left _ _ (by rw [arr_length]; omega), arr_set h0]
theorem fld_stl {x : Int} (h0 : 0 ≤ x) (h1 : x < 256) (v : Int) : st m ⟨f, 513 + x.toNat, none⟩ (.int .i64 v) = some (wr m f (fieldC d s z e (upd l x v))) := by
  rw [st_wr h (by rw [fieldC_len]; omega)]
  unfold fieldC
  rw [List.set_append_right _ _ (by simp; omega), show 513 + x.toNat - [Value.int .u32 d, .int .i32 s, .int .u32 z].length = 510 + x.toNat by simp; omega, List.set_append_right _ _ (by rw [arr_length]; omega), arr_length, Nat.add_sub_cancel_left, arr_set h0]
end
theorem fieldC_congr {d s z : Int} {e l e' l' : Int → Int} (he : ∀ i : Int, 0 ≤ i → i < 510 → e i = e' i) (hl : ∀ i : Int, 0 ≤ i → i < 256 → l i = l' i) : fieldC d s z e l = fieldC d s z e' l' := by
  unfold fieldC
  rw [arr_congr (n := 510) fun i h0 h1 => he i h0 (by omega), arr_congr (n := 256) fun i h0 h1 => hl i h0 (by omega)]

theorem xt_all : (List.range 256).all (fun n => (if decide (shlI .i64 (n : Int) 1 > 255) then bitI .xor .i64 (shlI .i64 (n : Int) 1) 285 else shlI .i64 (n : Int) 1) == ((GF.xt (GF.of n)).v : Int)) = true := by decide +kernel
theorem xt_v (a : GF) : (if decide (shlI .i64 (a.v : Int) 1 > 255) then bitI .xor .i64 (shlI .i64 (a.v : Int) 1) 285 else shlI .i64 (a.v : Int) 1) = ((GF.xt a).v : Int) := by
  have := List.all_eq_true.1 xt_all a.v (List.mem_range.2 a.v_lt)
  rw [beq_iff_eq, GF.of_v] at this
  exact this

theorem lT_of {a : GF} (h : a ≠ 0) : lT (a.v : Int) = (GF.lg a : Int) := by
  unfold lT
  have := GF.v_ne h
  rw [if_neg (by omega), Int.toNat_natCast, GF.of_v]

theorem field_make_is (k : Nat) (hk : 255 < k) {m : Mem} {f : Nat} {d s z : Int} (h : m[f]? = some (.live (fieldC d s z (fun _ => 0) fun _ => 0))) :
    field_Field_make k (some ⟨f, 0, none⟩) m = some (wr m f (fieldC d s z eT lT)) := by
  have key : Ok (field_Field_make k (some ⟨f, 0, none⟩) m) fun m' => m' = wr m f (fieldC d s z eT lT) := by
    unfold field_Field_make
    refine field_Field_make_l0_rule k _ (fun r x0 x2 x4 m' => (some ⟨f, 0, none⟩ : Option Addr) = x0 ∧ ∃ j : Nat, x4 = j ∧ j + r = 255 ∧ ((GF.pw j).v : Int) = x2 ∧ ∃ e l : Int → Int,
      (∀ i : Int, 0 ≤ i → (i < j ∨ 255 ≤ i ∧ i < 255 + j) → e i = eT i) ∧ (∀ i : Int, 0 ≤ i → i < 256 → (i = 0 ∨ (j : Int) ≤ lT i) ∧ l i = 0 ∨ i ≠ 0 ∧ lT i < j ∧ l i = lT i) ∧ m' = wr m f (fieldC d s z e l)) ?_ k 255 _ _ _ _ (by omega)
      ⟨rfl, 0, rfl, by omega, rfl, _, _, fun i h0 h1 => by omega, fun i h0 h1 => .inl ⟨by
        by_cases h2 : i = 0
        · exact .inl h2
        · right; unfold lT; rw [if_neg h2]; omega, rfl⟩, (wr_same h).symm⟩
    rintro r nx _ _ _ _ ⟨rfl, j, rfl, hr, rfl, e, l, he, hl, rfl⟩ hnx
    unfold field_Field_make_l0_b
    by_cases hj : (j : Int) < 255
    · have h1 := wr_get (cs := fieldC d s z e l) h
      have hv := (GF.pw j).v_lt
      have a1 := fld_ste h1 (x := (j : Int)) (by omega) (by omega) (IntKind.wrap .u8 ((GF.pw j).v : Int))
      rw [wrap_v, wr_wr] at a1
      have h2 := wr_get (cs := fieldC d s z (upd e j ((GF.pw j).v : Int)) l) h
      have a2 := fld_ste h2 (x := (j : Int) + 255) (by omega) (by omega) (IntKind.wrap .u8 ((GF.pw j).v : Int))
      rw [wrap_v, wr_wr] at a2
      have h3 := wr_get (cs := fieldC d s z (upd (upd e j ((GF.pw j).v : Int)) (j + 255) ((GF.pw j).v : Int)) l) h
      have a3 := fld_stl h3 (x := ((GF.pw j).v : Int)) (by omega) (by omega) (j : Int)
      rw [wr_wr] at a3
      have hx := xt_v (GF.pw j)
      have next : ∀ p : Int, p = ((GF.pw (j + 1)).v : Int) → Ok (field_Field_make_j1 k (some ⟨f, 0, none⟩) j nx p (wr m f (fieldC d s z (upd (upd e j ((GF.pw j).v : Int)) (j + 255) ((GF.pw j).v : Int)) (upd l ((GF.pw j).v : Int) j)))) fun m' => m' = wr m f (fieldC d s z eT lT) := by
        rintro p rfl
        unfold field_Field_make_j1
        simp (disch := omega) only [Option.bind_some, Option.map_some, cond_true, cond_false, wrap_i64, tmod_pos, tdiv_pos, inRange_yes, inUpto_yes, isZero_no, decide_eq_true, decide_eq_false, Bool.not_true, Bool.not_false, Int.toNat_natCast, Nat.mul_one, beqI_yes, beqI_no, bneI_yes, bneI_no, isNil_nil, isNil_iface, wr_wr, Option.isNone_none, Option.isNone_some, plus, Nat.zero_add, Nat.add_zero]
        refine hnx (r - 1) _ _ _ _ (by omega) ⟨rfl, j + 1, by omega, by omega, rfl, _, _, fun i h0 h1 => ?_, fun i h0 h1 => ?_, rfl⟩
        · unfold upd
          by_cases c1 : i = (j : Int) + 255
          · rw [if_pos c1]
            unfold eT
            rw [c1, show ((j : Int) + 255).toNat = j + 255 by omega, ← GF.pw_mod (j + 255), Nat.add_mod_right, GF.pw_mod]
          · rw [if_neg c1]
            by_cases c2 : i = (j : Int)
            · rw [if_pos c2]; unfold eT; rw [c2, Int.toNat_natCast]
            · rw [if_neg c2]; exact he i h0 (by omega)
        · have hlp : lT ((GF.pw j).v : Int) = (j : Int) := by rw [lT_of GF.pw_ne, GF.lg_pw (by omega)]
          unfold upd
          by_cases c1 : i = ((GF.pw j).v : Int)
          · right
            have := GF.v_ne (GF.pw_ne (n := j))
            rw [if_pos c1, c1, hlp]
            exact ⟨by omega, by omega, rfl⟩
          · rw [if_neg c1]
            rcases hl i h0 h1 with ⟨b1, b2⟩ | ⟨b1, b2, b3⟩
            · left
              refine ⟨?_, b2⟩
              rcases b1 with b1 | b1
              · exact .inl b1
              · by_cases b3 : i = 0
                · exact .inl b3
                · right
                  have : lT i ≠ (j : Int) := by
                    intro h5
                    apply c1
                    have h6 : lT i = (GF.lg (GF.of i.toNat) : Int) := by unfold lT; rw [if_neg b3]
                    have h7 : GF.of i.toNat ≠ 0 := fun h8 => by
                      have := congrArg GF.v h8
                      rw [GF.v_of (by omega)] at this
                      have h9 : GF.v 0 = 0 := rfl
                      omega
                    have h8 := GF.pw_lg h7
                    rw [show GF.lg (GF.of i.toNat) = j by omega] at h8
                    rw [h8, GF.v_of (by omega)]; omega
                  omega
            · right; exact ⟨b1, by omega, b3⟩
      rw [Int.toNat_natCast] at a1 a3
      simp (disch := omega) only [Option.bind_some, Option.map_some, cond_true, cond_false, wrap_i64, tmod_pos, tdiv_pos, inRange_yes, inUpto_yes, isZero_no, decide_eq_true, decide_eq_false, Bool.not_true, Bool.not_false, Int.toNat_natCast, Nat.mul_one, beqI_yes, beqI_no, bneI_yes, bneI_no, isNil_nil, isNil_iface, wr_wr, Option.isNone_none, Option.isNone_some, plus, Nat.zero_add, Nat.add_zero, wrap_v, a1, a2, a3]
      cases hc : decide (shlI .i64 ((GF.pw j).v : Int) 1 > 255) with
      | true =>
        rw [hc, if_pos rfl, ← GF.pw_succ] at hx
        exact next _ hx
      | false =>
        rw [hc, if_neg (by simp), ← GF.pw_succ] at hx
        exact next _ hx
    · have hj2 : j = 255 := by omega
      subst hj2
      simp (disch := omega) only [Option.bind_some, Option.map_some, cond_true, cond_false, wrap_i64, tmod_pos, tdiv_pos, inRange_yes, inUpto_yes, isZero_no, decide_eq_true, decide_eq_false, Bool.not_true, Bool.not_false, Int.toNat_natCast, Nat.mul_one, beqI_yes, beqI_no, bneI_yes, bneI_no, isNil_nil, isNil_iface, wr_wr, Option.isNone_none, Option.isNone_some, plus, Nat.zero_add, Nat.add_zero]
      refine .some ?_
      rw [fieldC_congr (e' := eT) (l' := lT) (fun i h0 h1 => he i h0 (by omega)) fun i h0 h1 => ?_]
      rcases hl i h0 h1 with ⟨b1 | b1, b2⟩ | ⟨b1, b2, b3⟩
      · subst b1; rw [b2]; rfl
      · by_cases b3 : i = 0
        · subst b3; rw [b2]; rfl
        · exfalso
          have h7 : GF.of i.toNat ≠ 0 := fun h8 => by
            have := congrArg GF.v h8
            rw [GF.v_of (by omega)] at this
            have h9 : GF.v 0 = 0 := rfl
            omega
          have := GF.lg_lt h7
          unfold lT at b1
          rw [if_neg b3] at b1
          omega
      · exact b3
  obtain ⟨m', h1, rfl⟩ := key
  exact h1

theorem once_done (k : Nat) {m : Mem} {f : Nat} (h : m[f]? = some (.live fldR)) : sync_Once_Do k (some ⟨f, 0, none⟩) (.func (.func 56) ⟨[.pointer (some ⟨f, 0, none⟩)]⟩ ⟨[]⟩) m = some m := by
  unfold sync_Once_Do onceDo
  simp (disch := omega) only [Option.bind_some, Option.map_some, cond_true, cond_false, wrap_i64, tmod_pos, tdiv_pos, inRange_yes, inUpto_yes, isZero_no, decide_eq_true, decide_eq_false, Bool.not_true, Bool.not_false, Int.toNat_natCast, Nat.mul_one, beqI_yes, beqI_no, bneI_yes, bneI_no, isNil_nil, isNil_iface, wr_wr, Option.isNone_none, Option.isNone_some, plus, Nat.zero_add, Nat.add_zero, fld_d h]
theorem once_first (k : Nat) (hk : 255 < k) {m : Mem} {f : Nat} (h : m[f]? = some (.live fldZ)) : sync_Once_Do k (some ⟨f, 0, none⟩) (.func (.func 56) ⟨[.pointer (some ⟨f, 0, none⟩)]⟩ ⟨[]⟩) m = some (wr m f fldR) := by
  unfold sync_Once_Do onceDo
  have h1 := wr_get (cs := fieldC 0 1 0 (fun _ => 0) fun _ => 0) h
  have h2 := wr_get (cs := fieldC 0 1 0 eT lT) h
  have h3 := wr_get (cs := fieldC 1 1 0 eT lT) h
  have e1 := field_make_is k hk h1
  rw [wr_wr] at e1
  have e2 := fld_std h2 1
  rw [wr_wr] at e2
  have e3 := fld_sts h3 0
  rw [wr_wr] at e3
  simp (disch := omega) only [Option.bind_some, Option.map_some, cond_true, cond_false, wrap_i64, tmod_pos, tdiv_pos, inRange_yes, inUpto_yes, isZero_no, decide_eq_true, decide_eq_false, Bool.not_true, Bool.not_false, Int.toNat_natCast, Nat.mul_one, beqI_yes, beqI_no, bneI_yes, bneI_no, isNil_nil, isNil_iface, wr_wr, Option.isNone_none, Option.isNone_some, plus, Nat.zero_add, Nat.add_zero, fld_d h, fld_s h, fld_sts h, e1, fld_d h2, fld_s h2, e2, e3]
  rfl

section
variable (k : Nat) {m : Mem} {f : Nat} (h : m[f]? = some (.live fldR))
include h
theorem mul_is (a b : GF) : field_Field_Mul k (some ⟨f, 0, none⟩) (a.v : Int) (b.v : Int) m = some (((a * b).v : Int), m) := by
  unfold field_Field_Mul
  by_cases ha : a = 0
  · subst ha
    rw [GF.zero_mul]; rfl
  · by_cases hb : b = 0
    · subst hb
      have : (((0 : GF).v : Int) == 0) = true := rfl
      rw [GF.mul_zero, this, cond_true]
      cases ((a.v : Int) == 0) <;> rfl
    · have va := GF.v_ne ha
      have vb := GF.v_ne hb
      have la := GF.lg_lt ha
      have lb := GF.lg_lt hb
      have ha' := a.v_lt
      have hb' := b.v_lt
      have e1 := fld_l h (x := (a.v : Int)) (by omega) (by omega)
      have e2 := fld_l h (x := (b.v : Int)) (by omega) (by omega)
      have e3 := fld_e h (x := (GF.lg a : Int) + GF.lg b) (by omega) (by omega)
      rw [lT_of ha] at e1
      rw [lT_of hb] at e2
      rw [Int.toNat_natCast] at e1 e2
      have e4 : eT ((GF.lg a : Int) + GF.lg b) = ((a * b).v : Int) := by
        unfold eT
        rw [show ((GF.lg a : Int) + GF.lg b).toNat = GF.lg a + GF.lg b by omega, ← GF.mul_lg ha hb]
      rw [e4] at e3
      simp (disch := omega) only [Option.bind_some, Option.map_some, cond_true, cond_false, wrap_i64, tmod_pos, tdiv_pos, inRange_yes, inUpto_yes, isZero_no, decide_eq_true, decide_eq_false, Bool.not_true, Bool.not_false, Int.toNat_natCast, Nat.mul_one, beqI_yes, beqI_no, bneI_yes, bneI_no, isNil_nil, isNil_iface, wr_wr, Option.isNone_none, Option.isNone_some, plus, Nat.zero_add, Nat.add_zero, once_done k h, e1, e2, e3]
theorem inv_is {a : GF} (ha : a ≠ 0) : field_Field_Inv k (some ⟨f, 0, none⟩) (a.v : Int) m = some (((GF.inv a).v : Int), .nilIface, m) := by
  unfold field_Field_Inv
  have va := GF.v_ne ha
  have la := GF.lg_lt ha
  have ha' := a.v_lt
  have e1 := fld_l h (x := (a.v : Int)) (by omega) (by omega)
  have e3 := fld_e h (x := 255 - (GF.lg a : Int)) (by omega) (by omega)
  rw [lT_of ha, Int.toNat_natCast] at e1
  have e4 : eT (255 - (GF.lg a : Int)) = ((GF.inv a).v : Int) := by
    unfold eT GF.inv
    rw [show (255 - (GF.lg a : Int)).toNat = 255 - GF.lg a by omega]
  rw [e4] at e3
  simp (disch := omega) only [Option.bind_some, Option.map_some, cond_true, cond_false, wrap_i64, tmod_pos, tdiv_pos, inRange_yes, inUpto_yes, isZero_no, decide_eq_true, decide_eq_false, Bool.not_true, Bool.not_false, Int.toNat_natCast, Nat.mul_one, beqI_yes, beqI_no, bneI_yes, bneI_no, isNil_nil, isNil_iface, wr_wr, Option.isNone_none, Option.isNone_some, plus, Nat.zero_add, Nat.add_zero, once_done k h, e1, e3]
theorem div_is (a b : GF) : field_Field_Div k (some ⟨f, 0, none⟩) (a.v : Int) (b.v : Int) m = some (if b = 0 then (0, errC 4, m) else (((GF.div a b).v : Int), .nilIface, m)) := by
  unfold field_Field_Div
  by_cases hb : b = 0
  · subst hb
    rw [if_pos rfl]
    have : field_Field_Inv k (some ⟨f, 0, none⟩) ((0 : GF).v : Int) m = some (0, errC 4, m) := rfl
    simp (disch := omega) only [Option.bind_some, Option.map_some, cond_true, cond_false, wrap_i64, tmod_pos, tdiv_pos, inRange_yes, inUpto_yes, isZero_no, decide_eq_true, decide_eq_false, Bool.not_true, Bool.not_false, Int.toNat_natCast, Nat.mul_one, beqI_yes, beqI_no, bneI_yes, bneI_no, isNil_nil, isNil_iface, wr_wr, Option.isNone_none, Option.isNone_some, plus, Nat.zero_add, Nat.add_zero, this, isNil_errC]
  · rw [if_neg hb]
    simp (disch := omega) only [Option.bind_some, Option.map_some, cond_true, cond_false, wrap_i64, tmod_pos, tdiv_pos, inRange_yes, inUpto_yes, isZero_no, decide_eq_true, decide_eq_false, Bool.not_true, Bool.not_false, Int.toNat_natCast, Nat.mul_one, beqI_yes, beqI_no, bneI_yes, bneI_no, isNil_nil, isNil_iface, wr_wr, Option.isNone_none, Option.isNone_some, plus, Nat.zero_add, Nat.add_zero, inv_is k h hb, mul_is k h]
    rfl
theorem log_is {a : GF} (ha : a ≠ 0) : field_Field_Log k (some ⟨f, 0, none⟩) (a.v : Int) m = some ((GF.lg a : Int), .nilIface, m) := by
  unfold field_Field_Log
  have va := GF.v_ne ha
  have ha' := a.v_lt
  have e1 := fld_l h (x := (a.v : Int)) (by omega) (by omega)
  rw [lT_of ha, Int.toNat_natCast] at e1
  simp (disch := omega) only [Option.bind_some, Option.map_some, cond_true, cond_false, wrap_i64, tmod_pos, tdiv_pos, inRange_yes, inUpto_yes, isZero_no, decide_eq_true, decide_eq_false, Bool.not_true, Bool.not_false, Int.toNat_natCast, Nat.mul_one, beqI_yes, beqI_no, bneI_yes, bneI_no, isNil_nil, isNil_iface, wr_wr, Option.isNone_none, Option.isNone_some, plus, Nat.zero_add, Nat.add_zero, once_done k h, e1]
theorem exp_is (j : Nat) (hj : j < 1000000) : field_Field_Exp k (some ⟨f, 0, none⟩) (j : Int) m = some (((GF.pw j).v : Int), m) := by
  unfold field_Field_Exp
  have e3 := fld_e h (x := (j : Int) % 255 + 255) (by omega) (by omega)
  have e4 : eT ((j : Int) % 255 + 255) = ((GF.pw j).v : Int) := by
    unfold eT
    rw [show ((j : Int) % 255 + 255).toNat = j % 255 + 255 by omega, ← GF.pw_mod (j % 255 + 255), Nat.add_mod_right, Nat.mod_mod, GF.pw_mod]
  rw [e4] at e3
  simp (disch := omega) only [Option.bind_some, Option.map_some, cond_true, cond_false, wrap_i64, tmod_pos, tdiv_pos, inRange_yes, inUpto_yes, isZero_no, decide_eq_true, decide_eq_false, Bool.not_true, Bool.not_false, Int.toNat_natCast, Nat.mul_one, beqI_yes, beqI_no, bneI_yes, bneI_no, isNil_nil, isNil_iface, wr_wr, Option.isNone_none, Option.isNone_some, plus, Nat.zero_add, Nat.add_zero, once_done k h, e3]
theorem eval_is {a : Option Addr} {n c : Nat} {w : Nat → GF} (hw : Src m a n w) (hn : n < 1000000) (hk : n < k) (x : GF) : field_Field_Eval k (some ⟨f, 0, none⟩) a n c (x.v : Int) m = some (((GF.hor w x n).v : Int), m) := by
  have key : Ok (field_Field_Eval k (some ⟨f, 0, none⟩) a n c (x.v : Int) m) fun r => r = (((GF.hor w x n).v : Int), m) := by
    unfold field_Field_Eval
    refine field_Field_Eval_l0_rule k _ (fun r x0 x2 x7 x10a x10n x10c x11 x12 m' => (some ⟨f, 0, none⟩ : Option Addr) = x0 ∧ (x.v : Int) = x2 ∧ a = x10a ∧ n = x10n ∧ c = x10c ∧ (n : Int) = x11 ∧ m = m' ∧ ∃ j : Nat, x12 = j ∧ j + r = n ∧ ((GF.hor w x j).v : Int) = x7) ?_ k n _ _ _ _ _ _ _ _ _ hk
      ⟨rfl, rfl, rfl, rfl, rfl, rfl, rfl, 0, rfl, by omega, rfl⟩
    rintro r nx _ _ _ _ _ _ _ _ _ ⟨rfl, rfl, rfl, rfl, rfl, rfl, rfl, j, rfl, hr, rfl⟩ hnx
    unfold field_Field_Eval_l0_b
    by_cases hj : (j : Int) < n
    · obtain ⟨ad, rfl, e1⟩ := hw.ld (i := j) (by omega)
      unfold plus at e1
      simp (disch := omega) only [Option.bind_some, Option.map_some, cond_true, cond_false, wrap_i64, tmod_pos, tdiv_pos, inRange_yes, inUpto_yes, isZero_no, decide_eq_true, decide_eq_false, Bool.not_true, Bool.not_false, Int.toNat_natCast, Nat.mul_one, beqI_yes, beqI_no, bneI_yes, bneI_no, isNil_nil, isNil_iface, wr_wr, Option.isNone_none, Option.isNone_some, plus, Nat.zero_add, Nat.add_zero, e1, mul_is k h, xor_v]
      exact hnx (r - 1) _ _ _ _ _ _ _ _ _ (by omega) ⟨rfl, rfl, rfl, rfl, rfl, rfl, rfl, j + 1, by omega, by omega, rfl⟩
    · obtain rfl : j = n := by omega
      simp (disch := omega) only [Option.bind_some, Option.map_some, cond_true, cond_false, wrap_i64, tmod_pos, tdiv_pos, inRange_yes, inUpto_yes, isZero_no, decide_eq_true, decide_eq_false, Bool.not_true, Bool.not_false, Int.toNat_natCast, Nat.mul_one, beqI_yes, beqI_no, bneI_yes, bneI_no, isNil_nil, isNil_iface, wr_wr, Option.isNone_none, Option.isNone_some, plus, Nat.zero_add, Nat.add_zero]
      exact .some rfl
  obtain ⟨r, h1, rfl⟩ := key
  exact h1
end
theorem exp_first (k : Nat) (hk : 255 < k) {m : Mem} {f : Nat} (h : m[f]? = some (.live fldZ)) (j : Nat) (hj : j < 1000000) : field_Field_Exp k (some ⟨f, 0, none⟩) (j : Int) m = some (((GF.pw j).v : Int), wr m f fldR) := by
  have h1 := exp_is k (wr_get (cs := fldR) h) j hj
  unfold field_Field_Exp at h1 ⊢
  simp (disch := omega) only [Option.bind_some, Option.map_some, cond_true, cond_false, wrap_i64, tmod_pos, tdiv_pos, inRange_yes, inUpto_yes, isZero_no, decide_eq_true, decide_eq_false, Bool.not_true, Bool.not_false, Int.toNat_natCast, Nat.mul_one, beqI_yes, beqI_no, bneI_yes, bneI_no, isNil_nil, isNil_iface, wr_wr, Option.isNone_none, Option.isNone_some, plus, Nat.zero_add, Nat.add_zero, once_first k hk h]
  simp (disch := omega) only [Option.bind_some, Option.map_some, cond_true, cond_false, wrap_i64, tmod_pos, tdiv_pos, inRange_yes, inUpto_yes, isZero_no, decide_eq_true, decide_eq_false, Bool.not_true, Bool.not_false, Int.toNat_natCast, Nat.mul_one, beqI_yes, beqI_no, bneI_yes, bneI_no, isNil_nil, isNil_iface, wr_wr, Option.isNone_none, Option.isNone_some, plus, Nat.zero_add, Nat.add_zero, once_done k (wr_get (cs := fldR) h)] at h1
  exact h1
end Go.Proofs.Ytmfmoanjecjeeaa
