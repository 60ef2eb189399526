/- A memory that grew; slices of bytes. -/
import Derived.Test.YtlbbcgjfkpnilaaGf
import Derived.Test.YtlbbcgjfkpnilaaMxFlat
set_option linter.unusedVariables false
set_option linter.unusedSectionVars false
set_option linter.unusedSimpArgs false
namespace Go.Proofs.Ytlbbcgjfkpnilaa
open Go.Mx

/-! ## a memory that grew -/
def Gr (m m' : Mem) : Prop := ∃ g, m' = m ++ g
theorem Gr.refl (m : Mem) : Gr m m := ⟨[], by simp⟩
theorem Gr.app (m g : Mem) : Gr m (m ++ g) := ⟨g, rfl⟩
theorem Gr.trans {m m' m'' : Mem} (h : Gr m m') (h' : Gr m' m'') : Gr m m'' := by
  obtain ⟨g, rfl⟩ := h
  obtain ⟨g', rfl⟩ := h'
  exact ⟨g ++ g', by simp⟩
theorem Gr.get {m m' : Mem} (h : Gr m m') {p : Nat} {o : MObj} (hp : m[p]? = some o) : m'[p]? = some o := by
  obtain ⟨g, rfl⟩ := h; exact get_grow hp
theorem Gr.len {m m' : Mem} (h : Gr m m') : m.length ≤ m'.length := by obtain ⟨g, rfl⟩ := h; simp
theorem Gr.wr {m m' : Mem} (h : Gr m m') {p : Nat} (hp : m.length ≤ p) (cs : List Value) : Gr m (wr m' p cs) := by
  obtain ⟨g, rfl⟩ := h
  refine ⟨g.set (p - m.length) (.live cs), ?_⟩
  unfold Mx.wr
  rw [List.set_append_right _ _ hp]
theorem Gr.rd {m m' : Mem} (h : Gr m m') {p : Option Addr} {n z : Nat} {vs : List Value} (hr : rdSl m p n z = some vs) : rdSl m' p n z = some vs := by
  obtain ⟨g, rfl⟩ := h; exact rdSl_grow hr

/-! ## bytes -/
def byI (w : Nat → GF) : Int → Int := fun i => ((w i.toNat).v : Int)
def bys (n : Nat) (w : Nat → GF) : List Value := arr .u8 n (byI w)
theorem bys_len {n : Nat} {w : Nat → GF} : (bys n w).length = n := arr_length
theorem bys_get {n i : Nat} {w : Nat → GF} (h : i < n) : (bys n w)[i]? = some (.int .u8 ((w i).v : Int)) := by
  unfold bys; rw [arr_get h]; unfold byI; rw [Int.toNat_natCast]
theorem bys_congr {n : Nat} {u w : Nat → GF} (h : ∀ i, i < n → u i = w i) : bys n u = bys n w := arr_congr fun i h0 h1 => by unfold byI; rw [h i.toNat (by omega)]
def put (w : Nat → GF) (i : Nat) (e : GF) : Nat → GF := fun k => if k = i then e else w k
theorem bys_set {n i : Nat} {w : Nat → GF} {e : GF} : (bys n w).set i (.int .u8 (e.v : Int)) = bys n (put w i e) := by
  apply List.ext_getElem?
  intro k
  rw [List.getElem?_set]
  by_cases hk : k < n
  · rw [bys_get hk, bys_get hk, bys_len]
    unfold put
    by_cases h : i = k
    · subst h; rw [if_pos rfl, if_pos hk, if_pos rfl]
    · rw [if_neg h, if_neg (fun h2 => h h2.symm)]
  · rw [List.getElem?_eq_none (by rw [bys_len]; omega), List.getElem?_eq_none (by rw [bys_len]; omega), bys_len]
    split
    · rw [if_neg (by omega)]
    · rfl
theorem bys_sub {n o l : Nat} {w : Nat → GF} (h : o + l ≤ n) : ((bys n w).drop o).take l = bys l fun i => w (o + i) := by
  apply List.ext_getElem?
  intro k
  rw [List.getElem?_take]
  by_cases hk : k < l
  · rw [if_pos hk, List.getElem?_drop, bys_get (by omega), bys_get hk]
  · rw [if_neg hk, List.getElem?_eq_none (by rw [bys_len]; omega)]
theorem bys_append {a b : Nat} {u w : Nat → GF} : bys a u ++ bys b w = bys (a + b) fun i => if i < a then u i else w (i - a) := by
  apply List.ext_getElem?
  intro k
  rw [List.getElem?_append, bys_len]
  by_cases hk : k < a
  · rw [if_pos hk, bys_get hk, bys_get (by omega), if_pos hk]
  · rw [if_neg hk]
    by_cases hk2 : k < a + b
    · rw [bys_get (by omega), bys_get hk2, if_neg hk]
    · rw [List.getElem?_eq_none (by rw [bys_len]; omega), List.getElem?_eq_none (by rw [bys_len]; omega)]
theorem bys_zero (n : Nat) : repl n [.int .u8 0] = bys n fun _ => 0 := by rw [repl_int]; rfl
theorem bys_inj {n : Nat} {u w : Nat → GF} (h : bys n u = bys n w) : ∀ i, i < n → u i = w i := by
  intro i hi
  have h1 := bys_get (w := u) hi
  rw [h, bys_get hi] at h1
  simp only [Option.some.injEq, Value.int.injEq, true_and] at h1
  exact GF.v_inj (by omega)
theorem xor_v (a b : GF) : bitI .xor .u8 (a.v : Int) (b.v : Int) = ((a + b).v : Int) := by
  have h1 : BitVec.ofInt 8 (a.v : Int) = (a : BitVec 8) := by
    apply BitVec.eq_of_toNat_eq
    rw [BitVec.toNat_ofInt]
    have := a.v_lt
    show ((a.v : Int) % _).toNat = a.v
    omega
  have h2 : BitVec.ofInt 8 (b.v : Int) = (b : BitVec 8) := by
    apply BitVec.eq_of_toNat_eq
    rw [BitVec.toNat_ofInt]
    have := b.v_lt
    show ((b.v : Int) % _).toNat = b.v
    omega
  show IntKind.u8.wrap ((BitVec.ofInt 8 (a.v : Int) ^^^ BitVec.ofInt 8 (b.v : Int)).toNat : Int) = _
  rw [h1, h2]
  have h3 := (a + b).v_lt
  show IntKind.u8.wrap ((a + b).v : Int) = _
  simp only [IntKind.wrap, IntKind.bits, IntKind.signed, Bool.false_and, Bool.false_eq_true, if_false]
  omega
theorem wrap_v (a : GF) : IntKind.wrap .u8 (a.v : Int) = (a.v : Int) := by
  have := a.v_lt
  simp only [IntKind.wrap, IntKind.bits, IntKind.signed, Bool.false_and, Bool.false_eq_true, if_false]
  omega

section
variable {m : Mem} {d n : Nat} {w : Nat → GF} {sp : Option Nat} (h : m[d]? = some (.live (bys n w)))
include h
theorem bys_ld {i : Nat} (hi : i < n) : ldInt .u8 m ⟨d, i, sp⟩ = some ((w i).v : Int) := ldInt_of h (bys_get hi)
theorem bys_ldI {x : Int} (h0 : 0 ≤ x) (h1 : x < n) : ldInt .u8 m ⟨d, x.toNat, sp⟩ = some ((w x.toNat).v : Int) := bys_ld h (by omega)
theorem bys_st {i : Nat} (hi : i < n) (e : GF) : st m ⟨d, i, sp⟩ (.int .u8 (e.v : Int)) = some (wr m d (bys n (put w i e))) := by
  rw [st_wr h (by rw [bys_len]; exact hi), bys_set]
theorem bys_rd {o l : Nat} (hl : o + l ≤ n) : rdSl m (some ⟨d, o, sp⟩) l 1 = some (bys l fun i => w (o + i)) := by
  rw [rdSl_live h (by rw [bys_len]; omega), Nat.mul_one, bys_sub hl]
theorem bys_rd0 : rdSl m (some ⟨d, 0, sp⟩) n 1 = some (bys n w) := rdSl_all h (by rw [bys_len, Nat.mul_one])
end

/-- bytes that are read -/
def Src (m : Mem) (a : Option Addr) (n : Nat) (w : Nat → GF) : Prop := rdSl m a n 1 = some (bys n w)
theorem Src.grow {m m' : Mem} {a : Option Addr} {n : Nat} {w : Nat → GF} (h : Src m a n w) (hg : Gr m m') : Src m' a n w := hg.rd h
theorem Src.ld {m : Mem} {a : Option Addr} {n : Nat} {w : Nat → GF} (h : Src m a n w) {i : Nat} (hi : i < n) : ∃ ad, a = some ad ∧ ldInt .u8 m (plus ad i) = some ((w i).v : Int) := by
  unfold Src rdSl at h
  cases a with
  | none => simp only at h; rw [if_neg (by omega)] at h; cases h
  | some ad =>
    refine ⟨ad, rfl, ?_⟩
    simp only at h
    rw [if_neg (by omega), Nat.mul_one] at h
    unfold ldCells at h
    obtain ⟨cs, h1, h2⟩ := Option.bind_eq_some_iff.1 h
    unfold cCells at h2
    split at h2
    · simp only [Option.some.injEq] at h2
      have h3 := bys_get (w := w) hi
      rw [← h2, List.getElem?_take, if_pos hi, List.getElem?_drop] at h3
      unfold ldInt
      rw [show (plus ad i).block = ad.block from rfl, h1, Option.bind_some]
      unfold cInt
      rw [show (plus ad i).off = ad.off + i from rfl, h3]
      simp
    · cases h2
theorem Src.of {m : Mem} {d n : Nat} {w : Nat → GF} {sp : Option Nat} (h : m[d]? = some (.live (bys n w))) : Src m (some ⟨d, 0, sp⟩) n w := bys_rd0 h
theorem v_beq (a b : GF) : ((a.v : Int) == (b.v : Int)) = decide (a = b) := by
  by_cases h : a = b
  · subst h; simp
  · rw [decide_eq_false h]
    refine beqI_no fun h2 => h (GF.v_inj (by omega))
theorem v_beq0 (a : GF) : ((a.v : Int) == 0) = decide (a = 0) := by
  by_cases h : a = 0
  · subst h; rfl
  · rw [decide_eq_false h]; exact beqI_no (by have := GF.v_ne h; omega)
theorem v_bne (a b : GF) : ((a.v : Int) != (b.v : Int)) = !decide (a = b) := by unfold bne; rw [v_beq]

theorem v_bne0 (a : GF) : ((a.v : Int) != 0) = !decide (a = 0) := by unfold bne; rw [v_beq0]
end Go.Proofs.Ytlbbcgjfkpnilaa
