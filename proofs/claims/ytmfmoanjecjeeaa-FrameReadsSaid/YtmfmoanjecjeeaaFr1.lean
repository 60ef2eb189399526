/- The frame: what its parts do. -/
import Derived.Test.YtmfmoanjecjeeaaLend
import Derived.Test.YtmfmoanjecjeeaaApart
import Derived.Test.YtmfmoanjecjeeaaRsE
import Derived.Test.YtmfmoanjecjeeaaRsDr
import Derived.Test.YtmfmoanjecjeeaaFframe
set_option linter.unusedVariables false
set_option linter.unusedSectionVars false
set_option linter.unusedSimpArgs false
namespace Go.Proofs.Ytmfmoanjecjeeaa
open Go.Mx

theorem Src.part {m : Mem} {ad : Addr} {n o l : Nat} {w : Nat → GF} (h : Src m (some ad) n w) (hl : o + l ≤ n) : Src m (some (plus ad o)) l fun i => w (o + i) := by
  unfold Src rdSl at *
  simp only [Nat.mul_one] at *
  by_cases h0 : l = 0
  · subst h0; rfl
  · rw [if_neg h0]
    rw [if_neg (by omega)] at h
    unfold ldCells at *
    obtain ⟨cs, h1, h2⟩ := Option.bind_eq_some_iff.1 h
    unfold cCells at h2
    split at h2
    · rename_i hle
      simp only [Option.some.injEq] at h2
      have e : m.cells (plus ad o).block = some cs := h1
      have eo : (plus ad o).off = ad.off + o := rfl
      rw [e, Option.bind_some]
      unfold cCells
      rw [eo, if_pos (by omega), ← bys_sub hl, ← h2, List.drop_take, List.drop_drop, List.take_take, Nat.min_eq_left (by omega)]
    · cases h2
theorem Src.congr {m : Mem} {a : Option Addr} {n : Nat} {u w : Nat → GF} (h : Src m a n u) (he : ∀ i, i < n → w i = u i) : Src m a n w := by
  unfold Src at *; rw [h, bys_congr he]

/-- it may be cut -/
def okS (a : Addr) : Prop := a.spot = none ∨ a.spot = some 1
theorem okS.z {a : Addr} (h : okS a) : sliceK.okZ (some a) 1 false = true := by
  obtain ⟨b, o, sp⟩ := a
  rcases h with h | h <;> simp only at h <;> subst h <;> rfl
theorem ldVal_of {m : Mem} {b off : Nat} {sp : Option Nat} {cs : List Value} {v : Value} (h : m[b]? = some (.live cs)) (hc : cs[off]? = some v) : ldVal m ⟨b, off, sp⟩ = some v := by
  simp [ldVal, Mem.cells, h, MObj.cells, cVal, hc]
theorem clear_f (a : Option Addr) : sliceK.clear a false = a := rfl

/-- a frame -/
def Frm (m : Mem) (c : Nat) : Prop := ∃ cd, m[c]? = some (.live [.pointer (some ⟨cd, 0, none⟩)]) ∧ Cod m cd
theorem Frm.grow {m m' : Mem} {c : Nat} (h : Frm m c) (hg : Gr m m') : Frm m' c := by
  obtain ⟨cd, h1, h2⟩ := h
  exact ⟨cd, hg.get h1, h2.grow hg⟩
theorem frameNew_ok (k : Nat) (hk : 1000 < k) (m : Mem) : Ok (frame_New k m) fun r => ∃ c, r.1 = some ⟨c, 0, none⟩ ∧ Gr m r.2 ∧ m.length ≤ c ∧ Frm r.2 c := by
  unfold frame_New
  refine .bind (rsNew_ok k hk m) ?_
  rintro ⟨_, m1⟩ ⟨cd, rfl, hg, hc, hC⟩
  simp only at hg hC ⊢
  exact .some ⟨m1.length, rfl, hg.trans (Gr.app _ _), hg.len, cd, get_last rfl, hC.grow (Gr.app _ _)⟩

/-! ## wire -/
def mrk (i : Nat) : GF := GF.of ([112, 97, 116, 105, 110, 97, 48, 49].getD i 0)
def sealed (w : Nat → GF) : Nat → GF := fun i => if i < 50 then w i else mrk (i - 50)
theorem mrk_cells : bytesOf (ByteArray.mk #[112, 97, 116, 105, 110, 97, 48, 49]) = bys 8 mrk := by kernel_rfl
theorem mrk_size : ByteArray.size (ByteArray.mk #[112, 97, 116, 105, 110, 97, 48, 49]) = 8 := rfl
theorem sealed_congr {u w : Nat → GF} (h : ∀ i, i < 50 → u i = w i) : ∀ i, sealed u i = sealed w i := fun i => by
  unfold sealed; split
  · exact h i (by omega)
  · rfl

theorem seal_no (k : Nat) {m : Mem} {a : Option Addr} {n c : Nat} (hn : n ≠ 50) : wire_Seal k a n c m = some (⟨none, 0, 0⟩, errC 1, m) := by
  unfold wire_Seal
  have h58 : (((n : Nat) : Int) != 50) = true := bneI_yes (by omega)
  simp (disch := omega) only [Option.bind_some, Option.map_some, cond_true, cond_false, wrap_i64, tmod_pos, tdiv_pos, inRange_yes, inUpto_yes, isZero_no, decide_eq_true, decide_eq_false, Bool.not_true, Bool.not_false, Int.toNat_natCast, Nat.mul_one, beqI_yes, beqI_no, bneI_yes, bneI_no, isNil_nil, isNil_iface, wr_wr, Option.isNone_none, Option.isNone_some, plus, Nat.zero_add, Nat.add_zero, h58]
  rfl
theorem seal_ok (k : Nat) {m : Mem} {a : Option Addr} {c : Nat} {w : Nat → GF} (hw : Src m a 50 w) :
    Ok (wire_Seal k a 50 c m) fun r => r.1 = ⟨some ⟨m.length, 0, none⟩, 58, 58⟩ ∧ r.2.1 = .nilIface ∧ Gr m r.2.2 ∧ r.2.2[m.length]? = some (.live (bys 58 (sealed w))) := by
  unfold wire_Seal
  have h50 : (((50 : Nat) : Int) != 50) = false := rfl
  have t58 : Int.toNat 58 = 58 := rfl
  have t50 : Int.toNat 50 = 50 := rfl
  simp (disch := omega) only [Option.bind_some, Option.map_some, cond_true, cond_false, wrap_i64, tmod_pos, tdiv_pos, inRange_yes, inUpto_yes, isZero_no, decide_eq_true, decide_eq_false, Bool.not_true, Bool.not_false, Int.toNat_natCast, Nat.mul_one, beqI_yes, beqI_no, bneI_yes, bneI_no, isNil_nil, isNil_iface, wr_wr, Option.isNone_none, Option.isNone_some, plus, Nat.zero_add, Nat.add_zero, h50, bys_zero, t58, t50, mrk_size]
  have h1 := get_last (m := m) (o := .live (bys 58 fun _ => 0)) rfl
  have hG := Gr.app m [.live (bys 58 fun _ => (0 : GF))]
  generalize hM : m ++ [MObj.live (bys 58 fun _ => (0 : GF))] = M at *
  have e1 : rdSl M a (min 50 58) 1 = some (bys 50 w) := hw.grow hG
  have e2 : oper.stSl M (some ⟨m.length, 0, none⟩) (bys 50 w) = some (wr M m.length (bys 58 fun i => if 0 ≤ i ∧ i < 0 + 50 then w (i - 0) else 0)) := bys_stc h1 (by omega)
  have h2 := wr_get (cs := bys 58 fun i => if 0 ≤ i ∧ i < 0 + 50 then w (i - 0) else 0) h1
  have e3 : oper.stSl (wr M m.length (bys 58 fun i => if 0 ≤ i ∧ i < 0 + 50 then w (i - 0) else 0)) (some ⟨m.length, 50, none⟩) (bys 8 mrk) = some (wr (wr M m.length (bys 58 fun i => if 0 ≤ i ∧ i < 0 + 50 then w (i - 0) else 0)) m.length _) := bys_stc h2 (by omega)
  have ho : sliceK.okZ (some ⟨m.length, 0, none⟩) 1 false = true := rfl
  have hu : inUpto 50 58 = true := rfl
  have e4 : List.take (min 8 (58 - 50)) (bytesOf (ByteArray.mk #[112, 97, 116, 105, 110, 97, 48, 49])) = bys 8 mrk := by rw [mrk_cells]; rfl
  simp (disch := omega) only [Option.bind_some, Option.map_some, cond_true, cond_false, wrap_i64, tmod_pos, tdiv_pos, inRange_yes, inUpto_yes, isZero_no, decide_eq_true, decide_eq_false, Bool.not_true, Bool.not_false, Int.toNat_natCast, Nat.mul_one, beqI_yes, beqI_no, bneI_yes, bneI_no, isNil_nil, isNil_iface, wr_wr, Option.isNone_none, Option.isNone_some, plus, Nat.zero_add, Nat.add_zero, e1, e2, ho, hu, Bool.and_self, clear_f, e4, e3]
  refine .some ⟨rfl, rfl, hG.wr (Nat.le_refl _) _, ?_⟩
  simp only
  rw [wr_get h1]
  have he : (bys 58 fun i => if 50 ≤ i ∧ i < 50 + 8 then mrk (i - 50) else if 0 ≤ i ∧ i < 0 + 50 then w (i - 0) else 0) = bys 58 (sealed w) := by
    refine bys_congr fun i hi => ?_
    unfold sealed
    by_cases h : i < 50
    · rw [if_neg (by omega), if_pos (by omega), if_pos h, Nat.sub_zero]
    · rw [if_pos (by omega), if_neg h]
  rw [← he]

theorem ba_loop (s : ByteArray) : ∀ (d i : Nat) (r : List UInt8), s.size - i = d → ByteArray.toList.loop s i r = r.reverse ++ s.data.toList.drop i := by
  intro d
  induction d with
  | zero =>
    intro i r h
    unfold ByteArray.toList.loop
    have hs : s.size = s.data.toList.length := by rw [Array.length_toList]; rfl
    rw [if_neg (by omega), List.drop_eq_nil_of_le (by omega), List.append_nil]
  | succ d ih =>
    intro i r h
    unfold ByteArray.toList.loop
    have hs : s.size = s.data.toList.length := by rw [Array.length_toList]; rfl
    rw [if_pos (by omega), ih (i + 1) _ (by omega), List.drop_eq_getElem_cons (show i < s.data.toList.length by omega)]
    have : s.get! i = s.data.toList[i]'(by omega) := by
      have h1 : s.get! i = s.data[i]! := rfl
      rw [h1, getElem!_pos s.data i (by rw [Array.length_toList] at hs; omega), Array.getElem_toList]
    rw [this]; simp
theorem ba_toList (s : ByteArray) : s.toList = s.data.toList := by
  unfold ByteArray.toList
  rw [ba_loop s _ 0 [] rfl]; simp
theorem go_map : ∀ l : List GF, strOf.strGo (l.map fun g => Value.int .u8 (g.v : Int)) = some (l.map fun g => UInt8.ofNat g.v)
  | [] => rfl
  | g :: l => by simp [strOf.strGo, go_map l]
theorem bys_map (n : Nat) (w : Nat → GF) : bys n w = ((List.range n).map w).map fun g => Value.int .u8 (g.v : Int) := by
  apply List.ext_getElem?
  intro i
  by_cases h : i < n
  · rw [bys_get h]; simp [h]
  · rw [List.getElem?_eq_none (by rw [bys_len]; omega), List.getElem?_eq_none (by simp; omega)]
theorem str_bys {n : Nat} (hn : 0 < n) (w : Nat → GF) : strOf (bys n w) = some ⟨(((List.range n).map w).map fun g => UInt8.ofNat g.v).toArray⟩ := by
  rw [bys_map]
  have h := go_map ((List.range n).map w)
  generalize hl : (List.range n).map w = l at *
  cases l with
  | nil => have := congrArg List.length hl; simp at this; omega
  | cons g l => show Option.map _ _ = _; rw [h]; rfl
theorem mrk_list : (ByteArray.mk #[112, 97, 116, 105, 110, 97, 48, 49]).data.toList = ((List.range 8).map mrk).map fun g => UInt8.ofNat g.v := by decide +kernel
/-- the mark, read -/
theorem mark_is (w : Nat → GF) : ∃ s, strOf (bys 8 w) = some s ∧ (strEq s (ByteArray.mk #[112, 97, 116, 105, 110, 97, 48, 49]) = true ↔ ∀ i, i < 8 → w i = mrk i) := by
  refine ⟨_, str_bys (by omega) w, ?_⟩
  unfold strEq
  rw [ba_toList, ba_toList, mrk_list, beq_iff_eq]
  constructor
  · intro h i hi
    have h1 := congrArg (fun l => l[i]?) h
    simp only [List.getElem?_map, List.getElem?_range hi, Option.map_some, Option.some.injEq] at h1
    have h2 := congrArg UInt8.toNat h1
    simp only [UInt8.toNat_ofNat'] at h2
    have a1 := GF.v_lt (w i)
    have a2 := GF.v_lt (mrk i)
    rw [← GF.of_v (w i), ← GF.of_v (mrk i), show (w i).v = (mrk i).v by omega]
  · intro h
    have : (List.range 8).map w = (List.range 8).map mrk := List.map_congr_left fun i hi => h i (List.mem_range.1 hi)
    show List.map _ _ = _
    rw [this]

def marked (w : Nat → GF) : Prop := ∀ i, i < 8 → w (50 + i) = mrk i
theorem open_len (k : Nat) {m : Mem} {a : Option Addr} {n c : Nat} (hn : n ≠ 58) : wire_Open k a n c m = some (⟨none, 0, 0⟩, errC 1, m) := by
  unfold wire_Open
  have h58 : (((n : Nat) : Int) != 58) = true := bneI_yes (by omega)
  simp (disch := omega) only [Option.bind_some, Option.map_some, cond_true, cond_false, wrap_i64, tmod_pos, tdiv_pos, inRange_yes, inUpto_yes, isZero_no, decide_eq_true, decide_eq_false, Bool.not_true, Bool.not_false, Int.toNat_natCast, Nat.mul_one, beqI_yes, beqI_no, bneI_yes, bneI_no, isNil_nil, isNil_iface, wr_wr, Option.isNone_none, Option.isNone_some, plus, Nat.zero_add, Nat.add_zero, h58]
  rfl
theorem open_ok (k : Nat) {m : Mem} {ad : Addr} {c : Nat} {w : Nat → GF} (hw : Src m (some ad) 58 w) :
    Ok (wire_Open k (some ad) 58 c m) fun r => Gr m r.2.2 ∧ ((marked w ∧ ∃ d, r.1 = ⟨some ⟨d, 0, none⟩, 50, 50⟩ ∧ r.2.1 = .nilIface ∧ m.length ≤ d ∧ r.2.2[d]? = some (.live (bys 58 w))) ∨ (¬ marked w ∧ r.1 = ⟨none, 0, 0⟩ ∧ r.2.1 = errC 6)) := by
  unfold wire_Open bytes_Clone
  have h58 : (((58 : Nat) : Int) != 58) = false := rfl
  simp (disch := omega) only [Option.bind_some, Option.map_some, cond_true, cond_false, wrap_i64, tmod_pos, tdiv_pos, inRange_yes, inUpto_yes, isZero_no, decide_eq_true, decide_eq_false, Bool.not_true, Bool.not_false, Int.toNat_natCast, Nat.mul_one, beqI_yes, beqI_no, bneI_yes, bneI_no, isNil_nil, isNil_iface, wr_wr, Option.isNone_none, Option.isNone_some, plus, Nat.zero_add, Nat.add_zero, h58]
  have h1 := get_last (m := m) (o := .live ([] : List Value)) rfl
  have hG := Gr.app m [.live ([] : List Value)]
  have hl : (m ++ [MObj.live ([] : List Value)]).length = m.length + 1 := by simp
  generalize m ++ [MObj.live ([] : List Value)] = M at *
  have e1 : rdSl M (some ad) 58 1 = some (bys 58 w) := hw.grow hG
  have e2 : appM 1 1 M (some ⟨m.length, 0, none⟩) 0 0 58 (bys 58 w) = some (⟨some ⟨M.length, 0, some 1⟩, 58, 58⟩, M ++ [.live (bys 58 w)]) := appM_make h1 (by omega) (by unfold most; omega) (by unfold most; omega)
  have h2 := get_last (m := M) (o := .live (bys 58 w)) rfl
  have hG2 := hG.trans (Gr.app M [.live (bys 58 w)])
  have ho : sliceK.okZ (some ⟨M.length, 0, some 1⟩) 1 false = true := rfl
  have hu : inUpto 50 58 = true := rfl
  have t50 : Int.toNat 50 = 50 := rfl
  simp (disch := omega) only [Option.bind_some, Option.map_some, cond_true, cond_false, wrap_i64, tmod_pos, tdiv_pos, inRange_yes, inUpto_yes, isZero_no, decide_eq_true, decide_eq_false, Bool.not_true, Bool.not_false, Int.toNat_natCast, Nat.mul_one, beqI_yes, beqI_no, bneI_yes, bneI_no, isNil_nil, isNil_iface, wr_wr, Option.isNone_none, Option.isNone_some, plus, Nat.zero_add, Nat.add_zero, e1, e2, ho, hu, Bool.and_self, clear_f, t50]
  generalize M ++ [MObj.live (bys 58 w)] = M2 at *
  have e3 : rdSl M2 (some ⟨M.length, 50, some 1⟩) (58 - 50) 1 = some (bys 8 fun i => w (50 + i)) := Src.sub (sp := some 1) h2 (by omega)
  obtain ⟨s, e4, e5⟩ := mark_is fun i => w (50 + i)
  simp (disch := omega) only [Option.bind_some, Option.map_some, cond_true, cond_false, wrap_i64, tmod_pos, tdiv_pos, inRange_yes, inUpto_yes, isZero_no, decide_eq_true, decide_eq_false, Bool.not_true, Bool.not_false, Int.toNat_natCast, Nat.mul_one, beqI_yes, beqI_no, bneI_yes, bneI_no, isNil_nil, isNil_iface, wr_wr, Option.isNone_none, Option.isNone_some, plus, Nat.zero_add, Nat.add_zero, e3, e4]
  cases hs : strEq s (ByteArray.mk #[112, 97, 116, 105, 110, 97, 48, 49]) with
  | true =>
    have hu2 : inUpto 50 50 = true := rfl
    simp (disch := omega) only [Option.bind_some, Option.map_some, cond_true, cond_false, wrap_i64, tmod_pos, tdiv_pos, inRange_yes, inUpto_yes, isZero_no, decide_eq_true, decide_eq_false, Bool.not_true, Bool.not_false, Int.toNat_natCast, Nat.mul_one, beqI_yes, beqI_no, bneI_yes, bneI_no, isNil_nil, isNil_iface, wr_wr, Option.isNone_none, Option.isNone_some, plus, Nat.zero_add, Nat.add_zero, hs, hu2, Bool.and_self]
    exact .some ⟨hG2, .inl ⟨e5.1 hs, M.length, rfl, rfl, by have := hG.len; omega, h2⟩⟩
  | false =>
    simp (disch := omega) only [Option.bind_some, Option.map_some, cond_true, cond_false, wrap_i64, tmod_pos, tdiv_pos, inRange_yes, inUpto_yes, isZero_no, decide_eq_true, decide_eq_false, Bool.not_true, Bool.not_false, Int.toNat_natCast, Nat.mul_one, beqI_yes, beqI_no, bneI_yes, bneI_no, isNil_nil, isNil_iface, wr_wr, Option.isNone_none, Option.isNone_some, plus, Nat.zero_add, Nat.add_zero, hs]
    exact .some ⟨hG2, .inr ⟨fun h => by (have h9 := e5.2 h; rw [hs] at h9; cases h9), rfl, rfl⟩⟩

/-! ## pieces -/
abbrev pc : Nat := 41
abbrev pcv (b z : Nat) : Value := .func (.func pc) ⟨[]⟩ ⟨[.pointer (some ⟨z, 0, none⟩), .pointer (some ⟨b, 0, none⟩)]⟩
theorem pieces_is (k : Nat) (m : Mem) (a : Option Addr) (n c : Nat) (s : Int) : frame_pieces k a n c s m = some (pcv m.length (m.length + 1), m ++ [.live [.slice a n c], .live [.int .i64 s]]) := by
  unfold frame_pieces
  simp [pcv]
theorem pcs_next {R : Type} {m : Mem} {b z : Nat} {a : Addr} {n c s i : Nat} {stop : Option R} {go : Sl → Int → Option R} (hb : m[b]? = some (.live [.slice (some a) n c])) (hz : m[z]? = some (.live [.int .i64 s])) (ha : okS a) (h0 : 0 < s ∧ s < 1000) (hi : i < 1000)
    (hn : i * s < n) (hc : i * s + s ≤ c) (hm : n < 1000000) : pcsK pc (pcv b z) i m stop go = go ⟨some (plus a (i * s)), s, c - i * s⟩ ((i + 1 : Nat) : Int) := by
  have e1 : ldInt .i64 m ⟨z, 0, none⟩ = some (s : Int) := ldInt_of hz rfl
  have e2 : ldSl m ⟨b, 0, none⟩ = some ⟨some a, n, c⟩ := ldSl_of hb rfl
  have w1 : IntKind.wrap .i64 ((i : Int) * s) = ((i * s : Nat) : Int) := by
    have : (i : Int) * s = ((i * s : Nat) : Int) := by simp
    rw [this, wrap_i64 (by omega) (by omega)]
  have w2 : IntKind.wrap .i64 ((i : Int) + 1) = ((i + 1 : Nat) : Int) := by rw [wrap_i64 (by omega) (by omega)]; simp
  have hp : (i + 1) * s = i * s + s := Nat.succ_mul _ _
  have w3 : IntKind.wrap .i64 (((i + 1 : Nat) : Int) * s) = ((i * s + s : Nat) : Int) := by
    have : ((i + 1 : Nat) : Int) * s = (((i + 1) * s : Nat) : Int) := by simp
    rw [this, hp, wrap_i64 (by omega) (by omega)]
  have u1 : inUpto ((i * s + s : Nat) : Int) c = true := inUpto_yes (by omega) (by omega)
  have u2 : inUpto ((i * s : Nat) : Int) (i * s + s) = true := inUpto_yes (by omega) (by omega)
  unfold pcsK pcs
  simp only [Nat.beq_refl, cond_true, e1, e2, Option.bind_some, w1, w2, w3, ha.z, u1, u2, Bool.and_self, decide_eq_true (show ((i * s : Nat) : Int) < (n : Int) by omega), Int.toNat_natCast, Nat.mul_one, clear_f, Option.map_some]
  rw [show i * s + s - i * s = s by omega]
theorem pcs_end {R : Type} {m : Mem} {b z : Nat} {a : Addr} {n c s i : Nat} {stop : Option R} {go : Sl → Int → Option R} (hb : m[b]? = some (.live [.slice (some a) n c])) (hz : m[z]? = some (.live [.int .i64 s])) (h0 : 0 < s ∧ s < 1000) (hi : i < 1000)
    (hn : n ≤ i * s) (hm : i * s < 10000000) : pcsK pc (pcv b z) i m stop go = stop := by
  have e1 : ldInt .i64 m ⟨z, 0, none⟩ = some (s : Int) := ldInt_of hz rfl
  have e2 : ldSl m ⟨b, 0, none⟩ = some ⟨some a, n, c⟩ := ldSl_of hb rfl
  have w1 : IntKind.wrap .i64 ((i : Int) * s) = ((i * s : Nat) : Int) := by
    have : (i : Int) * s = ((i * s : Nat) : Int) := by simp
    rw [this, wrap_i64 (by omega) (by omega)]
  unfold pcsK pcs
  simp only [Nat.beq_refl, cond_true, e1, e2, Option.bind_some, w1, decide_eq_false (show ¬ ((i * s : Nat) : Int) < (n : Int) by omega), cond_false]

/-! ## rows of slices that appends make -/
def Rw (b : Nat) (m : Mem) (a : Option Addr) (N : Nat) (D : Nat → Nat) (l : Nat) (sp : Option Nat) : Prop := (a = none ∧ N = 0) ∨ ∃ q, a = some ⟨q, 0, some 1⟩ ∧ b ≤ q ∧ m[q]? = some (.live (sls N D (fun _ => l) sp))
theorem Rw.grow {b m m' a N D l sp} (h : Rw b m a N D l sp) (hg : Gr m m') : Rw b m' a N D l sp := by
  rcases h with h | ⟨q, h1, h2, h3⟩
  · exact .inl h
  · exact .inr ⟨q, h1, h2, hg.get h3⟩
theorem Rw.app {b N l d : Nat} {m : Mem} {a : Option Addr} {D : Nat → Nat} {sp : Option Nat} (h : Rw b m a N D l sp) (hb : b ≤ m.length) (hN : N < 1000) :
    ∃ m', appM 1 24 m a N N 1 [.slice (some ⟨d, 0, sp⟩) l l] = some (⟨some ⟨m.length, 0, some 1⟩, N + 1, N + 1⟩, m') ∧ m'.length = m.length + 1 ∧ m'[m.length]? = some (.live (sls (N + 1) (fun i => if i = N then d else D i) (fun _ => l) sp)) ∧
      (∀ p, p < m.length → (∀ q, a = some ⟨q, 0, some 1⟩ → p ≠ q) → m'[p]? = m[p]?) ∧ ∀ m0, Gr m0 m → m0.length ≤ b → Gr m0 m' := by
  have e0 : sls N D (fun _ => l) sp = sls N (fun i => if i = N then d else D i) (fun _ => l) sp := sls_congr fun i hi => ⟨(if_neg (by omega)).symm, rfl⟩
  have e1 : sls N (fun i => if i = N then d else D i) (fun _ => l) sp ++ [.slice (some ⟨d, 0, sp⟩) l l] = sls (N + 1) (fun i => if i = N then d else D i) (fun _ => l) sp := by
    have := sls_snoc (N := N) (D := fun i => if i = N then d else D i) (nn := fun _ => l) (sp := sp)
    rwa [if_pos rfl] at this
  rcases h with ⟨rfl, rfl⟩ | ⟨q, rfl, h2, h3⟩
  · refine ⟨_, appM_first (by omega) (by unfold most; omega) (by unfold most; omega), by simp, ?_, fun p hp _ => get_app_lt hp, fun m0 h0 _ => h0.trans (Gr.app _ _)⟩
    rw [get_last rfl, ← e1]; rfl
  · refine ⟨m.set q (.old (sls N D (fun _ => l) sp) m.length) ++ [.live (sls N D (fun _ => l) sp ++ [.slice (some ⟨d, 0, sp⟩) l l])], ?_, by simp, ?_, fun p hp hd => ?_, fun m0 h0 h1 => (h0.kill (by omega) _).trans (Gr.app _ _)⟩
    · rw [appM_grow h3 (by rw [sls_len, Nat.mul_one]) (by omega) (by unfold most; omega) (by unfold most; omega)]
    · rw [get_last (by simp), e0, e1]
    · rw [get_app_lt (by simpa using hp), get_set_ne (fun h => hd q rfl h.symm)]
end Go.Proofs.Ytmfmoanjecjeeaa
