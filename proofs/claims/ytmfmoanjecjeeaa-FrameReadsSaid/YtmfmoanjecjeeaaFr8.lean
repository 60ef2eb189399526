/- What the frame and the document's frame read of a page, told by functions of its bytes. -/
import Derived.Test.YtmfmoanjecjeeaaApart3
import Derived.Test.YtmfmoanjecjeeaaFr4
import Derived.Test.YtmfmoanjecjeeaaFr7
set_option linter.unusedVariables false
set_option linter.unusedSectionVars false
set_option linter.unusedSimpArgs false
namespace Go.Proofs.Ytmfmoanjecjeeaa
open Go.Mx

/-- what is read: how many bytes, which, the count, the error's number -/
structure Told where
  n : Nat
  w : Nat → GF
  a : Nat
  e : Int
def Told.no (e : Int) : Told := ⟨0, fun _ => 0, 0, e⟩
open Classical in
noncomputable def msgS (n : Nat) (w : Nat → GF) (p : Int) : Told := if n = 256 ∧ 0 ≤ p ∧ p ≤ 3 then (match GF.dec (wd w p.toNat) with | some (u, a) => ⟨58, u, a, 0⟩ | none => .no 5) else .no 1
noncomputable def dW (w : Nat → GF) (j : Nat) : Nat → GF := match GF.dec (wd w j) with | some (u, _) => u | none => fun _ => 0
noncomputable def dN (w : Nat → GF) (j : Nat) : Nat := match GF.dec (wd w j) with | some (_, n) => n | none => 0
def dIs (w : Nat → GF) (j : Nat) : Prop := GF.dec (wd w j) ≠ none
open Classical in
noncomputable def dataS (n : Nat) (w : Nat → GF) : Told := if n = 256 then (if dIs w 0 ∧ dIs w 1 ∧ dIs w 2 then ⟨174, fun j => dW w (j / 58) (j % 58), mxN (dN w) 3, 0⟩ else .no 5) else .no 1
open Classical in
noncomputable def bodyS (n : Nat) (w : Nat → GF) : Told := if n = 256 then (match GF.dec (wd w 3) with | some (u, a) => if marked u then ⟨50, u, a, 0⟩ else .no 6 | none => .no 5) else .no 1
def codeOk (t : Told) : Prop := 0 ≤ t.e ∧ t.e < 20
theorem msgS_code {n : Nat} {w : Nat → GF} {p : Int} : codeOk (msgS n w p) := by
  unfold msgS codeOk; split
  · split <;> simp [Told.no]
  · simp [Told.no]
theorem dataS_code {n : Nat} {w : Nat → GF} : codeOk (dataS n w) := by
  unfold dataS codeOk; split
  · split <;> simp [Told.no]
  · simp [Told.no]
theorem bodyS_code {n : Nat} {w : Nat → GF} : codeOk (bodyS n w) := by
  unfold bodyS codeOk; split
  · split
    · split <;> simp [Told.no]
    · simp [Told.no]
  · simp [Told.no]
theorem msgS_len {n : Nat} {w : Nat → GF} {p : Int} : (msgS n w p).n < 1000 := by
  unfold msgS; split
  · split <;> simp [Told.no]
  · simp [Told.no]
theorem dataS_len {n : Nat} {w : Nat → GF} : (dataS n w).n < 1000 := by
  unfold dataS; split
  · split <;> simp [Told.no]
  · simp [Told.no]
theorem bodyS_len {n : Nat} {w : Nat → GF} : (bodyS n w).n < 1000 := by
  unfold bodyS; split
  · split
    · split <;> simp [Told.no]
    · simp [Told.no]
  · simp [Told.no]

/-- what the code told: a slice of its own -/
def FOut (m m' : Mem) (s : Sl) (a : Int) (e : Value) (t : Told) : Prop := ∃ R L, s = ⟨rowA R, t.n, t.n⟩ ∧ RowLive m' R t.n L (fun u => ∀ i, i < t.n → u i = t.w i) ∧ (∀ D, rowD R = some D → m.length ≤ D) ∧ a = (t.a : Int) ∧ e = errC t.e ∧ Gr m m'
/-- .. and the document -/
def ROut (m m' : Mem) (s : Sl) (a : Int) (e : Int) (t : Told) : Prop := s.len = t.n ∧ Src m' s.a t.n t.w ∧ a = (t.a : Int) ∧ e = t.e ∧ Gr m m'
theorem FOut.no {m m' : Mem} {e : Int} (h : Gr m m') : FOut m m' ⟨none, 0, 0⟩ 0 (errC e) (.no e) := ⟨none, 0, rfl, rfl, (fun D h => nomatch h), rfl, rfl, h⟩
theorem ROut.no {m m' : Mem} {e : Int} (h : Gr m m') : ROut m m' ⟨none, 0, 0⟩ 0 e (.no e) := ⟨rfl, rfl, rfl, rfl, h⟩
theorem RowLive.src {m : Mem} {r : RA} {n L : Nat} {w : Nat → GF} (h : RowLive m r n L fun u => ∀ i, i < n → u i = w i) : Src m (rowA r) n w := by
  cases r with
  | none => have h0 : n = 0 := h; subst h0; rfl
  | some x =>
    obtain ⟨D, a⟩ := x
    obtain ⟨u, h1, h2, h3, _⟩ := h
    cases a
    · exact (Src.take (sp := none) h1 h3).congr fun i hi => (h2 i hi).symm
    · exact (Src.take (sp := some 1) h1 h3).congr fun i hi => (h2 i hi).symm
theorem RowLive.weak {m : Mem} {r : RA} {n L : Nat} {P Q : (Nat → GF) → Prop} (h : RowLive m r n L P) (hq : ∀ u, P u → Q u) : RowLive m r n L Q := by
  cases r with
  | none => exact h
  | some x => obtain ⟨D, a⟩ := x; obtain ⟨u, h1, h2, h3⟩ := h; exact ⟨u, h1, hq u h2, h3⟩
theorem RowLive.lt {m : Mem} {r : RA} {n L : Nat} {P : (Nat → GF) → Prop} (h : RowLive m r n L P) : ∀ D, rowD r = some D → D < m.length := by
  intro D hD
  cases r with
  | none => cases hD
  | some x => obtain ⟨D', a⟩ := x; obtain ⟨u, h1, _⟩ := h; cases hD; exact get_lt h1
theorem RowLive.grow {m m' : Mem} {r : RA} {n L : Nat} {P : (Nat → GF) → Prop} (h : RowLive m r n L P) (hg : Gr m m') : RowLive m' r n L P := by
  cases r with
  | none => exact h
  | some x => obtain ⟨D, a⟩ := x; obtain ⟨u, h1, h2⟩ := h; exact ⟨u, hg.get h1, h2⟩

section
variable (k : Nat) (hk : 1000 < k) {m : Mem} {a : Option Addr} {n ca : Nat} {w : Nat → GF} (hw : Src m a n w) (hs : n = 256 → ∃ ad, a = some ad ∧ okS ad) (hca : n ≤ ca)
include hk hw hs hca

theorem msgR (p : Int) : Ok (patinaref06_Message k a n ca p m) fun r => ROut m r.2.2.2 r.1 r.2.1 r.2.2.1 (msgS n w p) := by
  by_cases h : n = 256 ∧ 0 ≤ p ∧ p ≤ 3
  · obtain ⟨rfl, h1, h2⟩ := h
    obtain ⟨ad, rfl, hsa⟩ := hs rfl
    obtain ⟨i, rfl⟩ := Int.eq_ofNat_of_zero_le h1
    refine (refMessage_ok k hk hw hsa hca (i := i) (by omega)).mono ?_
    rintro ⟨_, _, _, m1⟩ ⟨hg, ⟨u, a, d, h1, rfl, rfl, rfl, h2, u', h3, h4⟩ | ⟨h1, rfl, rfl, rfl⟩⟩
    · unfold msgS
      simp only [Int.toNat_natCast, h1, and_self, if_true, Int.natCast_nonneg, show (i : Int) ≤ 3 by omega]
      exact ⟨rfl, (Src.take (sp := some 1) h3 (l := 58) (by omega)).congr fun i hi => (h4 i (by omega)).symm, rfl, rfl, hg⟩
    · unfold msgS
      simp only [Int.toNat_natCast, h1, and_self, if_true, Int.natCast_nonneg, show (i : Int) ≤ 3 by omega]
      exact .no hg
  · rw [refMessage_no k h]
    unfold msgS
    rw [if_neg h]
    exact .some (.no (Gr.refl _))
theorem dataR : Ok (patinaref06_Data k a n ca m) fun r => ROut m r.2.2.2 r.1 r.2.1 r.2.2.1 (dataS n w) := by
  by_cases h : n = 256
  · subst h
    obtain ⟨ad, rfl, hsa⟩ := hs rfl
    refine (refData_ok k hk hw hsa hca).mono ?_
    rintro ⟨_, _, _, m1⟩ ⟨hg, ⟨U, N, hd, h1, rfl, rfl, h4⟩ | ⟨j, hj, h1, rfl, rfl, rfl⟩⟩
    · have hU : ∀ j, j < 3 → dW w j = U j ∧ dN w j = N j ∧ dIs w j := fun j hj => by
        unfold dW dN dIs; rw [hd j hj]; exact ⟨rfl, rfl, by simp⟩
      unfold dataS
      rw [if_pos rfl, if_pos ⟨(hU 0 (by omega)).2.2, (hU 1 (by omega)).2.2, (hU 2 (by omega)).2.2⟩]
      refine ⟨h1, h4.congr fun i hi => ?_, ?_, rfl, hg⟩
      · show dW w (i / 58) (i % 58) = _
        rw [(hU (i / 58) (by omega)).1]
      · simp only [mxN, (hU 0 (by omega)).2.1, (hU 1 (by omega)).2.1, (hU 2 (by omega)).2.1]
    · unfold dataS
      rw [if_pos rfl, if_neg ?_]
      · exact .no hg
      · rintro ⟨a, b, c⟩
        have : j = 0 ∨ j = 1 ∨ j = 2 := by omega
        rcases this with rfl | rfl | rfl
        · exact a h1
        · exact b h1
        · exact c h1
  · rw [refData_no k hk h]
    unfold dataS
    rw [if_neg h]
    exact .some (.no (Gr.refl _))
theorem bodyR : Ok (patinaref06_Body k a n ca m) fun r => ROut m r.2.2.2 r.1 r.2.1 r.2.2.1 (bodyS n w) := by
  by_cases h : n = 256
  · subst h
    obtain ⟨ad, rfl, hsa⟩ := hs rfl
    refine (refBody_ok k hk hw hsa hca).mono ?_
    rintro ⟨_, _, _, m1⟩ ⟨hg, ⟨u, a, d, h1, hm, rfl, rfl, rfl, h2⟩ | ⟨u, a, h1, hm, rfl, rfl, rfl⟩ | ⟨h1, rfl, rfl, rfl⟩⟩
    · unfold bodyS
      simp only [if_true, h1, if_pos hm]
      exact ⟨rfl, h2, rfl, rfl, hg⟩
    · unfold bodyS
      simp only [if_true, h1, if_neg hm]
      exact .no hg
    · unfold bodyS
      simp only [if_true, h1]
      exact .no hg
  · rw [refBody_no k h]
    unfold bodyS
    rw [if_neg h]
    exact .some (.no (Gr.refl _))

variable {c : Nat} (hC : Frm m c)
include hC
theorem msgF (p : Int) : Ok (frame_Frame_Message k (some ⟨c, 0, none⟩) a n ca p m) fun r => FOut m r.2.2.2 r.1 r.2.1 r.2.2.1 (msgS n w p) := by
  by_cases h : n = 256 ∧ 0 ≤ p ∧ p ≤ 3
  · obtain ⟨rfl, h1, h2⟩ := h
    obtain ⟨ad, rfl, hsa⟩ := hs rfl
    obtain ⟨i, rfl⟩ := Int.eq_ofNat_of_zero_le h1
    refine (message_ok' k hk hC hw hsa hca (i := i) (by omega)).mono ?_
    rintro ⟨_, _, _, m1⟩ ⟨hg, ⟨u, a, d, h1, rfl, rfl, rfl, h2, h3⟩ | ⟨h1, rfl, rfl, rfl⟩⟩
    · unfold msgS
      simp only [Int.toNat_natCast, h1, and_self, if_true, Int.natCast_nonneg, show (i : Int) ≤ 3 by omega]
      exact ⟨some (d, false), 64, rfl, ⟨u, h3, fun i _ => rfl, by simp, fun h => nomatch h⟩, (fun D h => by cases h; exact h2), rfl, rfl, hg⟩
    · unfold msgS
      simp only [Int.toNat_natCast, h1, and_self, if_true, Int.natCast_nonneg, show (i : Int) ≤ 3 by omega]
      exact .no hg
  · rw [message_no k h]
    unfold msgS
    rw [if_neg h]
    exact .some (.no (Gr.refl _))
theorem dataF : Ok (frame_Frame_Data k (some ⟨c, 0, none⟩) a n ca m) fun r => FOut m r.2.2.2 r.1 r.2.1 r.2.2.1 (dataS n w) := by
  by_cases h : n = 256
  · subst h
    obtain ⟨ad, rfl, hsa⟩ := hs rfl
    refine (data_ok k hk hC hw hsa hca).mono ?_
    rintro ⟨_, _, _, m1⟩ ⟨hg, ⟨U, N, q, hd, rfl, rfl, rfl, h3, h4⟩ | ⟨j, hj, h1, rfl, rfl, rfl⟩⟩
    · have hU : ∀ j, j < 3 → dW w j = U j ∧ dN w j = N j ∧ dIs w j := fun j hj => by
        unfold dW dN dIs; rw [hd j hj]; exact ⟨rfl, rfl, by simp⟩
      unfold dataS
      rw [if_pos rfl, if_pos ⟨(hU 0 (by omega)).2.2, (hU 1 (by omega)).2.2, (hU 2 (by omega)).2.2⟩]
      refine ⟨some (q, true), 174, rfl, ⟨_, h4, fun i hi => ?_, Nat.le_refl _, fun _ => rfl⟩, (fun D h => by cases h; exact h3), ?_, rfl, hg⟩
      · have hi : i < 174 := hi
        show _ = dW w (i / 58) (i % 58)
        rw [(hU (i / 58) (by omega)).1]
      · simp only [mxN, (hU 0 (by omega)).2.1, (hU 1 (by omega)).2.1, (hU 2 (by omega)).2.1]
    · unfold dataS
      rw [if_pos rfl, if_neg ?_]
      · exact .no hg
      · rintro ⟨a, b, c⟩
        have : j = 0 ∨ j = 1 ∨ j = 2 := by omega
        rcases this with rfl | rfl | rfl
        · exact a h1
        · exact b h1
        · exact c h1
  · refine (data_no k h).mono ?_
    rintro ⟨_, _, _, m1⟩ ⟨rfl, rfl, rfl, hg⟩
    unfold dataS
    rw [if_neg h]
    exact .no hg
theorem bodyF : Ok (frame_Frame_Body k (some ⟨c, 0, none⟩) a n ca m) fun r => FOut m r.2.2.2 r.1 r.2.1 r.2.2.1 (bodyS n w) := by
  by_cases h : n = 256
  · subst h
    obtain ⟨ad, rfl, hsa⟩ := hs rfl
    refine (body_ok k hk hC hw hsa hca).mono ?_
    rintro ⟨_, _, _, m1⟩ ⟨hg, ⟨u, a, d, h1, hm, rfl, rfl, rfl, h2, h3⟩ | ⟨u, a, h1, hm, rfl, rfl, rfl⟩ | ⟨h1, rfl, rfl, rfl⟩⟩
    · unfold bodyS
      simp only [if_true, h1, if_pos hm]
      exact ⟨some (d, false), 58, rfl, ⟨u, h3, fun i _ => rfl, by simp, fun h => nomatch h⟩, (fun D h => by cases h; exact h2), rfl, rfl, hg⟩
    · unfold bodyS
      simp only [if_true, h1, if_neg hm]
      exact .no hg
    · unfold bodyS
      simp only [if_true, h1]
      exact .no hg
  · rw [body_no k h]
    unfold bodyS
    rw [if_neg h]
    exact .some (.no (Gr.refl _))
end
end Go.Proofs.Ytmfmoanjecjeeaa
