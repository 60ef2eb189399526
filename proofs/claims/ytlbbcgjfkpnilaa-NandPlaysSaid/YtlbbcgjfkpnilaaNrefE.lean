/- The document's chip: a clone of it. -/
import Derived.Test.YtlbbcgjfkpnilaaNrefD
set_option linter.unusedVariables false
set_option linter.unusedSectionVars false
set_option linter.unusedSimpArgs false
namespace Go.Proofs.Ytlbbcgjfkpnilaa
open Go.Mx

theorem wr_app {m g : Mem} {n : Nat} {cs : List Value} (h : n < m.length) : wr (m ++ g) n cs = wr m n cs ++ g := by unfold wr; rw [List.set_append_left _ _ h]
/-- the chunks of a clone's block -/
structure Cw (M m : Mem) (B : Nat) (tl : List Value) (β : BlockS) (n : Nat) (a : Option Addr) (lb : Nat → Option CL) (N T : Int → Nat × Bool) : Prop where
  gr : Gr M m
  b_ : m[B]? = some (.live (.slice a n n :: tl)) ∧ lb B = none ∧ M.length ≤ B
  row : (a = none ∧ n = 0) ∨ ∃ L, a = some ⟨L, 0, some 4⟩ ∧ M.length ≤ L ∧ m[L]? = some (.live (farr n fun j => rch (N j) (T j) (β.ch j))) ∧ lb L = some .l
  n_ : ∀ j : Int, 0 ≤ j → j < n → m[(N j).1]? = some (.live (arr .u8 64 (β.ch j).now)) ∧ lb (N j).1 = some (.n j)
  t_ : ∀ j : Int, 0 ≤ j → j < n → m[(T j).1]? = some (.live (arr .u8 64 (β.ch j).tru)) ∧ lb (T j).1 = some (.t j)
  new : ∀ p, lb p ≠ none → M.length ≤ p ∧ p < m.length
/-- a chunk more -/
theorem Cw.next {M m m2 : Mem} {B : Nat} {tl : List Value} {β : BlockS} {n : Nat} {a : Option Addr} {lb : Nat → Option CL} {N T : Int → Nat × Bool} (h : Cw M m B tl β n a lb N T) {D E : Nat} (hg : Gr m m2) (hD : m2[D]? = some (.live (arr .u8 64 (β.ch n).now))) (hE : m2[E]? = some (.live (arr .u8 64 (β.ch n).tru)))
    (hDE : m.length ≤ D ∧ D < m2.length ∧ m.length ≤ E ∧ E < m2.length ∧ D ≠ E) (hn : n < 32) :
    ∃ M3, appM 4 64 (m2 ++ [.live (rch (D, true) (E, true) (β.ch n))]) a n n 1 (rch (D, true) (E, true) (β.ch n)) = some (⟨some ⟨m2.length + 1, 0, some 4⟩, n + 1, n + 1⟩, M3) ∧ M3[B]? = some (.live (.slice a n n :: tl)) ∧
      ∃ lb' N' T', Cw M (wr M3 B (.slice (some ⟨m2.length + 1, 0, some 4⟩) (n + 1) (n + 1) :: tl)) B tl β (n + 1) (some ⟨m2.length + 1, 0, some 4⟩) lb' N' T' := by
  have l3 : (m2 ++ [MObj.live (rch (D, true) (E, true) (β.ch n))]).length = m2.length + 1 := by simp
  have hgl : Gr m (m2 ++ [.live (rch (D, true) (E, true) (β.ch n))]) := hg.trans (Gr.app _ _)
  have hlen : (farr n fun j => rch (N j) (T j) (β.ch j)).length = n * 4 := farr_len (z := 4) fun _ _ _ => rfl
  have hml := h.gr.len
  have hml2 := hg.len
  obtain ⟨M3, a1, a2, a3, a4, a5⟩ := appM_any (z := 4) (y := 64) (m := m2 ++ [.live (rch (D, true) (E, true) (β.ch n))]) (a := a) (n := n) (l := 1) (old := farr n fun j => rch (N j) (T j) (β.ch j)) (new := rch (D, true) (E, true) (β.ch n)) (by
    rcases h.row with ⟨h1, h2⟩ | ⟨L, h1, h2, h3, _⟩
    · refine .inl ⟨h1, h2, ?_⟩
      subst h2; rfl
    · exact .inr ⟨L, h1, hgl.get h3, hlen⟩) (by omega) (by unfold most; omega) (by unfold most; omega)
  have rowne : ∀ b, a = some ⟨b, 0, some 4⟩ → M.length ≤ b ∧ b < m.length ∧ lb b = some .l := by
    rintro b rfl
    rcases h.row with ⟨h1, _⟩ | ⟨L, h1, h2, h3, h4⟩
    · cases h1
    · simp only [Option.some.injEq, Addr.mk.injEq, and_true] at h1
      subst h1; exact ⟨h2, get_lt h3, h4⟩
  have a5 := a5 M (h.gr.trans hgl) fun b hb => (rowne b hb).1
  rw [l3] at a1 a2 a3
  have Blt := get_lt h.b_.1
  have B3 : M3[B]? = some (.live (.slice a n n :: tl)) := by
    rw [a4 B (by omega) fun b hb he => by have := (rowne b hb).2.2; rw [← he, h.b_.2.1] at this; cases this]
    exact hgl.get h.b_.1
  refine ⟨M3, a1, B3, ?_⟩
  let N' : Int → Nat × Bool := upd N n (D, true)
  let T' : Int → Nat × Bool := upd T n (E, true)
  let lb' : Nat → Option CL := fun p => if p = D then some (.n n) else if p = E then some (.t n) else if p = m2.length + 1 then some .l else if a = some ⟨p, 0, some 4⟩ then none else lb p
  have hlb : ∀ p, p < m.length → a ≠ some ⟨p, 0, some 4⟩ → lb' p = lb p := fun p hp ha => by show (if _ then _ else _) = _; rw [if_neg (by omega), if_neg (by omega), if_neg (by omega), if_neg ha]
  have notl : ∀ p o, lb p = some o → o ≠ .l → a ≠ some ⟨p, 0, some 4⟩ := fun p o hp ho ha => by
    have := (rowne p ha).2.2
    rw [hp] at this; cases this; exact ho rfl
  have notB : ∀ p o, lb p = some o → p ≠ B := fun p o hp he => by rw [he, h.b_.2.1] at hp; cases hp
  have keep : ∀ p o, m[p]? = some o → a ≠ some ⟨p, 0, some 4⟩ → p ≠ B → (wr M3 B (.slice (some ⟨m2.length + 1, 0, some 4⟩) (n + 1) (n + 1) :: tl))[p]? = some o := fun p o hp ha hB => by
    have := get_lt hp
    rw [wr_ne (Ne.symm hB), a4 p (by omega) fun b hb he => ha (by rw [he]; exact hb)]; exact hgl.get hp
  have keep2 : ∀ p o, m2[p]? = some o → m.length ≤ p → (wr M3 B (.slice (some ⟨m2.length + 1, 0, some 4⟩) (n + 1) (n + 1) :: tl))[p]? = some o := fun p o hp hle => by
    have := get_lt hp
    rw [wr_ne (by omega), a4 p (by omega) fun b hb he => by have := (rowne b hb).2.1; omega]; exact get_grow hp
  refine ⟨lb', N', T', ⟨a5.wr h.b_.2.2 _, ⟨wr_get B3, ?_, h.b_.2.2⟩, .inr ⟨m2.length + 1, rfl, by omega, ?_, ?_⟩, fun i h0 h1 => ?_, fun i h0 h1 => ?_, fun p hp => ?_⟩⟩
  · show (if _ then _ else _) = _
    rw [if_neg (by omega), if_neg (by omega), if_neg (by omega)]
    split
    · rfl
    · exact h.b_.2.1
  · rw [wr_ne (by omega), a3, farr_succ]
    congr 3
    · refine farr_congr fun i _ h1 => ?_
      show _ = rch (upd N n _ i) (upd T n _ i) _
      rw [upd_ne (by omega), upd_ne (by omega)]
    · show _ = rch (upd N n _ n) (upd T n _ n) _
      rw [upd_same, upd_same]
  · show (if _ then _ else _) = _
    rw [if_neg (by omega), if_neg (by omega), if_pos rfl]
  · by_cases hi : i = (n : Int)
    · subst hi
      show (wr M3 B _)[(upd N n (D, true) n).1]? = _ ∧ lb' (upd N n (D, true) n).1 = _
      rw [upd_same]
      exact ⟨keep2 _ _ hD hDE.1, if_pos rfl⟩
    · have := h.n_ i h0 (by omega)
      show (wr M3 B _)[(upd N n (D, true) i).1]? = _ ∧ lb' (upd N n (D, true) i).1 = _
      rw [upd_ne hi]
      have q := notl _ _ this.2 (by simp)
      exact ⟨keep _ _ this.1 q (notB _ _ this.2), by rw [hlb _ (get_lt this.1) q]; exact this.2⟩
  · by_cases hi : i = (n : Int)
    · subst hi
      show (wr M3 B _)[(upd T n (E, true) n).1]? = _ ∧ lb' (upd T n (E, true) n).1 = _
      rw [upd_same]
      refine ⟨keep2 _ _ hE hDE.2.2.1, ?_⟩
      show (if _ then _ else _) = _
      rw [if_neg (Ne.symm hDE.2.2.2.2), if_pos rfl]
    · have := h.t_ i h0 (by omega)
      show (wr M3 B _)[(upd T n (E, true) i).1]? = _ ∧ lb' (upd T n (E, true) i).1 = _
      rw [upd_ne hi]
      have q := notl _ _ this.2 (by simp)
      exact ⟨keep _ _ this.1 q (notB _ _ this.2), by rw [hlb _ (get_lt this.1) q]; exact this.2⟩
  · rw [wr_len, a2]
    have hp : (if p = D then some (.n n) else if p = E then some (.t n) else if p = m2.length + 1 then some .l else if a = some ⟨p, 0, some 4⟩ then none else lb p) ≠ none := hp
    split at hp
    · omega
    · split at hp
      · omega
      · split at hp
        · omega
        · split at hp
          · exact absurd rfl hp
          · have := h.new p hp; omega

section
variable {m : Mem} {r : Nat} {lab : Nat → Option Lab} {g : RG} {σ : ChipS} (h : RefX m r lab g σ)
include h
theorem refClone_ok (k : Nat) (hk : 64 < k) : Ok (patinaref05_Chip_Clone k (some ⟨r, 0, none⟩) m) fun x => x.1 = some ⟨m.length, 0, none⟩ ∧ ∃ lab' g', RefX x.2 m.length lab' g' σ ∧ Gr m x.2 ∧ ∀ p, lab' p ≠ none → m.length ≤ p := by
  unfold patinaref05_Chip_Clone
  simp (disch := omega) only [Option.bind_some, Option.map_some, cond_true, cond_false, wrap_i64, tmod_pos, tdiv_pos, inRange_yes, inUpto_yes, isZero_no, decide_eq_true, decide_eq_false, Bool.not_true, Bool.not_false, Int.toNat_natCast, Nat.mul_one, beqI_yes, beqI_no, bneI_yes, bneI_no, isNil_nil, isNil_iface, wr_wr, Option.isNone_none, Option.isNone_some, plus, Nat.zero_add, Nat.add_zero, h.ldOn, h.ldBud, h.ldSteps]
  refine patinaref05_Chip_Clone_l0_rule k _ (fun d x0 x1 x2 M => (some ⟨r, 0, none⟩ : Option Addr) = x0 ∧ (⟨m.length, 0, none⟩ : Addr) = x1 ∧ ∃ (n : Nat) (a : Option Addr) (lab' : Nat → Option Lab) (g' : RG), x2 = n ∧ n + d = 12 ∧ Nw m M n a lab' g' σ [.bool (!σ.off), .int .i64 (budR σ), .int .i64 σ.steps]) ?_ k 12 _ _ _ _ (by omega)
    ⟨rfl, rfl, 0, none, fun p => if p = m.length then some .chip else none, ⟨0, fun _ => 0, fun _ _ => (0, false), fun _ _ => (0, false), fun _ => 0⟩, rfl, rfl, ⟨Gr.app _ _, ⟨get_last rfl, if_pos rfl⟩, .inl ⟨rfl, rfl⟩, fun i h0 h1 => by omega, fun i j h0 h1 => by omega, fun i j h0 h1 => by omega, fun i h0 h1 => by omega, fun p hp => by
      by_cases q1 : p = m.length
      · subst q1; simp
      · exact absurd (if_neg q1) hp⟩⟩
  rintro d nx _ _ _ M ⟨rfl, rfl, n, a, lab1, g1, rfl, hd, hN⟩ hnx
  unfold patinaref05_Chip_Clone_l0_b
  by_cases hn : (n : Int) < 12
  · have hM := h.grow hN.gr
    have i1 : inRange (n : Int) 12 = true := inRange_yes (by omega) hn
    have tn : Int.toNat (n : Int) = n := Int.toNat_natCast n
    have e0 := hM.ldB
    have e1 : ldCells M ⟨g.q, n * 5, some 5⟩ 5 = some (rblk (g.L n) (g.A n) (σ.b n)) := by
      rw [ldCells_of hM.blocks (by rw [rblks_len]; omega)]
      have := farr_sub (n := 12) (z := 5) (f := fun i => rblk (g.L i) (g.A i) (σ.b i)) (fun _ _ _ => rfl) (i := n) (o := 0) (l := 5) (by omega) (by omega)
      rw [Nat.add_zero] at this
      unfold rblks; rw [this]; rfl
    have l5 : Nat.beq (rblk (g.L n) (g.A n) (σ.b n)).length 5 = true := rfl
    have s1 : stCells (M ++ [.live [.slice none 0 0, .int .i64 0, .bool false, .int .i64 0, .bool false]]) ⟨M.length, 0, none⟩ (rblk (g.L n) (g.A n) (σ.b n)) = some (M ++ [.live (rblk (g.L n) (g.A n) (σ.b n))]) := by
      rw [stCells_wr (get_last rfl) (Nat.le_refl _), wr_last rfl]; rfl
    have s2 : st (M ++ [.live (rblk (g.L n) (g.A n) (σ.b n))]) ⟨M.length, 0, none⟩ (.slice none 0 0) = some (M ++ [.live (.slice none 0 0 :: [.int .i64 (σ.b n).reads, .bool (σ.b n).failed, .int .i64 (g.A n), .bool (σ.b n).atErase])]) := by
      rw [st_wr (get_last rfl) (by simp [rblk]), wr_last rfl]; rfl
    simp (disch := omega) only [Option.bind_some, Option.map_some, cond_true, cond_false, wrap_i64, tmod_pos, tdiv_pos, inRange_yes, inUpto_yes, isZero_no, decide_eq_true, decide_eq_false, Bool.not_true, Bool.not_false, Int.toNat_natCast, Nat.mul_one, beqI_yes, beqI_no, bneI_yes, bneI_no, isNil_nil, isNil_iface, wr_wr, Option.isNone_none, Option.isNone_some, plus, Nat.zero_add, Nat.add_zero, i1, tn, e0, e1, l5, s1, s2]
    obtain ⟨tl, htl⟩ : ∃ tl : List Value, tl = [.int .i64 (σ.b n).reads, .bool (σ.b n).failed, .int .i64 (g.A n), .bool (σ.b n).atErase] := ⟨_, rfl⟩
    rw [← htl]
    have Cini : Cw M (M ++ [.live (.slice none 0 0 :: tl)]) M.length tl (σ.b n) 0 none (fun _ => none) (fun _ => (0, false)) (fun _ => (0, false)) :=
      ⟨Gr.app _ _, ⟨get_last rfl, rfl, Nat.le_refl _⟩, .inl ⟨rfl, rfl⟩, fun j h0 h1 => by omega, fun j h0 h1 => by omega, fun p hp => absurd rfl hp⟩
    generalize M ++ [.live (.slice none 0 0 :: tl)] = M1 at *
    refine patinaref05_Chip_Clone_l2_rule k _ (fun d2 x0 x1 x2 x3 x4 P => (some ⟨r, 0, none⟩ : Option Addr) = x0 ∧ (⟨m.length, 0, none⟩ : Addr) = x1 ∧ (n : Int) = x2 ∧ (⟨M.length, 0, none⟩ : Addr) = x3 ∧ ∃ (j : Nat) (a' : Option Addr) (lb : Nat → Option CL) (N T : Int → Nat × Bool), x4 = j ∧ j + d2 = 32 ∧ Cw M P M.length tl (σ.b n) j a' lb N T) ?_ k 32 _ _ _ _ _ _ (by omega)
      ⟨rfl, rfl, rfl, rfl, 0, none, _, _, _, rfl, rfl, Cini⟩
    rintro d2 nx2 _ _ _ _ _ P ⟨rfl, rfl, rfl, rfl, j, a', lb, N, T, rfl, hd2, hC⟩ hnx2
    unfold patinaref05_Chip_Clone_l2_b
    have hP := hM.grow hC.gr
    have f0 := hP.ldB
    have f1 := hP.ldL (x := n) (by omega) hn
    rw [tn] at f1
    by_cases hj : (j : Int) < 32
    · have j1 : inRange (j : Int) 32 = true := inRange_yes (by omega) hj
      have tj : Int.toNat (j : Int) = j := Int.toNat_natCast j
      have hLs := (hP.ls n (by omega) hn).1
      have hNs := (hP.ns n j (by omega) hn (by omega) hj).1
      have hTs := (hP.ts n j (by omega) hn (by omega) hj).1
      have e2 : ldCells P ⟨g.L n, j * 4, some 4⟩ 4 = some (rch (g.N n j) (g.T n j) ((σ.b n).ch j)) := by
        rw [ldCells_of hLs (by rw [rchs_len]; omega)]
        have := farr_sub (n := 32) (z := 4) (f := fun j => rch (g.N n j) (g.T n j) ((σ.b n).ch j)) (fun _ _ _ => rfl) (i := j) (o := 0) (l := 4) (by omega) (by omega)
        rw [Nat.add_zero] at this
        unfold rchs; rw [this]; rfl
      obtain ⟨ch, hch⟩ : ∃ ch, ch = (σ.b n).ch j := ⟨_, rfl⟩
      rw [← hch] at e2 hNs hTs
      let X4 := rch (g.N n j) (g.T n j) ch
      have l4 : Nat.beq (rch (g.N n j) (g.T n j) ch).length 4 = true := rfl
      have s3 : stCells (P ++ [.live [.slice none 0 0, .slice none 0 0, .bool false, .int .i64 0]]) ⟨P.length, 0, none⟩ (rch (g.N n j) (g.T n j) ch) = some (P ++ [.live (rch (g.N n j) (g.T n j) ch)]) := by
        rw [stCells_wr (get_last rfl) (Nat.le_refl _), wr_last rfl]; rfl
      have g3 : (P ++ [MObj.live (rch (g.N n j) (g.T n j) ch)])[P.length]? = some (.live (rch (g.N n j) (g.T n j) ch)) := get_last rfl
      have p2 : ldBool (P ++ [MObj.live (rch (g.N n j) (g.T n j) ch)]) ⟨P.length, 2, none⟩ = some ch.is := ldBool_of g3 rfl
      have p3 : ldInt .i64 (P ++ [MObj.live (rch (g.N n j) (g.T n j) ch)]) ⟨P.length, 3, none⟩ = some ch.worst := ldInt_of g3 rfl
      have lp : (P ++ [MObj.live (rch (g.N n j) (g.T n j) ch)]).length = P.length + 1 := by simp
      simp (disch := omega) only [Option.bind_some, Option.map_some, cond_true, cond_false, wrap_i64, tmod_pos, tdiv_pos, inRange_yes, inUpto_yes, isZero_no, decide_eq_true, decide_eq_false, Bool.not_true, Bool.not_false, Int.toNat_natCast, Nat.mul_one, beqI_yes, beqI_no, bneI_yes, bneI_no, isNil_nil, isNil_iface, wr_wr, Option.isNone_none, Option.isNone_some, plus, Nat.zero_add, Nat.add_zero, f0, i1, tn, f1, decide_eq_true hj, j1, tj, e2, l4, s3, p2, p3, lp]
      have s4 : stCells (P ++ [MObj.live (rch (g.N n j) (g.T n j) ch)] ++ [.live [.slice none 0 0, .slice none 0 0, .bool false, .int .i64 0]]) ⟨P.length + 1, 0, none⟩ [.slice none 0 0, .slice none 0 0, .bool ch.is, .int .i64 ch.worst] = some (P ++ [MObj.live (rch (g.N n j) (g.T n j) ch)] ++ [.live [.slice none 0 0, .slice none 0 0, .bool ch.is, .int .i64 ch.worst]]) := by
        rw [stCells_wr (get_last lp) (Nat.le_refl _), wr_last lp]; rfl
      obtain ⟨Q1, hQ1⟩ : ∃ Q1, Q1 = P ++ [MObj.live (rch (g.N n j) (g.T n j) ch)] ++ [.live [.slice none 0 0, .slice none 0 0, .bool ch.is, .int .i64 ch.worst]] := ⟨_, rfl⟩
      have lq : Q1.length = P.length + 2 := by rw [hQ1]; simp
      have gq : Gr P Q1 := by rw [hQ1]; exact (Gr.app _ _).trans (Gr.app _ _)
      have y1 : Q1[P.length + 1]? = some (.live [.slice none 0 0, .slice none 0 0, .bool ch.is, .int .i64 ch.worst]) := by rw [hQ1]; exact get_last lp
      have x1 : Q1[P.length]? = some (.live (rch (g.N n j) (g.T n j) ch)) := by rw [hQ1]; exact get_grow g3
      rw [← hQ1] at s4
      have q0 : ldSl Q1 ⟨P.length + 1, 0, none⟩ = some ⟨none, 0, 0⟩ := ldSl_of y1 rfl
      have q1 : ldSl Q1 ⟨P.length, 0, none⟩ = some ⟨rowA (some (g.N n j)), 64, 64⟩ := ldSl_of x1 rfl
      have r1 : rdSl Q1 (rowA (some (g.N n j))) 64 1 = some (arr .u8 64 ch.now) := by rw [rowA_eq]; exact rdSl_all (gq.get hNs) (by simp)
      have a1 : appM 1 1 Q1 none 0 0 64 (arr .u8 64 ch.now) = some (⟨some ⟨Q1.length, 0, some 1⟩, 64, 64⟩, Q1 ++ [.live (arr .u8 64 ch.now)]) := appM_first (by omega) (by unfold most; omega) (by unfold most; omega)
      have w1 : st (Q1 ++ [.live (arr .u8 64 ch.now)]) ⟨P.length + 1, 0, none⟩ (.slice (some ⟨Q1.length, 0, some 1⟩) 64 64) = some (wr Q1 (P.length + 1) [.slice (some ⟨P.length + 2, 0, some 1⟩) 64 64, .slice none 0 0, .bool ch.is, .int .i64 ch.worst] ++ [.live (arr .u8 64 ch.now)]) := by
        rw [st_wr (get_grow y1) (by simp), wr_app (by omega), lq]; rfl
      obtain ⟨Q2, hQ2⟩ : ∃ Q2, Q2 = wr Q1 (P.length + 1) [.slice (some ⟨P.length + 2, 0, some 1⟩) 64 64, .slice none 0 0, .bool ch.is, .int .i64 ch.worst] ++ [.live (arr .u8 64 ch.now)] := ⟨_, rfl⟩
      rw [← hQ2] at w1
      have lq2 : Q2.length = P.length + 3 := by rw [hQ2]; simp [wr_len, lq]
      have gq2 : Gr P Q2 := by rw [hQ2]; exact (gq.wr (by omega) _).trans (Gr.app _ _)
      have y2 : Q2[P.length + 1]? = some (.live [.slice (some ⟨P.length + 2, 0, some 1⟩) 64 64, .slice none 0 0, .bool ch.is, .int .i64 ch.worst]) := by rw [hQ2]; exact get_grow (wr_get y1)
      have x2 : Q2[P.length]? = some (.live (rch (g.N n j) (g.T n j) ch)) := by rw [hQ2]; exact get_grow (by rw [wr_ne (by omega)]; exact x1)
      have n2 : Q2[P.length + 2]? = some (.live (arr .u8 64 ch.now)) := by rw [hQ2]; exact get_last (by rw [wr_len, lq])
      have q2 : ldSl Q2 ⟨P.length + 1, 1, none⟩ = some ⟨none, 0, 0⟩ := ldSl_of y2 rfl
      have q3 : ldSl Q2 ⟨P.length, 1, none⟩ = some ⟨rowA (some (g.T n j)), 64, 64⟩ := ldSl_of x2 rfl
      have r2 : rdSl Q2 (rowA (some (g.T n j))) 64 1 = some (arr .u8 64 ch.tru) := by rw [rowA_eq]; exact rdSl_all (gq2.get hTs) (by simp)
      have a2 : appM 1 1 Q2 none 0 0 64 (arr .u8 64 ch.tru) = some (⟨some ⟨Q2.length, 0, some 1⟩, 64, 64⟩, Q2 ++ [.live (arr .u8 64 ch.tru)]) := appM_first (by omega) (by unfold most; omega) (by unfold most; omega)
      have w2 : st (Q2 ++ [.live (arr .u8 64 ch.tru)]) ⟨P.length + 1, 1, none⟩ (.slice (some ⟨Q2.length, 0, some 1⟩) 64 64) = some (wr Q2 (P.length + 1) (rch (P.length + 2, true) (P.length + 3, true) ch) ++ [.live (arr .u8 64 ch.tru)]) := by
        rw [st_wr (get_grow y2) (by simp), wr_app (by omega), lq2]; rfl
      obtain ⟨Q3, hQ3⟩ : ∃ Q3, Q3 = wr Q2 (P.length + 1) (rch (P.length + 2, true) (P.length + 3, true) ch) ++ [.live (arr .u8 64 ch.tru)] := ⟨_, rfl⟩
      rw [← hQ3] at w2
      have lq3 : Q3.length = P.length + 4 := by rw [hQ3]; simp [wr_len, lq2]
      have gq3 : Gr P Q3 := by rw [hQ3]; exact (gq2.wr (by omega) _).trans (Gr.app _ _)
      have y3 : Q3[P.length + 1]? = some (.live (rch (P.length + 2, true) (P.length + 3, true) ch)) := by rw [hQ3]; exact get_grow (wr_get y2)
      have n3 : Q3[P.length + 2]? = some (.live (arr .u8 64 ch.now)) := by rw [hQ3]; exact get_grow (by rw [wr_ne (by omega)]; exact n2)
      have t3 : Q3[P.length + 3]? = some (.live (arr .u8 64 ch.tru)) := by rw [hQ3]; exact get_last (by rw [wr_len, lq2])
      have q4 : ldSl Q3 ⟨M.length, 0, none⟩ = some ⟨a', j, j⟩ := ldSl_of (gq3.get hC.b_.1) rfl
      have e4 : ldCells Q3 ⟨P.length + 1, 0, none⟩ 4 = some (rch (P.length + 2, true) (P.length + 3, true) ch) := by rw [ldCells_of (off := 0) (n := 4) y3 (by rw [rch_len]; omega)]; rfl
      have l4' : Nat.beq (rch (P.length + 2, true) (P.length + 3, true) ch).length 4 = true := rfl
      have pu : putAt [.slice none 0 0, .slice none 0 0, .bool false, .int .i64 0] 0 4 (rch (P.length + 2, true) (P.length + 3, true) ch) = rch (P.length + 2, true) (P.length + 3, true) ch := rfl
      have r4 : rdSl (Q3 ++ [.live (rch (P.length + 2, true) (P.length + 3, true) ch)]) (some ⟨Q3.length, 0, none⟩) 1 4 = some (rch (P.length + 2, true) (P.length + 3, true) ch) := rdSl_all (get_last rfl) rfl
      obtain ⟨M3, z1, z2, lb', N', T', z3⟩ := hC.next (D := P.length + 2) (E := P.length + 3) gq3 (by rw [← hch]; exact n3) (by rw [← hch]; exact t3) (by omega) (by omega)
      rw [← hch] at z1
      have w4 := st_wr (sp := none) (off := 0) (v := .slice (some ⟨Q3.length + 1, 0, some 4⟩) (j + 1) (j + 1)) z2 (by simp)
      rw [List.set_cons_zero] at w4
      simp (disch := omega) only [Option.bind_some, Option.map_some, cond_true, cond_false, wrap_i64, tmod_pos, tdiv_pos, inRange_yes, inUpto_yes, isZero_no, decide_eq_true, decide_eq_false, Bool.not_true, Bool.not_false, Int.toNat_natCast, Nat.mul_one, beqI_yes, beqI_no, bneI_yes, bneI_no, isNil_nil, isNil_iface, wr_wr, Option.isNone_none, Option.isNone_some, plus, Nat.zero_add, Nat.add_zero, s4, q0, q1, r1, a1, w1, q2, q3, r2, a2, w2, q4, e4, l4', pu, r4, z1, w4]
      exact hnx2 (d2 - 1) _ _ _ _ _ _ (by omega) ⟨rfl, rfl, rfl, rfl, j + 1, _, lb', N', T', by omega, by omega, z3⟩
    · obtain rfl : j = 32 := by omega
      simp (disch := omega) only [Option.bind_some, Option.map_some, cond_true, cond_false, wrap_i64, tmod_pos, tdiv_pos, inRange_yes, inUpto_yes, isZero_no, decide_eq_true, decide_eq_false, Bool.not_true, Bool.not_false, Int.toNat_natCast, Nat.mul_one, beqI_yes, beqI_no, bneI_yes, bneI_no, isNil_nil, isNil_iface, wr_wr, Option.isNone_none, Option.isNone_some, plus, Nat.zero_add, Nat.add_zero, f0, i1, tn, f1]
      rcases hC.row with ⟨_, h0⟩ | ⟨L, rfl, hL1, hL2, hL3⟩
      · omega
      obtain ⟨M3, a1, a2, lab', g', a3⟩ := hN.next (L := L) (N := N) (T := T) (av := g.A n) (lb := lb) (sp := none) hC.gr ⟨hL2, hL3⟩ hC.n_ hC.t_ (h.at_ n (by omega) hn) hC.new (by omega)
      have e5 : ldCells P ⟨M.length, 0, none⟩ 5 = some (rblk L (g.A n) (σ.b n)) := by rw [ldCells_of (off := 0) (n := 5) hC.b_.1 (by rw [htl]; exact Nat.le_refl _), htl]; rfl
      have l6 : Nat.beq (rblk L (g.A n) (σ.b n)).length 5 = true := rfl
      have pu : putAt [.slice none 0 0, .int .i64 0, .bool false, .int .i64 0, .bool false] 0 5 (rblk L (g.A n) (σ.b n)) = rblk L (g.A n) (σ.b n) := rfl
      have r5 : rdSl (P ++ [.live (rblk L (g.A n) (σ.b n))]) (some ⟨P.length, 0, none⟩) 1 5 = some (rblk L (g.A n) (σ.b n)) := rdSl_all (get_last rfl) rfl
      have w5 := st_wr (sp := none) (off := 0) (v := .slice (some ⟨P.length + 1, 0, some 5⟩) (n + 1) (n + 1)) a2 (by simp)
      rw [List.set_cons_zero] at w5
      have e6 : ldSl P ⟨m.length, 0, none⟩ = some ⟨a, n, n⟩ := ldSl_of (hC.gr.get hN.r_.1) rfl
      have e7 : ldSl (P ++ [.live (rblk L (g.A n) (σ.b n))]) ⟨m.length, 0, none⟩ = some ⟨a, n, n⟩ := ldSl_of (get_grow (hC.gr.get hN.r_.1)) rfl
      have nb : Nat.beq n n = true := Nat.beq_refl n
      simp (disch := omega) only [Option.bind_some, Option.map_some, cond_true, cond_false, wrap_i64, tmod_pos, tdiv_pos, inRange_yes, inUpto_yes, isZero_no, decide_eq_true, decide_eq_false, Bool.not_true, Bool.not_false, Int.toNat_natCast, Nat.mul_one, beqI_yes, beqI_no, bneI_yes, bneI_no, isNil_nil, isNil_iface, wr_wr, Option.isNone_none, Option.isNone_some, plus, Nat.zero_add, Nat.add_zero, e6, e5, l6, pu, r5, a1, w5, e7, nb, Bool.and_self, decide_true]
      exact hnx (d - 1) _ _ _ _ (by omega) ⟨rfl, rfl, n + 1, _, lab', g', by omega, by omega, a3⟩
  · obtain rfl : n = 12 := by omega
    simp (disch := omega) only [Option.bind_some, Option.map_some, cond_true, cond_false, wrap_i64, tmod_pos, tdiv_pos, inRange_yes, inUpto_yes, isZero_no, decide_eq_true, decide_eq_false, Bool.not_true, Bool.not_false, Int.toNat_natCast, Nat.mul_one, beqI_yes, beqI_no, bneI_yes, bneI_no, isNil_nil, isNil_iface, wr_wr, Option.isNone_none, Option.isNone_some, plus, Nat.zero_add, Nat.add_zero]
    exact .some ⟨rfl, lab1, g1, hN.done, hN.gr, fun p hp => (hN.new p hp).1⟩
end
end Go.Proofs.Ytlbbcgjfkpnilaa
