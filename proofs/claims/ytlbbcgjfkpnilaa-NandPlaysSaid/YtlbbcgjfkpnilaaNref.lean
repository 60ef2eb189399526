/- The document's chip: where its parts lie, what is loaded and stored of it. -/
import Derived.Test.YtlbbcgjfkpnilaaNandJ
import Derived.Test.YtlbbcgjfkpnilaaApart3
import Derived.Test.YtlbbcgjfkpnilaaFpatinaref05
set_option linter.unusedVariables false
set_option linter.unusedSectionVars false
set_option linter.unusedSimpArgs false
namespace Go.Proofs.Ytlbbcgjfkpnilaa
open Go.Mx

/-! ## what changed of a memory -/
/-- nothing changed but objects of a set; new ones came -/
structure Ch (P : Nat → Prop) (m m' : Mem) : Prop where
  len : m.length ≤ m'.length
  get : ∀ p, p < m.length → ¬ P p → m'[p]? = m[p]?
theorem Ch.refl (P : Nat → Prop) (m : Mem) : Ch P m m := ⟨Nat.le_refl _, fun _ _ _ => rfl⟩
theorem Ch.trans {P : Nat → Prop} {m m' m'' : Mem} (h : Ch P m m') (h' : Ch P m' m'') : Ch P m m'' := ⟨Nat.le_trans h.len h'.len, fun p hp hn => by rw [h'.get p (Nat.lt_of_lt_of_le hp h.len) hn, h.get p hp hn]⟩
theorem Gr.ch {P : Nat → Prop} {m m' : Mem} (h : Gr m m') : Ch P m m' := by
  obtain ⟨g, rfl⟩ := h
  exact ⟨by simp, fun p hp _ => get_app_lt hp⟩
theorem Ch.wr {P : Nat → Prop} {m m' : Mem} (h : Ch P m m') {p : Nat} (hp : P p ∨ m.length ≤ p) (cs : List Value) : Ch P m (wr m' p cs) :=
  ⟨by rw [wr_len]; exact h.len, fun q hq hn => by
    rw [wr_ne (fun he => by subst he; rcases hp with h1 | h1; exact hn h1; omega)]; exact h.get q hq hn⟩
theorem Ch.app {P : Nat → Prop} {m m' : Mem} (h : Ch P m m') (g : Mem) : Ch P m (m' ++ g) := h.trans (Gr.app _ _).ch
theorem Ch.old {P : Nat → Prop} {m m' : Mem} (h : Ch P m m') {p : Nat} {o : MObj} (hp : m[p]? = some o) (hn : ¬ P p) : m'[p]? = some o := by rw [h.get p (get_lt hp) hn]; exact hp
/-- what is new may change, too -/
theorem Ch.more {P Q : Nat → Prop} {m m' m'' : Mem} (h : Ch P m m') (h' : Ch Q m' m'') (hq : ∀ p, p < m.length → Q p → P p) : Ch P m m'' :=
  ⟨Nat.le_trans h.len h'.len, fun p hp hn => by rw [h'.get p (Nat.lt_of_lt_of_le hp h.len) (fun h2 => hn (hq p hp h2)), h.get p hp hn]⟩
theorem Ch.gr {m m' : Mem} (h : Ch (fun _ => False) m m') : Gr m m' := by
  refine ⟨m'.drop m.length, ?_⟩
  apply List.ext_getElem?
  intro p
  by_cases hp : p < m.length
  · rw [List.getElem?_append_left hp]; exact h.get p hp id
  · rw [List.getElem?_append_right (by omega), List.getElem?_drop]; congr 1; omega

/-! ## where the parts of a chip lie -/
inductive CL | l | n (j : Int) | t (j : Int)
  deriving DecidableEq
inductive Lab | chip | blocks | of (i : Int) (c : CL)
  deriving DecidableEq
structure RG where
  q : Nat
  L : Int → Nat
  N : Int → Int → Nat × Bool
  T : Int → Int → Nat × Bool
  A : Int → Int
def budR (σ : ChipS) : Int := if σ.cut then σ.budget else -1
def rblk (L : Nat) (a : Int) (β : BlockS) : List Value := [.slice (some ⟨L, 0, some 4⟩) 32 32, .int .i64 β.reads, .bool β.failed, .int .i64 a, .bool β.atErase]
def rch (n t : Nat × Bool) (c : ChunkS) : List Value := [.slice (rowA (some n)) 64 64, .slice (rowA (some t)) 64 64, .bool c.is, .int .i64 c.worst]
def rhead (q : Nat) (σ : ChipS) : List Value := [.slice (some ⟨q, 0, some 5⟩) 12 12, .bool (!σ.off), .int .i64 (budR σ), .int .i64 σ.steps]
def rblks (g : RG) (σ : ChipS) : List Value := farr 12 fun i => rblk (g.L i) (g.A i) (σ.b i)
def rchs (g : RG) (i : Int) (β : BlockS) : List Value := farr 32 fun j => rch (g.N i j) (g.T i j) (β.ch j)
def AtOk (steps a b : Int) : Prop := (a + 1 = b ∨ a = b ∧ 9223372036854775807 ≤ b + steps) ∧ -1 ≤ a ∧ a < 9223372036854775808
structure RefX (m : Mem) (r : Nat) (lab : Nat → Option Lab) (g : RG) (σ : ChipS) : Prop where
  chip : m[r]? = some (.live (rhead g.q σ))
  lr : lab r = some .chip
  blocks : m[g.q]? = some (.live (rblks g σ))
  lq : lab g.q = some .blocks
  ls : ∀ i, 0 ≤ i → i < 12 → m[g.L i]? = some (.live (rchs g i (σ.b i))) ∧ lab (g.L i) = some (.of i .l)
  ns : ∀ i j, 0 ≤ i → i < 12 → 0 ≤ j → j < 32 → m[(g.N i j).1]? = some (.live (arr .u8 64 ((σ.b i).ch j).now)) ∧ lab (g.N i j).1 = some (.of i (.n j))
  ts : ∀ i j, 0 ≤ i → i < 12 → 0 ≤ j → j < 32 → m[(g.T i j).1]? = some (.live (arr .u8 64 ((σ.b i).ch j).tru)) ∧ lab (g.T i j).1 = some (.of i (.t j))
  at_ : ∀ i, 0 ≤ i → i < 12 → AtOk σ.steps (g.A i) (σ.b i).before
  lt : ∀ p, lab p ≠ none → p < m.length
theorem rblk_len {L : Nat} {a : Int} {β : BlockS} : (rblk L a β).length = 5 := rfl
theorem rch_len {n t : Nat × Bool} {c : ChunkS} : (rch n t c).length = 4 := rfl
theorem rblks_len {g : RG} {σ : ChipS} : (rblks g σ).length = 60 := farr_len (z := 5) fun _ _ _ => rfl
theorem rchs_len {g : RG} {i : Int} {β : BlockS} : (rchs g i β).length = 128 := farr_len (z := 4) fun _ _ _ => rfl
theorem rblks_get {g : RG} {σ : ChipS} {x : Int} (h0 : 0 ≤ x) (h1 : x < 12) {y : Nat} (hy : y < 5) : (rblks g σ)[x.toNat * 5 + y]? = (rblk (g.L x) (g.A x) (σ.b x))[y]? := by
  have := farr_get (n := 12) (z := 5) (f := fun i => rblk (g.L i) (g.A i) (σ.b i)) (fun _ _ _ => rfl) (i := x.toNat) (by omega) hy
  rw [Int.toNat_of_nonneg h0] at this; exact this
theorem rblks_set {g : RG} {σ : ChipS} {x : Int} (h0 : 0 ≤ x) (h1 : x < 12) {y : Nat} (hy : y < 5) {v : Value} {L' : Nat} {a' : Int} {β' : BlockS} (h : (rblk (g.L x) (g.A x) (σ.b x)).set y v = rblk L' a' β') :
    (rblks g σ).set (x.toNat * 5 + y) v = rblks { g with L := upd g.L x L', A := upd g.A x a' } (σ.updB x β') := by
  have := farr_set (n := 12) (z := 5) (f := fun i => rblk (g.L i) (g.A i) (σ.b i)) (fun _ _ _ => rfl) (i := x.toNat) (by omega) hy v
  rw [Int.toNat_of_nonneg h0] at this
  unfold rblks
  rw [this]
  refine farr_congr fun i _ _ => ?_
  by_cases hi : i = x
  · subst hi; simp [ChipS.updB, h]
  · simp [ChipS.updB, upd, hi]
theorem rchs_get {g : RG} {i : Int} {β : BlockS} {x : Int} (h0 : 0 ≤ x) (h1 : x < 32) {y : Nat} (hy : y < 4) : (rchs g i β)[x.toNat * 4 + y]? = (rch (g.N i x) (g.T i x) (β.ch x))[y]? := by
  have := farr_get (n := 32) (z := 4) (f := fun j => rch (g.N i j) (g.T i j) (β.ch j)) (fun _ _ _ => rfl) (i := x.toNat) (by omega) hy
  rw [Int.toNat_of_nonneg h0] at this; exact this

/-- a memory that has the same at its parts -/
theorem RefX.keep {m m' : Mem} {r : Nat} {lab : Nat → Option Lab} {g : RG} {σ : ChipS} (h : RefX m r lab g σ) (hln : m.length ≤ m'.length) (hk : ∀ p, lab p ≠ none → m'[p]? = m[p]?) : RefX m' r lab g σ where
  lt p hp := Nat.lt_of_lt_of_le (h.lt p hp) hln
  chip := by rw [hk r (by rw [h.lr]; simp)]; exact h.chip
  lr := h.lr
  blocks := by rw [hk _ (by rw [h.lq]; simp)]; exact h.blocks
  lq := h.lq
  ls i h0 h1 := by have := h.ls i h0 h1; exact ⟨by rw [hk _ (by rw [this.2]; simp)]; exact this.1, this.2⟩
  ns i j h0 h1 h2 h3 := by have := h.ns i j h0 h1 h2 h3; exact ⟨by rw [hk _ (by rw [this.2]; simp)]; exact this.1, this.2⟩
  ts i j h0 h1 h2 h3 := by have := h.ts i j h0 h1 h2 h3; exact ⟨by rw [hk _ (by rw [this.2]; simp)]; exact this.1, this.2⟩
  at_ := h.at_
theorem RefX.grow {m m' : Mem} {r : Nat} {lab : Nat → Option Lab} {g : RG} {σ : ChipS} (h : RefX m r lab g σ) (hg : Gr m m') : RefX m' r lab g σ := by
  refine h.keep hg.len fun p hp => ?_
  obtain ⟨g, rfl⟩ := hg
  exact get_app_lt (h.lt p hp)
/-- other numbers for what isn't told by it -/
theorem RefX.congr {m : Mem} {r : Nat} {lab : Nat → Option Lab} {g : RG} {σ τ : ChipS} (h : RefX m r lab g σ) (he : σ = τ) : RefX m r lab g τ := he ▸ h
theorem AtOk.mono {s s' a b : Int} (h : AtOk s a b) (hs : s ≤ s') : AtOk s' a b := by
  obtain ⟨h1, h2⟩ := h
  exact ⟨by omega, h2⟩
/-- its head is written -/
theorem RefX.head {m : Mem} {r : Nat} {lab : Nat → Option Lab} {g : RG} {σ τ : ChipS} (h : RefX m r lab g σ) (hb : τ.b = σ.b) (hs : σ.steps ≤ τ.steps) : RefX (wr m r (rhead g.q τ)) r lab g τ := by
  have hne : ∀ p l, lab p = some l → l ≠ .chip → (wr m r (rhead g.q τ))[p]? = m[p]? := fun p l hp hl => wr_ne (fun he => by subst he; rw [h.lr] at hp; cases hp; exact hl rfl)
  refine ⟨wr_get h.chip, h.lr, ?_, h.lq, fun i h0 h1 => ?_, fun i j h0 h1 h2 h3 => ?_, fun i j h0 h1 h2 h3 => ?_, fun i h0 h1 => ?_, fun p hp => by rw [wr_len]; exact h.lt p hp⟩
  · rw [hne _ _ h.lq (by simp), h.blocks]; unfold rblks; rw [hb]
  · have := h.ls i h0 h1
    rw [hb]; exact ⟨by rw [hne _ _ this.2 (by simp)]; exact this.1, this.2⟩
  · have := h.ns i j h0 h1 h2 h3
    rw [hb]; exact ⟨by rw [hne _ _ this.2 (by simp)]; exact this.1, this.2⟩
  · have := h.ts i j h0 h1 h2 h3
    rw [hb]; exact ⟨by rw [hne _ _ this.2 (by simp)]; exact this.1, this.2⟩
  · rw [hb]; exact (h.at_ i h0 h1).mono hs
/-- a block's own cells are written -/
theorem RefX.blk {m : Mem} {r : Nat} {lab : Nat → Option Lab} {g : RG} {σ : ChipS} (h : RefX m r lab g σ) {x : Int} {β' : BlockS} {a' : Int} (hc : β'.ch = (σ.b x).ch) (ha : 0 ≤ x → x < 12 → AtOk σ.steps a' β'.before) :
    RefX (wr m g.q (rblks { g with A := upd g.A x a' } (σ.updB x β'))) r lab { g with A := upd g.A x a' } (σ.updB x β') := by
  have hne : ∀ p l, lab p = some l → l ≠ .blocks → (wr m g.q (rblks { g with A := upd g.A x a' } (σ.updB x β')))[p]? = m[p]? := fun p l hp hl => wr_ne (fun he => by subst he; rw [h.lq] at hp; cases hp; exact hl rfl)
  have hch : ∀ i, ((σ.updB x β').b i).ch = (σ.b i).ch := fun i => by
    unfold ChipS.updB upd
    by_cases hi : i = x
    · subst hi; simp [hc]
    · simp [hi]
  refine ⟨?_, h.lr, wr_get h.blocks, h.lq, fun i h0 h1 => ?_, fun i j h0 h1 h2 h3 => ?_, fun i j h0 h1 h2 h3 => ?_, fun i h0 h1 => ?_, fun p hp => by rw [wr_len]; exact h.lt p hp⟩
  · rw [hne _ _ h.lr (by simp), h.chip]; rfl
  · have := h.ls i h0 h1
    refine ⟨?_, this.2⟩
    show (wr m g.q _)[g.L i]? = _
    rw [hne _ _ this.2 (by simp), this.1]
    unfold rchs; rw [hch]
  · have := h.ns i j h0 h1 h2 h3
    rw [hch]; exact ⟨by show (wr m g.q _)[(g.N i j).1]? = _; rw [hne _ _ this.2 (by simp)]; exact this.1, this.2⟩
  · have := h.ts i j h0 h1 h2 h3
    rw [hch]; exact ⟨by show (wr m g.q _)[(g.T i j).1]? = _; rw [hne _ _ this.2 (by simp)]; exact this.1, this.2⟩
  · show AtOk σ.steps (upd g.A x a' i) (upd σ.b x β' i).before
    by_cases hi : i = x
    · subst hi; rw [upd_same, upd_same]; exact ha h0 h1
    · rw [upd_ne hi, upd_ne hi]; exact h.at_ i h0 h1
/-- a chunk is another one, and lies elsewhere -/
theorem RefX.chunk {m m' : Mem} {r : Nat} {lab lab' : Nat → Option Lab} {g : RG} {σ : ChipS} (h : RefX m r lab g σ) {i j : Int} (i0 : 0 ≤ i) (i1 : i < 12) (j0 : 0 ≤ j) (j1 : j < 32) {n' t' : Nat × Bool} {c' : ChunkS} (hlt : ∀ p, lab' p ≠ none → p < m'.length) (hl : ∀ p, lab p ≠ none → lab' p = lab p)
    (hk : ∀ p, lab p ≠ none → p ≠ g.L i → p ≠ (g.N i j).1 → m'[p]? = m[p]?) (hL : m'[g.L i]? = some (.live (farr 32 (upd (fun j => rch (g.N i j) (g.T i j) ((σ.b i).ch j)) j (rch n' t' c')))))
    (hn : m'[n'.1]? = some (.live (arr .u8 64 c'.now)) ∧ lab' n'.1 = some (.of i (.n j))) (ht : m'[t'.1]? = some (.live (arr .u8 64 c'.tru)) ∧ lab' t'.1 = some (.of i (.t j))) :
    RefX m' r lab' { g with N := upd g.N i (upd (g.N i) j n'), T := upd g.T i (upd (g.T i) j t') } (σ.updB i ((σ.b i).updC j c')) := by
  have dif : ∀ p l, lab p = some l → l ≠ .of i .l → l ≠ .of i (.n j) → m'[p]? = m[p]? ∧ lab' p = some l := fun p l hp h1 h2 => by
    have hp0 : lab p ≠ none := by rw [hp]; simp
    refine ⟨hk p hp0 (fun he => ?_) (fun he => ?_), by rw [hl p hp0, hp]⟩
    · subst he; rw [(h.ls i i0 i1).2] at hp; cases hp; exact h1 rfl
    · subst he; rw [(h.ns i j i0 i1 j0 j1).2] at hp; cases hp; exact h2 rfl
  have sb : ∀ x, x ≠ i → (σ.updB i ((σ.b i).updC j c')).b x = σ.b x := fun x hx => upd_ne hx
  have si : (σ.updB i ((σ.b i).updC j c')).b i = (σ.b i).updC j c' := upd_same _ _ _
  refine ⟨?_, ?_, ?_, ?_, fun x h0 h1 => ?_, fun x y h0 h1 h2 h3 => ?_, fun x y h0 h1 h2 h3 => ?_, fun x h0 h1 => ?_, hlt⟩
  · rw [(dif _ _ h.lr (by simp) (by simp)).1, h.chip]; rfl
  · exact (dif _ _ h.lr (by simp) (by simp)).2
  · rw [(dif _ _ h.lq (by simp) (by simp)).1, h.blocks]
    unfold rblks
    rw [farr_congr fun x _ _ => ?_]
    by_cases hx : x = i
    · subst hx; rw [si]; rfl
    · rw [sb x hx]
  · exact (dif _ _ h.lq (by simp) (by simp)).2
  · by_cases hx : x = i
    · subst hx
      refine ⟨?_, by rw [hl _ (by rw [(h.ls x h0 h1).2]; simp)]; exact (h.ls x h0 h1).2⟩
      rw [hL, si]
      unfold rchs
      rw [farr_congr fun y _ _ => ?_]
      simp only [upd_same, BlockS.updC]
      by_cases hy : y = j
      · subst hy; simp
      · simp [upd, hy]
    · have := h.ls x h0 h1
      have d := dif _ _ this.2 (by simp; exact hx) (by simp)
      refine ⟨?_, d.2⟩
      rw [d.1, this.1, sb x hx]
      unfold rchs
      rw [farr_congr fun y _ _ => ?_]
      simp only [upd_ne hx]
  · by_cases hx : x = i
    · subst hx
      by_cases hy : y = j
      · subst hy
        rw [si]
        simp only [upd_same, BlockS.updC]
        exact hn
      · have := h.ns x y h0 h1 h2 h3
        have d := dif _ _ this.2 (by simp) (by simp; exact hy)
        rw [si]
        simp only [upd_same, BlockS.updC, upd_ne hy]
        exact ⟨by rw [d.1]; exact this.1, d.2⟩
    · have := h.ns x y h0 h1 h2 h3
      have d := dif _ _ this.2 (by simp) (by simp; intro h; exact absurd h hx)
      rw [sb x hx]
      simp only [upd_ne hx]
      exact ⟨by rw [d.1]; exact this.1, d.2⟩
  · by_cases hx : x = i
    · subst hx
      by_cases hy : y = j
      · subst hy
        rw [si]
        simp only [upd_same, BlockS.updC]
        exact ht
      · have := h.ts x y h0 h1 h2 h3
        have d := dif _ _ this.2 (by simp) (by simp)
        rw [si]
        simp only [upd_same, BlockS.updC, upd_ne hy]
        exact ⟨by rw [d.1]; exact this.1, d.2⟩
    · have := h.ts x y h0 h1 h2 h3
      have d := dif _ _ this.2 (by simp) (by simp)
      rw [sb x hx]
      simp only [upd_ne hx]
      exact ⟨by rw [d.1]; exact this.1, d.2⟩
  · by_cases hx : x = i
    · subst hx; rw [si]; exact h.at_ x h0 h1
    · rw [sb x hx]; exact h.at_ x h0 h1
/-- a whole block is another one -/
theorem RefX.block {m m' : Mem} {r : Nat} {lab lab' : Nat → Option Lab} {g : RG} {σ : ChipS} (h : RefX m r lab g σ) {i : Int} (i0 : 0 ≤ i) (i1 : i < 12) {L' : Nat} {N' T' : Int → Nat × Bool} {β' : BlockS} (hlt : ∀ p, lab' p ≠ none → p < m'.length) (hl : ∀ p, lab p ≠ none → lab' p = lab p)
    (hk : ∀ p, lab p ≠ none → p ≠ g.q → m'[p]? = m[p]?) (hq : m'[g.q]? = some (.live (rblks { g with L := upd g.L i L' } (σ.updB i β')))) (hat : AtOk σ.steps (g.A i) β'.before)
    (hL : m'[L']? = some (.live (farr 32 fun j => rch (N' j) (T' j) (β'.ch j))) ∧ lab' L' = some (.of i .l))
    (hn : ∀ j, 0 ≤ j → j < 32 → m'[(N' j).1]? = some (.live (arr .u8 64 (β'.ch j).now)) ∧ lab' (N' j).1 = some (.of i (.n j)))
    (ht : ∀ j, 0 ≤ j → j < 32 → m'[(T' j).1]? = some (.live (arr .u8 64 (β'.ch j).tru)) ∧ lab' (T' j).1 = some (.of i (.t j))) :
    RefX m' r lab' { g with L := upd g.L i L', N := upd g.N i N', T := upd g.T i T' } (σ.updB i β') := by
  have dif : ∀ p l, lab p = some l → l ≠ .blocks → m'[p]? = m[p]? ∧ lab' p = some l := fun p l hp h1 => by
    have hp0 : lab p ≠ none := by rw [hp]; simp
    refine ⟨hk p hp0 (fun he => ?_), by rw [hl p hp0, hp]⟩
    subst he; rw [h.lq] at hp; cases hp; exact h1 rfl
  have sb : ∀ x, x ≠ i → (σ.updB i β').b x = σ.b x := fun x hx => upd_ne hx
  have si : (σ.updB i β').b i = β' := upd_same _ _ _
  refine ⟨?_, ?_, hq, ?_, fun x h0 h1 => ?_, fun x y h0 h1 h2 h3 => ?_, fun x y h0 h1 h2 h3 => ?_, fun x h0 h1 => ?_, hlt⟩
  · rw [(dif _ _ h.lr (by simp)).1, h.chip]; rfl
  · exact (dif _ _ h.lr (by simp)).2
  · rw [hl _ (by rw [h.lq]; simp)]; exact h.lq
  · by_cases hx : x = i
    · subst hx
      simp only [upd_same, si]
      refine ⟨?_, hL.2⟩
      rw [hL.1]
      unfold rchs
      simp only [upd_same]
    · have := h.ls x h0 h1
      have d := dif _ _ this.2 (by simp)
      simp only [upd_ne hx, sb x hx]
      refine ⟨?_, d.2⟩
      rw [d.1, this.1]
      unfold rchs
      simp only [upd_ne hx]
  · by_cases hx : x = i
    · subst hx; simp only [upd_same, si]; exact hn y h2 h3
    · have := h.ns x y h0 h1 h2 h3
      have d := dif _ _ this.2 (by simp)
      simp only [upd_ne hx, sb x hx]
      exact ⟨by rw [d.1]; exact this.1, d.2⟩
  · by_cases hx : x = i
    · subst hx; simp only [upd_same, si]; exact ht y h2 h3
    · have := h.ts x y h0 h1 h2 h3
      have d := dif _ _ this.2 (by simp)
      simp only [upd_ne hx, sb x hx]
      exact ⟨by rw [d.1]; exact this.1, d.2⟩
  · by_cases hx : x = i
    · subst hx; rw [si]; exact hat
    · rw [sb x hx]; exact h.at_ x h0 h1

/-! ## loads -/
section
variable {m : Mem} {r : Nat} {lab : Nat → Option Lab} {g : RG} {σ : ChipS} (h : RefX m r lab g σ)
include h
theorem RefX.ldB : ldSl m ⟨r, 0, none⟩ = some ⟨some ⟨g.q, 0, some 5⟩, 12, 12⟩ := ldSl_of h.chip rfl
theorem RefX.ldOn : ldBool m ⟨r, 1, none⟩ = some (!σ.off) := ldBool_of h.chip rfl
theorem RefX.ldBud : ldInt .i64 m ⟨r, 2, none⟩ = some (budR σ) := ldInt_of h.chip rfl
theorem RefX.ldSteps : ldInt .i64 m ⟨r, 3, none⟩ = some σ.steps := ldInt_of h.chip rfl
section
variable {x : Int} (h0 : 0 ≤ x) (h1 : x < 12)
include h0 h1
theorem RefX.ldL : ldSl m ⟨g.q, x.toNat * 5, some 5⟩ = some ⟨some ⟨g.L x, 0, some 4⟩, 32, 32⟩ := ldSl_of h.blocks (rblks_get (y := 0) h0 h1 (by omega))
theorem RefX.ldReads : ldInt .i64 m ⟨g.q, x.toNat * 5 + 1, some 5⟩ = some (σ.b x).reads := ldInt_of h.blocks (rblks_get h0 h1 (by omega))
theorem RefX.ldFailed : ldBool m ⟨g.q, x.toNat * 5 + 2, some 5⟩ = some (σ.b x).failed := ldBool_of h.blocks (rblks_get h0 h1 (by omega))
theorem RefX.ldAt : ldInt .i64 m ⟨g.q, x.toNat * 5 + 3, some 5⟩ = some (g.A x) := ldInt_of h.blocks (rblks_get h0 h1 (by omega))
theorem RefX.ldAtErase : ldBool m ⟨g.q, x.toNat * 5 + 4, some 5⟩ = some (σ.b x).atErase := ldBool_of h.blocks (rblks_get h0 h1 (by omega))
theorem RefX.stB {y : Nat} (hy : y < 5) {v : Value} {L' : Nat} {a' : Int} {β' : BlockS} (e : (rblk (g.L x) (g.A x) (σ.b x)).set y v = rblk L' a' β') :
    st m ⟨g.q, x.toNat * 5 + y, some 5⟩ v = some (wr m g.q (rblks { g with L := upd g.L x L', A := upd g.A x a' } (σ.updB x β'))) := by
  rw [st_wr h.blocks (by rw [rblks_len]; omega), rblks_set h0 h1 hy e]
end
section
variable {p k : Int} (hp : isAt p k)
include hp
theorem RefX.ldNow : ldSl m ⟨g.L (p / 8), (p % 8 * 4 + k).toNat * 4, some 4⟩ = some ⟨rowA (some (g.N (p / 8) (p % 8 * 4 + k))), 64, 64⟩ := by
  obtain ⟨h0, h1, h2, h3⟩ := hp
  exact ldSl_of (h.ls (p / 8) (by omega) (by omega)).1 (rchs_get (y := 0) (by omega) (by omega) (by omega))
theorem RefX.ldTru : ldSl m ⟨g.L (p / 8), (p % 8 * 4 + k).toNat * 4 + 1, some 4⟩ = some ⟨rowA (some (g.T (p / 8) (p % 8 * 4 + k))), 64, 64⟩ := by
  obtain ⟨h0, h1, h2, h3⟩ := hp
  exact ldSl_of (h.ls (p / 8) (by omega) (by omega)).1 (rchs_get (by omega) (by omega) (by omega))
theorem RefX.ldIs : ldBool m ⟨g.L (p / 8), (p % 8 * 4 + k).toNat * 4 + 2, some 4⟩ = some (σ.at_ p k).is := by
  obtain ⟨h0, h1, h2, h3⟩ := hp
  exact ldBool_of (h.ls (p / 8) (by omega) (by omega)).1 (rchs_get (by omega) (by omega) (by omega))
theorem RefX.ldWorst : ldInt .i64 m ⟨g.L (p / 8), (p % 8 * 4 + k).toNat * 4 + 3, some 4⟩ = some (σ.at_ p k).worst := by
  obtain ⟨h0, h1, h2, h3⟩ := hp
  exact ldInt_of (h.ls (p / 8) (by omega) (by omega)).1 (rchs_get (by omega) (by omega) (by omega))
theorem RefX.now_ : m[(g.N (p / 8) (p % 8 * 4 + k)).1]? = some (.live (arr .u8 64 (σ.at_ p k).now)) := by
  obtain ⟨h0, h1, h2, h3⟩ := hp
  exact (h.ns (p / 8) (p % 8 * 4 + k) (by omega) (by omega) (by omega) (by omega)).1
theorem RefX.tru_ : m[(g.T (p / 8) (p % 8 * 4 + k)).1]? = some (.live (arr .u8 64 (σ.at_ p k).tru)) := by
  obtain ⟨h0, h1, h2, h3⟩ := hp
  exact (h.ts (p / 8) (p % 8 * 4 + k) (by omega) (by omega) (by omega) (by omega)).1
theorem refChunk_is (kk : Nat) : patinaref05_Chip_chunk kk (some ⟨r, 0, none⟩) p k m = some (some ⟨g.L (p / 8), (p % 8 * 4 + k).toNat * 4, some 4⟩, m) := by
  have ⟨h0, h1, h2, h3⟩ := hp
  unfold patinaref05_Chip_chunk
  have i1 : inRange (p / 8) 12 = true := inRange_yes (by omega) (by omega)
  have i2 : inRange (p % 8 * 4 + k) 32 = true := inRange_yes (by omega) (by omega)
  simp (disch := omega) only [Option.bind_some, Option.map_some, cond_true, cond_false, wrap_i64, tmod_pos, tdiv_pos, inRange_yes, inUpto_yes, isZero_no, decide_eq_true, decide_eq_false, Bool.not_true, Bool.not_false, Int.toNat_natCast, Nat.mul_one, beqI_yes, beqI_no, bneI_yes, bneI_no, isNil_nil, isNil_iface, wr_wr, Option.isNone_none, Option.isNone_some, plus, Nat.zero_add, Nat.add_zero, h.ldB, i1, h.ldL (show 0 ≤ p / 8 by omega) (show p / 8 < 12 by omega), i2]
end
end
theorem rowA_eq (x : Nat × Bool) : rowA (some x) = some ⟨x.1, 0, if x.2 then some 1 else none⟩ := by obtain ⟨D, a⟩ := x; cases a <;> rfl
theorem refIsPage_is (k : Nat) (p : Int) (m : Mem) : patinaref05_isPage k p m = some (decide (0 ≤ p ∧ p < 96), m) := by
  unfold patinaref05_isPage
  by_cases h0 : p ≥ 0
  · rw [decide_eq_true h0, cond_true]; congr 2; simp; omega
  · rw [decide_eq_false h0, cond_false]; congr 2; simp; omega
theorem refIsBlock_is (k : Nat) (p : Int) (m : Mem) : patinaref05_isBlock k p m = some (decide (0 ≤ p ∧ p < 12), m) := by
  unfold patinaref05_isBlock
  by_cases h0 : p ≥ 0
  · rw [decide_eq_true h0, cond_true]; congr 2; simp; omega
  · rw [decide_eq_false h0, cond_false]; congr 2; simp; omega
end Go.Proofs.Ytlbbcgjfkpnilaa
