/- What is done with a chip keeps it well. -/
import Derived.Test.YtlbbcgjfkpnilaaNrefD
set_option linter.unusedVariables false
set_option linter.unusedSectionVars false
set_option linter.unusedSimpArgs false
namespace Go.Proofs.Ytlbbcgjfkpnilaa
open Go.Mx

theorem Wf.mono {n n' : Nat} {σ : ChipS} (h : Wf n σ) (hn : n ≤ n') : Wf n' σ := ⟨by have := h.steps; omega, h.bud, fun x => by have := h.rd x; omega, h.bf, h.by_, h.ws⟩
theorem damage_blank : blank.damage = 0 := by
  unfold ChunkS.damage blank
  have : ∀ n, cntNe (fun _ => 255) (fun _ => 255) n = 0 := by
    intro n
    induction n with
    | zero => rfl
    | succ n ih => rw [cntNe_succ, ih]; simp
  exact this 64
theorem damage_same (f : Int → Int) (is : Bool) (w : Int) : (⟨f, f, is, w⟩ : ChunkS).damage = 0 := by
  show cntNe f f 64 = 0
  have : ∀ n, cntNe f f n = 0 := by
    intro n
    induction n with
    | zero => rfl
    | succ n ih => rw [cntNe_succ, ih]; simp
  exact this 64
theorem damage_le (c : ChunkS) : 0 ≤ c.damage ∧ c.damage ≤ 64 := by
  have := cntNe_le c.now c.tru 64
  exact this
theorem byt255 : Byt fun _ => 255 := .const (v := 255) (by decide) (by decide)
theorem Wf.fresh : Wf 0 fresh := ⟨⟨by decide, by decide⟩, ⟨by decide, by decide⟩, fun x => ⟨Int.le_refl 0, Int.le_refl 0⟩, fun x => ⟨Int.le_refl 0, by show (0 : Int) < 9223372036854775808; decide⟩,
  fun x j => ⟨byt255, byt255⟩, fun x j => ⟨by show blank.damage ≤ 0; rw [damage_blank]; decide, by show (0 : Int) ≤ 64; decide⟩⟩
/-- a block is another one -/
theorem Wf.updB {n : Nat} {σ : ChipS} (h : Wf n σ) {x : Int} {β : BlockS} (h1 : 0 ≤ β.reads ∧ β.reads ≤ n) (h2 : 0 ≤ β.before ∧ β.before < 9223372036854775808) (h3 : ∀ j, Byt (β.ch j).now ∧ Byt (β.ch j).tru) (h4 : ∀ j, (β.ch j).damage ≤ (β.ch j).worst ∧ (β.ch j).worst ≤ 64) : Wf n (σ.updB x β) := by
  refine ⟨h.steps, h.bud, fun y => ?_, fun y => ?_, fun y j => ?_, fun y j => ?_⟩ <;> unfold ChipS.updB Mx.upd <;> simp only <;> split
  · exact h1
  · exact h.rd y
  · exact h2
  · exact h.bf y
  · exact h3 j
  · exact h.by_ y j
  · exact h4 j
  · exact h.ws y j
theorem Wf.put {n : Nat} {σ : ChipS} (h : Wf n σ) {p k : Int} {c : ChunkS} (h3 : Byt c.now ∧ Byt c.tru) (h4 : c.damage ≤ c.worst ∧ c.worst ≤ 64) : Wf n (σ.put p k c) := by
  refine h.updB (h.rd _) (h.bf _) (fun j => ?_) fun j => ?_ <;> unfold BlockS.updC Mx.upd <;> simp only <;> split
  · exact h3
  · exact h.by_ _ j
  · exact h4
  · exact h.ws _ j
theorem Wf.step {n : Nat} {σ : ChipS} (h : Wf n σ) : Wf (n + 1) σ.step.2 := by
  have h1 := h.steps
  have h2 := h.bud
  have h3 := fun x => h.rd x
  unfold ChipS.step
  split
  · split
    · exact ⟨by simp only; omega, h.bud, fun x => by have := h3 x; simp only; omega, h.bf, h.by_, h.ws⟩
    · exact ⟨by simp only; omega, by simp only; omega, fun x => by have := h3 x; simp only; omega, h.bf, h.by_, h.ws⟩
  · exact ⟨by simp only; omega, h.bud, fun x => by have := h3 x; simp only; omega, h.bf, h.by_, h.ws⟩
theorem Wf.worn {n : Nat} {σ : ChipS} (h : Wf n σ) (x : Int) : Wf n (σ.updB x (σ.b x).worn) := by
  have hb := h.bf x
  refine h.updB ?_ ?_ ?_ ?_ <;> unfold BlockS.worn <;> split
  · exact h.rd x
  · exact h.rd x
  · simp only; omega
  · exact h.bf x
  · exact h.by_ x
  · exact h.by_ x
  · exact h.ws x
  · exact h.ws x
theorem Wf.write {n : Nat} {σ : ChipS} (h : Wf n σ) (p q : Int) (l : Nat) (w : Nat → GF) : Wf (n + 1) (σ.write p q l (byI w)).2 := by
  have h0 := h.mono (Nat.le_succ n)
  unfold ChipS.write
  split
  · exact h0
  split
  · exact h0
  split
  · exact h0
  split
  · exact h0
  split
  · exact h.step
  split
  · exact h.step.worn _
  · exact (h.step.worn _).put ⟨.ofW w, .ofW w⟩ (by rw [damage_same]; simp only; omega)
theorem Wf.erase {n : Nat} {σ : ChipS} (h : Wf n σ) (x : Int) : Wf (n + 1) (σ.erase x).2 := by
  have h0 := h.mono (Nat.le_succ n)
  unfold ChipS.erase
  split
  · exact h0
  split
  · exact h0
  split
  · exact h.step
  split
  · exact h.step.updB (h.step.rd x) (h.step.bf x) (h.step.by_ x) (h.step.ws x)
  · exact h.step.updB (by show (0 : Int) ≤ 0 ∧ (0 : Int) ≤ _; omega) (h.step.bf x) (fun j => ⟨byt255, byt255⟩) fun j => ⟨by show blank.damage ≤ 0; rw [damage_blank]; decide, by show (0 : Int) ≤ 64; decide⟩
theorem Wf.flip {n : Nat} {σ : ChipS} (h : Wf n σ) (p b : Int) (hb : 0 ≤ b) : Wf n (σ.flip p b) := by
  have h1 := h.by_ (p / 8) (p % 8 * 4 + b / 512)
  have h2 := h.ws (p / 8) (p % 8 * 4 + b / 512)
  unfold ChipS.flip
  have hd := damage_le (flipC (σ.at_ p (b / 512)) (b / 8 % 64) (b % 8))
  refine h.put ⟨?_, h1.2⟩ ?_
  · have hx := xor_byte ((σ.at_ p (b / 512)).now (b / 8 % 64)) (shlI .u8 1 (b % 8))
    exact Byt.upd h1.1 (by omega) hx.1 hx.2
  · show (flipC (σ.at_ p (b / 512)) (b / 8 % 64) (b % 8)).damage ≤ maxI (σ.at_ p (b / 512)).worst (flipC (σ.at_ p (b / 512)) (b / 8 % 64) (b % 8)).damage ∧ maxI (σ.at_ p (b / 512)).worst (flipC (σ.at_ p (b / 512)) (b / 8 % 64) (b % 8)).damage ≤ 64
    have h3 : (σ.at_ p (b / 512)).worst ≤ 64 := h2.2
    unfold maxI
    split <;> omega
theorem Wf.readd {n : Nat} {σ : ChipS} (h : Wf n σ) (p : Int) : Wf (n + 1) (σ.readd p) := by
  have h1 := h.rd (p / 8)
  have h0 := h.mono (Nat.le_succ n)
  refine h0.updB ?_ (h.bf _) (h.by_ _) (h.ws _)
  show 0 ≤ (σ.b (p / 8)).reads + 1 ∧ (σ.b (p / 8)).reads + 1 ≤ _
  omega
theorem Wf.failE {n : Nat} {σ : ChipS} (h : Wf n σ) (x : Int) : Wf n (σ.updB x { σ.b x with atErase := true }) := h.updB (h.rd _) (h.bf _) (h.by_ _) (h.ws _)
theorem Wf.failP {n : Nat} {σ : ChipS} (h : Wf n σ) (x : Int) {v : Int} (hv : 0 ≤ v) : Wf n (σ.updB x { σ.b x with before := (if v ≤ 9223372036854775806 then v else 9223372036854775806) + 1 }) := by
  refine h.updB (h.rd _) ?_ (h.by_ _) (h.ws _)
  show 0 ≤ (if v ≤ 9223372036854775806 then v else 9223372036854775806) + 1 ∧ (if v ≤ 9223372036854775806 then v else 9223372036854775806) + 1 < 9223372036854775808
  split <;> omega
theorem Wf.cut {n : Nat} {σ : ChipS} (h : Wf n σ) {v : Int} (hv : 0 ≤ v ∧ v < 9223372036854775808) : Wf n (if σ.off = true then σ else { σ with cut := true, budget := v }) := by
  split
  · exact h
  · exact ⟨h.steps, hv, h.rd, h.bf, h.by_, h.ws⟩
theorem Wf.power {n : Nat} {σ : ChipS} (h : Wf n σ) : Wf n { σ with off := false, cut := false, budget := 0 } := ⟨h.steps, by simp only; omega, h.rd, h.bf, h.by_, h.ws⟩
/-- a page's bytes -/
theorem Wf.page {n : Nat} {σ : ChipS} (h : Wf n σ) (p : Int) : ∃ W : Nat → GF, (∀ (q i : Nat), q < 4 → i < 64 → (σ.at_ p q).now i = ((W (q * 64 + i)).v : Int)) ∧ arr .u8 256 (σ.page p) = bys 256 W := by
  have hw : ∀ q : Int, ∃ w : Nat → GF, ∀ i : Int, 0 ≤ i → (σ.at_ p q).now i = byI w i := fun q => (h.by_ (p / 8) (p % 8 * 4 + q)).1
  let W : Nat → GF := fun i => (Classical.choose (hw ((i / 64 : Nat) : Int))) (i % 64)
  have h1 : ∀ (q i : Nat), q < 4 → i < 64 → (σ.at_ p q).now i = ((W (q * 64 + i)).v : Int) := fun q i hq hi => by
    have := Classical.choose_spec (hw (q : Int)) i (by omega)
    rw [this]
    show _ = (((Classical.choose (hw (((q * 64 + i) / 64 : Nat) : Int))) ((q * 64 + i) % 64)).v : Int)
    rw [show (q * 64 + i) / 64 = q by omega, show (q * 64 + i) % 64 = i by omega]
    rfl
  refine ⟨W, h1, arr_congr fun i h0 h2 => ?_⟩
  obtain ⟨j, rfl⟩ := Int.eq_ofNat_of_zero_le h0
  have h2 : j < 256 := by omega
  have := h1 (j / 64) (j % 64) (by omega) (by omega)
  show (σ.at_ p ((j : Int) / 64)).now ((j : Int) % 64) = ((W ((j : Int)).toNat).v : Int)
  rw [show ((j : Int) / 64) = ((j / 64 : Nat) : Int) by omega, show ((j : Int) % 64) = ((j % 64 : Nat) : Int) by omega, this, Int.toNat_natCast, show j / 64 * 64 + j % 64 = j by omega]
/-- all objects of a memory but one -/
def others (m : Mem) (c : Nat) : Heap := ((List.range m.length).filter fun p => p != c).map fun p => (p, m.getD p .dead)
theorem others_get {m : Mem} {c p : Nat} (hp : p < m.length) (hc : p ≠ c) : ∃ i : Nat, (others m c)[i]? = some (p, m.getD p .dead) := by
  have : (p, m.getD p .dead) ∈ others m c := List.mem_map.2 ⟨p, List.mem_filter.2 ⟨List.mem_range.2 hp, by simpa using hc⟩, rfl⟩
  obtain ⟨i, hi⟩ := List.mem_iff_getElem?.1 this
  exact ⟨i, hi⟩
theorem getD_get {m : Mem} {p : Nat} (hp : p < m.length) : m[p]? = some (m.getD p .dead) := by
  rw [List.getD_eq_getElem?_getD, List.getElem?_eq_getElem hp]; rfl
theorem others_nd (m : Mem) (c : Nat) : ((others m c).map (·.1)).Nodup := by
  unfold others
  rw [List.map_map]
  have : ((fun x : Nat × MObj => x.1) ∘ fun p => (p, m.getD p .dead)) = id := rfl
  rw [this, List.map_id]
  exact List.nodup_range.sublist List.filter_sublist
theorem own_all {m : Mem} {c : Nat} {o : MObj} (h : m[c]? = some o) : Mx.Own m ((c, o) :: others m c) := by
  refine ⟨?_, ?_⟩
  · rw [List.map_cons, List.nodup_cons]
    refine ⟨fun hm => ?_, others_nd m c⟩
    obtain ⟨x, hx, he⟩ := List.mem_map.1 hm
    obtain ⟨p, hp, rfl⟩ := List.mem_map.1 hx
    have := (List.mem_filter.1 hp).2
    simp only at he
    simp [he] at this
  · intro x hx
    rcases List.mem_cons.1 hx with rfl | hx
    · exact h
    · obtain ⟨p, hp, rfl⟩ := List.mem_map.1 hx
      exact getD_get (List.mem_range.1 (List.mem_filter.1 hp).1)
theorem own_none (m : Mem) : Mx.Own m (others m m.length) := by
  refine ⟨others_nd m _, fun x hx => ?_⟩
  obtain ⟨p, hp, rfl⟩ := List.mem_map.1 hx
  exact getD_get (List.mem_range.1 (List.mem_filter.1 hp).1)
theorem Own.keeps {m m' : Mem} {c : Nat} {X : Heap} (h : Mx.Own m' (X ++ others m c)) : ∀ p, p < m.length → p ≠ c → m'[p]? = m[p]? := fun p hp hc => by
  obtain ⟨i, hi⟩ := others_get hp hc
  rw [h.back.at i hi, getD_get hp]
theorem Own.far {m m' : Mem} {c d : Nat} {o : MObj} {X : Heap} (h : Mx.Own m' ((d, o) :: (X ++ others m c))) (hc : ∀ x ∈ X, x.1 = c → True) : ∀ p, p < m.length → p ≠ c → d ≠ p := fun p hp hc he => by
  obtain ⟨i, hi⟩ := others_get hp hc
  have hmem : (p, m.getD p .dead) ∈ X ++ others m c := List.mem_append_right _ (List.mem_of_getElem? hi)
  have := h.nd
  rw [List.map_cons, List.nodup_cons] at this
  exact this.1 (List.mem_map.2 ⟨_, hmem, he.symm⟩)
theorem keeps_len {m m' : Mem} {c : Nat} (h : ∀ p, p < m.length → p ≠ c → m'[p]? = m[p]?) (hc : m.length ≤ c ∨ c < m'.length) : m.length ≤ m'.length := by
  rcases Nat.lt_or_ge m'.length m.length with h1 | h1
  · exfalso
    by_cases h2 : m.length - 1 = c
    · omega
    · have := h (m.length - 1) (by omega) h2
      rw [List.getElem?_eq_none (by omega), List.getElem?_eq_getElem (by omega)] at this
      cases this
  · exact h1
end Go.Proofs.Ytlbbcgjfkpnilaa
