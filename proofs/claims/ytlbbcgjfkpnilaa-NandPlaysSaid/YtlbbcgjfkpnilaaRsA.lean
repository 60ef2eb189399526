/- Bytes that appends make. -/
import Derived.Test.YtlbbcgjfkpnilaaByt
set_option linter.unusedVariables false
set_option linter.unusedSectionVars false
set_option linter.unusedSimpArgs false
namespace Go.Proofs.Ytlbbcgjfkpnilaa
open Go.Mx

theorem Gr.kill {m0 m : Mem} (h : Gr m0 m) {b : Nat} (hb : m0.length ≤ b) (o : MObj) : Gr m0 (m.set b o) := by
  obtain ⟨g, rfl⟩ := h
  exact ⟨g.set (b - m0.length) o, by rw [List.set_append_right _ _ hb]⟩
/-- a slice that appends have made of bytes, behind m0 -/
def Ab (m0 m : Mem) (a : Option Addr) (n : Nat) (w : Nat → GF) : Prop := Gr m0 m ∧ ((a = none ∧ n = 0) ∨ ∃ d, a = some ⟨d, 0, some 1⟩ ∧ m0.length ≤ d ∧ m[d]? = some (.live (bys n w)))
theorem Ab.nil (m : Mem) (w : Nat → GF) : Ab m m none 0 w := ⟨.refl _, .inl ⟨rfl, rfl⟩⟩
theorem Ab.grow {m0 m m' : Mem} {a : Option Addr} {n : Nat} {w : Nat → GF} (h : Ab m0 m a n w) (hg : Gr m m') : Ab m0 m' a n w := by
  obtain ⟨h1, h2⟩ := h
  refine ⟨h1.trans hg, ?_⟩
  rcases h2 with h2 | ⟨d, h2, h3, h4⟩
  · exact .inl h2
  · exact .inr ⟨d, h2, h3, hg.get h4⟩
theorem Ab.src {m0 m : Mem} {a : Option Addr} {n : Nat} {w : Nat → GF} (h : Ab m0 m a n w) : Src m a n w := by
  rcases h.2 with ⟨rfl, rfl⟩ | ⟨d, rfl, _, h4⟩
  · rfl
  · exact Src.of h4
theorem Ab.congr {m0 m : Mem} {a : Option Addr} {n : Nat} {u w : Nat → GF} (h : Ab m0 m a n w) (he : ∀ i, i < n → w i = u i) : Ab m0 m a n u := by
  rcases h with ⟨h1, h2 | ⟨d, h2, h3, h4⟩⟩
  · exact ⟨h1, .inl h2⟩
  · exact ⟨h1, .inr ⟨d, h2, h3, by rw [h4, bys_congr he]⟩⟩
theorem Ab.app {m0 m : Mem} {a : Option Addr} {n l : Nat} {w u : Nat → GF} (h : Ab m0 m a n w) (hl : 0 < l) (hb : n + l ≤ most) :
    ∃ a' m', appM 1 1 m a n n l (bys l u) = some (⟨a', n + l, n + l⟩, m') ∧ Ab m0 m' a' (n + l) fun i => if i < n then w i else u (i - n) := by
  obtain ⟨h1, ⟨rfl, rfl⟩ | ⟨d, rfl, h3, h4⟩⟩ := h
  · refine ⟨some ⟨m.length, 0, some 1⟩, m ++ [.live (bys l u)], ?_, h1.trans (Gr.app _ _), .inr ⟨m.length, rfl, h1.len, ?_⟩⟩
    · rw [Nat.zero_add]; exact appM_first hl (by omega) (by omega)
    · rw [get_last rfl, Nat.zero_add, bys_congr (u := fun i => if i < 0 then w i else u (i - 0)) (w := u) fun i _ => if_neg (by omega)]
  · refine ⟨some ⟨m.length, 0, some 1⟩, m.set d (.old (bys n w) m.length) ++ [.live (bys (n + l) fun i => if i < n then w i else u (i - n))], ?_, (h1.kill h3 _).trans (Gr.app _ _), .inr ⟨m.length, rfl, h1.len, get_last (by simp)⟩⟩
    rw [appM_grow h4 (by rw [bys_len, Nat.mul_one]) hl (by omega) (by omega), bys_append]
theorem Ab.one {m0 m : Mem} {a : Option Addr} {n : Nat} {w : Nat → GF} (h : Ab m0 m a n w) (v : GF) (hb : n + 1 ≤ most) :
    ∃ a' m', appM 1 1 (m ++ [.live [.int .u8 (v.v : Int)]]) a n n 1 [.int .u8 (v.v : Int)] = some (⟨a', n + 1, n + 1⟩, m') ∧ Ab m0 m' a' (n + 1) (put w n v) := by
  have hc : [Value.int .u8 (v.v : Int)] = bys 1 fun _ => v := rfl
  rw [hc]
  obtain ⟨a', m', h1, h2⟩ := (h.grow (Gr.app m [.live (bys 1 fun _ => v)])).app (u := fun _ => v) (l := 1) (by omega) hb
  refine ⟨a', m', h1, h2.congr fun i hi => ?_⟩
  unfold put
  by_cases h3 : i = n
  · rw [if_pos h3, if_neg (by omega)]
  · rw [if_neg h3, if_pos (by omega)]

/-- a slice that appends have made of bytes, in objects from b on -/
def Ac (b : Nat) (m : Mem) (a : Option Addr) (n : Nat) (w : Nat → GF) : Prop := (a = none ∧ n = 0) ∨ ∃ d, a = some ⟨d, 0, some 1⟩ ∧ b ≤ d ∧ m[d]? = some (.live (bys n w))
theorem Ac.nil (b : Nat) (m : Mem) (w : Nat → GF) : Ac b m none 0 w := .inl ⟨rfl, rfl⟩
theorem Ac.congr {b : Nat} {m : Mem} {a : Option Addr} {n : Nat} {u w : Nat → GF} (h : Ac b m a n w) (he : ∀ i, i < n → w i = u i) : Ac b m a n u := by
  rcases h with h2 | ⟨d, h2, h3, h4⟩
  · exact .inl h2
  · exact .inr ⟨d, h2, h3, by rw [h4, bys_congr he]⟩
theorem Ac.src {b : Nat} {m : Mem} {a : Option Addr} {n : Nat} {w : Nat → GF} (h : Ac b m a n w) : Src m a n w := by
  rcases h with ⟨rfl, rfl⟩ | ⟨d, rfl, _, h4⟩
  · rfl
  · exact Src.of h4
/-- it may be moved to a memory that has the same there -/
theorem Ac.keep {b : Nat} {m m' : Mem} {a : Option Addr} {n : Nat} {w : Nat → GF} (h : Ac b m a n w) (hk : ∀ p o, b ≤ p → m[p]? = some o → m'[p]? = some o) : Ac b m' a n w := by
  rcases h with h2 | ⟨d, h2, h3, h4⟩
  · exact .inl h2
  · exact .inr ⟨d, h2, h3, hk d _ h3 h4⟩
/-- an append, and what stays -/
theorem Ac.app {b : Nat} {m : Mem} {a : Option Addr} {n l : Nat} {w u : Nat → GF} (h : Ac b m a n w) (hb0 : b ≤ m.length) (hl : 0 < l) (hb : n + l ≤ most) :
    ∃ m', appM 1 1 m a n n l (bys l u) = some (⟨some ⟨m.length, 0, some 1⟩, n + l, n + l⟩, m') ∧ Ac b m' (some ⟨m.length, 0, some 1⟩) (n + l) (fun i => if i < n then w i else u (i - n)) ∧ m'.length = m.length + 1 ∧
      m'[m.length]? = some (.live (bys (n + l) fun i => if i < n then w i else u (i - n))) ∧ (∀ p, p < m.length → (∀ d, a = some ⟨d, 0, some 1⟩ → p ≠ d) → m'[p]? = m[p]?) ∧ ∀ m0, Gr m0 m → m0.length ≤ b → Gr m0 m' := by
  rcases h with ⟨rfl, rfl⟩ | ⟨d, rfl, h3, h4⟩
  · have e : bys (0 + l) (fun i => if i < 0 then w i else u (i - 0)) = bys l u := by rw [Nat.zero_add]; exact bys_congr fun i _ => if_neg (by omega)
    refine ⟨m ++ [.live (bys l u)], ?_, .inr ⟨m.length, rfl, hb0, ?_⟩, by simp, ?_, fun p hp _ => get_app_lt hp, fun m0 h0 _ => h0.trans (Gr.app _ _)⟩
    · rw [Nat.zero_add]; exact appM_first hl (by omega) (by omega)
    · rw [get_last rfl, e]
    · rw [get_last rfl, e]
  · refine ⟨m.set d (.old (bys n w) m.length) ++ [.live (bys (n + l) fun i => if i < n then w i else u (i - n))], ?_, .inr ⟨m.length, rfl, hb0, get_last (by simp)⟩, by simp, get_last (by simp), fun p hp hd => ?_, fun m0 h0 h1 => (h0.kill (by omega) _).trans (Gr.app _ _)⟩
    · rw [appM_grow h4 (by rw [bys_len, Nat.mul_one]) hl (by omega) (by omega), bys_append]
    · rw [get_app_lt (by simpa using hp), get_set_ne (fun h => hd d rfl h.symm)]
theorem Ac.one {b : Nat} {m : Mem} {a : Option Addr} {n : Nat} {w : Nat → GF} (h : Ac b m a n w) (hb0 : b ≤ m.length) (v : GF) (hb : n + 1 ≤ most) :
    ∃ m', appM 1 1 (m ++ [.live [.int .u8 (v.v : Int)]]) a n n 1 [.int .u8 (v.v : Int)] = some (⟨some ⟨m.length + 1, 0, some 1⟩, n + 1, n + 1⟩, m') ∧ Ac b m' (some ⟨m.length + 1, 0, some 1⟩) (n + 1) (put w n v) ∧ m'.length = m.length + 2 ∧
      m'[m.length + 1]? = some (.live (bys (n + 1) (put w n v))) ∧ (∀ p, p < m.length → (∀ d, a = some ⟨d, 0, some 1⟩ → p ≠ d) → m'[p]? = m[p]?) ∧ ∀ m0, Gr m0 m → m0.length ≤ b → Gr m0 m' := by
  have hc : [Value.int .u8 (v.v : Int)] = bys 1 fun _ => v := rfl
  rw [hc]
  have hl : (m ++ [MObj.live (bys 1 fun _ => v)]).length = m.length + 1 := by simp
  obtain ⟨m', h1, h2, h3, h4, h5, h6⟩ := (h.keep (m' := m ++ [.live (bys 1 fun _ => v)]) fun p o _ hp => get_grow hp).app (u := fun _ => v) (l := 1) (by omega) (by omega) hb
  rw [hl] at h1 h2 h3 h4 h5
  have e : ∀ i, i < n + 1 → (if i < n then w i else v) = put w n v i := fun i hi => by
    unfold put
    by_cases h3 : i = n
    · rw [if_pos h3, if_neg (by omega)]
    · rw [if_neg h3, if_pos (by omega)]
  exact ⟨m', h1, h2.congr e, by omega, by rw [h4, bys_congr e], fun p hp hd => by rw [h5 p (by omega) hd, get_app_lt hp], fun m0 h0 h8 => h6 m0 (h0.trans (Gr.app _ _)) h8⟩
end Go.Proofs.Ytlbbcgjfkpnilaa
