/- Bytes that appends make. -/
import Derived.Test.YtoljgolgecbcdabRsF
set_option linter.unusedVariables false
set_option linter.unusedSectionVars false
set_option linter.unusedSimpArgs false
namespace Go.Proofs.Ytoljgolgecbcdab
open Go.Mx

theorem Gr.kill {m0 m : Mem} (h : Gr m0 m) {b : Nat} (hb : m0.length ≤ b) (o : MObj) : Gr m0 (m.set b o) := by
  obtain ⟨g, rfl⟩ := h
  exact ⟨g.set (b - m0.length) o, by rw [List.set_append_right _ _ hb]⟩
/-- a slice that appends have made of bytes, behind m0 -/
def Ab (m0 m : Mem) (a : Option Addr) (n : Nat) (w : Nat → GF) : Prop := Gr m0 m ∧ ((a = none ∧ n = 0) ∨ ∃ d, a = some ⟨d, 0, some 1⟩ ∧ m0.length ≤ d ∧ m[d]? = some (.live (bys n w)))
theorem Ab.nil (m : Mem) (w : Nat → GF) : Ab m m none 0 w := ⟨.refl _, .inl ⟨rfl, rfl⟩⟩
theorem Ab.grow {m0 m m' : Mem} {a : Option Addr} {n : Nat} {w : Nat → GF} (h : Ab m0 m a n w) (hg : Gr m m') : Ab m0 m' a n w := by
  obtain ⟨h1, h2⟩ := h
  refine ⟨h1.trans hg, ?_⟩
  rcases h2 with h2 | ⟨d, h2, h3, h4⟩
  · exact .inl h2
  · exact .inr ⟨d, h2, h3, hg.get h4⟩
theorem Ab.src {m0 m : Mem} {a : Option Addr} {n : Nat} {w : Nat → GF} (h : Ab m0 m a n w) : Src m a n w := by
  rcases h.2 with ⟨rfl, rfl⟩ | ⟨d, rfl, _, h4⟩
  · rfl
  · exact Src.of h4
theorem Ab.congr {m0 m : Mem} {a : Option Addr} {n : Nat} {u w : Nat → GF} (h : Ab m0 m a n w) (he : ∀ i, i < n → w i = u i) : Ab m0 m a n u := by
  rcases h with ⟨h1, h2 | ⟨d, h2, h3, h4⟩⟩
  · exact ⟨h1, .inl h2⟩
  · exact ⟨h1, .inr ⟨d, h2, h3, by rw [h4, bys_congr he]⟩⟩
theorem Ab.app {m0 m : Mem} {a : Option Addr} {n l : Nat} {w u : Nat → GF} (h : Ab m0 m a n w) (hl : 0 < l) (hb : n + l ≤ most) :
    ∃ a' m', appM 1 1 m a n n l (bys l u) = some (⟨a', n + l, n + l⟩, m') ∧ Ab m0 m' a' (n + l) fun i => if i < n then w i else u (i - n) := by
  obtain ⟨h1, ⟨rfl, rfl⟩ | ⟨d, rfl, h3, h4⟩⟩ := h
  · refine ⟨some ⟨m.length, 0, some 1⟩, m ++ [.live (bys l u)], ?_, h1.trans (Gr.app _ _), .inr ⟨m.length, rfl, h1.len, ?_⟩⟩
    · rw [Nat.zero_add]; exact appM_first hl (by omega) (by omega)
    · rw [get_last rfl, Nat.zero_add, bys_congr (u := fun i => if i < 0 then w i else u (i - 0)) (w := u) fun i _ => if_neg (by omega)]
  · refine ⟨some ⟨m.length, 0, some 1⟩, m.set d .dead ++ [.live (bys (n + l) fun i => if i < n then w i else u (i - n))], ?_, (h1.kill h3 _).trans (Gr.app _ _), .inr ⟨m.length, rfl, h1.len, get_last (by simp)⟩⟩
    rw [appM_grow h4 (by rw [bys_len, Nat.mul_one]) hl (by omega) (by omega), bys_append]
theorem Ab.one {m0 m : Mem} {a : Option Addr} {n : Nat} {w : Nat → GF} (h : Ab m0 m a n w) (v : GF) (hb : n + 1 ≤ most) :
    ∃ a' m', appM 1 1 (m ++ [.live [.int .u8 (v.v : Int)]]) a n n 1 [.int .u8 (v.v : Int)] = some (⟨a', n + 1, n + 1⟩, m') ∧ Ab m0 m' a' (n + 1) (put w n v) := by
  have hc : [Value.int .u8 (v.v : Int)] = bys 1 fun _ => v := rfl
  rw [hc]
  obtain ⟨a', m', h1, h2⟩ := (h.grow (Gr.app m [.live (bys 1 fun _ => v)])).app (u := fun _ => v) (l := 1) (by omega) hb
  refine ⟨a', m', h1, h2.congr fun i hi => ?_⟩
  unfold put
  by_cases h3 : i = n
  · rw [if_pos h3, if_neg (by omega)]
  · rw [if_neg h3, if_pos (by omega)]
end Go.Proofs.Ytoljgolgecbcdab
