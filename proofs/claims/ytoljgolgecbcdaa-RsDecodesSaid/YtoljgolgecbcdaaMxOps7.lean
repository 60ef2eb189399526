/- The clean memory against the model: operations, seventh part: conversions. -/
import Derived.Test.YtoljgolgecbcdaaMxOps6
set_option linter.unusedVariables false
set_option linter.unusedSimpArgs false
namespace Go.Mx
section
variable {P : Program} {R : Type} {C : Ctx R} {ρ : Rn} {e : Env} {m : Mem} {a : Act} {w : World} {r : R} {K : Value → Mem → Option R}
  {dst : Option Tmp} {ty : TypeId} {pos : String} {after : Array Edge} {guard : Option (Nat × Bool)}

/-- bytes as a string -/
theorem strGo_fold : ∀ {cs : List Value} {l : List UInt8} (s : ByteArray), strOf.strGo cs = some l →
    (forIn (m := Sem) cs s fun c s => match c with
      | .int .u8 n => pure (ForInStep.yield (s.push (UInt8.ofNat n.toNat)))
      | _ => do
        stuck "bytesToString: byte expected"
        pure (ForInStep.yield s)).run P w = .ok (l.foldl ByteArray.push s) w
  | [], l, s, h => by
    simp only [strOf.strGo, Option.some.injEq] at h; subst h
    simp
  | c :: cs, l, s, h => by
    unfold strOf.strGo at h
    split at h
    · simp at *
    · rename_i n cs' heq
      obtain ⟨rfl, rfl⟩ := List.cons.inj heq
      obtain ⟨l', h1, h2⟩ := Option.bind_eq_some_iff.1 h
      simp only [Option.some.injEq] at h2; subst h2
      rw [List.forIn_cons]
      simp only [Sem.run_bind, Sem.run_pure, Result.andThen_ok, List.foldl_cons]
      exact strGo_fold _ h1
    · simp at h
theorem push_fold : ∀ (l : List UInt8) (s : ByteArray), l.foldl ByteArray.push s = ⟨s.data ++ l.toArray⟩
  | [], s => by simp
  | b :: l, s => by
    rw [List.foldl_cons, push_fold l]
    cases s with
    | mk d => simp [ByteArray.push]
theorem strOf_eq {cs : List Value} {s : ByteArray} (h : strOf cs = some s) : ∃ l, strOf.strGo cs = some l ∧ l.foldl ByteArray.push ByteArray.empty = s := by
  unfold strOf at h
  split at h
  · simp only [Option.some.injEq] at h; subst h
    exact ⟨[], rfl, rfl⟩
  · obtain ⟨l, h1, h2⟩ := Option.map_eq_some_iff.1 h
    refine ⟨l, h1, ?_⟩
    rw [push_fold, ← h2]
    simp [ByteArray.empty, ByteArray.emptyWithCapacity]
    rfl
theorem strGo_rel {L : Nat} : ∀ {cs cs' : List Value} {l : List UInt8}, VRs ρ L cs cs' → strOf.strGo cs = some l → cs' = cs
  | [], cs', l, hv, h => List.length_eq_zero_iff.1 hv.len.symm
  | c :: cs, cs', l, hv, h => by
    obtain ⟨c', cs'', rfl, h1, h2⟩ := hv.uncons
    unfold strOf.strGo at h
    split at h
    · simp at *
    · rename_i n cs2 heq
      obtain ⟨rfl, rfl⟩ := List.cons.inj heq
      obtain ⟨l', h3, h4⟩ := Option.bind_eq_some_iff.1 h
      rw [h1.int_inv, strGo_rel h2 h3]
    · simp at h
theorem conv_bytes (hs : St P C.T ρ e m a w) {s t : TypeId} {x : Operand} {el : Nat} {p : Option Addr} {n c : Nat} (hs1 : (C.T s).d = .slice el) (ht1 : (C.T t).d = .str) (hx : opnd e x = some (.slice p n c))
    (h : (bif isU8 (C.T el).d then (rdSl m p n 1).bind fun cs => (strOf cs).bind fun s => K (.string s) m else none) = some r) : ∃ v m', K v m' = some r ∧ Did P a ⟨dst, .convert s t x, ty, pos, after, guard⟩ ρ m w v m' := by
  cases hu8 : isU8 (C.T el).d with
  | false => rw [hu8] at h; simp at h
  | true =>
    rw [hu8] at h
    simp only [cond_true, Option.bind_eq_some_iff] at h
    obtain ⟨cs, hcs, st, hst, hK⟩ := h
    have h1 := (hs.tok s (by rw [hs1]; simp)).desc
    have h2 := (hs.tok t (by rw [ht1]; simp)).desc
    rw [hs1] at h1; rw [ht1] at h2
    have h3 := (hs.tok el h1.2).desc
    have hel : (C.T el).d = .int .u8 := by
      unfold isU8 at hu8
      split at hu8
      · assumption
      · simp at hu8
    rw [hel] at h3
    have hx' := opnd_sound hs.env hx
    obtain ⟨l, hl1, hl2⟩ := strOf_eq hst
    refine ⟨_, m, hK, .here hs.mem (v' := .string st) ?_ (.str _)⟩
    have conv : (convert s t (a.eval x)).run P w = ((Conv.bytesToString (a.eval x)).run P w) := by
      rcases hx'.sl_inv with ⟨rfl, rfl, rfl, h6⟩ | ⟨b, b', c', rfl, h6, _⟩ <;> simp only [h6] <;> simp [convert, under w h1.1, under w h2, under w h3]
    simp only [execOp, Sem.run_bind, conv]
    rcases hx'.sl_inv with ⟨rfl, rfl, rfl, h6⟩ | ⟨b, b', c', rfl, h6, h7, h8⟩
    · simp only [rdSl, if_true, Option.some.injEq] at hcs
      subst hcs
      simp only [strOf, Option.some.injEq] at hst; subst hst
      simp [h6, Conv.bytesToString]
    · obtain ⟨cs', e1, e2, e3⟩ := rdSl_sound (P := P) hs.mem hcs hx' (Nat.le_refl _)
      rw [strGo_rel e2 hl1] at e1
      have e1 := e1 w rfl
      rw [h6] at e1 ⊢
      simp only [Builtin.firstCells, Nat.mul_one] at e1
      simp only [Conv.bytesToString, Sem.run_bind, e1, Result.andThen_ok]
      rw [← Array.forIn_toList]
      have := strGo_fold (P := P) (w := w) ByteArray.empty hl1
      refine Eq.trans (congrArg (fun z : Result ByteArray => (z.andThen fun a w' => Result.ok (Value.string a) w').andThen fun a w' => Result.ok (Next.value a) w') this) ?_
      simp [hl2]

theorem op_convert (hs : St P C.T ρ e m a w) {s t : TypeId} {x : Operand} (h : oper C (.convert s t x) e m K = some r) : ∃ v m', K v m' = some r ∧ Did P a ⟨dst, .convert s t x, ty, pos, after, guard⟩ ρ m w v m' := by
  simp only [oper] at h
  split at h
  · rename_i k1 k k2 n hs1 ht1 hx
    have hx' := (opnd_sound hs.env hx).int_inv
    have h1 := (hs.tok s (by rw [hs1]; simp)).desc
    have h2 := (hs.tok t (by rw [ht1]; simp)).desc
    rw [hs1] at h1; rw [ht1] at h2
    refine ⟨_, m, h, .here hs.mem (v' := .int k (k.wrap n)) ?_ (.int _ _)⟩
    simp [execOp, convert, under w h1, under w h2, hx', Conv.intToInt]
  · rename_i s0 hs1 ht1 hx
    have hx' := (opnd_sound hs.env hx).str_inv
    have h1 := (hs.tok s (by rw [hs1]; simp)).desc
    have h2 := (hs.tok t (by rw [ht1]; simp)).desc
    rw [hs1] at h1; rw [ht1] at h2
    refine ⟨_, m, h, .here hs.mem (v' := .string s0) ?_ (.str _)⟩
    simp [execOp, convert, under w h1, under w h2, hx']
  · rename_i el p n c hs1 ht1 hx
    exact conv_bytes hs hs1 ht1 hx h
  · simp at h

end
end Go.Mx
