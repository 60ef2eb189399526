/- The clean memory against the model: operations, second part. -/
import Derived.Test.YtoljgolgecbcdaaMxOps
set_option linter.unusedVariables false
set_option linter.unusedSimpArgs false
namespace Go.Mx
section
variable {P : Program} {R : Type} {C : Ctx R} {ρ : Rn} {e : Env} {m : Mem} {a : Act} {w : World} {r : R} {K : Value → Mem → Option R}
  {dst : Option Tmp} {ty : TypeId} {pos : String} {after : Array Edge} {guard : Option (Nat × Bool)}

theorem op_index (hs : St P C.T ρ e m a w) {t : TypeId} {x ix : Operand} (h : oper C (.index t x ix) e m K = some r) : ∃ v m', K v m' = some r ∧ Did P a ⟨dst, .index t x ix, ty, pos, after, guard⟩ ρ m w v m' := by
  simp only [oper] at h
  split at h
  · rename_i n el cs k i hd hp hi
    obtain ⟨cs', hp', hcs⟩ := (opnd_sound hs.env hp).agg_inv
    have hi' := (opnd_sound hs.env hi).int_inv
    have ht := hs.tok t (by rw [hd]; simp)
    have hdd := ht.desc
    rw [hd] at hdd
    cases hr : inRange i n with
    | false => simp [hr] at h
    | true =>
      simp only [hr, cond_true] at h
      have hsz := (hs.tok el hdd.2).size w
      obtain ⟨v, v', h1, h2, h3⟩ := getT_sound hs.tok h hcs w
      refine ⟨v, m, h1, .here hs.mem (v' := v') ?_ h2⟩
      have hr' := range_of hr
      simp [execOp, Instr.index, hi', asIntOf, under w hdd.1, hp', hr', hsz, h3]
  · rename_i s k i hd hp hi
    have hp' := (opnd_sound hs.env hp).str_inv
    have hi' := (opnd_sound hs.env hi).int_inv
    have ht := hs.tok t (by rw [hd]; simp)
    have hdd := ht.desc
    rw [hd] at hdd
    cases hr : inRange i s.size with
    | false => simp [hr] at h
    | true =>
      simp only [hr, cond_true] at h
      have hr' := range_of hr
      have hlt : i.toNat < s.size := by omega
      refine ⟨_, m, h, .here hs.mem (v' := .int .u8 ((s.data.toList.getD i.toNat 0).toNat : Nat)) ?_ (.int _ _)⟩
      have e1 : s[i.toNat]? = some (s.data.toList.getD i.toNat 0) := by
        rw [getElem?_pos s i.toNat hlt]
        have this : i.toNat < s.data.toList.length := by simpa using hlt
        have h5 : s.data.toList.getD i.toNat 0 = s.data.toList[i.toNat] := by
          rw [List.getD, List.getElem?_eq_getElem this]; rfl
        rw [h5]; rfl
      simp only [execOp, Instr.index, hi', asIntOf, hp', Sem.run_bind, Sem.run_pure, Result.andThen_ok, under w hdd, hr', if_true, e1]
  · simp at h

theorem strEq_eq (x y : ByteArray) : strEq x y = (x.toList == y.toList) := rfl

theorem eqGuard_none (op : BinOp) (t : TypeId) (x y : Operand) (u v : Value) (h : ∀ c d, ¬ (u = .agg c ∧ v = .agg d)) (h2 : ¬ (u = .nilIface ∧ v = .nilIface)) : (eqGuard op t x y u v).run P w = .ok () w := by
  unfold eqGuard
  cases op <;> first | rfl | skip
  all_goals
    cases u <;> cases v <;> first | rfl | exact absurd ⟨rfl, rfl⟩ h2 | exact absurd ⟨rfl, rfl⟩ (h _ _)

theorem binI_sound {op : BinOp} {k : IntKind} {x y : Int} {K : Value → Option R} (h : binI op k x y K = some r) (t : TypeId) (hk : k = k) :
    ∃ v, K v = some r ∧ (binOp op t (.int k x) (.int k y)).run P w = .ok v w ∧ ((∃ n, v = .int k n) ∨ ∃ b, v = .bool b) := by
  cases op <;> simp only [binI] at h
  case add => exact ⟨_, h, by simp [binOp, Op.intArith], .inl ⟨_, rfl⟩⟩
  case sub => exact ⟨_, h, by simp [binOp, Op.intArith], .inl ⟨_, rfl⟩⟩
  case mul => exact ⟨_, h, by simp [binOp, Op.intArith], .inl ⟨_, rfl⟩⟩
  case quo =>
    cases hz : isZero y with
    | true => simp [hz] at h
    | false =>
      rw [hz] at h
      have : y ≠ 0 := by simpa [isZero] using hz
      exact ⟨_, h, by simp [binOp, Op.intDiv, this], .inl ⟨_, rfl⟩⟩
  case rem =>
    cases hz : isZero y with
    | true => simp [hz] at h
    | false =>
      rw [hz] at h
      have : y ≠ 0 := by simpa [isZero] using hz
      exact ⟨_, h, by simp [binOp, Op.intDiv, this], .inl ⟨_, rfl⟩⟩
  case and => exact ⟨_, h, by simp [binOp, Op.intBits, bitI], .inl ⟨_, rfl⟩⟩
  case or => exact ⟨_, h, by simp [binOp, Op.intBits, bitI], .inl ⟨_, rfl⟩⟩
  case xor => exact ⟨_, h, by simp [binOp, Op.intBits, bitI], .inl ⟨_, rfl⟩⟩
  case andNot => exact ⟨_, h, by simp [binOp, Op.intBits, bitI], .inl ⟨_, rfl⟩⟩
  case shl =>
    cases hz : decide (y < 0) with
    | true => simp [hz] at h
    | false =>
      rw [hz] at h
      have : ¬ y < 0 := by simpa using hz
      exact ⟨_, h, by simp [binOp, Op.shift, this, shlI], .inl ⟨_, rfl⟩⟩
  case shr =>
    cases hz : decide (y < 0) with
    | true => simp [hz] at h
    | false =>
      rw [hz] at h
      have : ¬ y < 0 := by simpa using hz
      exact ⟨_, h, by simp [binOp, Op.shift, this, shrI], .inl ⟨_, rfl⟩⟩
  case eql => exact ⟨_, h, by simp [binOp, Op.intCmp], .inr ⟨_, rfl⟩⟩
  case neq => exact ⟨_, h, by simp [binOp, Op.intCmp], .inr ⟨_, rfl⟩⟩
  case lss => exact ⟨_, h, by simp [binOp, Op.intCmp], .inr ⟨_, rfl⟩⟩
  case leq => exact ⟨_, h, by simp [binOp, Op.intCmp], .inr ⟨_, rfl⟩⟩
  case gtr => exact ⟨_, h, by simp [binOp, Op.intCmp], .inr ⟨_, rfl⟩⟩
  case geq => exact ⟨_, h, by simp [binOp, Op.intCmp], .inr ⟨_, rfl⟩⟩

theorem shift_sound {op : BinOp} (hop : op = .shl ∨ op = .shr) {k k' : IntKind} {x y : Int} {K : Value → Option R} (h : binI op k x y K = some r) (t : TypeId) :
    ∃ v, K v = some r ∧ (binOp op t (.int k x) (.int k' y)).run P w = .ok v w ∧ ((∃ n, v = .int k n) ∨ ∃ b, v = .bool b) := by
  rcases hop with rfl | rfl <;> simp only [binI] at h
  · cases hz : decide (y < 0) with
    | true => simp [hz] at h
    | false =>
      rw [hz] at h
      have : ¬ y < 0 := by simpa using hz
      exact ⟨_, h, by simp [binOp, Op.shift, this, shlI], .inl ⟨_, rfl⟩⟩
  · cases hz : decide (y < 0) with
    | true => simp [hz] at h
    | false =>
      rw [hz] at h
      have : ¬ y < 0 := by simpa using hz
      exact ⟨_, h, by simp [binOp, Op.shift, this, shrI], .inl ⟨_, rfl⟩⟩

theorem binOp_eql (t : TypeId) (x y : Value) (h : ∀ k n, x ≠ .int k n) (h1 : ∀ s, x ≠ .string s) (h2 : ∀ k n, x ≠ .float k n) (h3 : ∀ k a b, x ≠ .complex k a b) :
    binOp .eql t x y = (do pure (.bool (← Op.equal t x y))) := by
  cases x <;> first
    | exact absurd rfl (h _ _)
    | exact absurd rfl (h1 _)
    | exact absurd rfl (h2 _ _)
    | exact absurd rfl (h3 _ _ _)
    | rfl
theorem binOp_neq (t : TypeId) (x y : Value) (h : ∀ k n, x ≠ .int k n) (h1 : ∀ s, x ≠ .string s) (h2 : ∀ k n, x ≠ .float k n) (h3 : ∀ k a b, x ≠ .complex k a b) :
    binOp .neq t x y = (do pure (.bool (!(← Op.equal t x y)))) := by
  cases x <;> first
    | exact absurd rfl (h _ _)
    | exact absurd rfl (h1 _)
    | exact absurd rfl (h2 _ _)
    | exact absurd rfl (h3 _ _ _)
    | rfl

theorem equal_bool {t : TypeId} (hu : P.underlying t = some .bool) (a b : Bool) : (Op.equal t (.bool a) (.bool b)).run P w = .ok (a == b) w := by
  obtain ⟨n, hn⟩ : ∃ n, Op.maxDepth = n + 1 := ⟨9999, rfl⟩
  unfold Op.equal; rw [hn]
  simp only [Op.equalIn, Sem.run_bind, under w hu, Result.andThen_ok]
  rfl
theorem equal_ptr0 {t el : TypeId} (hu : P.underlying t = some (.pointer el)) (a : Option Addr) : (Op.equal t (.pointer a) (.pointer none)).run P w = .ok a.isNone w := by
  obtain ⟨n, hn⟩ : ∃ n, Op.maxDepth = n + 1 := ⟨9999, rfl⟩
  unfold Op.equal; rw [hn]
  simp only [Op.equalIn, Sem.run_bind, under w hu, Result.andThen_ok]
  cases a <;> rfl
theorem equal_sl0 {t el : TypeId} (hu : P.underlying t = some (.slice el)) (a : Option Addr) (n c n' c' : Nat) : (Op.equal t (.slice a n c) (.slice none n' c')).run P w = .ok a.isNone w := by
  obtain ⟨n, hn⟩ : ∃ n, Op.maxDepth = n + 1 := ⟨9999, rfl⟩
  unfold Op.equal; rw [hn]
  simp only [Op.equalIn, Sem.run_bind, under w hu, Result.andThen_ok]
  cases a <;> rfl
theorem equal_nil {t : TypeId} {ms} (hu : P.underlying t = some (.interface ms)) : (Op.equal t .nilIface .nilIface).run P w = .ok true w := by
  obtain ⟨n, hn⟩ : ∃ n, Op.maxDepth = n + 1 := ⟨9999, rfl⟩
  unfold Op.equal; rw [hn]
  simp only [Op.equalIn, Sem.run_bind, under w hu, Result.andThen_ok]
  rfl
theorem equal_nil1 {t : TypeId} {ms} (hu : P.underlying t = some (.interface ms)) (u : TypeId) (v : Value) : (Op.equal t .nilIface (.iface u v)).run P w = .ok false w := by
  obtain ⟨n, hn⟩ : ∃ n, Op.maxDepth = n + 1 := ⟨9999, rfl⟩
  unfold Op.equal; rw [hn]
  simp only [Op.equalIn, Sem.run_bind, under w hu, Result.andThen_ok]
  rfl
theorem equal_nil2 {t : TypeId} {ms} (hu : P.underlying t = some (.interface ms)) (u : TypeId) (v : Value) : (Op.equal t (.iface u v) .nilIface).run P w = .ok false w := by
  obtain ⟨n, hn⟩ : ∃ n, Op.maxDepth = n + 1 := ⟨9999, rfl⟩
  unfold Op.equal; rw [hn]
  simp only [Op.equalIn, Sem.run_bind, under w hu, Result.andThen_ok]
  rfl
theorem equal_if_ne {t : TypeId} {ms} (hu : P.underlying t = some (.interface ms)) (u u' : TypeId) (hne : u ≠ u') (v v' : Value) : (Op.equal t (.iface u v) (.iface u' v')).run P w = .ok false w := by
  obtain ⟨n, hn⟩ : ∃ n, Op.maxDepth = n + 1 := ⟨9999, rfl⟩
  unfold Op.equal; rw [hn]
  simp only [Op.equalIn, Sem.run_bind, under w hu, Result.andThen_ok]
  rw [if_pos hne]
  rfl
theorem equal_if_int {t : TypeId} {ms} (hu : P.underlying t = some (.interface ms)) (u : TypeId) {k k1 k2 : IntKind} (huu : P.underlying u = some (.int k)) {i : TypeInfo} (hi : P.info? u = some i) (hc : i.comparable = true) (hk : k1 = k2) (a b : Int) :
    (Op.equal t (.iface u (.int k1 a)) (.iface u (.int k2 b))).run P w = .ok (a == b) w := by
  obtain ⟨n, hn⟩ : ∃ n, Op.maxDepth = n + 1 + 1 := ⟨9998, rfl⟩
  unfold Op.equal; rw [hn]
  subst hk
  simp only [Op.equalIn, Sem.run_bind, under w hu, Result.andThen_ok]
  simp [typeInfo, hi, hc, under w huu]
end
end Go.Mx
