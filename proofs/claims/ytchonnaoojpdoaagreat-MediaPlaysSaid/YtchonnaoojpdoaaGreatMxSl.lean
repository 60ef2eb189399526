import Derived.Test.YtchonnaoojpdoaaGreatMxOwn
set_option linter.unusedVariables false
set_option linter.unusedSimpArgs false
namespace Go.Mx
section
variable {m g:Mem} {a:Addr} {p:Option Addr} {b off n z l y c:Nat} {sp:Option Nat} {cs vs new old:List Value}
theorem oldB_mono:∀ {f f':Nat} {m m':Mem} {cs:List Value} {q:Nat},f ≤ f' → (∀ (n:Nat) (o:MObj),m[n]? = some o → m'[n]? = some o) → oldB m f cs q = true → oldB m' f' cs q = true
 | 0,_,_,_,_,_,_,_,h => by simp [oldB] at h
 | f + 1,0,_,_,_,_,hf,_,_ => by omega
 | f + 1,f' + 1,m,m',cs,q,hf,hm,h => by
  unfold oldB at h ⊢
  split at h
  ·rename_i cs1 hq
   rw [hm _ _ hq];exact h
  ·rename_i cs1 q1 hq
   rw [Bool.and_eq_true] at h
   simp only [hm _ _ hq,h.1,Bool.true_and]
   exact oldB_mono (by omega) hm h.2
  ·cases h
theorem cells_grow {cs:List Value} (h:m.cells b = some cs):(m ++ g).cells b = some cs:=by
 rcases cells_iff.1 h with h | h | ⟨q,h,h2⟩
 ·exact cells_iff.2 (.inl (get_grow h))
 ·exact cells_iff.2 (.inr (.inl (get_grow h)))
 ·exact cells_iff.2 (.inr (.inr ⟨q,get_grow h,oldB_mono (by simp) (fun n o ho => get_grow ho) h2⟩))
theorem ldCells_grow (h:ldCells m a n = some vs):ldCells (m ++ g) a n = some vs:=by
 unfold ldCells at *
 obtain ⟨cs,h1,h2⟩:=Option.bind_eq_some_iff.1 h
 rw [cells_grow h1];exact h2
theorem rdSl_grow (h:rdSl m p n z = some vs):rdSl (m ++ g) p n z = some vs:=by
 unfold rdSl at *
 cases p with
 | none => exact h
 | some a =>
  simp only at h ⊢
  split
  ·rename_i h0;rwa [if_pos h0] at h
  ·rename_i h0;rw [if_neg h0] at h;exact ldCells_grow h
theorem rdSl_live (h:m[b]? = some (.live cs)) (hc:off + n * z ≤ cs.length):rdSl m (some ⟨b,off,sp⟩) n z = some ((cs.drop off).take (n * z)):=rdSl_ld (ldCells_of h hc)
theorem rdSl_all (h:m[b]? = some (.live cs)) (hc:n * z = cs.length):rdSl m (some ⟨b,0,sp⟩) n z = some cs:=by
 rw [rdSl_live h (by omega)];simp [hc]
theorem appM_make (hb:m[b]? = some (.live cs)) (hl:0 < l) (h1:l * y ≤ most) (h2:l ≤ most) :
 appM z y m (some ⟨b,0,none⟩) 0 0 l new = some (⟨some ⟨m.length,0,some z⟩,l,l⟩,m ++ [.live new]):=by
 unfold appM
 rw [if_neg (by omega),if_pos (by simp [h1,h2])]
 have h3:ldCells m ⟨b,0,none⟩ 0 = some []:=by rw [ldCells_of hb (by simp)];simp
 simp [h3]
theorem appM_room {s:Addr} (hn:n + l ≤ c):appM z y m (some s) n c l new = (stCells m (plus s (n * z)) new).bind fun m' => some (⟨some s,n + l,c⟩,m'):=by
 unfold appM
 rw [if_pos hn]
theorem appM_grow (hb:m[b]? = some (.live old)) (ho:old.length = n * z) (hl:0 < l) (h1:(n + l) * y ≤ most) (h2:n + l ≤ most) :
 appM z y m (some ⟨b,0,some z⟩) n n l new = some (⟨some ⟨m.length,0,some z⟩,n + l,n + l⟩,m.set b (.old old m.length) ++ [.live (old ++ new)]):=appM_full hl h1 h2 hb ho
end
def ints (l:List Int):List Value:=l.map (Value.int .i64)
@[simp] theorem ints_length {l:List Int}:(ints l).length = l.length:=by simp [ints]
theorem ints_get {l:List Int} {i:Nat} (h:i < l.length):(ints l)[i]? = some (.int .i64 l[i]):=by simp [ints,h]
end Go.Mx
