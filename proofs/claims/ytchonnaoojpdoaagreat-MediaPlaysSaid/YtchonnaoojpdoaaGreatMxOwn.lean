import Derived.Test.YtchonnaoojpdoaaGreatMxLaw
set_option linter.unusedVariables false
set_option linter.unusedSimpArgs false
namespace Go.Mx
abbrev Heap:=List (Nat × MObj)
structure Own (m:Mem) (L:Heap):Prop where
 nd:(L.map (·.1)).Nodup
 get:∀ x ∈ L,m[x.1]? = some x.2
theorem nodup_inj {α:Type} {l:List α} (h:l.Nodup) {i j:Nat} {a:α} (h1:l[i]? = some a) (h2:l[j]? = some a):i = j:=by
 obtain ⟨a1,b1⟩:=List.getElem?_eq_some_iff.1 h1
 obtain ⟨a2,b2⟩:=List.getElem?_eq_some_iff.1 h2
 have h3:=List.pairwise_iff_getElem.1 h
 rcases Nat.lt_trichotomy i j with h4 | h4 | h4
 ·exact absurd (b1.trans b2.symm) (h3 i j a1 a2 h4)
 ·exact h4
 ·exact absurd (b2.trans b1.symm) (h3 j i a2 a1 h4)
theorem Own.at {m:Mem} {L:Heap} (h:Own m L) (n:Nat) {b:Nat} {o:MObj} (hn:L[n]? = some (b,o)):m[b]? = some o :=
 h.get (b,o) (List.mem_of_getElem? hn)
theorem Own.lt {m:Mem} {L:Heap} (h:Own m L) (n:Nat) {b:Nat} {o:MObj} (hn:L[n]? = some (b,o)):b < m.length :=
 (List.getElem?_eq_some_iff.1 (h.at n hn)).1
theorem Own.ltm {m:Mem} {L:Heap} (h:Own m L) {x:Nat × MObj} (hx:x ∈ L):x.1 < m.length :=
 (List.getElem?_eq_some_iff.1 (h.get x hx)).1
theorem Own.put {m:Mem} {L:Heap} (h:Own m L) (n:Nat) {b:Nat} {o:MObj} (hn:L[n]? = some (b,o)) (o':MObj):Own (m.set b o') (L.set n (b,o')):=by
 obtain ⟨hl,he⟩:=List.getElem?_eq_some_iff.1 hn
 have e1:(L.set n (b,o')).map (·.1) = L.map (·.1):=by
  rw [List.map_set]
  apply List.ext_getElem?
  intro i
  rw [List.getElem?_set]
  split
  ·rename_i h1;subst h1;simp [hl,he]
  ·rfl
 refine ⟨by rw [e1];exact h.nd,fun x hx => ?_⟩
 obtain ⟨i,hi⟩:=List.mem_iff_getElem?.1 hx
 rw [List.getElem?_set] at hi
 split at hi
 ·rename_i h1;subst h1
  simp only [hl,if_true,Option.some.injEq] at hi;subst hi
  simp [h.lt n hn]
 ·rename_i h1
  have h2:x.1 ≠ b:=by
   intro h3
   have h4:=h.nd
   have a1:(L.map (·.1))[i]? = some b:=by simp [hi,h3]
   have a2:(L.map (·.1))[n]? = some b:=by simp [hn]
   exact h1 (nodup_inj h4 a2 a1)
  rw [List.getElem?_set_ne (fun h3 => h2 h3.symm)]
  exact h.get x (List.mem_of_getElem? hi)
theorem Own.new {m:Mem} {L:Heap} (h:Own m L) (o:MObj):Own (m ++ [o]) ((m.length,o) :: L):=by
 refine ⟨?_,fun x hx => ?_⟩
 ·simp only [List.map_cons,List.nodup_cons]
  refine ⟨fun hm => ?_,h.nd⟩
  obtain ⟨y,hy,h1⟩:=List.mem_map.1 hm
  have:=h.ltm hy
  omega
 ·rcases List.mem_cons.1 hx with rfl | hx
  ·simp
  ·rw [List.getElem?_append_left (h.ltm hx)];exact h.get x hx
theorem Own.sub {m:Mem} {L L':Heap} (h:Own m L) (hs:L'.Sublist L):Own m L' :=
 ⟨h.nd.sublist (hs.map _),fun x hx => h.get x (hs.subset hx)⟩
theorem Own.tail {m:Mem} {L:Heap} {x:Nat × MObj} (h:Own m (x :: L)):Own m L:=h.sub (List.sublist_cons_self _ _)
theorem Own.back {m:Mem} {A B:Heap} (h:Own m (A ++ B)):Own m B:=h.sub (List.sublist_append_right _ _)
def Ok {α:Type} (x:Option α) (P:α → Prop):Prop:=∃ r,x = some r ∧ P r
section
variable {α β:Type} {P:β → Prop}
theorem Ok.some {r:β} (h:P r):Ok (some r) P:=⟨r,rfl,h⟩
theorem Ok.bind {x:Option α} {K:α → Option β} {Q:α → Prop} (hx:Ok x Q) (h:∀ r,Q r → Ok (K r) P):Ok (x.bind K) P:=by
 obtain ⟨r,rfl,hr⟩:=hx
 exact h r hr
theorem Ok.mono {x:Option β} {Q:β → Prop} (hx:Ok x Q) (h:∀ r,Q r → P r):Ok x P:=by
 obtain ⟨r,e,hr⟩:=hx
 exact ⟨r,e,h r hr⟩
end
section
variable {α:Type} {P:α → Prop} {m:Mem} {b off:Nat} {sp:Option Nat} {cs:List Value}
end
def arr (k:IntKind) (n:Nat) (f:Int → Int):List Value:=(List.range n).map fun i:Nat => Value.int k (f (i:Int))
def barr (n:Nat) (f:Int → Bool):List Value:=(List.range n).map fun i:Nat => Value.bool (f (i:Int))
def upd {α:Type} (f:Int → α) (x:Int) (v:α):Int → α:=fun y => if y = x then v else f y
@[simp] theorem upd_same {α:Type} (f:Int → α) (x:Int) (v:α):upd f x v x = v:=by simp [upd]
theorem upd_ne {α:Type} {f:Int → α} {x y:Int} {v:α} (h:y ≠ x):upd f x v y = f y:=by simp [upd,h]
@[simp] theorem arr_length {k:IntKind} {n:Nat} {f:Int → Int}:(arr k n f).length = n:=by simp [arr]
@[simp] theorem barr_length {n:Nat} {f:Int → Bool}:(barr n f).length = n:=by simp [barr]
theorem arr_get {k:IntKind} {n:Nat} {f:Int → Int} {i:Nat} (h:i < n):(arr k n f)[i]? = some (.int k (f i)):=by simp [arr,h]
theorem arr_getI {k:IntKind} {n:Nat} {f:Int → Int} {x:Int} (h0:0 ≤ x) (h:x < n):(arr k n f)[x.toNat]? = some (.int k (f x)):=by
 rw [arr_get (by omega)];simp [Int.toNat_of_nonneg h0]
theorem arr_set {k:IntKind} {n:Nat} {f:Int → Int} {x:Int} {v:Int} (h0:0 ≤ x):(arr k n f).set x.toNat (.int k v) = arr k n (upd f x v):=by
 apply List.ext_getElem?
 intro i
 rw [List.getElem?_set]
 by_cases hi:i < n
 ·rw [arr_get hi,arr_get hi,arr_length]
  by_cases he:x.toNat = i
  ·subst he
   simp [hi,Int.toNat_of_nonneg h0]
  ·rw [if_neg he,upd_ne (by omega)]
 ·rw [List.getElem?_eq_none (by simp;omega),List.getElem?_eq_none (by simp;omega)]
  simp;omega
theorem arr_congr {k:IntKind} {n:Nat} {f g:Int → Int} (h:∀ i:Int,0 ≤ i → i < n → f i = g i):arr k n f = arr k n g:=by
 unfold arr
 apply List.map_congr_left
 intro i hi
 rw [h i (by omega) (by have:=List.mem_range.1 hi;omega)]
theorem repl_one {n:Nat} {v:Value}:repl n [v] = List.replicate n v:=by
 unfold repl
 induction n with
 | zero => rfl
 | succ n ih => simp [List.replicate_succ,ih]
theorem repl_int {k:IntKind} {n:Nat} {z:Int}:repl n [.int k z] = arr k n (fun _ => z):=by
 rw [repl_one]
 apply List.ext_getElem?
 intro i
 by_cases hi:i < n
 ·rw [arr_get hi];simp [hi]
 ·rw [List.getElem?_eq_none (by simp;omega),List.getElem?_eq_none (by simp;omega)]
theorem inRange_yes {x:Int} {n:Nat} (h0:0 ≤ x) (h:x < n):inRange x n = true:=by simp [inRange,h0,h]
theorem beqI_yes {x y:Int} (h:x = y):(x == y) = true:=by simp [h]
theorem beqI_no {x y:Int} (h:x ≠ y):(x == y) = false:=by simp [h]
theorem bneI_yes {x y:Int} (h:x ≠ y):(x != y) = true:=by simp [h]
theorem bneI_no {x y:Int} (h:x = y):(x != y) = false:=by simp [h]
theorem inUpto_yes {x:Int} {n:Nat} (h0:0 ≤ x) (h:x ≤ n):inUpto x n = true:=by simp [inUpto,h0,h]
theorem isZero_no {x:Int} (h:x ≠ 0):isZero x = false:=by simp [isZero,h]
theorem tmod_pos {x y:Int} (h:0 ≤ x):Int.tmod x y = x % y:=Int.tmod_eq_emod_of_nonneg h
theorem tdiv_pos {x y:Int} (h:0 ≤ x):Int.tdiv x y = x / y:=Int.tdiv_eq_ediv_of_nonneg h
def wr (m:Mem) (b:Nat) (cs:List Value):Mem:=m.set b (.live cs)
section
variable {m:Mem} {p q:Nat} {cs cs':List Value} {o:MObj}
theorem wr_same (h:m[p]? = some (.live cs)):wr m p cs = m:=by
 obtain ⟨h1,h2⟩:=List.getElem?_eq_some_iff.1 h
 unfold wr;rw [← h2];simp
theorem wr_get (h:m[p]? = some o):(wr m p cs)[p]? = some (.live cs):=by
 unfold wr;exact get_set_eq (List.getElem?_eq_some_iff.1 h).1
theorem wr_wr:wr (wr m p cs) p cs' = wr m p cs':=by unfold wr;simp
theorem wr_ne (h:p ≠ q):(wr m p cs)[q]? = m[q]?:=by unfold wr;simp [h]
theorem wr_len:(wr m p cs).length = m.length:=by unfold wr;simp
theorem wr_app {g:Mem} (h:p < m.length):wr (m ++ g) p cs = wr m p cs ++ g:=by unfold wr;rw [List.set_append_left _ _ h]
theorem wr_last {cs:List Value} {n:Nat} (hn:m.length = n):wr (m ++ [o]) n cs = m ++ [.live cs]:=by subst hn;unfold wr;simp
theorem get_last {n:Nat} (hn:m.length = n):(m ++ [o])[n]? = some o:=by subst hn;simp
theorem st_wr {off:Nat} {sp:Option Nat} {v:Value} (h:m[p]? = some (.live cs)) (hc:off < cs.length):st m ⟨p,off,sp⟩ v = some (wr m p (cs.set off v)):=st_of h hc
theorem stCells_wr {off:Nat} {sp:Option Nat} {vs:List Value} (h:m[p]? = some (.live cs)) (hc:off + vs.length ≤ cs.length):stCells m ⟨p,off,sp⟩ vs = some (wr m p (cs.take off ++ vs ++ cs.drop (off + vs.length))):=stCells_of h hc
theorem Own.wr {L:Heap} (h:Own m L) (n:Nat) {b:Nat} (hn:L[n]? = some (b,o)) (cs:List Value):Own (wr m b cs) (L.set n (b,.live cs)):=h.put n hn _
theorem Own.grow {L:Heap} (h:Own m L) (g:Mem):Own (m ++ g) L:=⟨h.nd,fun x hx => by rw [List.getElem?_append_left (h.ltm hx)];exact h.get x hx⟩
theorem get_lt (h:m[p]? = some o):p < m.length:=(List.getElem?_eq_some_iff.1 h).1
theorem get_grow {g:Mem} (h:m[p]? = some o):(m ++ g)[p]? = some o:=by rw [List.getElem?_append_left (get_lt h)];exact h
end
section
variable {m:Mem} {q n:Nat} {k:IntKind} {f:Int → Int} {fb:Int → Bool} {sp:Option Nat} {x:Int}
theorem arr_ld (h:m[q]? = some (.live (arr k n f))) (h0:0 ≤ x) (h1:x < n):ldInt k m ⟨q,x.toNat,sp⟩ = some (f x):=ldInt_of h (arr_getI h0 h1)
theorem arr_ldn {i:Nat} (h:m[q]? = some (.live (arr k n f))) (h1:i < n):ldInt k m ⟨q,i,sp⟩ = some (f i):=ldInt_of h (arr_get h1)
theorem arr_st {v:Int} (h:m[q]? = some (.live (arr k n f))) (h0:0 ≤ x) (h1:x < n):st m ⟨q,x.toNat,sp⟩ (.int k v) = some (wr m q (arr k n (upd f x v))):=by
 rw [st_wr h (by rw [arr_length];omega),arr_set h0]
theorem arr_stn {v:Int} {i:Nat} (h:m[q]? = some (.live (arr k n f))) (h1:i < n):st m ⟨q,i,sp⟩ (.int k v) = some (wr m q (arr k n (upd f i v))):=by
 have:=arr_st (sp:=sp) (x:=(i:Int)) (v:=v) h (by omega) (by omega);simpa using this
end
theorem isNil_nil:isNil .nilIface = some true:=rfl
theorem isNil_iface {t:Nat} {v:Value}:isNil (.iface t v) = some false:=rfl
theorem wrap_i64 {x:Int} (h1:-9223372036854775808 ≤ x) (h2:x < 9223372036854775808):IntKind.wrap .i64 x = x:=wrap_small h1 h2
end Go.Mx
