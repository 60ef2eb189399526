import Derived.Test.YtchonnaoojpdoaaGreatMxFn
set_option linter.unusedVariables false
set_option linter.unusedSimpArgs false
namespace Go.Mx
def farr (n:Nat) (f:Int → List Value):List Value:=(List.range n).flatMap fun i:Nat => f (i:Int)
theorem farr_succ (n:Nat) (f:Int → List Value):farr (n + 1) f = farr n f ++ f n:=by
 unfold farr;rw [List.range_succ,List.flatMap_append];simp
theorem upd_self {α:Type} (f:Int → α) (x:Int):upd f x (f x) = f:=by
 funext y;unfold upd;split
 ·rename_i h;rw [h]
 ·rfl
theorem upd_upd {α:Type} (f:Int → α) (x:Int) (u v:α):upd (upd f x u) x v = upd f x v:=by
 funext y;unfold upd;split <;> rfl
theorem farr_congr {n:Nat} {f g:Int → List Value} (h:∀ i:Int,0 ≤ i → i < n → f i = g i):farr n f = farr n g:=by
 induction n with
 | zero => rfl
 | succ n ih => rw [farr_succ,farr_succ,ih (fun i h1 h2 => h i h1 (by omega)),h n (by omega) (by omega)]
theorem farr_split {n i:Nat} (f:Int → List Value) (hi:i < n):∃ rest,∀ v,farr n (upd f i v) = farr i f ++ (v ++ rest):=by
 induction n with
 | zero => omega
 | succ n ih =>
  by_cases h:i = n
  ·subst h
   refine ⟨[],fun v => ?_⟩
   rw [farr_succ,upd_same,List.append_nil,farr_congr (g:=f) fun j h1 h2 => upd_ne (by omega)]
  ·obtain ⟨rest,h1⟩:=ih (by omega)
   refine ⟨rest ++ f n,fun v => ?_⟩
   rw [farr_succ,h1 v,upd_ne (by omega)]
   simp [List.append_assoc]
theorem farr_len {n z:Nat} {f:Int → List Value} (h:∀ i:Int,0 ≤ i → i < n → (f i).length = z):(farr n f).length = n * z:=by
 induction n with
 | zero => simp [farr]
 | succ n ih => rw [farr_succ,List.length_append,ih (fun i h1 h2 => h i h1 (by omega)),h n (by omega) (by omega),Nat.succ_mul]
section
variable {n z i:Nat} {f:Int → List Value} (h:∀ i:Int,0 ≤ i → i < n → (f i).length = z) (hi:i < n)
include h hi
theorem farr_at:∃ rest,(farr i f).length = i * z ∧ farr n f = farr i f ++ (f i ++ rest) ∧ ∀ v,farr n (upd f i v) = farr i f ++ (v ++ rest):=by
 obtain ⟨rest,h1⟩:=farr_split f hi
 refine ⟨rest,farr_len fun j h2 h3 => h j h2 (by omega),?_,h1⟩
 have:=h1 (f i)
 rwa [upd_self] at this
theorem farr_get {j:Nat} (hj:j < z):(farr n f)[i * z + j]? = (f i)[j]?:=by
 obtain ⟨rest,h1,h2,h3⟩:=farr_at h hi
 have hl:=h i (by omega) (by omega)
 rw [h2,List.getElem?_append_right (by omega),List.getElem?_append_left (by omega)]
 congr 1;omega
theorem farr_set {j:Nat} (hj:j < z) (v:Value):(farr n f).set (i * z + j) v = farr n (upd f i ((f i).set j v)):=by
 obtain ⟨rest,h1,h2,h3⟩:=farr_at h hi
 have hl:=h i (by omega) (by omega)
 rw [h2,h3,List.set_append_right _ _ (by omega),List.set_append_left _ _ (by omega)]
 congr 3;omega
theorem farr_sub {o l:Nat} (hl:o + l ≤ z):((farr n f).drop (i * z + o)).take l = ((f i).drop o).take l:=by
 obtain ⟨rest,h1,h2,h3⟩:=farr_at h hi
 have hl':=h i (by omega) (by omega)
 rw [h2,← h1,List.drop_length_add_append,List.drop_append_of_le_length (by omega),List.take_append_of_le_length (by simp;omega)]
theorem farr_put {o:Nat} {vs:List Value} (hl:o + vs.length ≤ z):(farr n f).take (i * z + o) ++ vs ++ (farr n f).drop (i * z + o + vs.length) = farr n (upd f i ((f i).take o ++ vs ++ (f i).drop (o + vs.length))):=by
 obtain ⟨rest,h1,h2,h3⟩:=farr_at h hi
 have hl':=h i (by omega) (by omega)
 rw [h2,h3,← h1,Nat.add_assoc,List.take_length_add_append,List.drop_length_add_append,List.take_append_of_le_length (by omega),List.drop_append_of_le_length (by omega)]
 simp [List.append_assoc]
end
theorem repl_succ (n:Nat) (zs:List Value):repl (n + 1) zs = repl n zs ++ zs:=by
 unfold repl;rw [List.replicate_succ'];simp
theorem repl_farr (n:Nat) (zs:List Value):repl n zs = farr n fun _ => zs:=by
 induction n with
 | zero => rfl
 | succ n ih => rw [repl_succ,farr_succ,ih]
theorem repl_add (a b:Nat) (zs:List Value):repl (a + b) zs = repl a zs ++ repl b zs:=by
 induction b with
 | zero => simp [repl]
 | succ b ih => rw [← Nat.add_assoc,repl_succ,ih,repl_succ,List.append_assoc]
theorem repl_repl (a b:Nat) (zs:List Value):repl a (repl b zs) = repl (a * b) zs:=by
 induction a with
 | zero => simp [repl]
 | succ a ih => rw [repl_succ,ih,Nat.succ_mul,repl_add]
theorem arr_put {k:IntKind} {n o l:Nat} {f g:Int → Int} (h:o + l ≤ n):(arr k n f).take o ++ arr k l g ++ (arr k n f).drop (o + l) = arr k n fun i => if (o:Int) ≤ i ∧ i < o + l then g (i - o) else f i:=by
 apply List.ext_getElem?
 intro i
 by_cases h1:i < o
 ·rw [List.append_assoc,List.getElem?_append_left (by simp;omega),List.getElem?_take,if_pos h1,arr_get (by omega),arr_get (by omega),if_neg (by omega)]
 ·rw [List.append_assoc,List.getElem?_append_right (by simp;omega)]
  have e:i - ((arr k n f).take o).length = i - o:=by simp;omega
  rw [e]
  by_cases h2:i < o + l
  ·rw [List.getElem?_append_left (by simp;omega),arr_get (by omega),arr_get (by omega),if_pos (by omega)]
   congr 3;omega
  ·rw [List.getElem?_append_right (by simp;omega),arr_length,List.getElem?_drop]
   by_cases h3:i < n
   ·rw [show o + l + (i - o - l) = i by omega,arr_get h3,arr_get h3,if_neg (by omega)]
   ·rw [List.getElem?_eq_none (by simp;omega),List.getElem?_eq_none (by simp;omega)]
theorem arr_take {k:IntKind} {n:Nat} {f:Int → Int} {rest:List Value}:(arr k n f ++ rest).take n = arr k n f:=by
 rw [List.take_left'];simp
end Go.Mx
