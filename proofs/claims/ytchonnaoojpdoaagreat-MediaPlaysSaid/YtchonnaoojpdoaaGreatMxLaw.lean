import Derived.Test.YtchonnaoojpdoaaGreatMxArgs
set_option linter.unusedVariables false
set_option linter.unusedSimpArgs false
namespace Go.Mx
section
variable {m:Mem} {b:Nat} {cs:List Value} {off:Nat} {sp:Option Nat}
theorem ldInt_of {k:IntKind} {z:Int} (h:m[b]? = some (.live cs)) (hc:cs[off]? = some (.int k z)):ldInt k m ⟨b,off,sp⟩ = some z:=by
 simp [ldInt,Mem.cells,h,MObj.cells,cInt,hc]
theorem ldBool_of {z:Bool} (h:m[b]? = some (.live cs)) (hc:cs[off]? = some (.bool z)):ldBool m ⟨b,off,sp⟩ = some z:=by
 simp [ldBool,Mem.cells,h,MObj.cells,cBool,hc]
theorem ldSl_of {a:Option Addr} {n c:Nat} (h:m[b]? = some (.live cs)) (hc:cs[off]? = some (.slice a n c)):ldSl m ⟨b,off,sp⟩ = some ⟨a,n,c⟩:=by
 simp [ldSl,Mem.cells,h,MObj.cells,cSl,hc]
theorem ldPtr_of {a:Option Addr} (h:m[b]? = some (.live cs)) (hc:cs[off]? = some (.pointer a)):ldPtr m ⟨b,off,sp⟩ = some a:=by
 simp [ldPtr,Mem.cells,h,MObj.cells,cPtr,hc]
theorem ldCells_of {n:Nat} (h:m[b]? = some (.live cs)) (hc:off + n ≤ cs.length):ldCells m ⟨b,off,sp⟩ n = some ((cs.drop off).take n):=by
 simp [ldCells,Mem.cells,h,MObj.cells,cCells,hc]
theorem st_of {v:Value} (h:m[b]? = some (.live cs)) (hc:off < cs.length):st m ⟨b,off,sp⟩ v = some (m.set b (.live (cs.set off v))):=by
 simp [st,Mem.wcells,h,MObj.wcells,setCell,hc]
theorem stCells_of {vs:List Value} (h:m[b]? = some (.live cs)) (hc:off + vs.length ≤ cs.length):stCells m ⟨b,off,sp⟩ vs = some (m.set b (.live (cs.take off ++ vs ++ cs.drop (off + vs.length)))):=by
 simp [stCells,Mem.wcells,h,MObj.wcells,setCells,hc]
theorem get_set_eq {x:MObj} (h:b < m.length):(m.set b x)[b]? = some x:=by simp [h]
theorem get_set_ne {x:MObj} {b':Nat} (h:b ≠ b'):(m.set b x)[b']? = m[b']?:=by simp [h]
theorem get_app_lt {l:Mem} (h:b < m.length):(m ++ l)[b]? = m[b]?:=List.getElem?_append_left h
theorem get_app_len {x:MObj} {l:Mem}:(m ++ x :: l)[m.length]? = some x:=by simp
end
theorem appM_first {z y:Nat} {m:Mem} {l:Nat} {new:List Value} (hl:0 < l) (h:l * y ≤ most) (h2:l ≤ most):appM z y m none 0 0 l new = some (⟨some ⟨m.length,0,some z⟩,l,l⟩,m ++ [.live new]):=by
 unfold appM
 rw [if_neg (by omega),Nat.zero_add,if_pos ⟨h,h2⟩]
 rfl
theorem appM_full {z y:Nat} {m:Mem} {b n l:Nat} {old new:List Value} (hl:0 < l) (h:(n + l) * y ≤ most) (h2:n + l ≤ most) (hb:m[b]? = some (.live old)) (ho:old.length = n * z) :
 appM z y m (some ⟨b,0,some z⟩) n n l new = some (⟨some ⟨m.length,0,some z⟩,n + l,n + l⟩,m.set b (.old old m.length) ++ [.live (old ++ new)]):=by
 unfold appM
 rw [if_neg (by omega),if_pos ⟨h,h2⟩]
 have h3:ldCells m ⟨b,0,some z⟩ (n * z) = some old:=by
  rw [ldCells_of hb (by omega)]
  simp [← ho]
 simp [h3,Mem.wcells,hb,MObj.wcells]
theorem rdSl_new {m:Mem} {v:Value}:rdSl (m ++ [.live [v]]) (some ⟨m.length,0,none⟩) 1 1 = some [v]:=by
 refine rdSl_ld ?_
 rw [ldCells_of (get_app_len (l:=[])) (by simp)]
 rfl
end Go.Mx
