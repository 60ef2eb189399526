import Derived.Test.YtchonnaoojpdoaaGreatMxExec
set_option linter.unusedVariables false
set_option linter.unusedSimpArgs false
namespace Go.Mx
def pEq:Value → Value → Bool
 | .bool a,.bool b => a == b
 | .int k n,.int k' n' => decide (k = k') && decide (n = n')
 | .string a,.string b => a.data.toList.isEmpty && b.data.toList.isEmpty
 | .pointer none,.pointer none => true
 | .slice none 0 0,.slice none 0 0 => true
 | .map none,.map none => true
 | .nilFunc,.nilFunc => true
 | .nilIface,.nilIface => true
 | _,_ => false
theorem pEq_eq {x y:Value} (h:pEq x y = true):x = y:=by
 unfold pEq at h
 split at h <;> simp_all
 rename_i a b
 obtain ⟨h1,h2⟩:=h
 cases a;cases b;simp_all
def zEq:List Value → List Value → Bool
 | [],[] => true
 | x :: xs,y :: ys => pEq x y && zEq xs ys
 | _,_ => false
theorem zEq_eq:∀ {xs ys:List Value},zEq xs ys = true → xs = ys
 | [],[],_ => rfl
 | x :: xs,y :: ys,h => by
  simp only [zEq,Bool.and_eq_true] at h
  rw [pEq_eq h.1,zEq_eq h.2]
 | [],_ :: _,h => by simp [zEq] at h
 | _ :: _,[],h => by simp [zEq] at h
def descChk (P:Program) (T:TT) (t:Nat) (d:TD):Bool :=
 match d,P.underlying t with
 | .int k,some (.int k') => decide (k = k')
 | .bool,some .bool => true
 | .str,some .string => true
 | .ptr e,some (.pointer e') => decide (e = e')
 | .slice e,some (.slice e') => decide (e = e') && notOther (T e).d
 | .map,some (.map _ _) => true
 | .struct fs,some (.struct fields) => decide (fields.toList.map (fun f => (f.type,f.offset)) = fs) && fs.all fun f => notOther (T f.1).d
 | .array n e,some (.array n' e') => decide (n = n') && decide (e = e') && notOther (T e).d
 | .iface,some (.interface _) => true
 | .fn,some (.func _ _ _) => true
 | _,_ => false
theorem descChk_ok {P:Program} {T:TT} {t:Nat} {d:TD} (h:descChk P T t d = true):descOk P T t d:=by
 unfold descChk at h
 split at h <;> rename_i hu
 ·simp at h;subst h;exact hu
 ·exact hu
 ·exact hu
 ·simp at h;subst h;exact hu
 ·simp only [Bool.and_eq_true,decide_eq_true_eq] at h;obtain ⟨rfl,h⟩:=h;exact ⟨hu,notOther_ne h⟩
 ·exact ⟨_,_,hu⟩
 ·simp only [Bool.and_eq_true,decide_eq_true_eq,List.all_eq_true] at h
  obtain ⟨h1,h2⟩:=h
  refine ⟨_,hu,h1,fun f hf => ?_⟩
  exact notOther_ne (h2 f hf)
 ·simp only [Bool.and_eq_true,decide_eq_true_eq] at h;obtain ⟨⟨rfl,rfl⟩,h⟩:=h;exact ⟨hu,notOther_ne h⟩
 ·exact ⟨_,hu⟩
 ·exact ⟨_,_,_,hu⟩
 ·simp at h
def isIntD:TD → Bool
 | .int _ => true
 | _ => false
def tyChk (P:Program) (T:TT) (t:Nat):Bool :=
 (match P.info? t with
   | some i => Nat.beq i.size (T t).size && Nat.beq i.bytes (T t).bytes && (match i.zero with | some z => zEq z.cells.toList (T t).zero | none => false) && (!(isIntD (T t).d) || i.comparable)
   | none => false) &&
 (T t).zero.all plainV && Nat.beq (T t).zero.length (T t).size && (agg? (T t).d || Nat.beq (T t).size 1) && descChk P T t (T t).d && (match (T t).eq with | some ks => eqTy P T 30 t ks && !(P.eqGuardType P.depth t) | none => true)
theorem tyChk_ok {P:Program} {T:TT} {t:Nat} (h:tyChk P T t = true):TyOk P T t:=by
 unfold tyChk at h
 simp only [Bool.and_eq_true] at h
 obtain ⟨⟨⟨⟨⟨h1,h2⟩,h3⟩,h4⟩,h5⟩,h6⟩:=h
 split at h1
 ·rename_i i hi
  simp only [Bool.and_eq_true] at h1
  obtain ⟨⟨⟨b1,b2⟩,b3⟩,b4⟩:=h1
  split at b3
  ·rename_i z hz
   refine ⟨⟨i,hi,Nat.eq_of_beq_eq_true b1,Nat.eq_of_beq_eq_true b2,z,hz,zEq_eq b3⟩,by simpa using h2,Nat.eq_of_beq_eq_true h3,fun ha => ?_,fun k hk => ⟨i,hi,?_⟩,descChk_ok h5,fun ks hks => ?_⟩
   ·rw [ha] at h4;exact Nat.eq_of_beq_eq_true (by simpa using h4)
   ·rw [hk] at b4;simpa [isIntD] using b4
   ·rw [hks] at h6;simpa using h6
  ·simp at b3
 ·simp at h1
def tabT (l:List (Nat × TI)):TT:=fun t => match lk t l with
 | some x => x
 | none => ⟨.other,0,0,[],none⟩
theorem lk_mem {α:Type} {t:Nat}:∀ {l:List (Nat × α)} {x:α},lk t l = some x → (t,x) ∈ l
 | [],_,h => by simp [lk] at h
 | (u,y) :: l,x,h => by
  simp only [lk] at h
  cases hb:Nat.beq u t with
  | true =>
   rw [hb] at h;simp at h;subst h
   have:=Nat.eq_of_beq_eq_true hb
   subst this;simp
  | false => rw [hb] at h;exact List.mem_cons_of_mem _ (lk_mem (by simpa using h))
theorem tabT_ok {P:Program} {l:List (Nat × TI)} (h:(l.all fun x => tyChk P (tabT l) x.1) = true):TOk P (tabT l):=by
 intro t ht
 have hl:∃ x,lk t l = some x:=by
  unfold tabT at ht
  split at ht
  ·rename_i x hx;exact ⟨x,hx⟩
  ·simp at ht
 obtain ⟨x,hx⟩:=hl
 have:=List.all_eq_true.1 h _ (lk_mem hx)
 exact tyChk_ok this
end Go.Mx
