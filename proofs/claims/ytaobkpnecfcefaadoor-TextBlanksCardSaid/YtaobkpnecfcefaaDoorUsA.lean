/-
  Text, blanks: what is read hangs on the tokens' texts alone, but for where something is wrong.
-/
import Derived.Test.YtaobkpnecfcefaaDoorUqB
set_option linter.unusedVariables false
set_option linter.unusedSimpArgs false
set_option linter.unusedSectionVars false
namespace Go.DN
open Go.AM
def Sim {α:Type}:R α→R α→Prop
 | .ok a i,.ok b j=>a=b∧i=j
 | .bad e _,.bad e' _=>e=e'
 | _,_=>False
theorem Sim.refl {α:Type}(r:R α):Sim r r:=by cases r <;> simp[Sim]
theorem Sim.bind {α β:Type}{r r':R α}{f f':α→Nat→R β}(h:Sim r r') (hf:∀a i,Sim (f a i) (f' a i)):Sim (r.bind f) (r'.bind f'):=by
 cases r with
 | ok a i=>cases r' with
  | ok b j=>obtain⟨rfl,rfl⟩:=h;exact hf a i
  | bad e p=>exact h.elim
 | bad e p=>cases r' with
  | ok b j=>exact h.elim
  | bad e' p'=>exact h
theorem Sim.ite {α:Type}{b:Bool}{r r' q q':R α}(h1:Sim r r') (h2:Sim q q'):Sim (if b=true then r else q) (if b=true then r' else q'):=by
 cases b
 ·exact h2
 ·exact h1
section
variable {X Y:Toks}(ht:∀i,X.tx i=Y.tx i) (hl:X.L.length=Y.L.length)
include ht
theorem is_sim (i:Nat) (w:ByteArray):X.is i w=Y.is i w:=by unfold Toks.is;rw[ht]
theorem must_sim (w:ByteArray) (i:Nat):Sim (pMust X w i) (pMust Y w i):=by
 unfold pMust;rw[is_sim ht];exact Sim.ite (Sim.refl _) rfl
theorem name_sim (i:Nat):Sim (pName X i) (pName Y i):=by
 unfold pName;rw[ht];exact Sim.ite (Sim.refl _) rfl
theorem number_sim (i:Nat):Sim (pNumber X i) (pNumber Y i):=by
 unfold pNumber;rw[ht];exact Sim.ite (Sim.refl _) rfl
theorem shapeL_sim:∀(m i:Nat) (acc:List SDim),Sim (pShapeL X m i acc) (pShapeL Y m i acc)
 | 0,i,acc=>rfl
 | m+1,i,acc=>by
  unfold pShapeL
  rw[is_sim ht,ht]
  exact Sim.ite (Sim.refl _) (Sim.ite (shapeL_sim m _ _) (Sim.ite (shapeL_sim m _ _) rfl))
theorem numsL_sim:∀(m i:Nat) (acc:List Int),Sim (pNumsL X m i acc) (pNumsL Y m i acc)
 | 0,i,acc=>rfl
 | m+1,i,acc=>by
  unfold pNumsL
  rw[is_sim ht,ht]
  exact Sim.ite (Sim.refl _) (Sim.ite (numsL_sim m _ _) rfl)
include hl
theorem shape_sim (i:Nat):Sim (pShape X i) (pShape Y i):=by
 unfold pShape;rw[hl];exact(must_sim ht _ i).bind fun _ j=>shapeL_sim ht _ j _
theorem nums_sim (i:Nat):Sim (pNums X i) (pNums Y i):=by
 unfold pNums;rw[hl];exact(must_sim ht _ i).bind fun _ j=>numsL_sim ht _ j _
theorem lists_sim:∀(m i:Nat) (acc:List (List Int)),Sim (pLists X m i acc) (pLists Y m i acc)
 | 0,i,acc=>rfl
 | m+1,i,acc=>by
  unfold pLists
  rw[is_sim ht]
  exact Sim.ite ((nums_sim ht hl i).bind fun _ j=>lists_sim m _ _) (Sim.refl _)
theorem sh_sim (i:Nat):Sim (pSh X i) (pSh Y i):=by
 unfold pSh
 rw[is_sim ht]
 exact Sim.ite ((shape_sim ht hl i).bind fun _ j=>Sim.refl _) (Sim.refl _)
section
variable {S T:Nat→R STree}(hS:∀i,Sim (S i) (T i))
include hS
theorem kids_sim:∀(m i:Nat) (acc:List STree),Sim (pKids X S m i acc) (pKids Y T m i acc)
 | 0,i,acc=>rfl
 | m+1,i,acc=>by
  unfold pKids
  rw[is_sim ht]
  refine Sim.ite (Sim.refl _) (Sim.bind ?_ fun _ j=>(hS j).bind fun _ k=>kids_sim m _ _)
  split
  ·exact must_sim ht _ i
  ·exact Sim.refl _
theorem call_sim (s:ByteArray) (i:Nat):Sim (pCall X S s i) (pCall Y T s i):=by
 unfold pCall
 rw[hl]
 exact(sh_sim ht hl i).bind fun _ j=>(lists_sim ht hl _ _ _).bind fun _ j=>(must_sim ht _ j).bind fun _ j=>(kids_sim ht hl hS _ _ _).bind fun _ _=>Sim.refl _
theorem factor_sim (i:Nat):Sim (pFactor X S i) (pFactor Y T i):=by
 unfold pFactor plain3
 rw[is_sim ht,ht]
 refine Sim.ite (Sim.refl _) (Sim.ite ((hS _).bind fun _ j=>(must_sim ht _ j).bind fun _ _=>Sim.refl _) ((name_sim ht i).bind fun _ j=>?_))
 rw[is_sim ht,is_sim ht,is_sim ht]
 exact Sim.ite (Sim.refl _) (call_sim ht hl hS _ j)
end
theorem chainL_sim {p q:Nat→R STree}(hp:∀i,Sim (p i) (q i)){sg sg':Nat→Bool}(hs:∀i,sg i=sg' i):∀(k:Nat) (t:STree) (i:Nat),Sim (pChainL X p sg k t i) (pChainL Y q sg' k t i)
 | 0,t,i=>by unfold pChainL;rw[hs];exact Sim.ite rfl (Sim.refl _)
 | k+1,t,i=>by
  unfold pChainL
  rw[hs,ht]
  exact Sim.ite ((hp _).bind fun _ j=>chainL_sim hp hs k _ j) (Sim.refl _)
section
variable {S T:Nat→R STree}(hS:∀i,Sim (S i) (T i))
include hS
theorem prod_sim (i:Nat):Sim (pProd X S i) (pProd Y T i):=(factor_sim ht hl hS i).bind fun _ j=>chainL_sim ht hl (factor_sim ht hl hS) (fun i=>is_sim ht i _) 64 _ j
theorem sum_sim (i:Nat):Sim (pSum X S i) (pSum Y T i):=(prod_sim ht hl hS i).bind fun _ j=>chainL_sim ht hl (prod_sim ht hl hS) (fun i=>by unfold isPM;rw[is_sim ht,is_sim ht]) 64 _ j
theorem bound_sim (k n:Int) (w:ByteArray) (i:Nat):Sim (pBound X S k n w i) (pBound Y T k n w i):=by
 unfold pBound
 exact(name_sim ht i).bind fun _ j=>(must_sim ht _ j).bind fun _ j=>(hS j).bind fun _ j=>(must_sim ht _ j).bind fun _ j=>(hS j).bind fun _ _=>Sim.refl _
theorem exprB_sim (i:Nat):Sim (pExprB X S i) (pExprB Y T i):=by
 unfold pExprB
 rw[is_sim ht,is_sim ht]
 exact Sim.ite (bound_sim ht hl hS _ _ _ _) (Sim.ite ((number_sim ht _).bind fun _ j=>bound_sim ht hl hS _ _ _ j) (sum_sim ht hl hS i))
end
theorem expr_sim:∀r i,Sim (pE X r i) (pE Y r i)
 | 0,i=>rfl
 | r+1,i=>exprB_sim ht hl (expr_sim r) i
theorem given_sim:∀(m i:Nat) (acc:List SGiven),Sim (pGivenL X m i acc) (pGivenL Y m i acc)
 | 0,i,acc=>rfl
 | m+1,i,acc=>by
  unfold pGivenL
  rw[is_sim ht]
  refine Sim.ite (Sim.refl _) (Sim.bind ?_ fun _ j=>(name_sim ht j).bind fun _ j=>(must_sim ht _ j).bind fun _ j=>(shape_sim ht hl j).bind fun _ k=>given_sim m _ _)
  split
  ·exact must_sim ht _ i
  ·exact Sim.refl _
theorem func_sim (i:Nat):Sim (pFunc X i) (pFunc Y i):=by
 unfold pFunc
 rw[hl]
 exact(must_sim ht _ i).bind fun _ j=>(name_sim ht j).bind fun _ j=>(must_sim ht _ j).bind fun _ j=>(given_sim ht hl _ _ _).bind fun _ j=>(must_sim ht _ _).bind fun _ j=>(expr_sim ht hl 64 j).bind fun _ j=>(must_sim ht _ j).bind fun _ _=>Sim.refl _
theorem prog_sim:∀(m i:Nat) (acc:List SFunc),Sim (pProg X m i acc) (pProg Y m i acc)
 | 0,i,acc=>rfl
 | m+1,i,acc=>by
  unfold pProg
  rw[hl]
  split
  ·exact(func_sim ht hl i).bind fun _ j=>prog_sim m _ _
  ·exact Sim.refl _
end
end Go.DN
