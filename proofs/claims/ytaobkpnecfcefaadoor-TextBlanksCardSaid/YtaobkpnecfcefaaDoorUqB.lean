/-
  Text, reading: what is read, as a function of places.
-/
import Derived.Test.YtaobkpnecfcefaaDoorUqA
set_option linter.unusedVariables false
set_option linter.unusedSimpArgs false
namespace Go.DN
open Go.AM
variable (X:Toks)
def pShapeL:Nat→Nat→List SDim→R (List SDim)
 | 0,i,acc=>.bad 7 0
 | m+1,i,acc=>if X.is i (ByteArray.mk #[93])=true then .ok acc (i+1) else
  if num (X.tx i)=true then pShapeL m (i+1) (acc++[⟨ByteArray.mk #[],val (X.tx i)⟩]) else
  if nm (X.tx i)=true then pShapeL m (i+1) (acc++[⟨X.tx i,0⟩]) else .bad 7 (X.at_ i)
def pShape (i:Nat):R (List SDim):=(pMust X (ByteArray.mk #[91]) i).bind fun _ i=>pShapeL X (X.L.length-i+1) i []
def pNumsL:Nat→Nat→List Int→R (List Int)
 | 0,i,acc=>.bad 7 0
 | m+1,i,acc=>if X.is i (ByteArray.mk #[125])=true then .ok acc (i+1) else
  if num (X.tx i)=true then pNumsL m (i+1) (acc++[val (X.tx i)]) else .bad 7 (X.at_ i)
def pNums (i:Nat):R (List Int):=(pMust X (ByteArray.mk #[123]) i).bind fun _ i=>pNumsL X (X.L.length-i+1) i []
def pLists:Nat→Nat→List (List Int)→R (List (List Int))
 | 0,i,acc=>.bad 7 0
 | m+1,i,acc=>if X.is i (ByteArray.mk #[123])=true then(pNums X i).bind fun l i=>pLists m i (acc++[l]) else .ok acc i
def pSh (i:Nat):R (Bool×List SDim):=if X.is i (ByteArray.mk #[91])=true then(pShape X i).bind fun l i=>.ok (true,l) i else .ok (false,[]) i
def pKids (S:Nat→R STree):Nat→Nat→List STree→R (List STree)
 | 0,i,acc=>.bad 7 0
 | m+1,i,acc=>if X.is i (ByteArray.mk #[41])=true then .ok acc i else
  (if 0<acc.length then pMust X (ByteArray.mk #[44]) i else .ok () i).bind fun _ i=>(S i).bind fun k i=>pKids S m i (acc++[k])
def pCall (S:Nat→R STree) (s:ByteArray) (i:Nat):R STree:=(pSh X i).bind fun bs i=>(pLists X (X.L.length-i+1) i []).bind fun ls i=>(pMust X (ByteArray.mk #[40]) i).bind fun _ i=>
 (pKids X S (X.L.length-i+1) i []).bind fun ks i=>.ok ⟨3,s,0,bs.1,bs.2,ls,ks⟩ (i+1)
def plain3 (i:Nat):Bool:=!(X.is i (ByteArray.mk #[91]))&&(!(X.is i (ByteArray.mk #[123]))&&!(X.is i (ByteArray.mk #[40])))
def pFactor (S:Nat→R STree) (i:Nat):R STree:=
 if num (X.tx i)=true then .ok ⟨1,ByteArray.mk #[],val (X.tx i),false,[],[],[]⟩ (i+1) else
 if X.is i (ByteArray.mk #[40])=true then(S (i+1)).bind fun t i=>(pMust X (ByteArray.mk #[41]) i).bind fun _ i=>.ok t i else
 (pName X i).bind fun s i=>if plain3 X i=true then .ok ⟨2,s,0,false,[],[],[]⟩ i else pCall X S s i
def pChainL (part:Nat→R STree) (sg:Nat→Bool):Nat→STree→Nat→R STree
 | 0,t,i=>if sg i=true then .bad 5 (X.at_ i) else .ok t i
 | k+1,t,i=>if sg i=true then(part (i+1)).bind fun b j=>pChainL part sg k ⟨4,X.tx i,0,false,[],[],[t,b]⟩ j else .ok t i
def isMul (i:Nat):Bool:=X.is i (ByteArray.mk #[42])
def isPM (i:Nat):Bool:=X.is i (ByteArray.mk #[43])||X.is i (ByteArray.mk #[45])
def pProd (S:Nat→R STree) (i:Nat):R STree:=(pFactor X S i).bind fun t i=>pChainL X (pFactor X S) (isMul X) 64 t i
def pSum (S:Nat→R STree) (i:Nat):R STree:=(pProd X S i).bind fun t i=>pChainL X (pProd X S) (isPM X) 64 t i
def pBound (S:Nat→R STree) (kind n:Int) (w:ByteArray) (i:Nat):R STree:=(pName X i).bind fun s i=>(pMust X (ByteArray.mk #[61]) i).bind fun _ i=>(S i).bind fun a i=>
 (pMust X w i).bind fun _ i=>(S i).bind fun b i=>.ok ⟨kind,s,n,false,[],[],[a,b]⟩ i
def pExprB (S:Nat→R STree) (i:Nat):R STree:=
 if X.is i (ByteArray.mk #[108,101,116])=true then pBound X S 5 0 (ByteArray.mk #[105,110]) (i+1) else
 if X.is i (ByteArray.mk #[114,101,112,101,97,116])=true then(pNumber X (i+1)).bind fun n i=>pBound X S 6 n (ByteArray.mk #[119,105,116,104]) i else
 pSum X S i
def pE:Nat→Nat→R STree
 | 0,i=>.bad 5 (X.at_ i)
 | r+1,i=>pExprB X (pE r) i
def pGivenL:Nat→Nat→List SGiven→R (List SGiven)
 | 0,i,acc=>.bad 7 0
 | m+1,i,acc=>if X.is i (ByteArray.mk #[41])=true then .ok acc i else
  (if 0<acc.length then pMust X (ByteArray.mk #[44]) i else .ok () i).bind fun _ i=>(pName X i).bind fun s i=>(pMust X (ByteArray.mk #[58]) i).bind fun _ i=>(pShape X i).bind fun ds i=>pGivenL m i (acc++[⟨s,ds⟩])
def pFunc (i:Nat):R SFunc:=(pMust X (ByteArray.mk #[102,110]) i).bind fun _ i=>(pName X i).bind fun s i=>(pMust X (ByteArray.mk #[40]) i).bind fun _ i=>
 (pGivenL X (X.L.length-i+1) i []).bind fun g i=>(pMust X (ByteArray.mk #[61]) (i+1)).bind fun _ i=>(pE X 64 i).bind fun t i=>(pMust X (ByteArray.mk #[59]) i).bind fun _ i=>.ok ⟨s,g,t⟩ i
def pProg:Nat→Nat→List SFunc→R (List SFunc)
 | 0,i,acc=>.bad 7 0
 | m+1,i,acc=>if i<X.L.length then(pFunc X i).bind fun f i=>pProg m i (acc++[f]) else .ok acc i
def Gd {α:Type}(Q:α→Prop) (i:Nat) (r:R α):Prop:=match r with
 | .ok a j=>i<j∧j≤X.L.length∧Q a
 | .bad e _=>e≠0
def Ge {α:Type}(Q:α→Prop) (i:Nat) (r:R α):Prop:=match r with
 | .ok a j=>i≤j∧j≤X.L.length∧Q a
 | .bad e _=>e≠0
variable {X}
theorem Gd.ge {α:Type}{Q:α→Prop}{i:Nat}{r:R α}(h:Gd X Q i r):Ge X Q i r:=by
 cases r with
 | ok a j=>exact⟨by have:=h.1;omega,h.2⟩
 | bad e p=>exact h
theorem Gd.bind {α β:Type}{Q:α→Prop}{Q':β→Prop}{i:Nat}{r:R α}{f:α→Nat→R β}(h:Gd X Q i r) (hf:∀a j,i<j→j≤X.L.length→Q a→Ge X Q' j (f a j)):Gd X Q' i (r.bind f):=by
 cases r with
 | ok a j=>
  have h2:=hf a j h.1 h.2.1 h.2.2
  show Gd X Q' i (f a j)
  revert h2
  cases f a j with
  | ok b k=>exact fun h2=>⟨by have:=h.1;have:=h2.1;omega,h2.2⟩
  | bad e p=>exact id
 | bad e p=>exact h
theorem Gd.bg {α β:Type}{Q:α→Prop}{Q':β→Prop}{i:Nat}{r:R α}{f:α→Nat→R β}(h:Gd X Q i r) (hf:∀a j,i<j→j≤X.L.length→Q a→Ge X Q' j (f a j)):Ge X Q' i (r.bind f):=(h.bind hf).ge
theorem Ge.ok {α:Type}{Q:α→Prop}{i j:Nat}{a:α}(h1:i≤j) (h2:j≤X.L.length) (h3:Q a):Ge X Q i (.ok a j):=⟨h1,h2,h3⟩
theorem Ge.bind {α β:Type}{Q:α→Prop}{Q':β→Prop}{i:Nat}{r:R α}{f:α→Nat→R β}(h:Ge X Q i r) (hf:∀a j,i≤j→j≤X.L.length→Q a→Ge X Q' j (f a j)):Ge X Q' i (r.bind f):=by
 cases r with
 | ok a j=>
  have h2:=hf a j h.1 h.2.1 h.2.2
  show Ge X Q' i (f a j)
  revert h2
  cases f a j with
  | ok b k=>exact fun h2=>⟨by have:=h.1;have:=h2.1;omega,h2.2⟩
  | bad e p=>exact id
 | bad e p=>exact h
theorem pMust_gd {w:ByteArray}(hw:0<w.size) (i:Nat):Gd X (fun _=>True) i (pMust X w i):=by
 unfold pMust
 split
 ·rename_i h;exact⟨by omega,is_lt hw h,trivial⟩
 ·exact(by decide:(7:Int)≠0)
theorem pName_gd (i:Nat):Gd X (fun _=>True) i (pName X i):=by
 unfold pName
 split
 ·rename_i h;exact⟨by omega,tx_lt (nm_ne h),trivial⟩
 ·exact(by decide:(7:Int)≠0)
theorem pNumber_gd (i:Nat):Gd X (fun _=>True) i (pNumber X i):=by
 unfold pNumber
 split
 ·rename_i h;exact⟨by omega,tx_lt (num_ne h).1,trivial⟩
 ·exact(by decide:(7:Int)≠0)
def Sm {α:Type}(l:List α):Prop:=l.length≤Mx
theorem pShapeL_gd:∀(m i:Nat) (acc:List SDim),acc.length+(X.L.length-i)≤Mx→Gd X Sm i (pShapeL X m i acc)
 | 0,i,acc,_=>(by decide:(7:Int)≠0)
 | m+1,i,acc,h=>by
  unfold pShapeL
  split
  ·rename_i h1;exact⟨by omega,is_lt (by decide) h1,by unfold Sm;omega⟩
  ·split
   ·rename_i h1
    have h2:=tx_lt (num_ne h1).1
    have h3:=pShapeL_gd m (i+1) (acc++[⟨ByteArray.mk #[],val (X.tx i)⟩]) (by simp;omega)
    revert h3
    cases pShapeL X m (i+1) (acc++[⟨ByteArray.mk #[],val (X.tx i)⟩]) with
    | ok a j=>exact fun h3=>⟨by have:=h3.1;omega,h3.2⟩
    | bad e p=>exact id
   ·split
    ·rename_i h1
     have h2:=tx_lt (nm_ne h1)
     have h3:=pShapeL_gd m (i+1) (acc++[⟨X.tx i,0⟩]) (by simp;omega)
     revert h3
     cases pShapeL X m (i+1) (acc++[⟨X.tx i,0⟩]) with
     | ok a j=>exact fun h3=>⟨by have:=h3.1;omega,h3.2⟩
     | bad e p=>exact id
    ·exact(by decide:(7:Int)≠0)
theorem pShape_gd (i:Nat):Gd X Sm i (pShape X i):=by
 have:=X.sz
 exact(pMust_gd (by decide) i).bind fun _ j _ _ _=>(pShapeL_gd _ j [] (by simp;omega)).ge
theorem pNumsL_gd:∀(m i:Nat) (acc:List Int),acc.length+(X.L.length-i)≤Mx→Gd X Sm i (pNumsL X m i acc)
 | 0,i,acc,_=>(by decide:(7:Int)≠0)
 | m+1,i,acc,h=>by
  unfold pNumsL
  split
  ·rename_i h1;exact⟨by omega,is_lt (by decide) h1,by unfold Sm;omega⟩
  ·split
   ·rename_i h1
    have h2:=tx_lt (num_ne h1).1
    have h3:=pNumsL_gd m (i+1) (acc++[val (X.tx i)]) (by simp;omega)
    revert h3
    cases pNumsL X m (i+1) (acc++[val (X.tx i)]) with
    | ok a j=>exact fun h3=>⟨by have:=h3.1;omega,h3.2⟩
    | bad e p=>exact id
   ·exact(by decide:(7:Int)≠0)
theorem pNums_gd (i:Nat):Gd X Sm i (pNums X i):=by
 have:=X.sz
 exact(pMust_gd (by decide) i).bind fun _ j _ _ _=>(pNumsL_gd _ j [] (by simp;omega)).ge
def SmL (l:List (List Int)):Prop:=l.length≤Mx∧∀x∈l,Sm x
theorem pLists_ge:∀(m i:Nat) (acc:List (List Int)),i≤X.L.length→acc.length+(X.L.length-i)≤Mx→(∀x∈acc,Sm x)→Ge X SmL i (pLists X m i acc)
 | 0,i,acc,_,_,_=>(by decide:(7:Int)≠0)
 | m+1,i,acc,hi,h,ha=>by
  unfold pLists
  split
  ·exact((pNums_gd i).bind (Q':=SmL) fun l j h1 h2 hl=>pLists_ge m j (acc++[l]) h2 (by simp;omega) (fun x hx=>by
    rcases List.mem_append.1 hx with hx | hx
    ·exact ha x hx
    ·simp at hx;subst hx;exact hl)).ge
  ·exact⟨Nat.le_refl _,hi,by omega,ha⟩
theorem pSh_ge (i:Nat) (hi:i≤X.L.length):Ge X (fun b=>Sm b.2) i (pSh X i):=by
 unfold pSh
 split
 ·exact(pShape_gd i).bg fun l j h1 h2 hl=>.ok (Nat.le_refl _) h2 hl
 ·exact⟨Nat.le_refl _,hi,Nat.zero_le _⟩
inductive TOk:STree→Prop
 | mk {k:Int}{n:ByteArray}{v:Int}{b:Bool}{sh:List SDim}{ls:List (List Int)}{ks:List STree}(h1:Sm sh) (h2:SmL ls) (h3:Sm ks) (h4:∀x∈ks,TOk x):TOk ⟨k,n,v,b,sh,ls,ks⟩
def TsOk (l:List STree):Prop:=Sm l∧∀x∈l,TOk x
theorem sm0 {α:Type}:Sm ([]:List α):=Nat.zero_le _
theorem sml0:SmL []:=⟨Nat.zero_le _,fun x h=>by cases h⟩
theorem TOk.leaf {k:Int}{n:ByteArray}{v:Int}:TOk ⟨k,n,v,false,[],[],[]⟩:=.mk sm0 sml0 sm0 fun x h=>by cases h
theorem TOk.two {k:Int}{n:ByteArray}{v:Int}{a b:STree}(ha:TOk a) (hb:TOk b):TOk ⟨k,n,v,false,[],[],[a,b]⟩:=.mk sm0 sml0 (by unfold Sm;simp[Mx]) fun x h=>by
 simp at h;rcases h with rfl | rfl
 ·exact ha
 ·exact hb
section
variable {S:Nat→R STree}(hS:∀i,i≤X.L.length→Gd X TOk i (S i))
include hS
theorem pKids_ge:∀(m i:Nat) (acc:List STree),i≤X.L.length→acc.length+(X.L.length-i)≤Mx→(∀x∈acc,TOk x)→Ge X TsOk i (pKids X S m i acc)
 | 0,i,acc,_,_,_=>(by decide:(7:Int)≠0)
 | m+1,i,acc,hi,h,ha=>by
  unfold pKids
  split
  ·exact⟨Nat.le_refl _,hi,by unfold Sm;omega,ha⟩
  ·have h1:Ge X (fun _=>True) i (if 0<acc.length then pMust X (ByteArray.mk #[44]) i else .ok () i):=by
    split
    ·exact(pMust_gd (by decide) i).ge
    ·exact⟨Nat.le_refl _,hi,trivial⟩
   exact h1.bind fun _ j h2 h3 _=>((hS j h3).bind (Q':=TsOk) fun k j2 h4 h5 hk=>pKids_ge m j2 (acc++[k]) h5 (by simp;omega) (fun x hx=>by
    rcases List.mem_append.1 hx with hx | hx
    ·exact ha x hx
    ·simp at hx;subst hx;exact hk)).ge
omit hS in
theorem pKids_end:∀(m i:Nat) (acc a:List STree) (j:Nat),pKids X S m i acc=.ok a j→X.is j (ByteArray.mk #[41])=true
 | 0,i,acc,a,j,e=>by cases e
 | m+1,i,acc,a,j,e=>by
  unfold pKids at e
  split at e
  ·rename_i h;cases e;exact h
  ·revert e
   cases (if 0<acc.length then pMust X (ByteArray.mk #[44]) i else R.ok () i) with
   | bad e p=>exact fun e=>by cases e
   | ok _ j1=>
    show(S j1).bind _=_→_
    cases S j1 with
    | bad e p=>exact fun e=>by cases e
    | ok k j2=>exact fun e=>pKids_end m j2 _ a j e
theorem pCall_ge (s:ByteArray) (i:Nat) (hi:i≤X.L.length):Ge X TOk i (pCall X S s i):=by
 have hz:=X.sz
 refine(pSh_ge i hi).bind fun bs j h1 h2 hb=>(pLists_ge _ j [] h2 (by simp;omega) (fun x h=>by cases h)).bind fun ls j h3 h4 hl=>((pMust_gd (by decide) j).bind (Q':=TOk) fun _ j h5 h6 _=>?_).ge
 have h7:=pKids_ge hS (X.L.length-j+1) j [] h6 (by simp;omega) (fun x h=>by cases h)
 have h8:=pKids_end (S:=S) (X:=X) (X.L.length-j+1) j []
 revert h7 h8
 cases pKids X S (X.L.length-j+1) j [] with
 | bad e p=>exact fun h _=>h
 | ok ks j2=>exact fun h7 h8=>⟨by have:=h7.1;omega,is_lt (by decide) (h8 _ _ rfl),.mk hb hl h7.2.2.1 h7.2.2.2⟩
theorem pFactor_gd (i:Nat) (hi:i≤X.L.length):Gd X TOk i (pFactor X S i):=by
 unfold pFactor
 split
 ·rename_i h;exact⟨by omega,tx_lt (num_ne h).1,.leaf⟩
 ·split
  ·rename_i h
   have h1:=is_lt (by decide) h
   have h2:Gd X TOk (i+1) ((S (i+1)).bind fun t i=>(pMust X (ByteArray.mk #[41]) i).bind fun _ i=>.ok t i):=(hS (i+1) h1).bind fun t j _ h3 ht=>(pMust_gd (by decide) j).bg fun _ j _ h4 _=>.ok (Nat.le_refl _) h4 ht
   revert h2
   cases ((S (i+1)).bind fun t i=>(pMust X (ByteArray.mk #[41]) i).bind fun _ i=>.ok t i) with
   | ok a j=>exact fun h2=>⟨by have:=h2.1;omega,h2.2⟩
   | bad e p=>exact id
  ·refine(pName_gd i).bind fun s j _ h2 _=>?_
   split
   ·exact⟨Nat.le_refl _,h2,.leaf⟩
   ·exact pCall_ge hS s j h2
end
theorem pChainL_ge {part:Nat→R STree}(hp:∀i,i≤X.L.length→Gd X TOk i (part i)){sg:Nat→Bool}(hs:∀i,sg i=true→i<X.L.length):∀(k:Nat) (t:STree) (i:Nat),i≤X.L.length→TOk t→Ge X TOk i (pChainL X part sg k t i)
 | 0,t,i,hi,ht=>by
  unfold pChainL
  split
  ·exact(by decide:(5:Int)≠0)
  ·exact⟨Nat.le_refl _,hi,ht⟩
 | k+1,t,i,hi,ht=>by
  unfold pChainL
  split
  ·rename_i h
   have h1:=hs i h
   have h2:=(hp (i+1) h1).bind (Q':=TOk) (f:=fun b j=>pChainL X part sg k ⟨4,X.tx i,0,false,[],[],[t,b]⟩ j) fun b j h3 h4 hb=>pChainL_ge hp hs k _ j h4 (.two ht hb)
   revert h2
   cases ((part (i+1)).bind fun b j=>pChainL X part sg k ⟨4,X.tx i,0,false,[],[],[t,b]⟩ j) with
   | ok a j=>exact fun h2=>⟨by have:=h2.1;omega,h2.2⟩
   | bad e p=>exact id
  ·exact⟨Nat.le_refl _,hi,ht⟩
theorem isMul_lt (i:Nat) (h:isMul X i=true):i<X.L.length:=is_lt (by decide) h
theorem isPM_lt (i:Nat) (h:isPM X i=true):i<X.L.length:=by
 unfold isPM at h
 rw[Bool.or_eq_true] at h
 rcases h with h | h <;> exact is_lt (by decide) h
section
variable {S:Nat→R STree}(hS:∀i,i≤X.L.length→Gd X TOk i (S i))
include hS
theorem pProd_gd (i:Nat) (hi:i≤X.L.length):Gd X TOk i (pProd X S i):=(pFactor_gd hS i hi).bind fun t j _ h2 ht=>pChainL_ge (fun i hi=>pFactor_gd hS i hi) isMul_lt 64 t j h2 ht
theorem pSum_gd (i:Nat) (hi:i≤X.L.length):Gd X TOk i (pSum X S i):=(pProd_gd hS i hi).bind fun t j _ h2 ht=>pChainL_ge (fun i hi=>pProd_gd hS i hi) isPM_lt 64 t j h2 ht
theorem pBound_gd (k n:Int){w:ByteArray}(hw:0<w.size) (i:Nat):Gd X TOk i (pBound X S k n w i):=
 (pName_gd i).bind fun s j _ _ _=>(pMust_gd (by decide) j).bg fun _ j _ h2 _=>(hS j h2).bg fun a j _ _ ha=>(pMust_gd hw j).bg fun _ j _ h3 _=>(hS j h3).bg fun b j _ h4 hb=>.ok (Nat.le_refl _) h4 (.two ha hb)
theorem pExprB_gd (i:Nat) (hi:i≤X.L.length):Gd X TOk i (pExprB X S i):=by
 have up:∀{r:R STree},Gd X TOk (i+1) r→Gd X TOk i r:=fun {r} h=>by
  cases r with
  | ok a j=>exact⟨by have:=h.1;omega,h.2⟩
  | bad e p=>exact h
 unfold pExprB
 split
 ·exact up (pBound_gd hS 5 0 (by decide) (i+1))
 ·split
  ·exact up ((pNumber_gd (i+1)).bind fun n j _ _ _=>(pBound_gd hS 6 n (by decide) j).ge)
  ·exact pSum_gd hS i hi
end
theorem pE_gd:∀(r i:Nat),i≤X.L.length→Gd X TOk i (pE X r i)
 | 0,i,_=>(by decide:(5:Int)≠0)
 | r+1,i,hi=>pExprB_gd (fun i hi=>pE_gd r i hi) i hi
def GvOk (l:List SGiven):Prop:=Sm l∧∀g∈l,Sm g.Dims
theorem pGivenL_ge:∀(m i:Nat) (acc:List SGiven),i≤X.L.length→acc.length+(X.L.length-i)≤Mx→(∀g∈acc,Sm g.Dims)→Ge X GvOk i (pGivenL X m i acc)
 | 0,i,acc,_,_,_=>(by decide:(7:Int)≠0)
 | m+1,i,acc,hi,h,ha=>by
  unfold pGivenL
  split
  ·exact⟨Nat.le_refl _,hi,by unfold Sm;omega,ha⟩
  ·have h1:Ge X (fun _=>True) i (if 0<acc.length then pMust X (ByteArray.mk #[44]) i else .ok () i):=by
    split
    ·exact(pMust_gd (by decide) i).ge
    ·exact⟨Nat.le_refl _,hi,trivial⟩
   exact h1.bind fun _ j h2 h3 _=>((pName_gd j).bind (Q':=GvOk) fun s j h4 _ _=>((pMust_gd (by decide) j).bind (Q':=GvOk) fun _ j h5 _ _=>((pShape_gd j).bind (Q':=GvOk) fun ds j h6 h7 hd=>pGivenL_ge m j (acc++[⟨s,ds⟩]) h7 (by simp;omega) (fun x hx=>by
    rcases List.mem_append.1 hx with hx | hx
    ·exact ha x hx
    ·simp at hx;subst hx;exact hd)).ge).ge).ge
theorem pGivenL_end:∀(m i:Nat) (acc a:List SGiven) (j:Nat),pGivenL X m i acc=.ok a j→X.is j (ByteArray.mk #[41])=true
 | 0,i,acc,a,j,e=>by cases e
 | m+1,i,acc,a,j,e=>by
  unfold pGivenL at e
  split at e
  ·rename_i h;cases e;exact h
  ·revert e
   cases (if 0<acc.length then pMust X (ByteArray.mk #[44]) i else R.ok () i) with
   | bad e p=>exact fun e=>by cases e
   | ok _ j1=>
    show(pName X j1).bind _=_→_
    cases pName X j1 with
    | bad e p=>exact fun e=>by cases e
    | ok s j2=>
     show(pMust X _ j2).bind _=_→_
     cases pMust X (ByteArray.mk #[58]) j2 with
     | bad e p=>exact fun e=>by cases e
     | ok _ j3=>
      show(pShape X j3).bind _=_→_
      cases pShape X j3 with
      | bad e p=>exact fun e=>by cases e
      | ok ds j4=>exact fun e=>pGivenL_end m j4 _ a j e
def FnOk (f:SFunc):Prop:=GvOk f.Given∧TOk f.Body
theorem pFunc_gd (i:Nat):Gd X FnOk i (pFunc X i):=by
 have hz:=X.sz
 refine(pMust_gd (by decide) i).bind fun _ j _ _ _=>((pName_gd j).bind (Q':=FnOk) fun s j _ _ _=>((pMust_gd (by decide) j).bind (Q':=FnOk) fun _ j _ h6 _=>?_).ge).ge
 have h7:=pGivenL_ge (X.L.length-j+1) j [] h6 (by simp;omega) (fun x h=>by cases h)
 have h8:=pGivenL_end (X:=X) (X.L.length-j+1) j []
 revert h7 h8
 cases pGivenL X (X.L.length-j+1) j [] with
 | bad e p=>exact fun h _=>h
 | ok g j2=>
  intro h7 h8
  have h9:=is_lt (by decide) (h8 _ _ rfl)
  have h10:Gd X FnOk (j2+1) ((pMust X (ByteArray.mk #[61]) (j2+1)).bind fun _ i=>(pE X 64 i).bind fun t i=>(pMust X (ByteArray.mk #[59]) i).bind fun _ i=>.ok ⟨s,g,t⟩ i):=
   (pMust_gd (by decide) (j2+1)).bind fun _ j _ h3 _=>(pE_gd 64 j h3).bg fun t j _ _ ht=>(pMust_gd (by decide) j).bg fun _ j _ h4 _=>.ok (Nat.le_refl _) h4 ⟨h7.2.2,ht⟩
  show Ge X FnOk j ((pMust X (ByteArray.mk #[61]) (j2+1)).bind fun _ i=>(pE X 64 i).bind fun t i=>(pMust X (ByteArray.mk #[59]) i).bind fun _ i=>.ok ⟨s,g,t⟩ i)
  revert h10
  cases ((pMust X (ByteArray.mk #[61]) (j2+1)).bind fun _ i=>(pE X 64 i).bind fun t i=>(pMust X (ByteArray.mk #[59]) i).bind fun _ i=>R.ok (⟨s,g,t⟩:SFunc) i) with
  | ok a k=>exact fun h=>⟨by have:=h.1;have:=h7.1;omega,h.2⟩
  | bad e p=>exact id
def PgOk (l:List SFunc):Prop:=Sm l∧∀f∈l,FnOk f
theorem pProg_ge:∀(m i:Nat) (acc:List SFunc),i≤X.L.length→acc.length+(X.L.length-i)≤Mx→(∀f∈acc,FnOk f)→Ge X PgOk i (pProg X m i acc)
 | 0,i,acc,_,_,_=>(by decide:(7:Int)≠0)
 | m+1,i,acc,hi,h,ha=>by
  unfold pProg
  split
  ·exact((pFunc_gd i).bind (Q':=PgOk) fun f j h1 h2 hf=>pProg_ge m j (acc++[f]) h2 (by simp;omega) (fun x hx=>by
    rcases List.mem_append.1 hx with hx | hx
    ·exact ha x hx
    ·simp at hx;subst hx;exact hf)).ge
  ·exact⟨Nat.le_refl _,hi,by unfold Sm;omega,ha⟩
end Go.DN
