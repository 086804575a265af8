/-
  Text, printing: the plain law: what a program's text is; what can be written; how deep, how long.
-/
import Derived.Test.YtmhbeopldeccmaaDoorVnB
set_option linter.unusedVariables false
set_option linter.unusedSimpArgs false
namespace Go.DN
open Go.AM
mutual
def fold {β:Type}(B:ai→List β→β):ai→β
 | ⟨k,n,x,sh,sp,ls,ks⟩=>B ⟨k,n,x,sh,sp,ls,ks⟩ (Em B ks)
def Em {β:Type}(B:ai→List β→β):List ai→List β
 | []=>[]
 | x::r=>fold B x::Em B r
end
theorem Dz {β:Type}(B:ai→List β→β):∀l:List ai,Em B l=l.map (fold B)
 | []=>rfl
 | x::r=>by simp only[Em,az,Dz B r]
theorem fold_eq {β:Type}(B:ai→List β→β) (t:ai):fold B t=B t (t.Kids.map (fold B)):=by
 cases t with
 | mk k n x sh sp ls ks=>simp only[fold,Dz]
def gM (s:ByteArray):Nat:=s.size+1
def bu {α:Type}(w:α→Nat) (l:List α):Nat:=(l.map w).sum+1
def dP (d:iu):Nat:=gM d.Name+1+1
def eO (g:eT):Nat:=gM g.Name+bu dP g.cV+1
def cU (_:Int):Nat:=1
def BW (t:ai) (ks:List Nat):Nat:=1+gM t.Name+1+1+bu dP t.Shape+bu (bu cU) t.aE+(ks.sum+1)+1
def bD (t:ai):Nat:=fold BW t
def eI (f:bB):Nat:=gM f.Name+bu eO f.aB+bD f.Body+1
theorem xf (t:ai):bD t=BW t (t.Kids.map bD):=fold_eq _ _
theorem pE {α:Type}{w:α→Nat}{x:α}:∀{l:List α},x∈l→w x≤(l.map w).sum
 | [],h=>by cases h
 | y::r,h=>by
  rw[az,iy]
  rcases bU.1 h with e | h
  ·subst e;omega
  ·have:=pE (w:=w) h;omega
theorem dI {α:Type}{w:α→Nat}(hw:∀x,1≤w x):∀l:List α,l.length≤(l.map w).sum
 | []=>ar _
 | y::r=>by
  rw[az,iy,bl]
  have:=dI hw r
  have:=hw y
  omega
theorem dS (t:ai):8≤bD t:=by rw[xf];simp only[BW,gM,bu];omega
theorem jy {t k:ai}(h:k∈t.Kids):bD k+8≤bD t:=by
 rw[xf t]
 have:=pE (w:=bD) h
 simp only[BW,gM,bu]
 omega
def em (s:ByteArray):Bool:=decide (s.size=0)
def ga (d:iu):Bool:=if em d.Name then decide (0≤d.iW) else(decide (d.iW=0)&&nm d.Name)
def ox (t:ai):Bool:=!t.Shaped&&(t.Shape.isEmpty&&t.aE.isEmpty)
def P8:ByteArray:=ByteArray.mk #[43]
def Qn:ByteArray:=ByteArray.mk #[45]
def mul:ByteArray:=ByteArray.mk #[42]
def Dd (s:ByteArray):Bool:=s.toList==P8.toList||(s.toList==Qn.toList||s.toList==mul.toList)
def nP (l:List Int):Bool:=l.all fun n=>decide (0≤n)
def ql (t:ai):Bool:=
 if t.Kind=1 then ox t&&(em t.Name&&(decide (0≤t.Number)&&decide (t.Kids.length=0)))
 else if t.Kind=2 then ox t&&(nm t.Name&&(decide (t.Number=0)&&decide (t.Kids.length=0)))
 else if t.Kind=4 then ox t&&(Dd t.Name&&(decide (t.Number=0)&&decide (t.Kids.length=2)))
 else if t.Kind=5 then ox t&&(nm t.Name&&(decide (t.Number=0)&&decide (t.Kids.length=2)))
 else if t.Kind=6 then ox t&&(nm t.Name&&(decide (0≤t.Number)&&decide (t.Kids.length=2)))
 else if t.Kind=3 then(t.aE.all nP&&(nm t.Name&&(decide (t.Number=0)&&((t.Shaped||t.Shape.isEmpty)&&t.Shape.all ga))))
 else false
def right (t:ai):Bool:=fold (fun t ks=>ql t&&ks.all id) t
theorem kL (t:ai):right t=(ql t&&t.Kids.all right):=by
 unfold right
 rw[fold_eq]
 congr 1
 rw[List.all_map]
 rfl
def pw (t:ai):Nat:=if t.Kind=5∨t.Kind=6 then 0 else if t.Kind=4 then(if (t.Name.toList==mul.toList)=true then 2 else 1) else 3
def dg (n:Int):List Int:=aF (ph n)
def sep (c:List Int):List (List Int)→List Int
 | []=>[]
 | [x]=>x
 | x::y::r=>x++c++sep c (y::r)
def fQ (d:iu):List Int:=if em d.Name then dg d.iW else aF d.Name
def eL (l:List iu):List Int:=[91]++sep [32] (l.map fQ)++[93]
def eK (l:List Int):List Int:=[123]++sep [32] (l.map dg)++[125]
def jU (t k:ai) (j:Nat):Bool:=decide (pw k<pw t+j)
def bw (b:Bool) (x:List Int):List Int:=bif b then[40]++x++[41] else x
def k0 (t:ai):ai:=t.Kids.getD 0 ⟨0,ByteArray.mk #[],0,false,[],[],[]⟩
def k1 (t:ai):ai:=t.Kids.getD 1 ⟨0,ByteArray.mk #[],0,false,[],[],[]⟩
def uh (t:ai) (xs:List (List Int)):List Int:=
 if t.Kind=1 then dg t.Number
 else if t.Kind=2 then aF t.Name
 else if t.Kind=4 then bw (jU t (k0 t) 0) (xs.getD 0 [])++([32]++aF t.Name++[32])++bw (jU t (k1 t) 1) (xs.getD 1 [])
 else if t.Kind=5 then[108,101,116,32]++aF t.Name++[32,61,32]++xs.getD 0 []++[32,105,110,32]++xs.getD 1 []
 else if t.Kind=6 then[114,101,112,101,97,116,32]++dg t.Number++[32]++aF t.Name++[32,61,32]++xs.getD 0 []++[32,119,105,116,104,32]++xs.getD 1 []
 else aF t.Name++(bif t.Shaped then eL t.Shape else[])++(t.aE.map eK).flatten++[40]++sep [44,32] xs++[41]
def tx (t:ai):List Int:=fold uh t
theorem o7 (t:ai):tx t=uh t (t.Kids.map tx):=fold_eq _ _
def dn (g:eT):List Int:=aF g.Name++[58,32]++eL g.cV
def lN (f:bB):List Int:=[102,110,32]++aF f.Name++[40]++sep [44,32] (f.aB.map dn)++[41,32,61,32]++tx f.Body++[59,10]
def fJ (p:List bB):List Int:=(p.map lN).flatten
def iK (g:eT):Bool:=nm g.Name&&g.cV.all ga
def jj (f:bB):Bool:=nm f.Name&&(f.aB.all iK&&right f.Body)
def iI:List Nat→Nat
 | []=>0
 | x::r=>max x (iI r)
def Dl (t:ai) (j:Nat) (k:ai) (m:Nat):Nat:=if t.Kind=4∧jU t k j=false then m-1 else m
def su (t:ai):Nat→List ai→List Nat→List Nat
 | _,[],_=>[]
 | _,_,[]=>[]
 | j,k::ks,m::ms=>Dl t j k m::su t (j+1) ks ms
def levels (t:ai):Nat:=fold (fun t ms=>1+iI (su t 0 t.Kids ms)) t
theorem pL (t:ai):levels t=1+iI (su t 0 t.Kids (t.Kids.map levels)):=fold_eq _ _
def chain (t:ai):Nat:=fold (fun t cs=>if t.Kind=4 then(if pw (k0 t)=pw t then cs.getD 0 0+1 else 1) else 0) t
theorem wM (t:ai):chain t=if t.Kind=4 then(if pw (k0 t)=pw t then(t.Kids.map chain).getD 0 0+1 else 1) else 0:=fold_eq _ _
def dK (t:ai):Nat:=fold (fun t ls=>max (chain t) (iI ls)) t
theorem qo (t:ai):dK t=max (chain t) (iI (t.Kids.map dK)):=fold_eq _ _
def jX (f:bB):Bool:=decide (64<levels f.Body)||decide (64<dK f.Body)
end Go.DN
