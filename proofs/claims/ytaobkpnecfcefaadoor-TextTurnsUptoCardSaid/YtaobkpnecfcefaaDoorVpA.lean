import Derived.Test.YtaobkpnecfcefaaDoorVnA
/-
  Text, printing: the plain law: what a program's text is; what can be written; how deep, how long.
-/
set_option linter.unusedVariables false
set_option linter.unusedSimpArgs false
namespace Go.DN
open Go.AM
mutual
def fold {β:Type}(B:ai→List β→β):ai→β
 | ⟨k,n,x,sh,sp,ls,ks⟩=>B ⟨k,n,x,sh,sp,ls,ks⟩ (Gs B ks)
def Gs {β:Type}(B:ai→List β→β):List ai→List β
 | []=>[]
 | x::r=>fold B x::Gs B r
end
theorem Fy {β:Type}(B:ai→List β→β):∀l:List ai,Gs B l=l.map (fold B)
 | []=>rfl
 | x::r=>by simp only[Gs,aB,Fy B r]
theorem fold_eq {β:Type}(B:ai→List β→β) (t:ai):fold B t=B t (t.Kids.map (fold B)):=by
 cases t with
 | mk k n x sh sp ls ks=>simp only[fold,Fy]
def nB (s:ByteArray):Nat:=s.size+1
def dG {α:Type}(w:α→Nat) (l:List α):Nat:=(l.map w).sum+1
def lR (d:bh):Nat:=nB d.Name+1+1
def mV (g:cJ):Nat:=nB g.Name+dG lR g.nz+1
def iH (_:Int):Nat:=1
def D2 (t:ai) (ks:List Nat):Nat:=1+nB t.Name+1+1+dG lR t.Shape+dG (dG iH) t.bC+(ks.sum+1)+1
def dN (t:ai):Nat:=fold D2 t
def ox (f:br):Nat:=nB f.Name+dG mV f.cy+dN f.Body+1
theorem yS (t:ai):dN t=D2 t (t.Kids.map dN):=fold_eq _ _
theorem JC {α:Type}{w:α→Nat}{x:α}:∀{l:List α},x∈l→w x≤(l.map w).sum
 | [],h=>by cases h
 | y::r,h=>by
  rw[aB,mh]
  rcases bf.1 h with e | h
  ·subst e;omega
  ·have:=JC (w:=w) h;omega
theorem rX {α:Type}{w:α→Nat}(hw:∀x,1≤w x):∀l:List α,l.length≤(l.map w).sum
 | []=>aq _
 | y::r=>by
  rw[aB,mh,aZ]
  have:=rX hw r
  have:=hw y
  omega
theorem jE (t:ai):8≤dN t:=by rw[yS];simp only[D2,nB,dG];omega
theorem oW {t k:ai}(h:k∈t.Kids):dN k+8≤dN t:=by
 rw[yS t]
 have:=JC (w:=dN) h
 simp only[D2,nB,dG]
 omega
def em (s:ByteArray):Bool:=decide (s.size=0)
def iG (d:bh):Bool:=if em d.Name then decide (0≤d.lG) else(decide (d.lG=0)&&nm d.Name)
def oo (t:ai):Bool:=!t.Shaped&&(t.Shape.isEmpty&&t.bC.isEmpty)
def Vm:ByteArray:=ByteArray.mk #[43]
def Vo:ByteArray:=ByteArray.mk #[45]
def mul:ByteArray:=ByteArray.mk #[42]
def zs (s:ByteArray):Bool:=s.toList==Vm.toList||(s.toList==Vo.toList||s.toList==mul.toList)
def rN (l:List Int):Bool:=l.all fun n=>decide (0≤n)
def mq (t:ai):Bool:=
 if t.Kind=1 then oo t&&(em t.Name&&(decide (0≤t.Number)&&decide (t.Kids.length=0)))
 else if t.Kind=2 then oo t&&(nm t.Name&&(decide (t.Number=0)&&decide (t.Kids.length=0)))
 else if t.Kind=4 then oo t&&(zs t.Name&&(decide (t.Number=0)&&decide (t.Kids.length=2)))
 else if t.Kind=5 then oo t&&(nm t.Name&&(decide (t.Number=0)&&decide (t.Kids.length=2)))
 else if t.Kind=6 then oo t&&(nm t.Name&&(decide (0≤t.Number)&&decide (t.Kids.length=2)))
 else if t.Kind=3 then(t.bC.all rN&&(nm t.Name&&(decide (t.Number=0)&&((t.Shaped||t.Shape.isEmpty)&&t.Shape.all iG))))
 else false
def right (t:ai):Bool:=fold (fun t ks=>mq t&&ks.all id) t
theorem li (t:ai):right t=(mq t&&t.Kids.all right):=by
 unfold right
 rw[fold_eq]
 congr 1
 rw[List.all_map]
 rfl
def pw (t:ai):Nat:=if t.Kind=5∨t.Kind=6 then 0 else if t.Kind=4 then(if (t.Name.toList==mul.toList)=true then 2 else 1) else 3
def dg (n:Int):List Int:=aH (gN n)
def sep (c:List Int):List (List Int)→List Int
 | []=>[]
 | [x]=>x
 | x::y::r=>x++c++sep c (y::r)
def kv (d:bh):List Int:=if em d.Name then dg d.lG else aH d.Name
def gH (l:List bh):List Int:=[91]++sep [32] (l.map kv)++[93]
def iV (l:List Int):List Int:=[123]++sep [32] (l.map dg)++[125]
def cZ (t k:ai) (j:Nat):Bool:=decide (pw k<pw t+j)
def cD (b:Bool) (x:List Int):List Int:=bif b then[40]++x++[41] else x
def k0 (t:ai):ai:=t.Kids.getD 0 ⟨0,ByteArray.mk #[],0,false,[],[],[]⟩
def k1 (t:ai):ai:=t.Kids.getD 1 ⟨0,ByteArray.mk #[],0,false,[],[],[]⟩
def yK (t:ai) (xs:List (List Int)):List Int:=
 if t.Kind=1 then dg t.Number
 else if t.Kind=2 then aH t.Name
 else if t.Kind=4 then cD (cZ t (k0 t) 0) (xs.getD 0 [])++([32]++aH t.Name++[32])++cD (cZ t (k1 t) 1) (xs.getD 1 [])
 else if t.Kind=5 then[108,101,116,32]++aH t.Name++[32,61,32]++xs.getD 0 []++[32,105,110,32]++xs.getD 1 []
 else if t.Kind=6 then[114,101,112,101,97,116,32]++dg t.Number++[32]++aH t.Name++[32,61,32]++xs.getD 0 []++[32,119,105,116,104,32]++xs.getD 1 []
 else aH t.Name++(bif t.Shaped then gH t.Shape else[])++(t.bC.map iV).flatten++[40]++sep [44,32] xs++[41]
def tx (t:ai):List Int:=fold yK t
theorem tR (t:ai):tx t=yK t (t.Kids.map tx):=fold_eq _ _
def fO (g:cJ):List Int:=aH g.Name++[58,32]++gH g.nz
def od (f:br):List Int:=[102,110,32]++aH f.Name++[40]++sep [44,32] (f.cy.map fO)++[41,32,61,32]++tx f.Body++[59,10]
def jl (p:List br):List Int:=(p.map od).flatten
def kS (g:cJ):Bool:=nm g.Name&&g.nz.all iG
def kE (f:br):Bool:=nm f.Name&&(f.cy.all kS&&right f.Body)
def pX:List Nat→Nat
 | []=>0
 | x::r=>max x (pX r)
def Rg (t:ai) (j:Nat) (k:ai) (m:Nat):Nat:=if t.Kind=4∧cZ t k j=false then m-1 else m
def JX (t:ai):Nat→List ai→List Nat→List Nat
 | _,[],_=>[]
 | _,_,[]=>[]
 | j,k::ks,m::ms=>Rg t j k m::JX t (j+1) ks ms
def levels (t:ai):Nat:=fold (fun t ms=>1+pX (JX t 0 t.Kids ms)) t
theorem vG (t:ai):levels t=1+pX (JX t 0 t.Kids (t.Kids.map levels)):=fold_eq _ _
def chain (t:ai):Nat:=fold (fun t cs=>if t.Kind=4 then(if pw (k0 t)=pw t then cs.getD 0 0+1 else 1) else 0) t
theorem B6 (t:ai):chain t=if t.Kind=4 then(if pw (k0 t)=pw t then(t.Kids.map chain).getD 0 0+1 else 1) else 0:=fold_eq _ _
def fF (t:ai):Nat:=fold (fun t ls=>max (chain t) (pX ls)) t
theorem qX (t:ai):fF t=max (chain t) (pX (t.Kids.map fF)):=fold_eq _ _
def kZ (f:br):Bool:=decide (64<levels f.Body)||decide (64<fF f.Body)
end Go.DN
