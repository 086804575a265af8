/-
  Text, printing: the plain law: what a program's text is; what can be written; how deep, how long.
-/
import Derived.Test.YtaobkpnecfcefaaDoorVnB
set_option linter.unusedVariables false
set_option linter.unusedSimpArgs false
namespace Go.DN
open Go.AM
mutual
def fold {β:Type}(B:STree→List β→β):STree→β
 | ⟨k,n,x,sh,sp,ls,ks⟩=>B ⟨k,n,x,sh,sp,ls,ks⟩ (foldL B ks)
def foldL {β:Type}(B:STree→List β→β):List STree→List β
 | []=>[]
 | x::r=>fold B x::foldL B r
end
theorem foldL_map {β:Type}(B:STree→List β→β):∀l:List STree,foldL B l=l.map (fold B)
 | []=>rfl
 | x::r=>by simp only[foldL,List.map_cons,foldL_map B r]
theorem fold_eq {β:Type}(B:STree→List β→β) (t:STree):fold B t=B t (t.Kids.map (fold B)):=by
 cases t with
 | mk k n x sh sp ls ks=>simp only[fold,foldL_map]
def wtS (s:ByteArray):Nat:=s.size+1
def wtL {α:Type}(w:α→Nat) (l:List α):Nat:=(l.map w).sum+1
def wtD (d:SDim):Nat:=wtS d.Name+1+1
def wtG (g:SGiven):Nat:=wtS g.Name+wtL wtD g.Dims+1
def wtI (_:Int):Nat:=1
def wtTB (t:STree) (ks:List Nat):Nat:=1+wtS t.Name+1+1+wtL wtD t.Shape+wtL (wtL wtI) t.Lists+(ks.sum+1)+1
def wtT (t:STree):Nat:=fold wtTB t
def wtF (f:SFunc):Nat:=wtS f.Name+wtL wtG f.Given+wtT f.Body+1
theorem wtT_eq (t:STree):wtT t=wtTB t (t.Kids.map wtT):=fold_eq _ _
theorem sum_mem {α:Type}{w:α→Nat}{x:α}:∀{l:List α},x∈l→w x≤(l.map w).sum
 | [],h=>by cases h
 | y::r,h=>by
  rw[List.map_cons,List.sum_cons]
  rcases List.mem_cons.1 h with e | h
  ·subst e;omega
  ·have:=sum_mem (w:=w) h;omega
theorem sum_len {α:Type}{w:α→Nat}(hw:∀x,1≤w x):∀l:List α,l.length≤(l.map w).sum
 | []=>Nat.le_refl _
 | y::r=>by
  rw[List.map_cons,List.sum_cons,List.length_cons]
  have:=sum_len hw r
  have:=hw y
  omega
theorem wtT_pos (t:STree):8≤wtT t:=by rw[wtT_eq];simp only[wtTB,wtS,wtL];omega
theorem wtT_kid {t k:STree}(h:k∈t.Kids):wtT k+8≤wtT t:=by
 rw[wtT_eq t]
 have:=sum_mem (w:=wtT) h
 simp only[wtTB,wtS,wtL]
 omega
def em (s:ByteArray):Bool:=decide (s.size=0)
def dimB (d:SDim):Bool:=if em d.Name then decide (0≤d.Size) else(decide (d.Size=0)&&nm d.Name)
def bareB (t:STree):Bool:=!t.Shaped&&(t.Shape.isEmpty&&t.Lists.isEmpty)
def pls:ByteArray:=ByteArray.mk #[43]
def mns:ByteArray:=ByteArray.mk #[45]
def mul:ByteArray:=ByteArray.mk #[42]
def opB (s:ByteArray):Bool:=s.toList==pls.toList||(s.toList==mns.toList||s.toList==mul.toList)
def nlB (l:List Int):Bool:=l.all fun n=>decide (0≤n)
def ownB (t:STree):Bool:=
 if t.Kind=1 then bareB t&&(em t.Name&&(decide (0≤t.Number)&&decide (t.Kids.length=0)))
 else if t.Kind=2 then bareB t&&(nm t.Name&&(decide (t.Number=0)&&decide (t.Kids.length=0)))
 else if t.Kind=4 then bareB t&&(opB t.Name&&(decide (t.Number=0)&&decide (t.Kids.length=2)))
 else if t.Kind=5 then bareB t&&(nm t.Name&&(decide (t.Number=0)&&decide (t.Kids.length=2)))
 else if t.Kind=6 then bareB t&&(nm t.Name&&(decide (0≤t.Number)&&decide (t.Kids.length=2)))
 else if t.Kind=3 then(t.Lists.all nlB&&(nm t.Name&&(decide (t.Number=0)&&((t.Shaped||t.Shape.isEmpty)&&t.Shape.all dimB))))
 else false
def right (t:STree):Bool:=fold (fun t ks=>ownB t&&ks.all id) t
theorem right_eq (t:STree):right t=(ownB t&&t.Kids.all right):=by
 unfold right
 rw[fold_eq]
 congr 1
 rw[List.all_map]
 rfl
def pw (t:STree):Nat:=if t.Kind=5∨t.Kind=6 then 0 else if t.Kind=4 then(if (t.Name.toList==mul.toList)=true then 2 else 1) else 3
def dg (n:Int):List Int:=bytesI (strI n)
def sep (c:List Int):List (List Int)→List Int
 | []=>[]
 | [x]=>x
 | x::y::r=>x++c++sep c (y::r)
def dimX (d:SDim):List Int:=if em d.Name then dg d.Size else bytesI d.Name
def shapeX (l:List SDim):List Int:=[91]++sep [32] (l.map dimX)++[93]
def listX (l:List Int):List Int:=[123]++sep [32] (l.map dg)++[125]
def weakB (t k:STree) (j:Nat):Bool:=decide (pw k<pw t+j)
def brk (b:Bool) (x:List Int):List Int:=bif b then[40]++x++[41] else x
def k0 (t:STree):STree:=t.Kids.getD 0 ⟨0,ByteArray.mk #[],0,false,[],[],[]⟩
def k1 (t:STree):STree:=t.Kids.getD 1 ⟨0,ByteArray.mk #[],0,false,[],[],[]⟩
def txB (t:STree) (xs:List (List Int)):List Int:=
 if t.Kind=1 then dg t.Number
 else if t.Kind=2 then bytesI t.Name
 else if t.Kind=4 then brk (weakB t (k0 t) 0) (xs.getD 0 [])++([32]++bytesI t.Name++[32])++brk (weakB t (k1 t) 1) (xs.getD 1 [])
 else if t.Kind=5 then[108,101,116,32]++bytesI t.Name++[32,61,32]++xs.getD 0 []++[32,105,110,32]++xs.getD 1 []
 else if t.Kind=6 then[114,101,112,101,97,116,32]++dg t.Number++[32]++bytesI t.Name++[32,61,32]++xs.getD 0 []++[32,119,105,116,104,32]++xs.getD 1 []
 else bytesI t.Name++(bif t.Shaped then shapeX t.Shape else[])++(t.Lists.map listX).flatten++[40]++sep [44,32] xs++[41]
def tx (t:STree):List Int:=fold txB t
theorem tx_eq (t:STree):tx t=txB t (t.Kids.map tx):=fold_eq _ _
def givenX (g:SGiven):List Int:=bytesI g.Name++[58,32]++shapeX g.Dims
def funcX (f:SFunc):List Int:=[102,110,32]++bytesI f.Name++[40]++sep [44,32] (f.Given.map givenX)++[41,32,61,32]++tx f.Body++[59,10]
def progX (p:List SFunc):List Int:=(p.map funcX).flatten
def givenB (g:SGiven):Bool:=nm g.Name&&g.Dims.all dimB
def funcB (f:SFunc):Bool:=nm f.Name&&(f.Given.all givenB&&right f.Body)
def maxL:List Nat→Nat
 | []=>0
 | x::r=>max x (maxL r)
def lvW (t:STree) (j:Nat) (k:STree) (m:Nat):Nat:=if t.Kind=4∧weakB t k j=false then m-1 else m
def lvL (t:STree):Nat→List STree→List Nat→List Nat
 | _,[],_=>[]
 | _,_,[]=>[]
 | j,k::ks,m::ms=>lvW t j k m::lvL t (j+1) ks ms
def levels (t:STree):Nat:=fold (fun t ms=>1+maxL (lvL t 0 t.Kids ms)) t
theorem levels_eq (t:STree):levels t=1+maxL (lvL t 0 t.Kids (t.Kids.map levels)):=fold_eq _ _
def chain (t:STree):Nat:=fold (fun t cs=>if t.Kind=4 then(if pw (k0 t)=pw t then cs.getD 0 0+1 else 1) else 0) t
theorem chain_eq (t:STree):chain t=if t.Kind=4 then(if pw (k0 t)=pw t then(t.Kids.map chain).getD 0 0+1 else 1) else 0:=fold_eq _ _
def longest (t:STree):Nat:=fold (fun t ls=>max (chain t) (maxL ls)) t
theorem longest_eq (t:STree):longest t=max (chain t) (maxL (t.Kids.map longest)):=fold_eq _ _
def muchB (f:SFunc):Bool:=decide (64<levels f.Body)||decide (64<longest f.Body)
end Go.DN
