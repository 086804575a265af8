/-
  Text: the bytes of a builder.
-/
import Derived.Test.YtmhbeopldeccmaaDoorMgC
namespace Go.DN
open Go.AM
def vo (l:List Int):Bool:=l.all fun n=>decide (0≤n∧n<256)
def Ml (l:List Int):Option ByteArray:=(cj (vo l=true)).bind fun _=>some (strOf l)
def Oo (b:Bool) (d:Int) (m:Bool) (l:List Int):Option (Int×Bool×List Int):=some (d,m,l)
def Ou (b:Bool) (d:Int) (m:Bool) (l:List Int):Option (ByteArray×Bool×Int×Bool):=(Ml l).bind fun t=>some (t,b,d,m)
theorem D5 (b:ByteArray):vo (aF b)=true:=by
 unfold vo aF
 rw[List.all_map,cu]
 intro x _
 have:=x.toNat_lt
 simp
 omega
theorem tl (b:ByteArray):strOf (aF b)=b:=by
 unfold strOf aF
 rw[gS]
 have:((fun n:Int=>n.toNat.toUInt8)∘fun x:UInt8=>(x.toNat:Int))=id:=by
  funext x
  simp
 rw[this,List.map_id]
theorem Ea (a b:ByteArray):aF (a++b)=aF a++aF b:=by
 unfold aF
 rw[←gk]
 congr 1
end Go.DN
