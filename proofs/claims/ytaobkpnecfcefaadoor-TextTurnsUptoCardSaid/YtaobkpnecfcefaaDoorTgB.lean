import Derived.Test.YtaobkpnecfcefaaDoorMgC
import Derived.Test.YtaobkpnecfcefaaDoorMgB
import Derived.Lib.ItoaNum
/-
  Text: the bytes of a builder.
-/
namespace Go.DN
open Go.AM
def wV (l:List Int):Bool:=l.all fun n=>decide (0≤n∧n<256)
def Pj (l:List Int):Option ByteArray:=(dA (wV l=true)).bind fun _=>some (strOf l)
def Rw (b:Bool) (d:Int) (m:Bool) (l:List Int):Option (Int×Bool×List Int):=some (d,m,l)
def Rz (b:Bool) (d:Int) (m:Bool) (l:List Int):Option (ByteArray×Bool×Int×Bool):=(Pj l).bind fun t=>some (t,b,d,m)
theorem F2 (b:ByteArray):wV (aH b)=true:=by
 unfold wV aH
 rw[List.all_map,cz]
 intro x _
 have:=x.toNat_lt
 simp
 omega
theorem Hc (b:ByteArray):strOf (aH b)=b:=by
 unfold strOf aH
 rw[iM]
 have:((fun n:Int=>n.toNat.toUInt8)∘fun x:UInt8=>(x.toNat:Int))=id:=by
  funext x
  simp
 rw[this,List.map_id]
theorem Gb (a b:ByteArray):aH (a++b)=aH a++aH b:=by
 unfold aH
 rw[←nA]
 congr 1
end Go.DN

namespace Go.DN
open Go.AM
def gN (n:Int):ByteArray:=⟨(Lib.itoa n).toArray⟩
def Ez (n b:Int):Option ByteArray:=(dA (b=10∧-9223372036854775808≤n∧n≤9223372036854775807)).bind fun _=>some (gN n)
theorem Oa {n b:Int}{r:ByteArray}(h:Ez n b=some r):b=10∧-9223372036854775808≤n∧n≤9223372036854775807∧r=gN n:=by
 unfold Ez at h
 obtain⟨_,h1,h2⟩:=bind_some h
 obtain⟨h3,h4,h5⟩:=cS h1
 cases h2
 exact⟨h3,h4,h5,rfl⟩
end Go.DN
