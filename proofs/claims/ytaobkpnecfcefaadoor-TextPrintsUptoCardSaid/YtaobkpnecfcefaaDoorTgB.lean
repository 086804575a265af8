/-
  Text: the bytes of a builder.
-/
import Derived.Test.YtaobkpnecfcefaaDoorMgC
namespace Go.DN
open Go.AM
def inByte (l:List Int):Bool:=l.all fun n=>decide (0≤n∧n<256)
def strF (l:List Int):Option ByteArray:=(chk (inByte l=true)).bind fun _=>some (strOf l)
def copyF (b:Bool) (d:Int) (m:Bool) (l:List Int):Option (Int×Bool×List Int):=some (d,m,l)
def bstrF (b:Bool) (d:Int) (m:Bool) (l:List Int):Option (ByteArray×Bool×Int×Bool):=(strF l).bind fun t=>some (t,b,d,m)
theorem inByte_bytesI (b:ByteArray):inByte (bytesI b)=true:=by
 unfold inByte bytesI
 rw[List.all_map,List.all_eq_true]
 intro x _
 have:=x.toNat_lt
 simp
 omega
theorem strOf_bytesI (b:ByteArray):strOf (bytesI b)=b:=by
 unfold strOf bytesI
 rw[List.map_map]
 have:((fun n:Int=>n.toNat.toUInt8)∘fun x:UInt8=>(x.toNat:Int))=id:=by
  funext x
  simp
 rw[this,List.map_id]
theorem bytesI_append (a b:ByteArray):bytesI (a++b)=bytesI a++bytesI b:=by
 unfold bytesI
 rw[←List.map_append]
 congr 1
end Go.DN
