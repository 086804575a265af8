/-
  Text: the bytes of a builder.
-/
import Derived.Test.YtongekoajbcliaaGreatDoorMgC
set_option linter.all false
namespace Go.DN
open Go.AM
def wH(l:List Int):Bool:=l.all fun n=>decide (0<=n/\n<256)
def UJ(l:List Int):Option ByteArray:=(ba (wH l=true)).bind fun _=>some (strOf l)
def Lk(b:Bool)(l:List Int):Option (List Int):=some l
def Xd(b:Bool)(l:List Int):Option (ByteArray×Bool):=(UJ l).bind fun t=>some (t,b)
end Go.DN
