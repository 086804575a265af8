/-
  Text: the bytes of a builder.
-/
import Derived.Test.YtongekoajbcliaaGreatDoorMgC
namespace Go.DN
open Go.AM
def wh (l:List Int):Bool:=l.all fun n=>decide (0≤n∧n<256)
def T3 (l:List Int):Option ByteArray:=(bj (wh l=true)).bind fun _=>some (strOf l)
def KP (b:Bool) (l:List Int):Option (List Int):=some l
def Ww (b:Bool) (l:List Int):Option (ByteArray×Bool):=(T3 l).bind fun t=>some (t,b)
end Go.DN
