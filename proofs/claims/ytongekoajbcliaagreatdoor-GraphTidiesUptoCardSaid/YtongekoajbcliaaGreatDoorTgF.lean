/-
  Text: what strconv.FormatInt answers.
-/
import Derived.Test.YtongekoajbcliaaGreatDoorMgB
import Derived.Lib.ItoaNum
namespace Go.DN
open Go.AM
def xO (n:Int):ByteArray:=⟨(Lib.itoa n).toArray⟩
def Cg (n b:Int):Option ByteArray:=(bj (b=10∧-9223372036854775808≤n∧n≤9223372036854775807)).bind fun _=>some (xO n)
theorem SZ {n b:Int}{r:ByteArray}(h:Cg n b=some r):b=10∧-9223372036854775808≤n∧n≤9223372036854775807∧r=xO n:=by
 unfold Cg at h
 obtain⟨_,h1,h2⟩:=bind_some h
 obtain⟨h3,h4,h5⟩:=cD h1
 cases h2
 exact⟨h3,h4,h5,rfl⟩
end Go.DN
