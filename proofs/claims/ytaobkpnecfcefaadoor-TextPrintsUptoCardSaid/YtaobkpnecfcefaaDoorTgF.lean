/-
  Text: what strconv.FormatInt answers.
-/
import Derived.Test.YtaobkpnecfcefaaDoorMgB
import Derived.Lib.ItoaNum
namespace Go.DN
open Go.AM
def strI (n:Int):ByteArray:=⟨(Lib.itoa n).toArray⟩
def fmtI (n b:Int):Option ByteArray:=(chk (b=10∧-9223372036854775808≤n∧n≤9223372036854775807)).bind fun _=>some (strI n)
theorem fmtI_some {n b:Int}{r:ByteArray}(h:fmtI n b=some r):b=10∧-9223372036854775808≤n∧n≤9223372036854775807∧r=strI n:=by
 unfold fmtI at h
 obtain⟨_,h1,h2⟩:=bind_some h
 obtain⟨h3,h4,h5⟩:=chk_spec h1
 cases h2
 exact⟨h3,h4,h5,rfl⟩
end Go.DN
