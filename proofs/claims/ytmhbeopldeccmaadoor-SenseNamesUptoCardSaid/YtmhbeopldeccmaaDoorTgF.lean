/-
  Text: what strconv.FormatInt answers.
-/
import Derived.Test.YtmhbeopldeccmaaDoorMgB
import Derived.Lib.ItoaNum
namespace Go.DN
open Go.AM
def ph (n:Int):ByteArray:=⟨(Lib.itoa n).toArray⟩
def Cv (n b:Int):Option ByteArray:=(cj (b=10∧-9223372036854775808≤n∧n≤9223372036854775807)).bind fun _=>some (ph n)
theorem Lc {n b:Int}{r:ByteArray}(h:Cv n b=some r):b=10∧-9223372036854775808≤n∧n≤9223372036854775807∧r=ph n:=by
 unfold Cv at h
 obtain⟨_,h1,h2⟩:=bind_some h
 obtain⟨h3,h4,h5⟩:=cO h1
 cases h2
 exact⟨h3,h4,h5,rfl⟩
end Go.DN
