/-
  Text: what strconv.FormatInt answers.
-/
import Derived.Test.YtongekoajbcliaaGreatDoorMgB
import Derived.Lib.ItoaNum
set_option linter.all false
namespace Go.DN
open Go.AM
def yk(n:Int):ByteArray:=⟨(Lib.itoa n).toArray⟩
def CK(n b:Int):Option ByteArray:=(ba (b=10/\-9223372036854775808<=n/\n<=9223372036854775807)).bind fun _=>some (yk n)
def TH{n b:Int}{r:ByteArray}(h:CK n b=some r):b=10/\-9223372036854775808<=n/\n<=9223372036854775807/\r=yk n:=by unfold CK at h;obtain⟨_,c,d⟩:=bind_some h;obtain⟨e,f,a⟩:=cI c;cases d;exact⟨e,f,a,rfl⟩
end Go.DN
