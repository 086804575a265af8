/-
  Text: what strconv.ParseInt answers of digits.
-/
import Derived.Test.YtaobkpnecfcefaaDoorMgB
import Derived.Lib.ParseIntB
namespace Go.DN
open Go.AM
def pB (s:ByteArray) (b c:Int):Option (Int×Bool):=(dA (b=10∧c=64∧s.size≤65536)).bind fun _=>match Lib.parseIntB 64 s.data.toList with
 | .ok v=>some (v,false)
 | .range=>some (Lib.intSat 64 s.data.toList,true)
 | _=>none
theorem Ji {s:ByteArray}{b c:Int}{r:Int×Bool}(h:pB s b c=some r):b=10∧c=64∧s.size≤65536∧((∃v,Lib.parseIntB 64 s.data.toList=.ok v∧r=(v,false))∨(Lib.parseIntB 64 s.data.toList=.range∧r=(Lib.intSat 64 s.data.toList,true))):=by
 unfold pB at h
 obtain⟨_,h1,h2⟩:=bind_some h
 obtain⟨h3,h4,h5⟩:=cS h1
 refine⟨h3,h4,h5,?_⟩
 split at h2
 ·rename_i v hv;cases h2;exact .inl ⟨v,hv,rfl⟩
 ·rename_i hv;cases h2;exact .inr ⟨hv,rfl⟩
 ·cases h2
end Go.DN
