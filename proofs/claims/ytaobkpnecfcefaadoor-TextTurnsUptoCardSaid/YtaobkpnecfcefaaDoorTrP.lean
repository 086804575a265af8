/-
  Text: the plain law of TextTurns: XUtF.
-/
import Derived.Test.YtaobkpnecfcefaaDoorUtF
