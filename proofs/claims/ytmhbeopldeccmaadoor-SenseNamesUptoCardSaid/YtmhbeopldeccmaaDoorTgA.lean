/-
  strings.Builder within a struct: copyCheck and String, by hand.
-/
import Derived.Test.YtmhbeopldeccmaaDoorMgH
import Derived.Test.YtmhbeopldeccmaaDoorTgB
import Derived.Test.YtmhbeopldeccmaaDoorProg
import Derived.Tactics
import Derived.Tactics2
import Derived.RegionTactic
import Derived.Shelf.RegionOpenPlain
import Derived.Lib.Strings
import Derived.Lib.Slices
import Derived.Lib.Walk
import Derived.Lib.UnsafeStr
import Derived.Laws.Externs
import Derived.Laws.IdiomCopy
import Derived.KernelRfl
set_option maxRecDepth 20000
set_option linter.unusedVariables false
set_option linter.unusedSimpArgs false
namespace Go.DN
open Go.AM Go.Proofs
abbrev pY (bs:TypeId) (c0:G) (n:Nat) (rest cells:List G) (f:Bool):List (Nat×aq):=[(1000,⟨bs,false,false,false,0,c0::.aM 1001 1 0 n::rest,none⟩),(1001,⟨5,true,false,f,1,cells,none⟩)]
theorem D8 {bs:TypeId}{n:Nat}{rest cells:List G}{f:Bool}(hl:liesAt Tryd.prog Tryd.prog.depth bs 1 0 73 1=true) (hc0:Tryd.prog.cellsOf bs≠0) (hc:Tryd.prog.cellsOf bs≤rest.length+2):
  GM Tryd.prog 52 [.loc 1000 0] (pY bs (.val (.pointer none)) n rest cells f) (fun g st=>g=.aT []∧st=pY bs (.loc 1000 0) n rest cells f):=by
 refine GM.of (N:=20) Tryd.func52 rfl rfl rfl (fun cx hro=>?_)
 change GW _ _ _ _ _ _
 refine GW.seq ?_
 refine GW.region ?_
 refine GL.py (PY.move rfl) rfl rfl ?_
 refine GL.py (PY.nilCheck rfl rfl) rfl rfl ?_
 refine GL.py (PY.field (sz:=1) (ht:=Tryd.underlying73) (hf:=rfl) (hx:=rfl) (hg:=rfl) (cD (by kernel_rfl)) (by decide)) rfl rfl ?_
 refine GL.y (YL.wg rfl rfl rfl (eS (by kernel_rfl)) rfl rfl) rfl rfl ?_
 refine GL.py (PY.ptrEq (b:=true) (e:=73) rfl rfl (by kernel_rfl)) rfl rfl ?_
 refine GL.nil ?_
 change GW _ _ _ _ _ _
 refine GW.cond rfl (fun _=>?_) (fun h=>by cases h)
 refine GW.region ?_
 refine GL.py (PY.move rfl) rfl rfl ?_
 refine GL.py (PY.move rfl) rfl rfl ?_
 refine GL.y (YL.Me (t:=73) rfl rfl rfl (by kernel_rfl) (by kernel_rfl) rfl (by decide) (Nat.succ_pos _) rfl) rfl rfl ?_
 refine GL.py (PY.same rfl (fun v w=>by rw[run_callFunc_extern Tryd.func60 (by kernel_rfl) (by kernel_rfl) (by kernel_rfl) (e:=Extern.AbiNoEscape.same) (by kernel_rfl),Lib.run_noEscape];rfl)) rfl rfl ?_
 refine GL.y (YL.Jm (u:=73) rfl rfl rfl (by kernel_rfl) (by kernel_rfl) rfl hl hc0 hc rfl) rfl rfl ?_
 refine GL.py (PY.nilCheck rfl rfl) rfl rfl ?_
 refine GL.py (PY.field (sz:=1) (ht:=Tryd.underlying73) (hf:=rfl) (hx:=rfl) (hg:=rfl) (cD (by kernel_rfl)) (by decide)) rfl rfl ?_
 refine GL.e0 (W:=[1000]) (EF.tn (sz:=1) rfl rfl rfl rfl rfl rfl rfl rfl (cD (by kernel_rfl)) (Nat.succ_pos _) rfl rfl) rfl ?_
 refine GL.nil ?_
 exact pC.mk (.inr rfl) [] (.aT []) (pY bs (.loc 1000 0) n rest cells f) trivial ⟨rfl,rfl,trivial⟩ rfl ⟨rfl,rfl⟩
theorem CI {bs:TypeId}{n:Nat}{rest cells:List G}{f:Bool}:
  GM Tryd.prog 52 [.loc 1000 0] (pY bs (.loc 1000 0) n rest cells f) (fun g st=>g=.aT []∧st=pY bs (.loc 1000 0) n rest cells f):=by
 refine GM.of (N:=20) Tryd.func52 rfl rfl rfl (fun cx hro=>?_)
 change GW _ _ _ _ _ _
 refine GW.seq ?_
 refine GW.region ?_
 refine GL.py (PY.move rfl) rfl rfl ?_
 refine GL.py (PY.nilCheck rfl rfl) rfl rfl ?_
 refine GL.py (PY.field (sz:=1) (ht:=Tryd.underlying73) (hf:=rfl) (hx:=rfl) (hg:=rfl) (cD (by kernel_rfl)) (by decide)) rfl rfl ?_
 refine GL.y (YL.wg rfl rfl rfl (eS (by kernel_rfl)) rfl rfl) rfl rfl ?_
 refine GL.py (PY.ptrEq (b:=false) (e:=73) rfl rfl (by kernel_rfl)) rfl rfl ?_
 refine GL.nil ?_
 change GW _ _ _ _ _ _
 refine GW.cond rfl (fun h=>by cases h) (fun _=>?_)
 refine GW.seq ?_
 refine GW.region ?_
 refine GL.py (PY.move rfl) rfl rfl ?_
 refine GL.py (PY.nilCheck rfl rfl) rfl rfl ?_
 refine GL.py (PY.field (sz:=1) (ht:=Tryd.underlying73) (hf:=rfl) (hx:=rfl) (hg:=rfl) (cD (by kernel_rfl)) (by decide)) rfl rfl ?_
 refine GL.y (YL.wg rfl rfl rfl (eS (by kernel_rfl)) rfl rfl) rfl rfl ?_
 refine GL.py (PY.move rfl) rfl rfl ?_
 refine GL.py (PY.Qk (e:=73) rfl rfl (by kernel_rfl) rfl) rfl rfl ?_
 refine GL.nil ?_
 change GW _ _ _ _ _ _
 refine GW.cond rfl (fun h=>by cases h) (fun _=>?_)
 refine GW.skip ?_
 exact pC.mk (.inr rfl) [] (.aT []) (pY bs (.loc 1000 0) n rest cells f) trivial ⟨rfl,rfl,trivial⟩ rfl ⟨rfl,rfl⟩
end Go.DN
