/-
  strings.Builder within a struct: copyCheck and String, by hand.
-/
import Derived.Test.YtaobkpnecfcefaaDoorMgH
import Derived.Test.YtaobkpnecfcefaaDoorTgB
import Derived.Test.YtaobkpnecfcefaaDoorProg
import Derived.Tactics
import Derived.Tactics2
import Derived.RegionTactic
import Derived.Shelf.RegionOpenPlain
import Derived.Lib.Strings
import Derived.Lib.Slices
import Derived.Lib.Walk
import Derived.Lib.UnsafeStr
import Derived.Laws.Externs
import Derived.Laws.IdiomCopy
import Derived.KernelRfl
set_option maxRecDepth 20000
set_option linter.unusedVariables false
set_option linter.unusedSimpArgs false
namespace Go.DN
open Go.AM Go.Proofs
abbrev qE (bw:TypeId) (c0:G) (n:Nat) (rest cells:List G) (f:Bool):List (Nat×ao):=[(1000,⟨bw,false,false,false,0,c0::.aK 1001 1 0 n::rest,none⟩),(1001,⟨5,true,false,f,1,cells,none⟩)]
theorem F5 {bw:TypeId}{n:Nat}{rest cells:List G}{f:Bool}(hl:liesAt Tryd.prog Tryd.prog.depth bw 1 0 45 1=true) (hc0:Tryd.prog.cellsOf bw≠0) (hc:Tryd.prog.cellsOf bw≤rest.length+2):
  GM Tryd.prog 103 [.loc 1000 0] (qE bw (.val (.pointer none)) n rest cells f) (fun g st=>g=.aU []∧st=qE bw (.loc 1000 0) n rest cells f):=by
 refine GM.of (N:=20) Tryd.func103 rfl rfl rfl (fun cx hro=>?_)
 change GW _ _ _ _ _ _
 refine GW.seq ?_
 refine GW.region ?_
 refine GL.py (PY.move rfl) rfl rfl ?_
 refine GL.py (PY.nilCheck rfl rfl) rfl rfl ?_
 refine GL.py (PY.field (sz:=1) (ht:=Tryd.underlying45) (hf:=rfl) (hx:=rfl) (hg:=rfl) (cU (by kernel_rfl)) (by decide)) rfl rfl ?_
 refine GL.y (YL.Ax rfl rfl rfl (ff (by kernel_rfl)) rfl rfl) rfl rfl ?_
 refine GL.py (PY.ptrEq (b:=true) (e:=45) rfl rfl (by kernel_rfl)) rfl rfl ?_
 refine GL.nil ?_
 change GW _ _ _ _ _ _
 refine GW.cond rfl (fun _=>?_) (fun h=>by cases h)
 refine GW.region ?_
 refine GL.py (PY.move rfl) rfl rfl ?_
 refine GL.py (PY.move rfl) rfl rfl ?_
 refine GL.y (YL.Pc (t:=45) rfl rfl rfl (by kernel_rfl) (by kernel_rfl) rfl (by decide) (Nat.succ_pos _) rfl) rfl rfl ?_
 refine GL.py (PY.same rfl (fun v w=>by rw[run_callFunc_extern Tryd.func114 (by kernel_rfl) (by kernel_rfl) (by kernel_rfl) (e:=Extern.AbiNoEscape.same) (by kernel_rfl),Lib.run_noEscape];rfl)) rfl rfl ?_
 refine GL.y (YL.LX (u:=45) rfl rfl rfl (by kernel_rfl) (by kernel_rfl) rfl hl hc0 hc rfl) rfl rfl ?_
 refine GL.py (PY.nilCheck rfl rfl) rfl rfl ?_
 refine GL.py (PY.field (sz:=1) (ht:=Tryd.underlying45) (hf:=rfl) (hx:=rfl) (hg:=rfl) (cU (by kernel_rfl)) (by decide)) rfl rfl ?_
 refine GL.e0 (W:=[1000]) (EF.za (sz:=1) rfl rfl rfl rfl rfl rfl rfl rfl (cU (by kernel_rfl)) (Nat.succ_pos _) rfl rfl) rfl ?_
 refine GL.nil ?_
 exact sJ.mk (.inr rfl) [] (.aU []) (qE bw (.loc 1000 0) n rest cells f) trivial ⟨rfl,rfl,trivial⟩ rfl ⟨rfl,rfl⟩
theorem EN {bw:TypeId}{n:Nat}{rest cells:List G}{f:Bool}:
  GM Tryd.prog 103 [.loc 1000 0] (qE bw (.loc 1000 0) n rest cells f) (fun g st=>g=.aU []∧st=qE bw (.loc 1000 0) n rest cells f):=by
 refine GM.of (N:=20) Tryd.func103 rfl rfl rfl (fun cx hro=>?_)
 change GW _ _ _ _ _ _
 refine GW.seq ?_
 refine GW.region ?_
 refine GL.py (PY.move rfl) rfl rfl ?_
 refine GL.py (PY.nilCheck rfl rfl) rfl rfl ?_
 refine GL.py (PY.field (sz:=1) (ht:=Tryd.underlying45) (hf:=rfl) (hx:=rfl) (hg:=rfl) (cU (by kernel_rfl)) (by decide)) rfl rfl ?_
 refine GL.y (YL.Ax rfl rfl rfl (ff (by kernel_rfl)) rfl rfl) rfl rfl ?_
 refine GL.py (PY.ptrEq (b:=false) (e:=45) rfl rfl (by kernel_rfl)) rfl rfl ?_
 refine GL.nil ?_
 change GW _ _ _ _ _ _
 refine GW.cond rfl (fun h=>by cases h) (fun _=>?_)
 refine GW.seq ?_
 refine GW.region ?_
 refine GL.py (PY.move rfl) rfl rfl ?_
 refine GL.py (PY.nilCheck rfl rfl) rfl rfl ?_
 refine GL.py (PY.field (sz:=1) (ht:=Tryd.underlying45) (hf:=rfl) (hx:=rfl) (hg:=rfl) (cU (by kernel_rfl)) (by decide)) rfl rfl ?_
 refine GL.y (YL.Ax rfl rfl rfl (ff (by kernel_rfl)) rfl rfl) rfl rfl ?_
 refine GL.py (PY.move rfl) rfl rfl ?_
 refine GL.py (PY.TN (e:=45) rfl rfl (by kernel_rfl) rfl) rfl rfl ?_
 refine GL.nil ?_
 change GW _ _ _ _ _ _
 refine GW.cond rfl (fun h=>by cases h) (fun _=>?_)
 refine GW.skip ?_
 exact sJ.mk (.inr rfl) [] (.aU []) (qE bw (.loc 1000 0) n rest cells f) trivial ⟨rfl,rfl,trivial⟩ rfl ⟨rfl,rfl⟩
end Go.DN
