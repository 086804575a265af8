/-
  strings.Builder within a struct: copyCheck and String, by hand.
-/
import Derived.Test.YtongekoajbcliaaGreatDoorMgH
import Derived.Test.YtongekoajbcliaaGreatDoorTgB
import Derived.Test.YtongekoajbcliaaGreatDoorProg
import Derived.Tactics
import Derived.Tactics2
import Derived.RegionTactic
import Derived.Shelf.RegionOpenPlain
import Derived.Lib.Strings
import Derived.Lib.Slices
import Derived.Lib.Walk
import Derived.Lib.UnsafeStr
import Derived.Laws.Externs
import Derived.Laws.IdiomCopy
import Derived.KernelRfl
set_option maxRecDepth 20000
set_option linter.unusedVariables false
set_option linter.unusedSimpArgs false
namespace Go.DN
open Go.AM Go.Proofs
abbrev rK (bI:TypeId) (c0:G) (n:Nat) (rest cells:List G) (f:Bool):List (Nat×av):=[(1000,⟨bI,false,false,false,0,c0::.aL 1001 1 0 n::rest,none⟩),(1001,⟨5,true,false,f,1,cells,none⟩)]
theorem Ka {bI:TypeId}{n:Nat}{rest cells:List G}{f:Bool}(hl:liesAt Tryz.prog Tryz.prog.depth bI 1 0 151 1=true) (hc0:Tryz.prog.cellsOf bI≠0) (hc:Tryz.prog.cellsOf bI≤rest.length+2):
  GM Tryz.prog 140 [.loc 1000 0] (rK bI (.val (.pointer none)) n rest cells f) (fun g st=>g=.bB []∧st=rK bI (.loc 1000 0) n rest cells f):=by
 refine GM.of (N:=20) Tryz.func140 rfl rfl rfl (fun cx hro=>?_)
 change GW _ _ _ _ _ _
 refine GW.seq ?_
 refine GW.region ?_
 refine GL.py (PY.move rfl) rfl rfl ?_
 refine GL.py (PY.nilCheck rfl rfl) rfl rfl ?_
 refine GL.py (PY.field (sz:=1) (ht:=Tryz.underlying151) (hf:=rfl) (hx:=rfl) (hg:=rfl) (dC (by kernel_rfl)) (by decide)) rfl rfl ?_
 refine GL.y (YL.Df rfl rfl rfl (gC (by kernel_rfl)) rfl rfl) rfl rfl ?_
 refine GL.py (PY.ptrEq (b:=true) (e:=151) rfl rfl (by kernel_rfl)) rfl rfl ?_
 refine GL.nil ?_
 change GW _ _ _ _ _ _
 refine GW.cond rfl (fun _=>?_) (fun h=>by cases h)
 refine GW.region ?_
 refine GL.py (PY.move rfl) rfl rfl ?_
 refine GL.py (PY.move rfl) rfl rfl ?_
 refine GL.y (YL.TW (t:=151) rfl rfl rfl (by kernel_rfl) (by kernel_rfl) rfl (by decide) (Nat.succ_pos _) rfl) rfl rfl ?_
 refine GL.py (PY.same rfl (fun v w=>by rw[run_callFunc_extern Tryz.func190 (by kernel_rfl) (by kernel_rfl) (by kernel_rfl) (e:=Extern.AbiNoEscape.same) (by kernel_rfl),Lib.run_noEscape];rfl)) rfl rfl ?_
 refine GL.y (YL.QC (u:=151) rfl rfl rfl (by kernel_rfl) (by kernel_rfl) rfl hl hc0 hc rfl) rfl rfl ?_
 refine GL.py (PY.nilCheck rfl rfl) rfl rfl ?_
 refine GL.py (PY.field (sz:=1) (ht:=Tryz.underlying151) (hf:=rfl) (hx:=rfl) (hg:=rfl) (dC (by kernel_rfl)) (by decide)) rfl rfl ?_
 refine GL.e0 (W:=[1000]) (EF.Le (sz:=1) rfl rfl rfl rfl rfl rfl rfl rfl (dC (by kernel_rfl)) (Nat.succ_pos _) rfl rfl) rfl ?_
 refine GL.nil ?_
 exact uW.mk (.inr rfl) [] (.bB []) (rK bI (.loc 1000 0) n rest cells f) trivial ⟨rfl,rfl,trivial⟩ rfl ⟨rfl,rfl⟩
theorem IB {bI:TypeId}{n:Nat}{rest cells:List G}{f:Bool}:
  GM Tryz.prog 140 [.loc 1000 0] (rK bI (.loc 1000 0) n rest cells f) (fun g st=>g=.bB []∧st=rK bI (.loc 1000 0) n rest cells f):=by
 refine GM.of (N:=20) Tryz.func140 rfl rfl rfl (fun cx hro=>?_)
 change GW _ _ _ _ _ _
 refine GW.seq ?_
 refine GW.region ?_
 refine GL.py (PY.move rfl) rfl rfl ?_
 refine GL.py (PY.nilCheck rfl rfl) rfl rfl ?_
 refine GL.py (PY.field (sz:=1) (ht:=Tryz.underlying151) (hf:=rfl) (hx:=rfl) (hg:=rfl) (dC (by kernel_rfl)) (by decide)) rfl rfl ?_
 refine GL.y (YL.Df rfl rfl rfl (gC (by kernel_rfl)) rfl rfl) rfl rfl ?_
 refine GL.py (PY.ptrEq (b:=false) (e:=151) rfl rfl (by kernel_rfl)) rfl rfl ?_
 refine GL.nil ?_
 change GW _ _ _ _ _ _
 refine GW.cond rfl (fun h=>by cases h) (fun _=>?_)
 refine GW.seq ?_
 refine GW.region ?_
 refine GL.py (PY.move rfl) rfl rfl ?_
 refine GL.py (PY.nilCheck rfl rfl) rfl rfl ?_
 refine GL.py (PY.field (sz:=1) (ht:=Tryz.underlying151) (hf:=rfl) (hx:=rfl) (hg:=rfl) (dC (by kernel_rfl)) (by decide)) rfl rfl ?_
 refine GL.y (YL.Df rfl rfl rfl (gC (by kernel_rfl)) rfl rfl) rfl rfl ?_
 refine GL.py (PY.move rfl) rfl rfl ?_
 refine GL.py (PY.Ys (e:=151) rfl rfl (by kernel_rfl) rfl) rfl rfl ?_
 refine GL.nil ?_
 change GW _ _ _ _ _ _
 refine GW.cond rfl (fun h=>by cases h) (fun _=>?_)
 refine GW.skip ?_
 exact uW.mk (.inr rfl) [] (.bB []) (rK bI (.loc 1000 0) n rest cells f) trivial ⟨rfl,rfl,trivial⟩ rfl ⟨rfl,rfl⟩
end Go.DN
