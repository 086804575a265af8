/-
  strings.Builder within a struct: copyCheck and String, by hand.
-/
import Derived.Test.YtongekoajbcliaaGreatDoorMgH
import Derived.Test.YtongekoajbcliaaGreatDoorTgB
import Derived.Test.YtongekoajbcliaaGreatDoorProg
import Derived.Tactics
import Derived.Tactics2
import Derived.RegionTactic
import Derived.Shelf.RegionOpenPlain
import Derived.Lib.Strings
import Derived.Lib.Slices
import Derived.Lib.Walk
import Derived.Lib.UnsafeStr
import Derived.Laws.Externs
import Derived.Laws.IdiomCopy
import Derived.KernelRfl
set_option maxRecDepth 20000
set_option linter.all false
namespace Go.DN
open Go.AM Go.Proofs
abbrev rY(a:TypeId)(c0:G)(n:Nat)(rest cells:List G)(f:Bool):List (Nat×aw):=[(1000,⟨a,false,false,false,0,c0::.aN 1001 1 0 n::rest,none⟩),(1001,⟨5,true,false,f,1,cells,none⟩)]
def KP{a:TypeId}{n:Nat}{rest cells:List G}{f:Bool}(c:liesAt Tryz.prog Tryz.prog.depth a 1 0 151 1=true)(b:Tryz.prog.cellsOf a≠0)(e:Tryz.prog.cellsOf a<=rest.length+2):GM Tryz.prog 140 [.loc 1000 0] (rY a (.val (.pointer none)) n rest cells f) (fun g st=>g=.bE []/\st=rY a (.loc 1000 0) n rest cells f):=by refine GM.of (N:=20) Tryz.func140 rfl rfl rfl (fun i d=>?_);change GW _ _ _ _ _ _;refine GW.seq ?_;refine GW.region ?_;refine GL.py (PY.move rfl) rfl rfl ?_;refine GL.py (PY.nilCheck rfl rfl) rfl rfl ?_;refine GL.py (PY.field (sz:=1) (ht:=Tryz.underlying151) (hf:=rfl) (hx:=rfl) (hg:=rfl) (dG (by kernel_rfl)) (by decide)) rfl rfl ?_;refine GL.y (YL.DL rfl rfl rfl (gM (by kernel_rfl)) rfl rfl) rfl rfl ?_;refine GL.py (PY.ptrEq (b:=true) (e:=151) rfl rfl (by kernel_rfl)) rfl rfl ?_;refine GL.nil ?_;change GW _ _ _ _ _ _;refine GW.cond rfl (fun _=>?_) (fun h=>by cases h);refine GW.region ?_;refine GL.py (PY.move rfl) rfl rfl ?_;refine GL.py (PY.move rfl) rfl rfl ?_;refine GL.y (YL.UD (t:=151) rfl rfl rfl (by kernel_rfl) (by kernel_rfl) rfl (by decide) (Nat.succ_pos _) rfl) rfl rfl ?_;refine GL.py (PY.same rfl (fun v w=>by rw[run_callFunc_extern Tryz.func190 (by kernel_rfl) (by kernel_rfl) (by kernel_rfl) (e:=Extern.AbiNoEscape.same) (by kernel_rfl),Lib.run_noEscape];rfl)) rfl rfl ?_;refine GL.y (YL.Re (u:=151) rfl rfl rfl (by kernel_rfl) (by kernel_rfl) rfl c b e rfl) rfl rfl ?_;refine GL.py (PY.nilCheck rfl rfl) rfl rfl ?_;refine GL.py (PY.field (sz:=1) (ht:=Tryz.underlying151) (hf:=rfl) (hx:=rfl) (hg:=rfl) (dG (by kernel_rfl)) (by decide)) rfl rfl ?_;refine GL.e0 (W:=[1000]) (EF.LM (sz:=1) rfl rfl rfl rfl rfl rfl rfl rfl (dG (by kernel_rfl)) (Nat.succ_pos _) rfl rfl) rfl ?_;refine GL.nil ?_;exact vi.mk (.inr rfl) [] (.bE []) (rY a (.loc 1000 0) n rest cells f) trivial ⟨rfl,rfl,trivial⟩ rfl ⟨rfl,rfl⟩
def I9{a:TypeId}{n:Nat}{rest cells:List G}{f:Bool}:GM Tryz.prog 140 [.loc 1000 0] (rY a (.loc 1000 0) n rest cells f) (fun g st=>g=.bE []/\st=rY a (.loc 1000 0) n rest cells f):=by refine GM.of (N:=20) Tryz.func140 rfl rfl rfl (fun c b=>?_);change GW _ _ _ _ _ _;refine GW.seq ?_;refine GW.region ?_;refine GL.py (PY.move rfl) rfl rfl ?_;refine GL.py (PY.nilCheck rfl rfl) rfl rfl ?_;refine GL.py (PY.field (sz:=1) (ht:=Tryz.underlying151) (hf:=rfl) (hx:=rfl) (hg:=rfl) (dG (by kernel_rfl)) (by decide)) rfl rfl ?_;refine GL.y (YL.DL rfl rfl rfl (gM (by kernel_rfl)) rfl rfl) rfl rfl ?_;refine GL.py (PY.ptrEq (b:=false) (e:=151) rfl rfl (by kernel_rfl)) rfl rfl ?_;refine GL.nil ?_;change GW _ _ _ _ _ _;refine GW.cond rfl (fun h=>by cases h) (fun _=>?_);refine GW.seq ?_;refine GW.region ?_;refine GL.py (PY.move rfl) rfl rfl ?_;refine GL.py (PY.nilCheck rfl rfl) rfl rfl ?_;refine GL.py (PY.field (sz:=1) (ht:=Tryz.underlying151) (hf:=rfl) (hx:=rfl) (hg:=rfl) (dG (by kernel_rfl)) (by decide)) rfl rfl ?_;refine GL.y (YL.DL rfl rfl rfl (gM (by kernel_rfl)) rfl rfl) rfl rfl ?_;refine GL.py (PY.move rfl) rfl rfl ?_;refine GL.py (PY.Y7 (e:=151) rfl rfl (by kernel_rfl) rfl) rfl rfl ?_;refine GL.nil ?_;change GW _ _ _ _ _ _;refine GW.cond rfl (fun h=>by cases h) (fun _=>?_);refine GW.skip ?_;exact vi.mk (.inr rfl) [] (.bE []) (rY a (.loc 1000 0) n rest cells f) trivial ⟨rfl,rfl,trivial⟩ rfl ⟨rfl,rfl⟩
end Go.DN
