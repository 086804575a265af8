/-
  Each function returns what its partial function of plain data says, where that says something (printed by wip/tools/gen.py).
-/
import Derived.Test.YtongekoajbcliaaGreatDoorCcF
import Derived.Test.YtongekoajbcliaaGreatDoorProg
set_option linter.unusedSimpArgs false
namespace Go.Proofs.YtongekoajbcliaaGreatDoor
open Go.AM
set_option maxHeartbeats 4000000
set_option maxRecDepth 20000
set_option linter.unusedVariables false
theorem mixed:Tryz.prog.follows .mixedOrders=true:=by kernel_rfl
theorem Wl:(Tryz.prog.info? 3).map (fun i=>(i.zero,i.size,i.bytes))=some (some (.int .i64 0),1,8):=by kernel_rfl
theorem HE (fu:Nat) (n0:Int) (r:(List Int)) (H:F.qz fu n0=some r):GM Tryz.prog 107 [.val (.slice none 0 0),.val (.int .i64 n0)] [] (fun g st=>g=.aL 600 (aH.sz Int) 0 (List.length r)∧st=[(600,⟨3,true,true,true,aH.sz Int,cr r,none⟩)]):=by
 unfold F.qz at H
 refine GM.of (N:=27) Tryz.func107 rfl rfl rfl (fun cx hro=>?_)
 change GW _ _ _ _ _ _
 refine GW.seq ?_
 refine GW.region ?_
 refine GL.py (PY.assign rfl) rfl rfl ?_
 refine GL.nil ?_
 change GW _ _ _ _ _ _
 refine GW.seq ?_
 refine GW.seq ?_
 refine GW.region ?_
 refine GL.py (PY.move rfl) rfl rfl ?_
 refine GL.py (PY.bin rfl rfl rfl) rfl rfl ?_
 refine GL.nil ?_
 change GW _ _ _ _ _ _
 obtain⟨e2,he2,H⟩:=bind_some H
 refine GW.mono (Q:=QB .normal (fun (q:Unit)=>(⟨[(0,.val (.slice none 0 0)),(1,.val (.int .i64 n0))],[],[]⟩:St)) ()) ?_ ?_
 ·have H:=he2
  refine GW.cond rfl (fun hc1=>?_) (fun hc1=>?_)
  ·have H:=G2 hc1 H
   cases H
  ·have H:=G3 hc1 H
   refine GW.skip ?_
   cases H
   exact And.intro rfl ⟨⟨rfl,rfl,trivial⟩,trivial,rfl⟩
 ·rintro _ s2 ⟨rfl,hs⟩
  change GW _ _ _ _ _ _
  refine GW.xM _ hs ?_
  refine GW.xM ⟨[(0,.val (.slice none 0 0)),(1,.val (.int .i64 n0))],[],[]⟩ ⟨⟨rfl,rfl,trivial⟩,trivial,rfl⟩ ?_
  change GW _ _ _ _ _ _
  refine GW.seq ?_
  refine GW.seq ?_
  refine GW.region ?_
  refine GL.py (PY.move rfl) rfl rfl ?_
  refine GL.py (PY.move rfl) rfl rfl ?_
  refine GL.py (PY.Zj rfl Tryz.underlying23) rfl rfl ?_
  refine GL.py (PY.move rfl) rfl rfl ?_
  refine GL.py (PY.len rfl rfl Tryz.underlying23) rfl rfl ?_
  refine GL.py (PY.bin rfl rfl rfl) rfl rfl ?_
  refine GL.py (PY.bin rfl rfl rfl) rfl rfl ?_
  refine GL.py (PY.assign rfl) rfl rfl ?_
  refine GL.nil ?_
  change GW _ _ _ _ _ _
  refine GW.seq ?_
  refine GW.region ?_
  refine GL.py (PY.move rfl) rfl rfl ?_
  refine GL.py (PY.bin rfl rfl rfl) rfl rfl ?_
  refine GL.nil ?_
  change GW _ _ _ _ _ _
  refine GW.cond rfl (fun hc3=>?_) (fun hc3=>?_)
  ·have H:=G2 hc3 H
   obtain⟨_,hm4,H⟩:=bind_some H
   replace hm4:=cD hm4
   obtain⟨_,hs5,H⟩:=bind_some H
   replace hs5:=cD hs5
   refine GW.region ?_
   refine GL.py (PY.move rfl) rfl rfl ?_
   refine GL.py (PY.move rfl) rfl rfl ?_
   refine GL.py (PY.Zj rfl Tryz.underlying23) rfl rfl ?_
   refine GL.py (PY.Yc (α:=Int) rfl rfl Tryz.underlying23 Tryz.sizeOf3) rfl rfl ?_
   refine GL.py (PY.move rfl) rfl rfl ?_
   refine GL.e1 (W:=[]) (ET.XW (α:=Int) (x:=(0:Int)) 5 rfl rfl Tryz.underlying23 Tryz.underlying3 Wl rfl rfl rfl hm4.1 hm4.2.1 hm4.2.2 rfl) rfl rfl ?_
   refine GL.py (PY.move rfl) rfl rfl ?_
   refine GL.py (PY.len rfl rfl Tryz.underlying23) rfl rfl ?_
   refine GL.py (PY.Yb (α:=Int) rfl rfl Tryz.underlying23 Tryz.sizeOf3 hs5.1 hs5.2) rfl rfl ?_
   refine GL.Pt (α:=Int) (l:=List.replicate (Int.toNat (IntKind.i64.wrap (n0-(IntKind.i64.wrap (0-0))))) (0:Int)) 5 rfl rfl (Int.toNat 0) ?_
   refine GL.Ui 25 rfl (T0 hs5.1 hs5.2) ?_
   refine GL.py (PY.assign rfl) rfl rfl ?_
   refine GL.nil ?_
   change GW _ _ _ _ _ _
   refine GW.seq ?_
   refine GW.region ?_
   refine GL.py (PY.move rfl) rfl rfl ?_
   refine GL.py (PY.assign rfl) rfl rfl ?_
   refine GL.nil ?_
   change GW _ _ _ _ _ _
   refine GW.move 5 600 rfl rfl ?_
   refine GW.ret ?_
   have H:=dV H
   subst H
   exact uW.mk (.inl rfl) [.aL 600 (aH.sz Int) 0 (List.length (List.take (Int.toNat 0) (List.replicate (Int.toNat (IntKind.i64.wrap (n0-(IntKind.i64.wrap (0-0))))) (0:Int))))] _ [(600,⟨3,true,true,true,aH.sz Int,cr (List.take (Int.toNat 0) (List.replicate (Int.toNat (IntKind.i64.wrap (n0-(IntKind.i64.wrap (0-0))))) (0:Int))),none⟩)] ⟨uI.tmp rfl,trivial⟩ ⟨rfl,trivial⟩ rfl ⟨rfl,rfl⟩
  ·have H:=G3 hc3 H
   refine GW.skip ?_
   change GW _ _ _ _ _ _
   refine GW.seq ?_
   refine GW.region ?_
   refine GL.py (PY.move rfl) rfl rfl ?_
   refine GL.py (PY.assign rfl) rfl rfl ?_
   refine GL.nil ?_
   change GW _ _ _ _ _ _
   refine GW.pb 4 600 3 (aH.sz Int) rfl rfl ?_
   refine GW.ret ?_
   have H:=dV H
   subst H
   exact uW.mk (.inl rfl) [.aL 600 (aH.sz Int) 0 (List.length ([]:(List Int)))] _ [(600,⟨3,true,true,true,aH.sz Int,cr ([]:(List Int)),none⟩)] ⟨uI.tmp rfl,trivial⟩ ⟨rfl,trivial⟩ rfl ⟨rfl,rfl⟩
theorem Ei (fu:Nat) (slices0:(List (List Int))) (r:(List Int)) (H:F.c7 fu slices0=some r):GM Tryz.prog 70 [.sl (List.length slices0) (cr slices0)] [] (fun g st=>g=.fr (.sl (List.length r) (cr r))∧st=[]):=by
 unfold F.c7 at H
 refine GM.of (N:=36) Tryz.func70 rfl rfl rfl (fun cx hro=>?_)
 change GW _ _ _ _ _ _
 refine GW.seq ?_
 refine GW.region ?_
 refine GL.py (PY.assign rfl) rfl rfl ?_
 refine GL.nil ?_
 change GW _ _ _ _ _ _
 refine GW.seq ?_
 refine GW.region ?_
 refine GL.py (PY.assign rfl) rfl rfl ?_
 refine GL.nil ?_
 change GW _ _ _ _ _ _
 refine GW.seq ?_
 refine GW.seq ?_
 refine GW.region ?_
 refine GL.py (PY.move rfl) rfl rfl ?_
 refine GL.py (PY.len rfl rfl Tryz.underlying33) rfl rfl ?_
 refine GL.py (PY.move rfl) rfl rfl ?_
 refine GL.nil ?_
 change GW _ _ _ _ _ _
 refine GW.block ?_
 obtain⟨e3,he3,H⟩:=bind_some H
 refine GW.xM ((fun (q:Int×Int)=>(⟨[(0,.sl (List.length slices0) (cr slices0)),(3,.val (.int .i64 q.1)),(9,.sl (List.length slices0) (cr slices0)),(10,.val (.int .i64 (List.length slices0:Int))),(11,.val (.int .i64 q.2))],[],[]⟩:St)) (0,0)) ⟨⟨rfl,rfl,rfl,rfl,rfl,trivial⟩,trivial,rfl⟩ ?_
 refine GW.aP (fun (q:Int×Int)=>(⟨[(0,.sl (List.length slices0) (cr slices0)),(3,.val (.int .i64 q.1)),(9,.sl (List.length slices0) (cr slices0)),(10,.val (.int .i64 (List.length slices0:Int))),(11,.val (.int .i64 q.2))],[],[]⟩:St)) (QB (.exit 0) (fun (q:Int)=>(⟨[(0,.sl (List.length slices0) (cr slices0)),(3,.val (.int .i64 q))],[],[]⟩:St))) he3 (fun x o hb=>?_) (fun ex s2 _ hx=>?_)
 ·obtain⟨size1,i2⟩:=x
  have H:=hb
  unfold F.lH at H
  try dsimp only at H
  refine GW.xM ⟨[(0,.sl (List.length slices0) (cr slices0)),(3,.val (.int .i64 size1)),(9,.sl (List.length slices0) (cr slices0)),(10,.val (.int .i64 (List.length slices0:Int))),(11,.val (.int .i64 i2))],[],[]⟩ ⟨⟨rfl,rfl,rfl,rfl,rfl,trivial⟩,trivial,rfl⟩ ?_
  refine GW.seq ?_
  refine GW.region ?_
  refine GL.py (PY.bin rfl rfl rfl) rfl rfl ?_
  refine GL.nil ?_
  change GW _ _ _ _ _ _
  refine GW.seq ?_
  refine GW.cond rfl (fun hc1=>?_) (fun hc1=>?_)
  ·have H:=G2 hc1 H
   refine GW.skip ?_
   change GW _ _ _ _ _ _
   refine GW.seq ?_
   refine GW.block ?_
   refine GW.seq ?_
   obtain⟨x4,hx4,H⟩:=bind_some H
   refine GW.region ?_
   refine GL.py (PY.index rfl rfl rfl (pG hx4).1 (pG hx4).2.1 Tryz.underlying33 Tryz.sizeOf23) rfl rfl ?_
   refine GL.y (YT.iK (α:=(List Int)) rfl hx4 rfl Tryz.isAgg23) rfl rfl ?_
   refine GL.py (PY.assign rfl) rfl rfl ?_
   refine GL.nil ?_
   change GW _ _ _ _ _ _
   refine GW.seq ?_
   refine GW.region ?_
   refine GL.py (PY.move rfl) rfl rfl ?_
   refine GL.py (PY.move rfl) rfl rfl ?_
   refine GL.py (PY.len rfl rfl Tryz.underlying23) rfl rfl ?_
   refine GL.py (PY.bin rfl rfl rfl) rfl rfl ?_
   refine GL.py (PY.assign rfl) rfl rfl ?_
   refine GL.nil ?_
   change GW _ _ _ _ _ _
   refine GW.seq ?_
   refine GW.region ?_
   refine GL.py (PY.move rfl) rfl rfl ?_
   refine GL.py (PY.bin rfl rfl rfl) rfl rfl ?_
   refine GL.nil ?_
   change GW _ _ _ _ _ _
   refine GW.cond rfl (fun hc2=>?_) (fun hc2=>?_)
   ·have H:=G2 hc2 H
    cases H
   ·have H:=G3 hc2 H
    refine GW.skip ?_
    change GW _ _ _ _ _ _
    refine GW.region ?_
    refine GL.py (PY.bin rfl rfl rfl) rfl rfl ?_
    refine GL.py (PY.move rfl) rfl rfl ?_
    refine GL.nil ?_
    cases H
    exact And.intro rfl ⟨⟨rfl,rfl,rfl,rfl,rfl,trivial⟩,trivial,rfl⟩
  ·have H:=G3 hc1 H
   refine GW.exit ?_
   cases H
   exact And.intro O4 (And.intro rfl ⟨⟨rfl,rfl,trivial⟩,trivial,rfl⟩)
 ·obtain⟨rfl,hs⟩:=hx
  obtain⟨size3,rfl⟩:∃z,z=e3:=⟨_,rfl⟩
  change GW _ _ _ _ _ _
  refine GW.xM _ hs ?_
  refine GW.xM ⟨[(0,.sl (List.length slices0) (cr slices0)),(3,.val (.int .i64 size3))],[],[]⟩ ⟨⟨rfl,rfl,trivial⟩,trivial,rfl⟩ ?_
  change GW _ _ _ _ _ _
  refine GW.seq ?_
  obtain⟨r5,hr5,H⟩:=bind_some H
  refine GW.region ?_
  refine GL.py (PY.move rfl) rfl rfl ?_
  refine GL.e1 (EF.ZN [true,false] (s1:=⟨[(0,.sl (List.length slices0) (cr slices0)),(24,.aL 201 (aH.sz Int) 0 (List.length r5))],[(201,⟨3,true,true,true,aH.sz Int,cr r5,none⟩)],[]⟩) (W:=[]) [] false [201] Tryz.call107 rfl rfl rfl rfl (HE fu size3 r5 hr5) (by rintro _ _ ⟨rfl,rfl⟩;exact⟨_,_,rfl,rfl,⟨⟨rfl,rfl,trivial⟩,⟨rfl,trivial⟩,rfl⟩⟩) rfl) rfl rfl ?_
  refine GL.py (PY.assign rfl) rfl rfl ?_
  refine GL.nil ?_
  change GW _ _ _ _ _ _
  refine GW.seq ?_
  refine GW.seq ?_
  refine GW.region ?_
  refine GL.py (PY.move rfl) rfl rfl ?_
  refine GL.py (PY.len rfl rfl Tryz.underlying33) rfl rfl ?_
  refine GL.py (PY.move rfl) rfl rfl ?_
  refine GL.nil ?_
  change GW _ _ _ _ _ _
  refine GW.block ?_
  obtain⟨e7,he7,H⟩:=bind_some H
  refine GW.xM ((fun (q:Int×(List Int))=>(⟨[(6,.aL 201 (aH.sz Int) 0 (List.length q.2)),(25,.sl (List.length slices0) (cr slices0)),(26,.val (.int .i64 (List.length slices0:Int))),(27,.val (.int .i64 q.1))],[(201,⟨3,true,true,true,aH.sz Int,cr q.2,none⟩)],[]⟩:St)) (0,r5)) ⟨⟨rfl,rfl,rfl,rfl,trivial⟩,⟨rfl,trivial⟩,rfl⟩ ?_
  refine GW.aP (fun (q:Int×(List Int))=>(⟨[(6,.aL 201 (aH.sz Int) 0 (List.length q.2)),(25,.sl (List.length slices0) (cr slices0)),(26,.val (.int .i64 (List.length slices0:Int))),(27,.val (.int .i64 q.1))],[(201,⟨3,true,true,true,aH.sz Int,cr q.2,none⟩)],[]⟩:St)) (QB (.exit 2) (fun (q:(List Int))=>(⟨[(6,.aL 201 (aH.sz Int) 0 (List.length q))],[(201,⟨3,true,true,true,aH.sz Int,cr q,none⟩)],[]⟩:St))) he7 (fun x o hb=>?_) (fun ex s2 _ hx=>?_)
  ·obtain⟨i6,newslice7⟩:=x
   have H:=hb
   unfold F.lG at H
   try dsimp only at H
   refine GW.xM ⟨[(6,.aL 201 (aH.sz Int) 0 (List.length newslice7)),(25,.sl (List.length slices0) (cr slices0)),(26,.val (.int .i64 (List.length slices0:Int))),(27,.val (.int .i64 i6))],[(201,⟨3,true,true,true,aH.sz Int,cr newslice7,none⟩)],[]⟩ ⟨⟨rfl,rfl,rfl,rfl,trivial⟩,⟨rfl,trivial⟩,rfl⟩ ?_
   refine GW.seq ?_
   refine GW.region ?_
   refine GL.py (PY.bin rfl rfl rfl) rfl rfl ?_
   refine GL.nil ?_
   change GW _ _ _ _ _ _
   refine GW.seq ?_
   refine GW.cond rfl (fun hc4=>?_) (fun hc4=>?_)
   ·have H:=G2 hc4 H
    refine GW.skip ?_
    change GW _ _ _ _ _ _
    refine GW.seq ?_
    refine GW.block ?_
    refine GW.seq ?_
    obtain⟨x9,hx9,H⟩:=bind_some H
    refine GW.region ?_
    refine GL.py (PY.index rfl rfl rfl (pG hx9).1 (pG hx9).2.1 Tryz.underlying33 Tryz.sizeOf23) rfl rfl ?_
    refine GL.y (YT.iK (α:=(List Int)) rfl hx9 rfl Tryz.isAgg23) rfl rfl ?_
    refine GL.py (PY.assign rfl) rfl rfl ?_
    refine GL.nil ?_
    change GW _ _ _ _ _ _
    obtain⟨_,ha5,H⟩:=bind_some H
    replace ha5:=cD ha5
    refine GW.region ?_
    refine GL.py (PY.move rfl) rfl rfl ?_
    refine GL.py (PY.move rfl) rfl rfl ?_
    refine GL.e1 (ET.append (α:=Int) (m:=x9) (W:=[201]) rfl rfl rfl rfl rfl rfl rfl rfl rfl Tryz.underlying23 Wl rfl ha5.1 ha5.2 rfl) rfl rfl ?_
    refine GL.C6 (α:=Int) (l:=newslice7++x9) 201 rfl rfl rfl ?_
    refine GL.py (PY.assign rfl) rfl rfl ?_
    refine GL.nil ?_
    change GW _ _ _ _ _ _
    refine GW.region ?_
    refine GL.py (PY.bin rfl rfl rfl) rfl rfl ?_
    refine GL.py (PY.move rfl) rfl rfl ?_
    refine GL.nil ?_
    cases H
    exact And.intro rfl ⟨⟨rfl,rfl,rfl,rfl,trivial⟩,⟨rfl,trivial⟩,rfl⟩
   ·have H:=G3 hc4 H
    refine GW.exit ?_
    cases H
    exact And.intro O4 (And.intro rfl ⟨⟨rfl,trivial⟩,⟨rfl,trivial⟩,rfl⟩)
  ·obtain⟨rfl,hs⟩:=hx
   obtain⟨newslice8,rfl⟩:∃z,z=e7:=⟨_,rfl⟩
   change GW _ _ _ _ _ _
   refine GW.xM _ hs ?_
   refine GW.xM ⟨[(6,.aL 201 (aH.sz Int) 0 (List.length newslice8))],[(201,⟨3,true,true,true,aH.sz Int,cr newslice8,none⟩)],[]⟩ ⟨⟨rfl,trivial⟩,⟨rfl,trivial⟩,rfl⟩ ?_
   change GW _ _ _ _ _ _
   refine GW.seq ?_
   refine GW.region ?_
   refine GL.py (PY.move rfl) rfl rfl ?_
   refine GL.py (PY.assign rfl) rfl rfl ?_
   refine GL.nil ?_
   change GW _ _ _ _ _ _
   refine GW.ret ?_
   have H:=dV H
   subst H
   exact uW.mk (.inl rfl) [.aL 201 (aH.sz Int) 0 (List.length newslice8)] _ [] ⟨uI.tmp rfl,trivial⟩ trivial (YM (α:=Int) (l:=newslice8) rfl rfl rfl rfl rfl rfl) ⟨rfl,rfl⟩
end Go.Proofs.YtongekoajbcliaaGreatDoor
