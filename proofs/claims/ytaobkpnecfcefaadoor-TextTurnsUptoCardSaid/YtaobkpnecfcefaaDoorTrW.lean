/-
  Each function does what its Lean function says.
-/
import Derived.Test.YtaobkpnecfcefaaDoorTrF
import Derived.Test.YtaobkpnecfcefaaDoorProg
import Derived.Test.YtaobkpnecfcefaaDoorTfA
import Derived.Test.YtaobkpnecfcefaaDoorTfD
import Derived.Test.YtaobkpnecfcefaaDoorTfB
import Derived.Test.YtaobkpnecfcefaaDoorTgG
import Derived.Test.YtaobkpnecfcefaaDoorTgD
import Derived.Test.YtaobkpnecfcefaaDoorTgE
import Derived.KernelRfl
set_option maxRecDepth 20000
set_option linter.unusedVariables false
set_option linter.unusedSimpArgs false
namespace Go.DN
open Go.AM
open Go.Proofs
noncomputable section
abbrev Ww:Sh:=.ab true (.int .i64)
abbrev Wx:Sh:=.ab true .bool
abbrev Wy:Sh:=.ab false (.list (.st 5))
abbrev Wz:Sh:=.ab false (.int .i64)
abbrev WA:Sh:=.ab true .str
abbrev WB:Sh:=.ab true (.list (.st 0))
abbrev WC:Sh:=.ab true (.list (.list (.int .i64)))
abbrev WD:Sh:=.ab false .str
abbrev WE:Sh:=.ab false .bool
abbrev WG:Sh:=.ab false (.list (.st 3))
theorem mixed:Tryd.prog.follows .mixedOrders=true:=by kernel_rfl
abbrev qC (fu:Nat):dC S0:=⟨51,[.ab false (.int .u8)],[],false,[(2,Wx)],[],fun q=>F.jC fu q⟩
theorem u2 (fu:Nat):bE Tryd.prog (qC fu):=bE.of (N:=5) (fu:=fu)
 (H:=[])
 (tbl:=[])
 mixed (by intro c h;cases h) Tryd.func51 Tryd.call51 rfl rfl (by kernel_rfl) (mvs:=[]) (ns:=[]) (fun q=>by kernel_rfl)
abbrev tq (fu:Nat):dC S0:=⟨50,[.loc 1000 0,.aP 51 []],[.box 69 false [WD,Wz]],false,[(4,WA)],[(1000,.box 69 false [WA,Ww])],fun q=>F.nh fu q.1 q.2⟩
theorem xb (fu:Nat):bE Tryd.prog (tq fu):=bE.of (N:=50) (fu:=fu)
 (H:=[(6,.loop ⟨[],[(1000,.box 69 false [WA,Ww])]⟩ 0 ⟨[],[(1000,.box 69 false [WA,Ww])]⟩),
  (9,.gD [] ⟨[(32,Wx)],[]⟩),
  (16,.mY [])])
 (tbl:=[qC fu])
 mixed (ae.2 ⟨u2 fu,(by intro c h;cases h)⟩) Tryd.func50 Tryd.call50 rfl rfl (by kernel_rfl) (mvs:=[]) (ns:=[]) (fun q=>by kernel_rfl)
abbrev rR (fu:Nat):dC S0:=⟨31,[.loc 1000 0],[.box 69 false [WD,Wz]],false,[],[(1000,.box 69 false [WA,Ww])],fun q=>F.je fu q.1 q.2⟩
theorem wC (fu:Nat):bE Tryd.prog (rR fu):=bE.of (N:=37) (fu:=fu)
 (H:=[(1,.fN ⟨[],[(1000,.box 69 false [WA,Ww])]⟩ 0 ⟨[],[(1000,.box 69 false [WA,Ww])]⟩),
  (4,.mY []),
  (10,.mY []),
  (15,.join ⟨[(21,Wx)],[]⟩),
  (19,.join ⟨[(21,Wx)],[]⟩),
  (23,.join ⟨[(21,Wx)],[]⟩),
  (26,.oc ⟨[],[(1000,.box 69 false [WA,Ww])]⟩)])
 (tbl:=[tq fu])
 mixed (ae.2 ⟨xb fu,(by intro c h;cases h)⟩) Tryd.func31 Tryd.call31 rfl rfl (by kernel_rfl) (mvs:=[]) (ns:=[]) (fun q=>by kernel_rfl)
abbrev nN (fu:Nat):dC S0:=⟨52,[.ab false (.int .u8)],[],false,[(2,Wx)],[],fun q=>F.k8 fu q⟩
theorem nt (fu:Nat):bE Tryd.prog (nN fu):=bE.of (N:=21) (fu:=fu)
 (H:=[(3,.gD [] ⟨[(2,Wx)],[]⟩)])
 (tbl:=[])
 mixed (by intro c h;cases h) Tryd.func52 Tryd.call52 rfl rfl (by kernel_rfl) (mvs:=[]) (ns:=[]) (fun q=>by kernel_rfl)
abbrev mS (fu:Nat):dC S0:=⟨54,[.ab false (.int .u8)],[],false,[(2,Wx)],[],fun q=>F.kW fu q⟩
theorem mg (fu:Nat):bE Tryd.prog (mS fu):=bE.of (N:=9) (fu:=fu)
 (H:=[(3,.gD [] ⟨[(2,Wx)],[]⟩)])
 (tbl:=[])
 mixed (by intro c h;cases h) Tryd.func54 Tryd.call54 rfl rfl (by kernel_rfl) (mvs:=[]) (ns:=[]) (fun q=>by kernel_rfl)
abbrev rQ (fu:Nat):dC S0:=⟨53,[.ab false (.int .u8)],[],false,[(2,Wx)],[],fun q=>F.kQ fu q⟩
theorem wB (fu:Nat):bE Tryd.prog (rQ fu):=bE.of (N:=9) (fu:=fu)
 (H:=[(3,.gD [] ⟨[(2,Wx)],[]⟩)])
 (tbl:=[nN fu,mS fu])
 mixed (ae.2 ⟨nt fu,ae.2 ⟨mg fu,(by intro c h;cases h)⟩⟩) Tryd.func53 Tryd.call53 rfl rfl (by kernel_rfl) (mvs:=[]) (ns:=[]) (fun q=>by kernel_rfl)
abbrev rG (fu:Nat):dC S0:=⟨50,[.loc 1000 0,.aP 53 []],[.box 69 false [WD,Wz]],false,[(4,WA)],[(1000,.box 69 false [WA,Ww])],fun q=>F.lU fu q.1 q.2⟩
theorem vm (fu:Nat):bE Tryd.prog (rG fu):=bE.of (N:=50) (fu:=fu)
 (H:=[(6,.loop ⟨[],[(1000,.box 69 false [WA,Ww])]⟩ 0 ⟨[],[(1000,.box 69 false [WA,Ww])]⟩),
  (9,.gD [] ⟨[(32,Wx)],[]⟩),
  (16,.mY [])])
 (tbl:=[rQ fu])
 mixed (ae.2 ⟨wB fu,(by intro c h;cases h)⟩) Tryd.func50 Tryd.call50 rfl rfl (by kernel_rfl) (mvs:=[]) (ns:=[]) (fun q=>by kernel_rfl)
abbrev rP (fu:Nat):dC S0:=⟨55,[.ab false (.int .u8)],[],false,[(2,Wx)],[],fun q=>F.kP fu q⟩
theorem wA (fu:Nat):bE Tryd.prog (rP fu):=bE.of (N:=9) (fu:=fu)
 (H:=[(3,.gD [] ⟨[(2,Wx)],[]⟩)])
 (tbl:=[nN fu,mS fu])
 mixed (ae.2 ⟨nt fu,ae.2 ⟨mg fu,(by intro c h;cases h)⟩⟩) Tryd.func55 Tryd.call55 rfl rfl (by kernel_rfl) (mvs:=[]) (ns:=[]) (fun q=>by kernel_rfl)
abbrev rF (fu:Nat):dC S0:=⟨50,[.loc 1000 0,.aP 55 []],[.box 69 false [WD,Wz]],false,[(4,WA)],[(1000,.box 69 false [WA,Ww])],fun q=>F.lT fu q.1 q.2⟩
theorem vk (fu:Nat):bE Tryd.prog (rF fu):=bE.of (N:=50) (fu:=fu)
 (H:=[(6,.loop ⟨[],[(1000,.box 69 false [WA,Ww])]⟩ 0 ⟨[],[(1000,.box 69 false [WA,Ww])]⟩),
  (9,.gD [] ⟨[(32,Wx)],[]⟩),
  (16,.mY [])])
 (tbl:=[rP fu])
 mixed (ae.2 ⟨wA fu,(by intro c h;cases h)⟩) Tryd.func50 Tryd.call50 rfl rfl (by kernel_rfl) (mvs:=[]) (ns:=[]) (fun q=>by kernel_rfl)
abbrev jL (fu:Nat):eW S0:=OD S0
theorem fR (fu:Nat):bH Tryd.prog (jL fu):=OC
abbrev Ca (fu:Nat):dC S0:=KC S0
theorem A7 (fu:Nat):bE Tryd.prog (Ca fu):=Mn
abbrev tP (fu:Nat):eW S0:=⟨32,[.loc 1000 0],[.box 69 false [WD,Wz]],false,[(2,.ab true (.st 5))],[(1000,.box 69 false [WA,Ww])],[(1000,.box 69 false [WA,Ww])],92,fun q=>F.lW fu q.1 q.2⟩
theorem yB (fu:Nat):bH Tryd.prog (tP fu):=bH.of (N:=103) (fu:=fu)
 (H:=[(23,.fN ⟨[(33,Ww)],[]⟩ 1 ⟨[],[]⟩),
  (42,.gD [] ⟨[(51,Wx)],[]⟩),
  (65,.join ⟨[(67,Wx)],[]⟩),
  (69,.join ⟨[(67,Wx)],[]⟩),
  (73,.join ⟨[(67,Wx)],[]⟩),
  (77,.join ⟨[(67,Wx)],[]⟩),
  (81,.join ⟨[(67,Wx)],[]⟩),
  (85,.join ⟨[(67,Wx)],[]⟩),
  (89,.join ⟨[(67,Wx)],[]⟩),
  (93,.join ⟨[(67,Wx)],[]⟩),
  (97,.join ⟨[(67,Wx)],[]⟩),
  (101,.join ⟨[(67,Wx)],[]⟩),
  (105,.join ⟨[(67,Wx)],[]⟩),
  (109,.join ⟨[(67,Wx)],[]⟩),
  (116,.mY [2])])
 (cl:=(nL (lm [rG fu,rF fu,nN fu,mS fu,Ca fu] []) [jL fu])) (tblD:=[])
 mixed (fQ (ej (ae.2 ⟨vm fu,ae.2 ⟨vk fu,ae.2 ⟨nt fu,ae.2 ⟨mg fu,ae.2 ⟨A7 fu,(by intro c h;cases h)⟩⟩⟩⟩⟩)) (ae.2 ⟨fR fu,(by intro c h;cases h)⟩)) (by intro c h;cases h) Tryd.func32 Tryd.call32 rfl rfl (by kernel_rfl) (by kernel_rfl) (mvs:=[]) (fun q=>by kernel_rfl)
abbrev FM (fu:Nat):kO S0:=IW S0
theorem IV (fu:Nat):ja Tryd.prog 92 (FM fu):=Jo
abbrev vZ (fu:Nat):kO S0:=⟨28,[.loc 1000 0,.loc 1001 0],[.box 29 false [Wz,Wz],.box 27 false [.own 1002 (.st 5)],.arr 40 false false (.st 5)],false,[(1000,.box 29 false [Ww,Ww]),(1001,.box 27 false [.own 482 (.st 5)]),(482,.arr 40 false false (.st 5))],false,fun m q=>F.lJ fu q.1 q.2.1 q.2.2⟩
theorem zU (fu:Nat):ja Tryd.prog 92 (vZ fu):=ja.of (N:=5) (fu:=fu)
 (H:=[(2,.join ⟨[],[(1001,.box 27 false [.own 482 (.st 5)]),(482,.arr 40 false false (.st 5))]⟩)])
 (cl:=(lm [] []))
 mixed (ej (by intro c h;cases h)) Tryd.func28 Tryd.call28 rfl rfl (by kernel_rfl) (mvs:=[1002]) (fun m q=>by kernel_rfl)
abbrev DK (fu:Nat):eW S0:=⟨11,[WD],[],false,[(2,Wy),(3,.ab true (.st 6))],[],[],92,fun q=>F.tB fu q⟩
theorem zT (fu:Nat):bH Tryd.prog (DK fu):=bH.of (N:=26) (fu:=fu)
 (H:=[(20,.fN ⟨[],[(4,.box 69 true [WA,Ww]),(2,.box 27 true [.own 420 (.st 5)]),(420,.arr 40 true true (.st 5))]⟩ 0 ⟨[],[(4,.box 69 true [WA,Ww]),(2,.box 27 true [.own 420 (.st 5)]),(420,.arr 40 true true (.st 5))]⟩),
  (29,.mY [4,23,2,420]),
  (32,.gD [2,3] ⟨[],[(2,.box 27 true [.own 420 (.st 5)]),(3,.box 29 true [Ww,Ww])]⟩)])
 (cl:=(nL (lm [rR fu] []) [tP fu])) (tblD:=[FM fu,vZ fu])
 mixed (fQ (ej (ae.2 ⟨wC fu,(by intro c h;cases h)⟩)) (ae.2 ⟨yB fu,(by intro c h;cases h)⟩)) (ae.2 ⟨IV fu,ae.2 ⟨zU fu,(by intro c h;cases h)⟩⟩) Tryd.func11 Tryd.call11 rfl rfl (by kernel_rfl) (by kernel_rfl) (mvs:=[]) (fun q=>by kernel_rfl)
abbrev tI (fu:Nat):dC S0:=⟨11,[WD],[],false,[(2,Wy),(3,.ab true (.st 6))],[],fun q=>F.mn fu q⟩
theorem u4 (fu:Nat):bE Tryd.prog (tI fu):=bH.zS (zT fu) fun q r h=>Be h
abbrev rS (fu:Nat):dC S0:=⟨17,[],[],false,[(0,Wx)],[],fun q=>F.mD fu⟩
theorem wD (fu:Nat):bE Tryd.prog (rS fu):=bE.of (N:=15) (fu:=fu)
 (H:=[(5,.gD [] ⟨[(0,Wx)],[]⟩)])
 (tbl:=[tI fu])
 mixed (ae.2 ⟨u4 fu,(by intro c h;cases h)⟩) Tryd.func17 Tryd.call17 rfl rfl (by kernel_rfl) (mvs:=[]) (ns:=[]) (fun q=>by kernel_rfl)
abbrev KD (fu:Nat):dC S0:=FL S0
theorem Mo (fu:Nat):bE Tryd.prog (KD fu):=IU
abbrev mA (fu:Nat):dC S0:=⟨90,[.loc 1000 0,WD],[.box 47 false [.bT 1000 0,.own 1001 (.int .u8),Wz,WE],.arr 5 false false (.int .u8)],false,[(4,Ww),(5,.any)],[(1000,.box 47 false [.loc 1000 0,.own 481 (.int .u8),Ww,Wx]),(481,.arr 5 false true (.int .u8))],fun q=>F.gS fu q.1 q.2.1 q.2.2.1 q.2.2.2.1 q.2.2.2.2⟩
theorem qc (fu:Nat):bE Tryd.prog (mA fu):=bE.of (N:=19) (fu:=fu)
 (H:=[])
 (tbl:=[KD fu])
 mixed (ae.2 ⟨Mo fu,(by intro c h;cases h)⟩) Tryd.func90 Tryd.call90 rfl rfl (by kernel_rfl) (mvs:=[1001]) (ns:=[]) (fun q=>by kernel_rfl)
abbrev eO (fu:Nat):dC S0:=⟨68,[.loc 1000 0,.ab false (.list .str)],[.box 47 false [.bT 1000 0,.own 1001 (.int .u8),Wz,WE],.arr 5 false false (.int .u8)],true,[],[(1000,.box 47 false [.bT 1000 0,.own 481 (.int .u8),Ww,Wx]),(481,.arr 5 false true (.int .u8))],fun q=>F.bl fu q.1 q.2.1 q.2.2.1 q.2.2.2.1 q.2.2.2.2⟩
theorem ep (fu:Nat):bE Tryd.prog (eO fu):=bE.of (N:=18) (fu:=fu)
 (H:=[(3,.loop ⟨[(8,Ww)],[(1000,.box 47 false [.bT 1000 0,.own 481 (.int .u8),Ww,Wx]),(481,.arr 5 false true (.int .u8))]⟩ 0 ⟨[],[(1000,.box 47 false [.bT 1000 0,.own 481 (.int .u8),Ww,Wx]),(481,.arr 5 false true (.int .u8))]⟩)])
 (tbl:=[mA fu])
 mixed (ae.2 ⟨qc fu,(by intro c h;cases h)⟩) Tryd.func68 Tryd.call68 rfl rfl (by kernel_rfl) (mvs:=[1001]) (ns:=[]) (fun q=>by kernel_rfl)
abbrev xc (fu:Nat):dC S0:=⟨100,[WD],[],false,[(2,Wx)],[],fun q=>F.qI fu q⟩
theorem AO (fu:Nat):bE Tryd.prog (xc fu):=bE.of (N:=10) (fu:=fu)
 (H:=[(9,.join ⟨[(4,Wx)],[]⟩),
  (13,.join ⟨[(4,Wx)],[]⟩),
  (17,.join ⟨[(4,Wx)],[]⟩),
  (21,.join ⟨[(4,Wx)],[]⟩)])
 (tbl:=[])
 mixed (by intro c h;cases h) Tryd.func100 Tryd.call100 rfl rfl (by kernel_rfl) (mvs:=[]) (ns:=[]) (fun q=>by kernel_rfl)
abbrev qb (fu:Nat):dC S0:=⟨77,[WD],[],false,[(2,Wx)],[],fun q=>F.jF fu q⟩
theorem rO (fu:Nat):bE Tryd.prog (qb fu):=bE.of (N:=34) (fu:=fu)
 (H:=[(4,.gD [] ⟨[(15,Wx)],[]⟩),
  (14,.fN ⟨[(2,Wx),(18,Ww)],[]⟩ 0 ⟨[],[]⟩),
  (26,.gD [] ⟨[(32,Wx)],[]⟩)])
 (tbl:=[nN fu,xc fu,mS fu])
 mixed (ae.2 ⟨nt fu,ae.2 ⟨AO fu,ae.2 ⟨mg fu,(by intro c h;cases h)⟩⟩⟩) Tryd.func77 Tryd.call77 rfl rfl (by kernel_rfl) (mvs:=[]) (ns:=[]) (fun q=>by kernel_rfl)
abbrev iy (fu:Nat):eW S0:=⟨69,[.loc 1000 0,WD],[.box 47 false [.bT 1000 0,.own 1001 (.int .u8),Wz,WE],.arr 5 false false (.int .u8)],false,[],[(1000,.box 47 false [.bT 1000 0,.own 481 (.int .u8),Ww,Wx]),(481,.arr 5 false true (.int .u8))],[(1000,.box 47 false [.bT 1000 0,.own 481 (.int .u8),Ww,Wx]),(481,.arr 5 false true (.int .u8))],92,fun q=>F.ey fu q.1 q.2.1 q.2.2.1 q.2.2.2.1 q.2.2.2.2⟩
theorem ix (fu:Nat):bH Tryd.prog (iy fu):=bH.of (N:=12) (fu:=fu)
 (H:=[])
 (cl:=(nL (lm [eO fu,qb fu] []) [jL fu])) (tblD:=[])
 mixed (fQ (ej (ae.2 ⟨ep fu,ae.2 ⟨rO fu,(by intro c h;cases h)⟩⟩)) (ae.2 ⟨fR fu,(by intro c h;cases h)⟩)) (by intro c h;cases h) Tryd.func69 Tryd.call69 rfl rfl (by kernel_rfl) (by kernel_rfl) (mvs:=[1001]) (fun q=>by kernel_rfl)
abbrev OB (fu:Nat):dC S0:=Ry S0
theorem OA (fu:Nat):bE Tryd.prog (OB fu):=QE
abbrev iX (fu:Nat):eW S0:=⟨91,[.loc 1000 0,Wz],[.box 47 false [.bT 1000 0,.own 1001 (.int .u8),Wz,WE],.arr 5 false false (.int .u8)],false,[],[(1000,.box 47 false [.bT 1000 0,.own 481 (.int .u8),Ww,Wx]),(481,.arr 5 false true (.int .u8))],[(1000,.box 47 false [.bT 1000 0,.own 481 (.int .u8),Ww,Wx]),(481,.arr 5 false true (.int .u8))],92,fun q=>F.ga fu q.1 q.2.1 q.2.2.1 q.2.2.2.1 q.2.2.2.2⟩
theorem jq (fu:Nat):bH Tryd.prog (iX fu):=bH.of (N:=12) (fu:=fu)
 (H:=[])
 (cl:=(nL (lm [eO fu,OB fu] []) [jL fu])) (tblD:=[])
 mixed (fQ (ej (ae.2 ⟨ep fu,ae.2 ⟨OA fu,(by intro c h;cases h)⟩⟩)) (ae.2 ⟨fR fu,(by intro c h;cases h)⟩)) (by intro c h;cases h) Tryd.func91 Tryd.call91 rfl rfl (by kernel_rfl) (by kernel_rfl) (mvs:=[1001]) (fun q=>by kernel_rfl)
abbrev n4 (fu:Nat):eW S0:=⟨70,[.loc 1000 0,.ab false (.list (.st 0))],[.box 47 false [.bT 1000 0,.own 1001 (.int .u8),Wz,WE],.arr 5 false false (.int .u8)],false,[],[(1000,.box 47 false [.bT 1000 0,.own 481 (.int .u8),Ww,Wx]),(481,.arr 5 false true (.int .u8))],[(1000,.box 47 false [.bT 1000 0,.own 481 (.int .u8),Ww,Wx]),(481,.arr 5 false true (.int .u8))],92,fun q=>F.jc fu q.1 q.2.1 q.2.2.1 q.2.2.2.1 q.2.2.2.2⟩
theorem pM (fu:Nat):bH Tryd.prog (n4 fu):=bH.of (N:=42) (fu:=fu)
 (H:=[(6,.fN ⟨[(11,Ww)],[(1000,.box 47 false [.bT 1000 0,.own 481 (.int .u8),Ww,Wx]),(481,.arr 5 false true (.int .u8))]⟩ 0 ⟨[],[(1000,.box 47 false [.bT 1000 0,.own 481 (.int .u8),Ww,Wx]),(481,.arr 5 false true (.int .u8))]⟩),
  (20,.join ⟨[],[(1000,.box 47 false [.bT 1000 0,.own 481 (.int .u8),Ww,Wx]),(481,.arr 5 false true (.int .u8))]⟩),
  (26,.oc ⟨[],[(1000,.box 47 false [.bT 1000 0,.own 481 (.int .u8),Ww,Wx]),(481,.arr 5 false true (.int .u8))]⟩)])
 (cl:=(nL (lm [eO fu] []) [iX fu,iy fu,jL fu])) (tblD:=[])
 mixed (fQ (ej (ae.2 ⟨ep fu,(by intro c h;cases h)⟩)) (ae.2 ⟨jq fu,ae.2 ⟨ix fu,ae.2 ⟨fR fu,(by intro c h;cases h)⟩⟩⟩)) (by intro c h;cases h) Tryd.func70 Tryd.call70 rfl rfl (by kernel_rfl) (by kernel_rfl) (mvs:=[1001]) (fun q=>by kernel_rfl)
abbrev u3 (fu:Nat):dC S0:=⟨93,[.ab false (.st 2)],[],false,[(2,Wx)],[],fun q=>F.qJ fu q⟩
theorem vY (fu:Nat):bE Tryd.prog (u3 fu):=bE.of (N:=71) (fu:=fu)
 (H:=[(8,.gD [] ⟨[(7,Wx)],[]⟩),
  (9,.join ⟨[(7,Wx)],[]⟩),
  (12,.gD [] ⟨[(7,Wx)],[]⟩),
  (13,.join ⟨[(7,Wx)],[]⟩),
  (15,.gD [] ⟨[(7,Wx)],[]⟩),
  (22,.gD [] ⟨[(31,Wx)],[]⟩),
  (23,.join ⟨[(31,Wx)],[]⟩),
  (25,.gD [] ⟨[(31,Wx)],[]⟩),
  (38,.join ⟨[(55,Wx)],[]⟩),
  (48,.join ⟨[(62,Wx)],[]⟩),
  (52,.join ⟨[(62,Wx)],[]⟩)])
 (tbl:=[])
 mixed (by intro c h;cases h) Tryd.func93 Tryd.call93 rfl rfl (by kernel_rfl) (mvs:=[]) (ns:=[]) (fun q=>by kernel_rfl)
abbrev rA (fu:Nat):kO S0:=⟨92,[.loc 1000 0],[.box 84 false [.loc 1001 0],.box 47 false [.bT 1001 0,.own 1002 (.int .u8),Wz,WE],.arr 5 false false (.int .u8)],false,[(1000,.box 84 false [.loc 1001 0]),(1001,.box 47 false [.bT 1001 0,.own 1002 (.int .u8),Ww,Wx]),(1002,.arr 5 false true (.int .u8))],false,fun m q=>F.cL fu q.1 q.2.1 q.2.2.1 q.2.2.2⟩
theorem ve (fu:Nat):ja Tryd.prog 92 (rA fu):=ja.of (N:=8) (fu:=fu)
 (H:=[])
 (cl:=(lm [] []))
 mixed (ej (by intro c h;cases h)) Tryd.func92 Tryd.call92 rfl rfl (by kernel_rfl) (mvs:=[]) (fun m q=>by kernel_rfl)
abbrev rB (fu:Nat):dC S0:=⟨105,[.ab false (.st 2)],[],false,[(2,Ww)],[],fun q=>F.nE fu q⟩
theorem tp (fu:Nat):bE Tryd.prog (rB fu):=bE.of (N:=20) (fu:=fu)
 (H:=[(5,.gD [] ⟨[(3,Wx)],[]⟩)])
 (tbl:=[])
 mixed (by intro c h;cases h) Tryd.func105 Tryd.call105 rfl rfl (by kernel_rfl) (mvs:=[]) (ns:=[]) (fun q=>by kernel_rfl)
abbrev jD (self:ai→Bool→Int→Bool→(List Int)→Option ((Bool×Int×Bool×(List Int))⊕((Int×Int)×(Bool×Int×Bool×(List Int))))):eW S0:=⟨71,[.loc 1000 0,.ab false (.st 2)],[.box 47 false [.bT 1000 0,.own 1001 (.int .u8),Wz,WE],.arr 5 false false (.int .u8)],false,[],[(1000,.box 47 false [.bT 1000 0,.own 481 (.int .u8),Ww,Wx]),(481,.arr 5 false true (.int .u8))],[(1000,.box 47 false [.bT 1000 0,.own 481 (.int .u8),Ww,Wx]),(481,.arr 5 false true (.int .u8))],92,fun q=>self q.1 q.2.1 q.2.2.1 q.2.2.2.1 q.2.2.2.2⟩
abbrev tj (self:ai→Bool→Int→Bool→(List Int)→Option ((Bool×Int×Bool×(List Int))⊕((Int×Int)×(Bool×Int×Bool×(List Int))))) (fu:Nat):eW S0:=⟨107,[.loc 1000 0,.ab false (.st 2)],[.box 47 false [.bT 1000 0,.own 1001 (.int .u8),Wz,WE],.arr 5 false false (.int .u8)],false,[],[(1000,.box 47 false [.bT 1000 0,.own 481 (.int .u8),Ww,Wx]),(481,.arr 5 false true (.int .u8))],[(1000,.box 47 false [.bT 1000 0,.own 481 (.int .u8),Ww,Wx]),(481,.arr 5 false true (.int .u8))],92,fun q=>F.nf self fu q.1 q.2.1 q.2.2.1 q.2.2.2.1 q.2.2.2.2⟩
theorem xa (self:ai→Bool→Int→Bool→(List Int)→Option ((Bool×Int×Bool×(List Int))⊕((Int×Int)×(Bool×Int×Bool×(List Int))))) (hs:bH Tryd.prog (jD self)) (fu:Nat):bH Tryd.prog (tj self fu):=bH.of (N:=73) (fu:=fu)
 (H:=[(7,.oc ⟨[],[(1000,.box 47 false [.bT 1000 0,.own 481 (.int .u8),Ww,Wx]),(481,.arr 5 false true (.int .u8))]⟩),
  (14,.fN ⟨[(23,Ww)],[(1000,.box 47 false [.bT 1000 0,.own 481 (.int .u8),Ww,Wx]),(481,.arr 5 false true (.int .u8))]⟩ 0 ⟨[],[(1000,.box 47 false [.bT 1000 0,.own 481 (.int .u8),Ww,Wx]),(481,.arr 5 false true (.int .u8))]⟩),
  (31,.fN ⟨[(32,Ww)],[(1000,.box 47 false [.bT 1000 0,.own 481 (.int .u8),Ww,Wx]),(481,.arr 5 false true (.int .u8))]⟩ 2 ⟨[],[(1000,.box 47 false [.bT 1000 0,.own 481 (.int .u8),Ww,Wx]),(481,.arr 5 false true (.int .u8))]⟩),
  (45,.join ⟨[],[(1000,.box 47 false [.bT 1000 0,.own 481 (.int .u8),Ww,Wx]),(481,.arr 5 false true (.int .u8))]⟩),
  (58,.fN ⟨[(56,Ww)],[(1000,.box 47 false [.bT 1000 0,.own 481 (.int .u8),Ww,Wx]),(481,.arr 5 false true (.int .u8))]⟩ 4 ⟨[],[(1000,.box 47 false [.bT 1000 0,.own 481 (.int .u8),Ww,Wx]),(481,.arr 5 false true (.int .u8))]⟩),
  (72,.join ⟨[],[(1000,.box 47 false [.bT 1000 0,.own 481 (.int .u8),Ww,Wx]),(481,.arr 5 false true (.int .u8))]⟩)])
 (cl:=(nL (lm [eO fu] []) [iy fu,n4 fu,iX fu,jD self])) (tblD:=[])
 mixed (fQ (ej (ae.2 ⟨ep fu,(by intro c h;cases h)⟩)) (ae.2 ⟨ix fu,ae.2 ⟨pM fu,ae.2 ⟨jq fu,ae.2 ⟨hs,(by intro c h;cases h)⟩⟩⟩⟩)) (by intro c h;cases h) Tryd.func107 Tryd.call107 rfl rfl (by kernel_rfl) (by kernel_rfl) (mvs:=[1001]) (fun q=>by kernel_rfl)
abbrev n3 (self:ai→Int→Int→Bool→Int→Bool→(List Int)→Option ((Bool×Int×Bool×(List Int))⊕((Int×Int)×(Bool×Int×Bool×(List Int))))):eW S0:=⟨94,[.loc 1000 0,.ab false (.st 2),Wz,Wz],[.box 47 false [.bT 1000 0,.own 1001 (.int .u8),Wz,WE],.arr 5 false false (.int .u8)],false,[],[(1000,.box 47 false [.bT 1000 0,.own 481 (.int .u8),Ww,Wx]),(481,.arr 5 false true (.int .u8))],[(1000,.box 47 false [.bT 1000 0,.own 481 (.int .u8),Ww,Wx]),(481,.arr 5 false true (.int .u8))],92,fun q=>self q.1 q.2.1 q.2.2.1 q.2.2.2.1 q.2.2.2.2.1 q.2.2.2.2.2.1 q.2.2.2.2.2.2⟩
abbrev tO (self:ai→Int→Int→Bool→Int→Bool→(List Int)→Option ((Bool×Int×Bool×(List Int))⊕((Int×Int)×(Bool×Int×Bool×(List Int))))) (fu:Nat):eW S0:=⟨106,[.loc 1000 0,.ab false (.st 2),Wz,Wz],[.box 47 false [.bT 1000 0,.own 1001 (.int .u8),Wz,WE],.arr 5 false false (.int .u8)],false,[],[(1000,.box 47 false [.bT 1000 0,.own 481 (.int .u8),Ww,Wx]),(481,.arr 5 false true (.int .u8))],[(1000,.box 47 false [.bT 1000 0,.own 481 (.int .u8),Ww,Wx]),(481,.arr 5 false true (.int .u8))],92,fun q=>F.n7 self fu q.1 q.2.1 q.2.2.1 q.2.2.2.1 q.2.2.2.2.1 q.2.2.2.2.2.1 q.2.2.2.2.2.2⟩
theorem yA (self:ai→Int→Int→Bool→Int→Bool→(List Int)→Option ((Bool×Int×Bool×(List Int))⊕((Int×Int)×(Bool×Int×Bool×(List Int))))) (hs:bH Tryd.prog (n3 self)) (fu:Nat):bH Tryd.prog (tO self fu):=bH.of (N:=64) (fu:=fu)
 (H:=[(4,.gD [] ⟨[(21,Wx)],[]⟩),
  (9,.gD [] ⟨[],[(1000,.box 47 false [.bT 1000 0,.own 481 (.int .u8),Ww,Wx])]⟩),
  (15,.join ⟨[(8,Ww)],[]⟩)])
 (cl:=(nL (lm [eO fu,rB fu] []) [n3 self,jL fu])) (tblD:=[])
 mixed (fQ (ej (ae.2 ⟨ep fu,ae.2 ⟨tp fu,(by intro c h;cases h)⟩⟩)) (ae.2 ⟨hs,ae.2 ⟨fR fu,(by intro c h;cases h)⟩⟩)) (by intro c h;cases h) Tryd.func106 Tryd.call106 rfl rfl (by kernel_rfl) (by kernel_rfl) (mvs:=[1001]) (fun q=>by kernel_rfl)
abbrev tg (self:ai→Bool→Int→Bool→(List Int)→Option ((Bool×Int×Bool×(List Int))⊕((Int×Int)×(Bool×Int×Bool×(List Int))))) (fu:Nat):eW S0:=n3 (F.ea self fu)
theorem qx (self:ai→Bool→Int→Bool→(List Int)→Option ((Bool×Int×Bool×(List Int))⊕((Int×Int)×(Bool×Int×Bool×(List Int))))) (hs:bH Tryd.prog (jD self)):∀fu:Nat,bH Tryd.prog (tg self fu)
 | 0=>⟨Tryd.call94,fun q r h=>nomatch (show(none:Option _)=some r from h)⟩
 | fu+1=>bH.of (N:=51) (fu:=fu+1)
   (H:=[(27,.oc ⟨[],[(1000,.box 47 false [.bT 1000 0,.own 481 (.int .u8),Ww,Wx]),(481,.arr 5 false true (.int .u8))]⟩),
    (31,.oc ⟨[],[(1000,.box 47 false [.bT 1000 0,.own 481 (.int .u8),Ww,Wx]),(481,.arr 5 false true (.int .u8))]⟩),
    (35,.oc ⟨[],[(1000,.box 47 false [.bT 1000 0,.own 481 (.int .u8),Ww,Wx]),(481,.arr 5 false true (.int .u8))]⟩)])
   (cl:=(nL (lm [eO (fu+1),u3 (fu+1),rB (fu+1)] []) [jD self,iX (fu+1),iy (fu+1),tO (F.ea self fu) (fu+1),tj self (fu+1),jL (fu+1)])) (tblD:=[])
   mixed (fQ (ej (ae.2 ⟨ep (fu+1),ae.2 ⟨vY (fu+1),ae.2 ⟨tp (fu+1),(by intro c h;cases h)⟩⟩⟩)) (ae.2 ⟨hs,ae.2 ⟨jq (fu+1),ae.2 ⟨ix (fu+1),ae.2 ⟨yA (F.ea self fu) (qx self hs fu) (fu+1),ae.2 ⟨xa self hs (fu+1),ae.2 ⟨fR (fu+1),(by intro c h;cases h)⟩⟩⟩⟩⟩⟩)) (by intro c h;cases h) Tryd.func94 Tryd.call94 rfl rfl (by kernel_rfl) (by kernel_rfl) (mvs:=[1001]) (fun q=>by kernel_rfl)
abbrev oP (fu:Nat):eW S0:=jD (F.cq fu)
theorem mQ:∀fu:Nat,bH Tryd.prog (oP fu)
 | 0=>⟨Tryd.call71,fun q r h=>nomatch (show(none:Option _)=some r from h)⟩
 | fu+1=>bH.of (N:=96) (fu:=fu+1)
   (H:=[(13,.gD [1000] ⟨[],[(1000,.box 47 false [.bT 1000 0,.own 481 (.int .u8),Ww,Wx])]⟩),
    (19,.oc ⟨[],[(1000,.box 47 false [.bT 1000 0,.own 481 (.int .u8),Ww,Wx]),(481,.arr 5 false true (.int .u8))]⟩),
    (27,.mY [1000,481]),
    (30,.mY [1000,481]),
    (33,.oc ⟨[],[(1000,.box 47 false [.bT 1000 0,.own 481 (.int .u8),Ww,Wx]),(481,.arr 5 false true (.int .u8))]⟩),
    (45,.mY [1000,481]),
    (48,.mY [1000,481])])
   (cl:=(nL (lm [eO (fu+1),u3 (fu+1)] []) [iy (fu+1),oP fu,iX (fu+1),tg (F.cq fu) (fu+1),jL (fu+1)])) (tblD:=[rA (fu+1)])
   mixed (fQ (ej (ae.2 ⟨ep (fu+1),ae.2 ⟨vY (fu+1),(by intro c h;cases h)⟩⟩)) (ae.2 ⟨ix (fu+1),ae.2 ⟨mQ fu,ae.2 ⟨jq (fu+1),ae.2 ⟨qx (F.cq fu) (mQ fu) (fu+1),ae.2 ⟨fR (fu+1),(by intro c h;cases h)⟩⟩⟩⟩⟩)) (ae.2 ⟨ve (fu+1),(by intro c h;cases h)⟩) Tryd.func71 Tryd.call71 rfl rfl (by kernel_rfl) (by kernel_rfl) (mvs:=[1001]) (fun q=>by kernel_rfl)
abbrev pN (fu:Nat):eW S0:=⟨46,[.loc 1000 0,.ab false (.st 3)],[.box 47 false [.bT 1000 0,.own 1001 (.int .u8),Wz,WE],.arr 5 false false (.int .u8)],false,[],[(1000,.box 47 false [.bT 1000 0,.own 481 (.int .u8),Ww,Wx]),(481,.arr 5 false true (.int .u8))],[(1000,.box 47 false [.bT 1000 0,.own 481 (.int .u8),Ww,Wx]),(481,.arr 5 false true (.int .u8))],92,fun q=>F.kV fu q.1 q.2.1 q.2.2.1 q.2.2.2.1 q.2.2.2.2⟩
theorem tZ (fu:Nat):bH Tryd.prog (pN fu):=bH.of (N:=51) (fu:=fu)
 (H:=[(12,.fN ⟨[(19,Ww)],[(1000,.box 47 false [.bT 1000 0,.own 481 (.int .u8),Ww,Wx]),(481,.arr 5 false true (.int .u8))]⟩ 0 ⟨[],[(1000,.box 47 false [.bT 1000 0,.own 481 (.int .u8),Ww,Wx]),(481,.arr 5 false true (.int .u8))]⟩),
  (26,.join ⟨[],[(1000,.box 47 false [.bT 1000 0,.own 481 (.int .u8),Ww,Wx]),(481,.arr 5 false true (.int .u8))]⟩)])
 (cl:=(nL (lm [eO fu] []) [iy fu,n4 fu,oP fu])) (tblD:=[])
 mixed (fQ (ej (ae.2 ⟨ep fu,(by intro c h;cases h)⟩)) (ae.2 ⟨ix fu,ae.2 ⟨pM fu,ae.2 ⟨mQ fu,(by intro c h;cases h)⟩⟩⟩)) (by intro c h;cases h) Tryd.func46 Tryd.call46 rfl rfl (by kernel_rfl) (by kernel_rfl) (mvs:=[1001]) (fun q=>by kernel_rfl)
abbrev DM (fu:Nat):kO S0:=DQ S0
theorem F7 (fu:Nat):ja Tryd.prog 92 (DM fu):=F9
abbrev vd (fu:Nat):eW S0:=⟨18,[.loc 1000 0,WG],[.box 47 false [.bT 1000 0,.own 1001 (.int .u8),Wz,WE],.arr 5 false false (.int .u8)],false,[(4,.ab true (.st 6))],[(1000,.box 47 false [.bT 1000 0,.own 481 (.int .u8),Ww,Wx]),(481,.arr 5 false true (.int .u8))],[],92,fun q=>F.mH fu q.1 q.2.1 q.2.2.1 q.2.2.2.1 q.2.2.2.2⟩
theorem tH (fu:Nat):bH Tryd.prog (vd fu):=bH.of (N:=19) (fu:=fu)
 (H:=[(8,.fN ⟨[(10,Ww)],[(1000,.box 47 false [.bT 1000 0,.own 481 (.int .u8),Ww,Wx]),(481,.arr 5 false true (.int .u8))]⟩ 0 ⟨[],[(1000,.box 47 false [.bT 1000 0,.own 481 (.int .u8),Ww,Wx]),(481,.arr 5 false true (.int .u8))]⟩)])
 (cl:=(nL (lm [] []) [pN fu])) (tblD:=[DM fu])
 mixed (fQ (ej (by intro c h;cases h)) (ae.2 ⟨tZ fu,(by intro c h;cases h)⟩)) (ae.2 ⟨F7 fu,(by intro c h;cases h)⟩) Tryd.func18 Tryd.call18 rfl rfl (by kernel_rfl) (by kernel_rfl) (mvs:=[1001]) (fun q=>by kernel_rfl)
abbrev qw (fu:Nat):dC S0:=⟨18,[.loc 1000 0,WG],[.box 47 false [.bT 1000 0,.own 1001 (.int .u8),Wz,WE],.arr 5 false false (.int .u8)],false,[(4,.ab true (.st 6))],[(1000,.box 47 false [.bT 1000 0,.own 481 (.int .u8),Ww,Wx]),(481,.arr 5 false true (.int .u8))],fun q=>F.nW fu q.1 q.2.1 q.2.2.1 q.2.2.2.1 q.2.2.2.2⟩
theorem uY (fu:Nat):bE Tryd.prog (qw fu):=bH.zS (tH fu) fun q r h=>Be h
abbrev qD (fu:Nat):dC S0:=⟨19,[.loc 1000 0],[.box 47 false [.bT 1000 0,.own 1001 (.int .u8),Wz,WE],.arr 5 false false (.int .u8)],false,[(2,Ww)],[(1000,.box 47 false [.bT 1000 0,.own 1001 (.int .u8),Ww,Wx]),(1001,.arr 5 false true (.int .u8))],fun q=>F.nX fu q.1 q.2.1 q.2.2.1 q.2.2.2⟩
theorem u5 (fu:Nat):bE Tryd.prog (qD fu):=bE.of (N:=8) (fu:=fu)
 (H:=[])
 (tbl:=[])
 mixed (by intro c h;cases h) Tryd.func19 Tryd.call19 rfl rfl (by kernel_rfl) (mvs:=[]) (ns:=[]) (fun q=>by kernel_rfl)
abbrev KE (fu:Nat):dC S0:=OG S0
theorem Mp (fu:Nat):bE Tryd.prog (KE fu):=OE
abbrev zV (fu:Nat):dC S0:=⟨9,[WG],[],false,[(2,WA),(3,Ww)],[],fun q=>F.qL fu q⟩
theorem DL (fu:Nat):bE Tryd.prog (zV fu):=bE.of (N:=22) (fu:=fu)
 (H:=[(3,.gD [] ⟨[(4,.loc 4 0)],[(4,.box 47 true [.bT 4 0,.own 420 (.int .u8),Ww,Wx]),(420,.arr 5 true true (.int .u8))]⟩),
  (11,.mY []),
  (16,.gD [] ⟨[(19,Wx)],[(4,.box 47 true [.bT 4 0,.own 420 (.int .u8),Ww,Wx]),(420,.arr 5 true true (.int .u8))]⟩)])
 (tbl:=[qw fu,qD fu,KE fu])
 mixed (ae.2 ⟨uY fu,ae.2 ⟨u5 fu,ae.2 ⟨Mp fu,(by intro c h;cases h)⟩⟩⟩) Tryd.func9 Tryd.call9 rfl rfl (by kernel_rfl) (mvs:=[]) (ns:=[]) (fun q=>by kernel_rfl)
abbrev gk (fu:Nat):dC S0:=⟨60,[.ptr false (.st 7)],[],false,[(2,WA)],[],fun q=>F.dy fu q⟩
theorem fY (fu:Nat):bE Tryd.prog (gk fu):=bE.of (N:=16) (fu:=fu)
 (H:=[])
 (tbl:=[])
 mixed (by intro c h;cases h) Tryd.func60 Tryd.call60 rfl rfl (by kernel_rfl) (mvs:=[]) (ns:=[]) (fun q=>by kernel_rfl)
abbrev gm (fu:Nat):dC S0:=⟨75,[.loc 1000 0,WD],[.box 76 false [Wy,Wz,Wz]],false,[(4,Wx)],[(1000,.box 76 false [Wy,Ww,Ww])],fun q=>F.eU fu q.1 q.2.1 q.2.2.1 q.2.2.2⟩
theorem fK (fu:Nat):bE Tryd.prog (gm fu):=bE.of (N:=17) (fu:=fu)
 (H:=[])
 (tbl:=[gk fu])
 mixed (ae.2 ⟨fY fu,(by intro c h;cases h)⟩) Tryd.func75 Tryd.call75 rfl rfl (by kernel_rfl) (mvs:=[]) (ns:=[]) (fun q=>by kernel_rfl)
abbrev ir (fu:Nat):dC S0:=⟨76,[.ptr false (.st 7)],[],false,[(2,Ww)],[],fun q=>F.gB fu q⟩
theorem hY (fu:Nat):bE Tryd.prog (ir fu):=bE.of (N:=20) (fu:=fu)
 (H:=[])
 (tbl:=[])
 mixed (by intro c h;cases h) Tryd.func76 Tryd.call76 rfl rfl (by kernel_rfl) (mvs:=[]) (ns:=[]) (fun q=>by kernel_rfl)
abbrev iA (fu:Nat):eW S0:=⟨58,[.loc 1000 0,WD],[.box 76 false [Wy,Wz,Wz]],false,[],[(1000,.box 76 false [Wy,Ww,Ww])],[(1000,.box 76 false [Wy,Ww,Ww])],92,fun q=>F.bF fu q.1 q.2.1 q.2.2.1 q.2.2.2⟩
theorem iz (fu:Nat):bH Tryd.prog (iA fu):=bH.of (N:=11) (fu:=fu)
 (H:=[])
 (cl:=(nL (lm [gm fu,ir fu] []) [jL fu])) (tblD:=[])
 mixed (fQ (ej (ae.2 ⟨fK fu,ae.2 ⟨hY fu,(by intro c h;cases h)⟩⟩)) (ae.2 ⟨fR fu,(by intro c h;cases h)⟩)) (by intro c h;cases h) Tryd.func58 Tryd.call58 rfl rfl (by kernel_rfl) (by kernel_rfl) (mvs:=[]) (fun q=>by kernel_rfl)
abbrev oQ (fu:Nat):eW S0:=⟨78,[.loc 1000 0],[.box 76 false [Wy,Wz,Wz]],false,[(2,WA)],[(1000,.box 76 false [Wy,Ww,Ww])],[(1000,.box 76 false [Wy,Ww,Ww])],92,fun q=>F.lh fu q.1 q.2.1 q.2.2⟩
theorem qy (fu:Nat):bH Tryd.prog (oQ fu):=bH.of (N:=22) (fu:=fu)
 (H:=[])
 (cl:=(nL (lm [gk fu] []) [jL fu])) (tblD:=[])
 mixed (fQ (ej (ae.2 ⟨fY fu,(by intro c h;cases h)⟩)) (ae.2 ⟨fR fu,(by intro c h;cases h)⟩)) (by intro c h;cases h) Tryd.func78 Tryd.call78 rfl rfl (by kernel_rfl) (by kernel_rfl) (mvs:=[]) (fun q=>by kernel_rfl)
abbrev kx (fu:Nat):eW S0:=⟨59,[.loc 1000 0],[.box 76 false [Wy,Wz,Wz]],false,[(2,WA)],[(1000,.box 76 false [Wy,Ww,Ww])],[(1000,.box 76 false [Wy,Ww,Ww])],92,fun q=>F.ez fu q.1 q.2.1 q.2.2⟩
theorem kH (fu:Nat):bH Tryd.prog (kx fu):=bH.of (N:=12) (fu:=fu)
 (H:=[])
 (cl:=(nL (lm [gk fu,qb fu,ir fu] []) [oQ fu,jL fu])) (tblD:=[])
 mixed (fQ (ej (ae.2 ⟨fY fu,ae.2 ⟨rO fu,ae.2 ⟨hY fu,(by intro c h;cases h)⟩⟩⟩)) (ae.2 ⟨qy fu,ae.2 ⟨fR fu,(by intro c h;cases h)⟩⟩)) (by intro c h;cases h) Tryd.func59 Tryd.call59 rfl rfl (by kernel_rfl) (by kernel_rfl) (mvs:=[]) (fun q=>by kernel_rfl)
abbrev j8 (fu:Nat):dC S0:=⟨79,[.ptr false (.st 7)],[],false,[(2,Wx)],[],fun q=>F.gA fu q⟩
theorem k6 (fu:Nat):bE Tryd.prog (j8 fu):=bE.of (N:=12) (fu:=fu)
 (H:=[(3,.gD [] ⟨[(2,Wx)],[]⟩)])
 (tbl:=[gk fu,mS fu])
 mixed (ae.2 ⟨fY fu,ae.2 ⟨mg fu,(by intro c h;cases h)⟩⟩) Tryd.func79 Tryd.call79 rfl rfl (by kernel_rfl) (mvs:=[]) (ns:=[]) (fun q=>by kernel_rfl)
abbrev iY (fu:Nat):eW S0:=⟨80,[.loc 1000 0],[.box 76 false [Wy,Wz,Wz]],false,[(2,Ww)],[(1000,.box 76 false [Wy,Ww,Ww])],[(1000,.box 76 false [Wy,Ww,Ww])],92,fun q=>F.gb fu q.1 q.2.1 q.2.2⟩
theorem jr (fu:Nat):bH Tryd.prog (iY fu):=bH.of (N:=18) (fu:=fu)
 (H:=[])
 (cl:=(nL (lm [j8 fu,ir fu,Ca fu] []) [oQ fu,jL fu])) (tblD:=[])
 mixed (fQ (ej (ae.2 ⟨k6 fu,ae.2 ⟨hY fu,ae.2 ⟨A7 fu,(by intro c h;cases h)⟩⟩⟩)) (ae.2 ⟨qy fu,ae.2 ⟨fR fu,(by intro c h;cases h)⟩⟩)) (by intro c h;cases h) Tryd.func80 Tryd.call80 rfl rfl (by kernel_rfl) (by kernel_rfl) (mvs:=[]) (fun q=>by kernel_rfl)
abbrev n5 (fu:Nat):eW S0:=⟨61,[.loc 1000 0],[.box 76 false [Wy,Wz,Wz]],false,[(2,WB)],[(1000,.box 76 false [Wy,Ww,Ww])],[(1000,.box 76 false [Wy,Ww,Ww])],92,fun q=>F.jd fu q.1 q.2.1 q.2.2⟩
theorem pO (fu:Nat):bH Tryd.prog (n5 fu):=bH.of (N:=24) (fu:=fu)
 (H:=[(8,.fN ⟨[(3,.own 3 (.st 0))],[(1000,.box 76 false [Wy,Ww,Ww]),(3,.arr 89 true true (.st 0))]⟩ 0 ⟨[(3,.own 3 (.st 0))],[(1000,.box 76 false [Wy,Ww,Ww]),(3,.arr 89 true true (.st 0))]⟩),
  (18,.oc ⟨[(3,.own 3 (.st 0))],[(1000,.box 76 false [Wy,Ww,Ww]),(3,.arr 89 true true (.st 0))]⟩)])
 (cl:=(nL (lm [gm fu,j8 fu] []) [iA fu,iY fu,kx fu])) (tblD:=[])
 mixed (fQ (ej (ae.2 ⟨fK fu,ae.2 ⟨k6 fu,(by intro c h;cases h)⟩⟩)) (ae.2 ⟨iz fu,ae.2 ⟨jr fu,ae.2 ⟨kH fu,(by intro c h;cases h)⟩⟩⟩)) (by intro c h;cases h) Tryd.func61 Tryd.call61 rfl rfl (by kernel_rfl) (by kernel_rfl) (mvs:=[]) (fun q=>by kernel_rfl)
abbrev rE (fu:Nat):kO S0:=⟨81,[.loc 1000 0],[.box 74 false [.loc 1001 0],.box 76 false [Wy,Wz,Wz]],false,[(1000,.box 74 false [.loc 1001 0]),(1001,.box 76 false [Wy,Ww,Ww])],false,fun m q=>F.aE fu q.1 q.2.1 q.2.2⟩
theorem vj (fu:Nat):ja Tryd.prog 92 (rE fu):=ja.of (N:=8) (fu:=fu)
 (H:=[])
 (cl:=(lm [] []))
 mixed (ej (by intro c h;cases h)) Tryd.func81 Tryd.call81 rfl rfl (by kernel_rfl) (mvs:=[]) (fun m q=>by kernel_rfl)
abbrev qz (fu:Nat):eW S0:=⟨101,[.loc 1000 0],[.box 76 false [Wy,Wz,Wz]],false,[(2,.ab true (.list (.int .i64)))],[(1000,.box 76 false [Wy,Ww,Ww])],[(1000,.box 76 false [Wy,Ww,Ww])],92,fun q=>F.jz fu q.1 q.2.1 q.2.2⟩
theorem uZ (fu:Nat):bH Tryd.prog (qz fu):=bH.of (N:=15) (fu:=fu)
 (H:=[(8,.fN ⟨[(3,.own 3 (.int .i64))],[(1000,.box 76 false [Wy,Ww,Ww]),(3,.arr 3 true true (.int .i64))]⟩ 0 ⟨[(3,.own 3 (.int .i64))],[(1000,.box 76 false [Wy,Ww,Ww]),(3,.arr 3 true true (.int .i64))]⟩)])
 (cl:=(nL (lm [gm fu] []) [iA fu,iY fu])) (tblD:=[])
 mixed (fQ (ej (ae.2 ⟨fK fu,(by intro c h;cases h)⟩)) (ae.2 ⟨iz fu,ae.2 ⟨jr fu,(by intro c h;cases h)⟩⟩)) (by intro c h;cases h) Tryd.func101 Tryd.call101 rfl rfl (by kernel_rfl) (by kernel_rfl) (mvs:=[]) (fun q=>by kernel_rfl)
abbrev hU (self:(List ah)→Int→Int→Option ((ai×(List ah)×Int×Int)⊕((Int×Int)×((List ah)×Int×Int)))):eW S0:=⟨62,[.loc 1000 0],[.box 76 false [Wy,Wz,Wz]],false,[(2,.ab true (.st 2))],[(1000,.box 76 false [Wy,Ww,Ww])],[(1000,.box 76 false [Wy,Ww,Ww])],92,fun q=>self q.1 q.2.1 q.2.2⟩
abbrev rC (self:(List ah)→Int→Int→Option ((ai×(List ah)×Int×Int)⊕((Int×Int)×((List ah)×Int×Int)))) (fu:Nat):eW S0:=⟨84,[.loc 1000 0],[.box 76 false [Wy,Wz,Wz]],false,[(2,.ab true (.st 2))],[(1000,.box 76 false [Wy,Ww,Ww])],[(1000,.box 76 false [Wy,Ww,Ww])],92,fun q=>F.kj self fu q.1 q.2.1 q.2.2⟩
theorem vg (self:(List ah)→Int→Int→Option ((ai×(List ah)×Int×Int)⊕((Int×Int)×((List ah)×Int×Int)))) (hs:bH Tryd.prog (hU self)) (fu:Nat):bH Tryd.prog (rC self fu):=bH.of (N:=75) (fu:=fu)
 (H:=[(27,.gD [] ⟨[(34,Wx)],[]⟩),
  (38,.oc ⟨[],[(4,.box 56 true [Ww,WA,Ww,Wx,WB,.own 420 (.list (.int .i64)),.own 421 (.st 2)]),(1000,.box 76 false [Wy,Ww,Ww]),(420,.arr 87 true true (.list (.int .i64))),(421,.arr 56 true true (.st 2))]⟩),
  (43,.fN ⟨[],[(1000,.box 76 false [Wy,Ww,Ww]),(420,.arr 87 true true (.list (.int .i64))),(4,.box 56 true [Ww,WA,Ww,Wx,WB,.own 420 (.list (.int .i64)),.own 421 (.st 2)])]⟩ 1 ⟨[],[(1000,.box 76 false [Wy,Ww,Ww]),(420,.arr 87 true true (.list (.int .i64))),(4,.box 56 true [Ww,WA,Ww,Wx,WB,.own 420 (.list (.int .i64)),.own 421 (.st 2)])]⟩),
  (51,.mY [1000,420,4]),
  (56,.fN ⟨[],[(1000,.box 76 false [Wy,Ww,Ww]),(421,.arr 56 true true (.st 2)),(4,.box 56 true [Ww,WA,Ww,Wx,WB,.own 420 (.list (.int .i64)),.own 421 (.st 2)])]⟩ 3 ⟨[],[(1000,.box 76 false [Wy,Ww,Ww]),(421,.arr 56 true true (.st 2)),(4,.box 56 true [Ww,WA,Ww,Wx,WB,.own 420 (.list (.int .i64)),.own 421 (.st 2)])]⟩),
  (67,.oc ⟨[],[(1000,.box 76 false [Wy,Ww,Ww])]⟩),
  (70,.mY [1000,421,4])])
 (cl:=(nL (lm [gm fu,j8 fu,gk fu] []) [iY fu,hU self,iA fu,kx fu,n5 fu,qz fu])) (tblD:=[])
 mixed (fQ (ej (ae.2 ⟨fK fu,ae.2 ⟨k6 fu,ae.2 ⟨fY fu,(by intro c h;cases h)⟩⟩⟩)) (ae.2 ⟨jr fu,ae.2 ⟨hs,ae.2 ⟨iz fu,ae.2 ⟨kH fu,ae.2 ⟨pO fu,ae.2 ⟨uZ fu,(by intro c h;cases h)⟩⟩⟩⟩⟩⟩)) (by intro c h;cases h) Tryd.func84 Tryd.call84 rfl rfl (by kernel_rfl) (by kernel_rfl) (mvs:=[]) (fun q=>by kernel_rfl)
abbrev qB (self:(List ah)→Int→Int→Option ((ai×(List ah)×Int×Int)⊕((Int×Int)×((List ah)×Int×Int)))) (fu:Nat):eW S0:=⟨82,[.loc 1000 0,.own 1001 .str,.aP 84 [.loc 1000 0]],[.box 76 false [Wy,Wz,Wz],.arr 9 false false .str],false,[(6,.ab true (.st 2))],[(1000,.box 76 false [Wy,Ww,Ww]),(1001,.arr 9 false true .str)],[(1000,.box 76 false [Wy,Ww,Ww]),(1001,.arr 9 false true .str)],92,fun q=>F.jB self fu q.1 q.2.1 q.2.2.1 q.2.2.2⟩
theorem u1 (self:(List ah)→Int→Int→Option ((ai×(List ah)×Int×Int)⊕((Int×Int)×((List ah)×Int×Int)))) (hs:bH Tryd.prog (hU self)) (fu:Nat):bH Tryd.prog (qB self fu):=bH.of (N:=47) (fu:=fu)
 (H:=[(7,.fN ⟨[(8,Ww)],[(1000,.box 76 false [Wy,Ww,Ww]),(6,.box 56 true [Ww,WA,Ww,Wx,WB,WC,.ab true (.list (.st 2))]),(7,.box 56 true [Ww,WA,Ww,Wx,WB,WC,.ab true (.list (.st 2))])]⟩ 0 ⟨[],[]⟩),
  (16,.loop ⟨[(10,WA),(21,Ww)],[(1000,.box 76 false [Wy,Ww,Ww])]⟩ 2 ⟨[(10,WA)],[(1000,.box 76 false [Wy,Ww,Ww])]⟩),
  (28,.gD [] ⟨[(31,Wx)],[(1000,.box 76 false [Wy,Ww,Ww])]⟩),
  (29,.join ⟨[(10,WA)],[]⟩),
  (47,.mY [1000,7])])
 (cl:=(nL (lm [gm fu,ir fu] []) [rC self fu,jL fu])) (tblD:=[])
 mixed (fQ (ej (ae.2 ⟨fK fu,ae.2 ⟨hY fu,(by intro c h;cases h)⟩⟩)) (ae.2 ⟨vg self hs fu,ae.2 ⟨fR fu,(by intro c h;cases h)⟩⟩)) (by intro c h;cases h) Tryd.func82 Tryd.call82 rfl rfl (by kernel_rfl) (by kernel_rfl) (mvs:=[]) (fun q=>by kernel_rfl)
abbrev rD (self:(List ah)→Int→Int→Option ((ai×(List ah)×Int×Int)⊕((Int×Int)×((List ah)×Int×Int)))) (fu:Nat):eW S0:=⟨83,[.loc 1000 0],[.box 74 false [.loc 1001 0],.box 76 false [Wy,Wz,Wz]],false,[(1,.ab true (.st 2))],[(1000,.box 74 false [.loc 1001 0]),(1001,.box 76 false [Wy,Ww,Ww])],[(1000,.box 74 false [.loc 1001 0]),(1001,.box 76 false [Wy,Ww,Ww])],92,fun q=>F.kl self fu q.1 q.2.1 q.2.2⟩
theorem vi (self:(List ah)→Int→Int→Option ((ai×(List ah)×Int×Int)⊕((Int×Int)×((List ah)×Int×Int)))) (hs:bH Tryd.prog (hU self)) (fu:Nat):bH Tryd.prog (rD self fu):=bH.of (N:=7) (fu:=fu)
 (H:=[])
 (cl:=(nL (lm [] []) [qB self fu])) (tblD:=[])
 mixed (fQ (ej (by intro c h;cases h)) (ae.2 ⟨u1 self hs fu,(by intro c h;cases h)⟩)) (by intro c h;cases h) Tryd.func83 Tryd.call83 rfl rfl (by kernel_rfl) (by kernel_rfl) (mvs:=[]) (fun q=>by kernel_rfl)
abbrev qA (self:(List ah)→Int→Int→Option ((ai×(List ah)×Int×Int)⊕((Int×Int)×((List ah)×Int×Int)))) (fu:Nat):eW S0:=⟨82,[.loc 1000 0,.own 1001 .str,.aP 83 [.loc 1002 0]],[.box 76 false [Wy,Wz,Wz],.arr 9 false false .str,.box 74 false [.loc 1000 0]],false,[(6,.ab true (.st 2))],[(1000,.box 76 false [Wy,Ww,Ww]),(1001,.arr 9 false true .str),(1002,.box 74 false [.loc 1000 0])],[(1000,.box 76 false [Wy,Ww,Ww]),(1001,.arr 9 false true .str),(1002,.box 74 false [.loc 1000 0])],92,fun q=>F.jA self fu q.1 q.2.1 q.2.2.1 q.2.2.2⟩
theorem u0 (self:(List ah)→Int→Int→Option ((ai×(List ah)×Int×Int)⊕((Int×Int)×((List ah)×Int×Int)))) (hs:bH Tryd.prog (hU self)) (fu:Nat):bH Tryd.prog (qA self fu):=bH.of (N:=47) (fu:=fu)
 (H:=[(7,.fN ⟨[(8,Ww)],[(1000,.box 76 false [Wy,Ww,Ww]),(6,.box 56 true [Ww,WA,Ww,Wx,WB,WC,.ab true (.list (.st 2))]),(1002,.box 74 false [.loc 1000 0]),(7,.box 56 true [Ww,WA,Ww,Wx,WB,WC,.ab true (.list (.st 2))])]⟩ 0 ⟨[],[]⟩),
  (16,.loop ⟨[(10,WA),(21,Ww)],[(1000,.box 76 false [Wy,Ww,Ww])]⟩ 2 ⟨[(10,WA)],[(1000,.box 76 false [Wy,Ww,Ww])]⟩),
  (28,.gD [] ⟨[(31,Wx)],[(1000,.box 76 false [Wy,Ww,Ww])]⟩),
  (29,.join ⟨[(10,WA)],[]⟩),
  (47,.mY [1002,1000,7])])
 (cl:=(nL (lm [gm fu,ir fu] []) [rD self fu,jL fu])) (tblD:=[])
 mixed (fQ (ej (ae.2 ⟨fK fu,ae.2 ⟨hY fu,(by intro c h;cases h)⟩⟩)) (ae.2 ⟨vi self hs fu,ae.2 ⟨fR fu,(by intro c h;cases h)⟩⟩)) (by intro c h;cases h) Tryd.func82 Tryd.call82 rfl rfl (by kernel_rfl) (by kernel_rfl) (mvs:=[]) (fun q=>by kernel_rfl)
abbrev oR (fu:Nat):eW S0:=hU (F.gd fu)
theorem mR:∀fu:Nat,bH Tryd.prog (oR fu)
 | 0=>⟨Tryd.call62,fun q r h=>nomatch (show(none:Option _)=some r from h)⟩
 | fu+1=>bH.of (N:=78) (fu:=fu+1)
   (H:=[(22,.mY [1000,34,3]),
    (26,.mY [1000,34,3]),
    (40,.mY [1000,62,4]),
    (44,.mY [1000,62,4])])
   (cl:=(nL (lm [gm (fu+1),ir (fu+1)] []) [kx (fu+1),iA (fu+1),oR fu,iY (fu+1),qA (F.gd fu) (fu+1),jL (fu+1)])) (tblD:=[rE (fu+1)])
   mixed (fQ (ej (ae.2 ⟨fK (fu+1),ae.2 ⟨hY (fu+1),(by intro c h;cases h)⟩⟩)) (ae.2 ⟨kH (fu+1),ae.2 ⟨iz (fu+1),ae.2 ⟨mR fu,ae.2 ⟨jr (fu+1),ae.2 ⟨u0 (F.gd fu) (mR fu) (fu+1),ae.2 ⟨fR (fu+1),(by intro c h;cases h)⟩⟩⟩⟩⟩⟩)) (ae.2 ⟨vj (fu+1),(by intro c h;cases h)⟩) Tryd.func62 Tryd.call62 rfl rfl (by kernel_rfl) (by kernel_rfl) (mvs:=[]) (fun q=>by kernel_rfl)
abbrev pP (fu:Nat):eW S0:=⟨41,[.loc 1000 0],[.box 76 false [Wy,Wz,Wz]],false,[(2,.ab true (.st 3))],[(1000,.box 76 false [Wy,Ww,Ww])],[(1000,.box 76 false [Wy,Ww,Ww])],92,fun q=>F.iQ fu q.1 q.2.1 q.2.2⟩
theorem ua (fu:Nat):bH Tryd.prog (pP fu):=bH.of (N:=45) (fu:=fu)
 (H:=[(10,.fN ⟨[],[(1000,.box 76 false [Wy,Ww,Ww]),(3,.box 58 true [WA,.own 420 (.st 1),Ww,WA,Ww,Wx,WB,WC,.ab true (.list (.st 2))]),(420,.arr 61 true true (.st 1))]⟩ 0 ⟨[],[(1000,.box 76 false [Wy,Ww,Ww]),(3,.box 58 true [WA,.own 420 (.st 1),Ww,WA,Ww,Wx,WB,WC,.ab true (.list (.st 2))]),(420,.arr 61 true true (.st 1))]⟩),
  (21,.oc ⟨[],[(1000,.box 76 false [Wy,Ww,Ww])]⟩)])
 (cl:=(nL (lm [gk fu] []) [iA fu,kx fu,n5 fu,oR fu])) (tblD:=[])
 mixed (fQ (ej (ae.2 ⟨fY fu,(by intro c h;cases h)⟩)) (ae.2 ⟨iz fu,ae.2 ⟨kH fu,ae.2 ⟨pO fu,ae.2 ⟨mR fu,(by intro c h;cases h)⟩⟩⟩⟩)) (by intro c h;cases h) Tryd.func41 Tryd.call41 rfl rfl (by kernel_rfl) (by kernel_rfl) (mvs:=[]) (fun q=>by kernel_rfl)
abbrev DP (fu:Nat):kO S0:=DR S0
theorem F8 (fu:Nat):ja Tryd.prog 92 (DP fu):=Ga
abbrev yR (fu:Nat):kO S0:=⟨39,[.loc 1000 0,.loc 1001 0],[.box 29 false [Wz,Wz],.box 22 false [.own 1002 (.st 3)],.arr 58 false false (.st 3)],false,[(1000,.box 29 false [Ww,Ww]),(1001,.box 22 false [.own 482 (.st 3)]),(482,.arr 58 false false (.st 3))],false,fun m q=>F.nT fu q.1 q.2.1 q.2.2⟩
theorem B9 (fu:Nat):ja Tryd.prog 92 (yR fu):=ja.of (N:=5) (fu:=fu)
 (H:=[(2,.join ⟨[],[(1001,.box 22 false [.own 482 (.st 3)]),(482,.arr 58 false false (.st 3))]⟩)])
 (cl:=(lm [] []))
 mixed (ej (by intro c h;cases h)) Tryd.func39 Tryd.call39 rfl rfl (by kernel_rfl) (mvs:=[1002]) (fun m q=>by kernel_rfl)
abbrev F6 (fu:Nat):eW S0:=⟨14,[WD],[],false,[(2,WG),(3,.ab true (.st 6))],[],[],92,fun q=>F.wh fu q⟩
theorem B8 (fu:Nat):bH Tryd.prog (F6 fu):=bH.of (N:=35) (fu:=fu)
 (H:=[(9,.gD [2,3] ⟨[],[(2,.box 22 true [.ab true (.list (.st 3))]),(3,.box 29 true [Ww,Ww])]⟩),
  (20,.fN ⟨[],[(21,.box 76 true [Wy,Ww,Ww]),(2,.box 22 true [.own 420 (.st 3)]),(420,.arr 58 true true (.st 3))]⟩ 0 ⟨[],[(21,.box 76 true [Wy,Ww,Ww]),(2,.box 22 true [.own 420 (.st 3)]),(420,.arr 58 true true (.st 3))]⟩),
  (28,.mY [21,32,2,420]),
  (30,.gD [2,3] ⟨[],[(2,.box 22 true [.own 420 (.st 3)]),(3,.box 29 true [Ww,Ww])]⟩)])
 (cl:=(nL (lm [tI fu] []) [pP fu])) (tblD:=[DP fu,yR fu])
 mixed (fQ (ej (ae.2 ⟨u4 fu,(by intro c h;cases h)⟩)) (ae.2 ⟨ua fu,(by intro c h;cases h)⟩)) (ae.2 ⟨F8 fu,ae.2 ⟨B9 fu,(by intro c h;cases h)⟩⟩) Tryd.func14 Tryd.call14 rfl rfl (by kernel_rfl) (by kernel_rfl) (mvs:=[]) (fun q=>by kernel_rfl)
abbrev A6 (fu:Nat):dC S0:=⟨14,[WD],[],false,[(2,WG),(3,.ab true (.st 6))],[],fun q=>F.sU fu q⟩
theorem EO (fu:Nat):bE Tryd.prog (A6 fu):=bH.zS (B8 fu) fun q r h=>Be h
abbrev mu (fu:Nat):dC S0:=⟨44,[.ab false (.list (.st 0)),.ab false (.list (.st 0))],[],false,[(4,Wx)],[],fun q=>F.iZ fu q.1 q.2⟩
theorem oi (fu:Nat):bE Tryd.prog (mu fu):=bE.of (N:=26) (fu:=fu)
 (H:=[(14,.fN ⟨[(4,Wx),(13,Ww)],[]⟩ 0 ⟨[],[]⟩),
  (26,.mY [])])
 (tbl:=[])
 mixed (by intro c h;cases h) Tryd.func44 Tryd.call44 rfl rfl (by kernel_rfl) (mvs:=[]) (ns:=[]) (fun q=>by kernel_rfl)
abbrev ph (fu:Nat):dC S0:=⟨67,[.ab false (.list (.list (.int .i64))),.ab false (.list (.list (.int .i64)))],[],false,[(4,Wx)],[],fun q=>F.kI fu q.1 q.2⟩
theorem tJ (fu:Nat):bE Tryd.prog (ph fu):=bE.of (N:=53) (fu:=fu)
 (H:=[(14,.fN ⟨[(4,Wx),(14,Ww)],[]⟩ 0 ⟨[],[]⟩),
  (27,.mY []),
  (36,.fN ⟨[(4,Wx),(33,Ww)],[]⟩ 2 ⟨[(4,Wx)],[]⟩),
  (48,.mY [])])
 (tbl:=[])
 mixed (by intro c h;cases h) Tryd.func67 Tryd.call67 rfl rfl (by kernel_rfl) (mvs:=[]) (ns:=[]) (fun q=>by kernel_rfl)
abbrev mw (fu:Nat):dC S0:=⟨43,[.ab false (.st 2),.ab false (.st 2)],[],false,[(4,Wx)],[],fun q=>F.et fu q.1 q.2⟩
theorem ol:∀fu:Nat,bE Tryd.prog (mw fu)
 | 0=>⟨Tryd.call43,fun q r h=>nomatch (show(none:Option _)=some r from h)⟩
 | fu+1=>bE.of (N:=76) (fu:=fu+1)
   (H:=[(4,.gD [] ⟨[(56,Wx)],[]⟩),
    (14,.fN ⟨[(4,Wx),(60,Ww)],[]⟩ 0 ⟨[],[]⟩),
    (26,.mY [])])
   (tbl:=[mu (fu+1),ph (fu+1),mw fu])
   mixed (ae.2 ⟨oi (fu+1),ae.2 ⟨tJ (fu+1),ae.2 ⟨ol fu,(by intro c h;cases h)⟩⟩⟩) Tryd.func43 Tryd.call43 rfl rfl (by kernel_rfl) (mvs:=[]) (ns:=[]) (fun q=>by kernel_rfl)
abbrev om (fu:Nat):dC S0:=⟨16,[WG,WG],[],false,[(4,Wx)],[],fun q=>F.ju fu q.1 q.2⟩
theorem sF (fu:Nat):bE Tryd.prog (om fu):=bE.of (N:=109) (fu:=fu)
 (H:=[(14,.fN ⟨[(4,Wx),(14,Ww)],[]⟩ 0 ⟨[],[]⟩),
  (27,.gD [] ⟨[(56,Wx)],[]⟩),
  (36,.fN ⟨[(4,Wx),(63,Ww)],[]⟩ 2 ⟨[(4,Wx)],[]⟩),
  (48,.gD [] ⟨[(106,Wx)],[]⟩)])
 (tbl:=[mw fu,mu fu])
 mixed (ae.2 ⟨ol fu,ae.2 ⟨oi fu,(by intro c h;cases h)⟩⟩) Tryd.func16 Tryd.call16 rfl rfl (by kernel_rfl) (mvs:=[]) (ns:=[]) (fun q=>by kernel_rfl)
abbrev vn (fu:Nat):dC S0:=⟨7,[WG],[],false,[(2,Wx)],[],fun q=>F.iB fu q⟩
theorem tK (fu:Nat):bE Tryd.prog (vn fu):=bE.of (N:=34) (fu:=fu)
 (H:=[(23,.gD [] ⟨[(2,Wx)],[]⟩)])
 (tbl:=[rS fu,zV fu,A6 fu,om fu])
 mixed (ae.2 ⟨wD fu,ae.2 ⟨DL fu,ae.2 ⟨EO fu,ae.2 ⟨sF fu,(by intro c h;cases h)⟩⟩⟩⟩) Tryd.func7 Tryd.call7 rfl rfl (by kernel_rfl) (mvs:=[]) (ns:=[]) (fun q=>by kernel_rfl)
end
end Go.DN
