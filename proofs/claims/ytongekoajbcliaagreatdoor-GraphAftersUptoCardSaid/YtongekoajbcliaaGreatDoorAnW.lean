/-
  Each function does what its Lean function says.
-/
import Derived.Test.YtongekoajbcliaaGreatDoorAnF
import Derived.Test.YtongekoajbcliaaGreatDoorProg
import Derived.Test.YtongekoajbcliaaGreatDoorTgD
import Derived.Test.YtongekoajbcliaaGreatDoorTgE
import Derived.Test.YtongekoajbcliaaGreatDoorCcW
import Derived.KernelRfl
set_option maxRecDepth 20000
set_option linter.all false
namespace Go.DN
open Go.AM
open Go.Proofs
noncomputable section
def mixed:Tryz.prog.follows .mixedOrders=true:=by kernel_rfl
abbrev j5:JH:=⟨[],[]⟩
abbrev db:Ty:=(.int .i64)
abbrev u7:Sh:=.loc 1000 0
abbrev dO:Sh:=.aE true .bool
abbrev Fy:Sh:=.aE true (.st 2)
abbrev nq:Sh:=.aE false (.st 2)
abbrev oB:Sh:=.aE false (.st 0)
abbrev pc:Sh:=.aE false (.st 5)
abbrev Ny:Sh:=.aE false (.st 4)
abbrev p7:Ty:=(.list db)
abbrev bd:Sh:=.aE true db
abbrev fM:Sh:=.aE false db
abbrev Rr:Oh:=.arr 4 true true .bool
abbrev wS:Oh:=.arr 54 true false (.st 4)
abbrev yB:Sh:=.aE false (.list (.st 4))
abbrev AS:Oh:=.arr 54 false false (.st 4)
abbrev cV:Oh:=.arr 3 true true db
abbrev CX:Oh:=.arr 241 false false (.st 3)
abbrev CW:JH:=⟨[(4,dO)],[]⟩
abbrev I1:JH:=⟨[(6,dO)],[]⟩
abbrev iD:Sh:=.aE true p7
abbrev lT:Oh:=.arr 3 false true db
abbrev FA:JH:=⟨[(14,dO)],[]⟩
abbrev Fx:JH:=⟨[(11,dO)],[]⟩
abbrev I3:JH:=⟨[(39,dO)],[]⟩
abbrev I2:JH:=⟨[(26,dO)],[]⟩
abbrev Nx:JH:=⟨[(18,dO)],[]⟩
abbrev cp:Sh:=.aE false p7
abbrev tT:Oh:=.arr 3 false false db
abbrev I0:JH:=⟨[(8,bd)],[]⟩
abbrev yC:Oh:=.arr 23 true false p7
abbrev CY:Sh:=.aE false (.list p7)
abbrev AT:Oh:=.deep 0 false false (.sm false) (.st 9)
abbrev Rv:Nat×Oh:=(1003,.box 234 false [.own 486 (.st 3)])
abbrev AR:Oh:=.box 23 false [cp]
abbrev V2:Oh:=.lp 0 false [.loc 1002 0,.loc 1003 0,.loc 1004 0]
abbrev Ru:List Sh:=[u7,.loc 1001 0,.loc 1002 0,.loc 1003 0]
abbrev V9:JH:=⟨[(3,.own 3 (.st 3))],[(3,.arr 241 true true (.st 3))]⟩
abbrev I4:Nat×Oh:=(11,.box 25 true [.own 420 (.st 4),.own 422 db])
abbrev V5:Oh:=.lp 1 true [.loc 1002 0,.loc 1003 0,.loc 1004 0,.loc 1005 0]
abbrev V4:JH:=⟨[(6,.own 6 db)],[(6,cV)]⟩
abbrev V3:JH:=⟨[(5,.own 5 db)],[(5,cV)]⟩
abbrev Rs:JH:=⟨[(6,.own 32 db)],[(32,cV)]⟩
abbrev FB:JH:=⟨[(7,cp),(8,bd)],[]⟩
abbrev Wc:Nat×Oh:=(1000,.box 67 false [.own 481 (.st 4),.own 1002 db,.ee 483])
abbrev Wa:Nat×Oh:=(1000,.box 67 false [.own 482 (.st 4),.own 1003 db,.ee 484])
abbrev Rx:Nat×Oh:=(4,.box 25 true [.aE true (.list (.st 4)),iD])
abbrev wR:Oh:=.box 127 true [bd,.own 420 db,.own 421 db]
abbrev RC:List Oh:=[.box 151 false [.gG 1000 0,.own 1001 (.int .u8)],.arr 5 false false (.int .u8)]
abbrev Ry:Nat×Oh:=(7,.box 127 true [bd,.own 27 db,.own 30 db])
abbrev V7:Nat×Oh:=(11,.box 127 true [bd,.own 46 db,.own 49 db])
abbrev ZN:List (Nat×Oh):=[(3,.box 151 true [.loc 3 0,.own 420 (.int .u8)]),(420,.arr 5 true true (.int .u8))]
abbrev ZJ:Nat×Oh:=(1002,.box 127 false [bd,.own 1004 db,.own 1005 db])
abbrev Ks:List (Nat×Oh):=[(1000,.box 151 false [u7,.own 481 (.int .u8)]),(481,.arr 5 false true (.int .u8))]
abbrev Rw:Nat×Oh:=(7,.box 127 true [bd,cp,.own 420 db])
abbrev V6:Nat×Oh:=(11,.box 127 true [bd,cp,.own 48 db])
abbrev u9:Oh:=.box 127 true [bd,iD,iD]
abbrev Rq:Oh:=.box 127 false [bd,cp,cp]
abbrev ZM:JH:=⟨[(12,.own 70 db),(11,.own 66 (.st 4))],[(70,cV),(66,wS)]⟩
abbrev V8:JH:=⟨[(7,bd)],[(6,.box 127 true [bd,cp,cp])]⟩
abbrev Nz:Nat×Oh:=(11,.box 121 true [cp,cp,.own 420 db,bd,bd,bd,bd])
abbrev RD:Nat×Oh:=(1000,.box 121 false [cp,cp,.own 482 db,bd,bd,bd,bd])
abbrev RA:List Oh:=[.box 121 false [cp,cp,.own 1001 db,fM,fM,fM,fM],tT]
abbrev ZK:JH:=⟨[],[(3,.box 52 true [bd,cp,cp,cp,cp,cp,bd])]⟩
abbrev ZQ:List (Nat×Oh):=[(14,.box 67 true [.own 421 (.st 4),.own 422 db,.ee 420]),(15,.deep 0 true true (.sm true) (.st 7)),(421,wS),(422,cV),(420,.deep 0 true false (.sm false) (.st 9))]
abbrev I5:Oh:=.box 54 true [bd,cp,cp,cp,cp,cp,bd,.own 420 db]
abbrev RB:List (Nat×Oh):=[(1000,.box 121 false [cp,cp,.own 1001 db,bd,bd,bd,bd]),(1001,lT)]
abbrev Wd:Nat×Oh:=(15,.box 54 true [bd,cp,cp,cp,cp,cp,bd,.own 421 db])
abbrev ZP:List (Nat×Oh):=[(1000,V2),(1002,AR),(1003,.box 23 false [.own 1005 db]),(1004,.box 3 false [bd]),(1005,lT)]
abbrev ZO:List Oh:=[.box 121 false [cp,cp,.own 1002 db,fM,fM,fM,fM],.box 183 false [.bf 105 []],tT]
abbrev Rz:JH:=⟨[(9,.own 9 db)],[(482,lT),RD,(9,cV)]⟩
abbrev ZL:JH:=⟨[(9,.own 9 db),(14,bd)],[(482,lT),RD,(9,cV)]⟩
abbrev ZS:List (Nat×Oh):=[(8,.box 101 true [.mp 15]),(3,.box 22 true [yB]),(10,.box 102 true [.bf 52 [.loc 8 0,.loc 3 0,.loc 10 0,.loc 7 0]]),(7,.box 64 true [.loc 14 0]),(15,.deep 0 true false (.sm true) (.st 7)),(14,.box 67 true [.own 421 (.st 4),.own 422 db,.ee 420]),(421,wS),(420,.deep 0 true false (.sm false) (.st 9)),(422,cV)]
abbrev ZR:List (Nat×Oh):=[(1000,V5),(1002,Rq),(1003,.box 26 false [bd]),(1004,.box 127 false [bd,.own 1006 db,.own 1007 db]),(1005,.box 234 false [.own 488 (.st 3)]),(1006,lT),(1007,lT),(488,CX)]
abbrev ZT:List (Nat×Oh):=[(1000,.box 101 false [.mp 1004]),(1001,.box 22 false [yB]),(1002,.box 102 false [.bf 52 Ru]),(1003,.box 64 false [.loc 1005 0]),(1004,.deep 0 false false (.sm true) (.st 7)),(1005,.box 67 false [.own 486 (.st 4),.own 1007 db,.ee 488]),(486,AS),(1007,lT),(488,AT),(9,cV)]
abbrev NW(fu:Nat):bB S0:=⟨82,[fM],[],false,[(2,bd)],[],fun q=>F.vT fu q⟩
def HL(fu:Nat):aO Tryz.prog (NW fu):=.o fu 27 [(15,.join I1),(19,.join I1),(23,.join I1),(27,.join I1),(31,.join I1),(35,.join I1),(45,.join FA),(49,.join FA),(53,.join FA),(57,.join FA),(61,.join FA),(65,.join FA),(69,.join FA)] tN [] mixed Tryz.func82 Tryz.call82 rfl rfl
abbrev KS(fu:Nat):bB S0:=⟨73,[fM],[],false,[(2,dO)],[],fun q=>F.qM fu q⟩
def FK(fu:Nat):aO Tryz.prog (KS fu):=.o fu 9 [(3,.cP [] ⟨[(2,dO)],[]⟩)] tN [] mixed Tryz.func73 Tryz.call73 rfl rfl
abbrev C8(fu:Nat):bB S0:=⟨114,[cp,.bf 73 []],[],false,[(4,bd)],[],fun q=>F.rq fu q⟩
def zw(fu:Nat):aO Tryz.prog (C8 fu):=.o fu 19 [(6,.du I0 0 j5)] (tC (FK fu) tN) [] mixed Tryz.func114 Tryz.call114 rfl rfl
abbrev zx(fu:Nat):bB S0:=⟨72,[cp,.bf 73 []],[],false,[(4,dO)],[],fun q=>F.l5 fu q⟩
def wZ(fu:Nat):aO Tryz.prog (zx fu):=.o fu 9 [] (tC (zw fu) tN) [] mixed Tryz.func72 Tryz.call72 rfl rfl
abbrev Jf(fu:Nat):bB S0:=⟨115,[cp,fM],[],false,[(4,bd)],[],fun q=>F.wq fu q.1 q.2⟩
def D2(fu:Nat):aO Tryz.prog (Jf fu):=.o fu 19 [(6,.du I0 0 j5)] tN [] mixed Tryz.func115 Tryz.call115 rfl rfl
abbrev vq(fu:Nat):bB S0:=⟨74,[cp,fM],[],false,[(4,dO)],[],fun q=>F.iP fu q.1 q.2⟩
def jG(fu:Nat):aO Tryz.prog (vq fu):=.o fu 9 [] (tC (D2 fu) tN) [] mixed Tryz.func74 Tryz.call74 rfl rfl
abbrev EB(fu:Nat):bB S0:=⟨41,[cp],[],false,[(2,bd),(3,bd)],[],fun q=>F.jN fu q⟩
def j8(fu:Nat):aO Tryz.prog (EB fu):=.o fu 32 [(24,.du ⟨[(4,bd),(14,bd)],[]⟩ 0 ⟨[(4,bd)],[]⟩),(39,.cP [] ⟨[(27,dO)],[]⟩)] (tC (wZ fu) (tC (jG fu) tN)) [] mixed Tryz.func41 Tryz.call41 rfl rfl
abbrev NY(fu:Nat):bB S0:=⟨65,[oB,CY],[],false,[(4,bd)],[],fun q=>F.gE fu q.1 q.2⟩
def HN(fu:Nat):aO Tryz.prog (NY fu):=.o fu 47 [(14,.cP [] ⟨[(31,dO)],[]⟩),(24,.du ⟨[(34,bd)],[]⟩ 0 j5)] (tC (HL fu) (tC (j8 fu) tN)) [] mixed Tryz.func65 Tryz.call65 rfl rfl
abbrev zy(fu:Nat):bB S0:=⟨32,[cp],[],false,[(2,.own 5 db)],[(5,cV)],fun q=>F.cR fu q⟩
def fw(fu:Nat):aO Tryz.prog (zy fu):=.o fu 8 [] tN [] mixed Tryz.func32 Tryz.call32 rfl rfl
abbrev Jg(fu:Nat):bB S0:=⟨30,[cp,cp],[],false,[(4,dO)],[],fun q=>F.nK fu q.1 q.2⟩
def vo(fu:Nat):aO Tryz.prog (Jg fu):=.o fu 26 [(14,.du ⟨[(13,bd)],[]⟩ 0 j5),(26,.gV [])] tN [] mixed Tryz.func30 Tryz.call30 rfl rfl
abbrev OC(fu:Nat):bB S0:=⟨223,[fM],[],false,[(2,dO)],[],fun q=>F.xZ fu q⟩
def Jj(fu:Nat):aO Tryz.prog (OC fu):=.o fu 6 [] tN [] mixed Tryz.func223 Tryz.call223 rfl rfl
abbrev RM(fu:Nat):bB S0:=⟨199,[fM,fM],[],false,[(4,dO)],[],fun q=>F.A2 fu q.1 q.2⟩
def KX(fu:Nat):aO Tryz.prog (RM fu):=.o fu 17 [(3,.cP [] CW)] (tC (Jj fu) tN) [] mixed Tryz.func199 Tryz.call199 rfl rfl
abbrev D1(fu:Nat):bB S0:=⟨151,[cp],[],false,[(2,dO)],[],fun q=>F.ph fu q⟩
def A7(fu:Nat):aO Tryz.prog (D1 fu):=.o fu 21 [(6,.du ⟨[(3,bd)],[]⟩ 0 j5),(16,.gV [])] (tC (KX fu) tN) [] mixed Tryz.func151 Tryz.call151 rfl rfl
abbrev F0(fu:Nat):bB S0:=⟨104,[cp,fM],[],false,[(4,dO)],[],fun q=>F.lJ fu q.1 q.2⟩
def tl(fu:Nat):aO Tryz.prog (F0 fu):=.o fu 33 [(8,.du ⟨[(12,bd),(5,.own 9 .bool)],[(9,Rr)]⟩ 0 ⟨[],[(9,Rr)]⟩),(21,.cP [] ⟨[(28,dO)],[]⟩)] tN [] mixed Tryz.func104 Tryz.call104 rfl rfl
abbrev Jl(fu:Nat):bB S0:=⟨102,[cp,fM],[],false,[(4,dO)],[],fun q=>F.sZ fu q.1 q.2⟩
def D5(fu:Nat):aO Tryz.prog (Jl fu):=.o fu 12 [(3,.cP [] CW)] (tC (A7 fu) (tC (tl fu) tN)) [] mixed Tryz.func102 Tryz.call102 rfl rfl
abbrev Jk(fu:Nat):bB S0:=⟨66,[cp,cp],[],false,[(4,iD),(5,bd)],[],fun q=>F.sY fu q.1 q.2⟩
def D4(fu:Nat):aO Tryz.prog (Jk fu):=.o fu 31 [(16,.loop ⟨[(6,.own 6 db),(16,bd)],[(6,cV)]⟩ 0 V4),(29,.join V4)] (tC (D5 fu) (tC (jG fu) tN)) [] mixed Tryz.func66 Tryz.call66 rfl rfl
abbrev FY(fu:Nat):bB S0:=⟨103,[fM,fM],[],false,[(4,dO)],[],fun q=>F.lI fu q.1 q.2⟩
def BS(fu:Nat):aO Tryz.prog (FY fu):=.o fu 12 [(3,.cP [] CW)] tN [] mixed Tryz.func103 Tryz.call103 rfl rfl
abbrev Jn(fu:Nat):bB S0:=⟨67,[oB,cp],[],false,[(4,iD),(5,bd)],[],fun q=>F.s7 fu q.1 q.2⟩
def D8(fu:Nat):aO Tryz.prog (Jn fu):=.o fu 102 [(6,.cP [] ⟨[(30,dO)],[]⟩),(20,.du ⟨[(35,bd),(8,.own 32 db)],[(32,cV)]⟩ 0 ⟨[(8,.own 32 db)],[(32,cV)]⟩),(33,.cP [] ⟨[(62,dO)],[]⟩),(40,.gV [32]),(43,.join ⟨[(8,.own 32 db)],[(32,cV)]⟩),(44,.gV [32])] (tC (BS fu) tN) [] mixed Tryz.func67 Tryz.call67 rfl rfl
abbrev HE(fu:Nat):bB S0:=⟨70,[CY],[],false,[(0,iD)],[],fun q=>Go.Proofs.YtongekoajbcliaaGreatDoor.F.di fu q⟩
def uX(fu:Nat):aO Tryz.prog (HE fu):=⟨Tryz.call70,fun q r h=>Go.Proofs.YtongekoajbcliaaGreatDoor.EO fu q r h⟩
abbrev FX(fu:Nat):bB S0:=⟨105,[.loc 1000 3,fM],RA,false,[],RB,fun q=>F.ue fu q.1 q.2.1 q.2.2.1 q.2.2.2.1 q.2.2.2.2.1 q.2.2.2.2.2.1 q.2.2.2.2.2.2.1 q.2.2.2.2.2.2.2⟩
def BR(fu:Nat):aO Tryz.prog (FX fu):=.o fu 12 [] tN [] mixed Tryz.func105 Tryz.call105 rfl rfl
abbrev FW(fu:Nat):bB S0:=⟨105,[.loc 1000 4,fM],RA,false,[],RB,fun q=>F.ud fu q.1 q.2.1 q.2.2.1 q.2.2.2.1 q.2.2.2.2.1 q.2.2.2.2.2.1 q.2.2.2.2.2.2.1 q.2.2.2.2.2.2.2⟩
def BQ(fu:Nat):aO Tryz.prog (FW fu):=.o fu 12 [] tN [] mixed Tryz.func105 Tryz.call105 rfl rfl
abbrev Jm(fu:Nat):bB S0:=⟨106,[cp,cp,.loc 1000 4,u7,.loc 1001 0],ZO,false,[(8,iD)],[RD,(1001,.box 183 false [.bf 105 []]),(482,lT)],fun q=>F.s4 fu q.1 q.2.1 q.2.2.1 q.2.2.2.1 q.2.2.2.2.1 q.2.2.2.2.2.1 q.2.2.2.2.2.2.1 q.2.2.2.2.2.2.2.1 q.2.2.2.2.2.2.2.2⟩
def D6(fu:Nat):aO Tryz.prog (Jm fu):=.o fu 39 [(8,.loop ZL 0 Rz),(21,.join Rz)] (tC (BQ fu) (tC (jG fu) tN)) [1002] mixed Tryz.func106 Tryz.call106 rfl rfl
abbrev FV(fu:Nat):bB S0:=⟨105,[.loc 1000 5,fM],RA,false,[],RB,fun q=>F.uc fu q.1 q.2.1 q.2.2.1 q.2.2.2.1 q.2.2.2.2.1 q.2.2.2.2.2.1 q.2.2.2.2.2.2.1 q.2.2.2.2.2.2.2⟩
def BP(fu:Nat):aO Tryz.prog (FV fu):=.o fu 12 [] tN [] mixed Tryz.func105 Tryz.call105 rfl rfl
abbrev FU(fu:Nat):bB S0:=⟨106,[cp,cp,.loc 1000 5,u7,.loc 1001 0],ZO,false,[(8,iD)],[RD,(1001,.box 183 false [.bf 105 []]),(482,lT)],fun q=>F.qu fu q.1 q.2.1 q.2.2.1 q.2.2.2.1 q.2.2.2.2.1 q.2.2.2.2.2.1 q.2.2.2.2.2.2.1 q.2.2.2.2.2.2.2.1 q.2.2.2.2.2.2.2.2⟩
def BO(fu:Nat):aO Tryz.prog (FU fu):=.o fu 39 [(8,.loop ZL 0 Rz),(21,.join Rz)] (tC (BP fu) (tC (jG fu) tN)) [1002] mixed Tryz.func106 Tryz.call106 rfl rfl
abbrev D7(fu:Nat):bB S0:=⟨105,[.loc 1000 6,fM],RA,false,[],RB,fun q=>F.s5 fu q.1 q.2.1 q.2.2.1 q.2.2.2.1 q.2.2.2.2.1 q.2.2.2.2.2.1 q.2.2.2.2.2.2.1 q.2.2.2.2.2.2.2⟩
def Ba(fu:Nat):aO Tryz.prog (D7 fu):=.o fu 12 [] tN [] mixed Tryz.func105 Tryz.call105 rfl rfl
abbrev NV(fu:Nat):bB S0:=⟨68,[oB,cp,cp],[],false,[(6,.aE true (.st 1)),(7,bd)],[],fun q=>F.s6 fu q.1 q.2.1 q.2.2⟩
def HK(fu:Nat):aO Tryz.prog (NV fu):=.o fu 153 [(3,.cP [] ⟨[(8,iD),(9,iD)],[]⟩),(6,.cP [] ⟨[(61,dO)],[]⟩),(16,.du ⟨[(65,bd)],[(6,.box 121 true [iD,iD,iD,bd,bd,bd,bd])]⟩ 0 ⟨[],[(6,.box 121 true [iD,iD,iD,bd,bd,bd,bd])]⟩),(28,.gV []),(43,.loop ⟨[(89,bd)],[Nz,(420,cV)]⟩ 2 ⟨[],[Nz,(420,cV)]⟩),(55,.cP [100,11,420] ⟨[],[(420,cV),Nz]⟩),(56,.gV [11,420]),(68,.loop ⟨[(124,bd)],[Nz,(420,cV)]⟩ 4 ⟨[],[Nz,(420,cV)]⟩),(79,.gV [11,420]),(82,.cP [11] ⟨[],[(11,.box 121 true [iD,iD,.own 420 db,bd,bd,bd,bd])]⟩)] (tC (BR fu) (tC (D6 fu) (tC (BO fu) (tC (Ba fu) (tC (uX fu) (tC (tl fu) tN)))))) [] mixed Tryz.func68 Tryz.call68 rfl rfl
abbrev Jo(fu:Nat):bB S0:=⟨69,[cp,CY],[],false,[(4,iD),(5,bd)],[],fun q=>F.s8 fu q.1 q.2⟩
def D9(fu:Nat):aO Tryz.prog (Jo fu):=.o fu 83 [(4,.cP [] ⟨[(28,dO)],[]⟩),(16,.du ⟨[(36,bd),(6,.own 32 db)],[(32,cV)]⟩ 0 Rs),(39,.du ⟨[(47,bd)],[]⟩ 2 j5),(51,.cP [] ⟨[(65,dO)],[]⟩),(58,.gV [32])] (tC (fw fu) tN) [] mixed Tryz.func69 Tryz.call69 rfl rfl
abbrev qF(fu:Nat):bB S0:=⟨156,[cp],[],false,[(2,.bf 202 [.loc 1 0])],[(1,.box 23 true [cp])],fun q=>F.mJ fu q⟩
def sW(fu:Nat):aO Tryz.prog (qF fu):=.o fu 4 [] tN [] mixed Tryz.func156 Tryz.call156 rfl rfl
abbrev vk(fu:Nat):rG S0:=⟨0,[fM,fM],[u7,.loc 1001 0,.loc 1002 0],[AR,.box 23 false [.own 1003 db],.box 3 false [fM],tT],[(1000,AR),(1001,.box 23 false [.own 1003 db]),(1002,.box 3 false [bd]),(1003,lT)],false,fun q=>F.sd fu q.1 q.2.1 q.2.2.1 q.2.2.2.1 q.2.2.2.2⟩
def zN(fu:Nat):HX Tryz.prog (vk fu):=HX.of (fu:=fu) (H:=[(4,.gV [1002])]) (tbl:=[]) mixed (by intro c h;cases h) (by kernel_rfl) (by kernel_rfl) (by kernel_rfl) (mvs:=[]) (ns:=[]) (fun q=>by kernel_rfl)
abbrev ti(fu:Nat):bB S0:=⟨202,[.da 1000,.loc 1001 0],[V2,AR,AR,.box 23 false [.own 1005 db],.box 3 false [fM],tT],false,[],[(1000,V2),(1001,AR),(1002,AR),(1003,.box 23 false [.own 1005 db]),(1004,.box 3 false [bd]),(1005,lT)],fun q=>F.qD fu q.1 q.2.1 q.2.2.1 q.2.2.2⟩
def yG(fu:Nat):aO Tryz.prog (ti fu):=aO.WS (N:=19) (fu:=fu) (H:=[(3,.du ⟨[(3,bd)],ZP⟩ 0 ⟨[],ZP⟩)]) (tbl:=[]) (tbr:=[]) (ys:=[vk fu]) [] mixed (by intro c h;cases h) (by intro c h;cases h) (cY.2 ⟨zN fu,(by intro c h;cases h)⟩) Tryz.func202 Tryz.call202 rfl rfl (by kernel_rfl) rfl (by kernel_rfl) (mvs:=[]) (ns:=[]) (fun q=>by kernel_rfl)
abbrev HC(fu:Nat):bB S0:=⟨152,[cp],[],false,[(2,iD)],[],fun q=>F.qY fu q⟩
def C6(fu:Nat):aO Tryz.prog (HC fu):=aO.WS (N:=27) (fu:=fu) (H:=[(18,.SA 0 350)]) (tbl:=[qF fu,vq fu]) (tbr:=[ti fu]) (ys:=[]) [(18,0)] mixed (cY.2 ⟨sW fu,cY.2 ⟨jG fu,(by intro c h;cases h)⟩⟩) (cY.2 ⟨yG fu,(by intro c h;cases h)⟩) (by intro c h;cases h) Tryz.func152 Tryz.call152 rfl rfl (by kernel_rfl) rfl (by kernel_rfl) (mvs:=[]) (ns:=[]) (fun q=>by kernel_rfl)
abbrev NR(fu:Nat):bB S0:=⟨108,[cp],[],false,[(2,Fy),(3,bd)],[],fun q=>F.vu fu q⟩
def HD(fu:Nat):aO Tryz.prog (NR fu):=.o fu 20 [] (tC (fw fu) (tC (j8 fu) (tC (C6 fu) tN))) [] mixed Tryz.func108 Tryz.call108 rfl rfl
abbrev Oy(fu:Nat):bB S0:=⟨200,[fM],[],false,[(2,dO)],[],fun q=>F.uw fu q⟩
def zu(fu:Nat):aO Tryz.prog (Oy fu):=.o fu 9 [(3,.cP [] ⟨[(2,dO)],[]⟩)] tN [] mixed Tryz.func200 Tryz.call200 rfl rfl
abbrev Jb(fu:Nat):bB S0:=⟨201,[fM],[],false,[(2,dO)],[],fun q=>F.sf fu q⟩
def D0(fu:Nat):aO Tryz.prog (Jb fu):=.o fu 6 [] (tC (zu fu) tN) [] mixed Tryz.func201 Tryz.call201 rfl rfl
abbrev A9(fu:Nat):bB S0:=⟨114,[cp,.bf 201 []],[],false,[(4,bd)],[],fun q=>F.pK fu q⟩
def xk(fu:Nat):aO Tryz.prog (A9 fu):=.o fu 19 [(6,.du I0 0 j5)] (tC (D0 fu) tN) [] mixed Tryz.func114 Tryz.call114 rfl rfl
abbrev xm(fu:Nat):bB S0:=⟨72,[cp,.bf 201 []],[],false,[(4,dO)],[],fun q=>F.kG fu q⟩
def vc(fu:Nat):aO Tryz.prog (xm fu):=.o fu 9 [] (tC (xk fu) tN) [] mixed Tryz.func72 Tryz.call72 rfl rfl
abbrev C7(fu:Nat):bB S0:=⟨153,[nq],[],false,[(2,bd)],[],fun q=>F.k7 fu q⟩
def kM(fu:Nat):aO Tryz.prog (C7 fu):=.o fu 30 [(22,.cP [] ⟨[(29,dO)],[]⟩)] (tC (j8 fu) (tC (zu fu) (tC (vc fu) tN))) [] mixed Tryz.func153 Tryz.call153 rfl rfl
abbrev KQ(fu:Nat):bB S0:=⟨154,[cp,fM],[],false,[(4,dO)],[],fun q=>F.qL fu q.1 q.2⟩
def wY(fu:Nat):aO Tryz.prog (KQ fu):=.o fu 24 [(8,.du ⟨[(5,bd),(10,bd)],[]⟩ 0 j5),(21,.cP [] ⟨[(21,dO)],[]⟩)] tN [] mixed Tryz.func154 Tryz.call154 rfl rfl
abbrev KR(fu:Nat):bB S0:=⟨109,[nq,cp,cp],[],false,[(6,Fy),(7,bd)],[],fun q=>F.uh fu q.1 q.2.1 q.2.2⟩
def FJ(fu:Nat):aO Tryz.prog (KR fu):=.o fu 80 [(24,.cP [] ⟨[(41,dO)],[]⟩),(31,.cP [11] ⟨[(11,.loc 11 0)],[V7,(46,cV),(49,cV)]⟩),(36,.du ⟨[(53,bd)],[(6,u9),(49,cV),V7]⟩ 0 ⟨[],[(6,u9),(49,cV),V7]⟩),(49,.gV []),(55,.gV [49])] (tC (fw fu) (tC (kM fu) (tC (j8 fu) (tC (wY fu) tN)))) [] mixed Tryz.func109 Tryz.call109 rfl rfl
abbrev Oz(fu:Nat):bB S0:=⟨110,[nq,cp],[],false,[(4,Fy),(5,bd)],[],fun q=>F.xv fu q.1 q.2⟩
def Jc(fu:Nat):aO Tryz.prog (Oz fu):=.o fu 76 [(20,.du ⟨[(26,bd),(7,.own 20 .bool)],[(4,u9),(20,Rr),(8,wR),(420,cV),(421,cV)]⟩ 0 ⟨[(7,.own 20 .bool)],[(4,u9),(20,Rr),(8,wR),(420,cV),(421,cV)]⟩),(33,.cP [] ⟨[(43,dO)],[]⟩),(41,.cP [56,65,8,420,421] ⟨[],[(420,cV),(421,cV),(8,wR)]⟩)] (tC (kM fu) tN) [] mixed Tryz.func110 Tryz.call110 rfl rfl
abbrev Bv(fu:Nat):bB S0:=⟨155,[nq],[],false,[(2,.own 3 (.st 3))],[(3,.arr 241 true true (.st 3))],fun q=>F.ug fu q⟩
def FI(fu:Nat):aO Tryz.prog (Bv fu):=.o fu 67 [(8,.loop ⟨[(3,.own 3 (.st 3)),(10,bd)],[(3,.arr 241 true true (.st 3))]⟩ 0 V9),(16,.join V9),(28,.cP [] ⟨[(36,dO)],[]⟩),(29,.join V9),(30,.gV [3])] tN [] mixed Tryz.func155 Tryz.call155 rfl rfl
abbrev xr(fu:Nat):rG S0:=⟨1,[fM,fM],Ru,[.box 127 false [fM,cp,cp],.box 26 false [fM],.box 127 false [fM,.own 1004 db,.own 1005 db],.box 234 false [.own 1006 (.st 3)],tT,tT,CX],[(1000,Rq),(1001,.box 26 false [bd]),ZJ,Rv,(1004,lT),(1005,lT),(486,CX)],true,fun q=>F.u3 fu q.1 q.2.1 q.2.2.1 q.2.2.2.1 q.2.2.2.2.1 q.2.2.2.2.2.1 q.2.2.2.2.2.2.1 q.2.2.2.2.2.2.2.1 q.2.2.2.2.2.2.2.2.1 q.2.2.2.2.2.2.2.2.2⟩
def B3(fu:Nat):HX Tryz.prog (xr fu):=HX.of (fu:=fu) (H:=[(3,.mN ⟨[],[(1005,lT),(486,CX),(1000,Rq),(1001,.box 26 false [bd]),ZJ,Rv]⟩),(21,.gV [1005]),(23,.cP [1006,486] ⟨[],[(486,CX),Rv]⟩),(26,.join ⟨[(15,.any),(64,.any),(65,.any),(66,.any),(67,.any),(76,.any),(77,.any),(78,.any),(96,.any),(97,.any),(98,.any)],[(486,CX),Rv]⟩)]) (tbl:=[]) mixed (by intro c h;cases h) (by kernel_rfl) (by kernel_rfl) (by kernel_rfl) (mvs:=[1006]) (ns:=[]) (fun q=>by kernel_rfl)
abbrev rU(fu:Nat):bB S0:=⟨202,[.da 1000,.loc 1001 0],[V5,AR,.box 127 false [fM,cp,cp],.box 26 false [fM],.box 127 false [fM,.own 1006 db,.own 1007 db],.box 234 false [.own 1008 (.st 3)],tT,tT,CX],false,[],[(1000,V5),(1001,AR),(1002,Rq),(1003,.box 26 false [bd]),(1004,.box 127 false [bd,.own 1006 db,.own 1007 db]),(1005,.box 234 false [.own 488 (.st 3)]),(1006,lT),(1007,lT),(488,CX)],fun q=>F.l6 fu q.1 q.2.1 q.2.2.1 q.2.2.2.1 q.2.2.2.2.1 q.2.2.2.2.2.1 q.2.2.2.2.2.2.1 q.2.2.2.2.2.2.2.1 q.2.2.2.2.2.2.2.2.1 q.2.2.2.2.2.2.2.2.2⟩
def w6(fu:Nat):aO Tryz.prog (rU fu):=aO.WS (N:=19) (fu:=fu) (H:=[(3,.du ⟨[(3,bd)],ZR⟩ 0 ⟨[],ZR⟩)]) (tbl:=[]) (tbr:=[]) (ys:=[xr fu]) [] mixed (by intro c h;cases h) (by intro c h;cases h) (cY.2 ⟨B3 fu,(by intro c h;cases h)⟩) Tryz.func202 Tryz.call202 rfl rfl (by kernel_rfl) rfl (by kernel_rfl) (mvs:=[1008]) (ns:=[]) (fun q=>by kernel_rfl)
abbrev EA(fu:Nat):bB S0:=⟨157,[nq],[],false,[(2,nq),(3,bd)],[],fun q=>F.pG fu q⟩
def tW(fu:Nat):aO Tryz.prog (EA fu):=.o fu 9 [] (tC (kM fu) tN) [] mixed Tryz.func157 Tryz.call157 rfl rfl
abbrev KT(fu:Nat):bB S0:=⟨111,[nq,cp],[],false,[(4,nq),(5,bd)],[],fun q=>F.ui fu q.1 q.2⟩
def FL(fu:Nat):aO Tryz.prog (KT fu):=aO.WS (N:=110) (fu:=fu) (H:=[(33,.cP [11] ⟨[(11,.loc 11 0)],[(11,.box 127 true [bd,.own 44 db,.own 47 db]),(44,cV),(47,cV)]⟩),(48,.SA 1 350)]) (tbl:=[zy fu,Bv fu,qF fu,C7 fu,EB fu,EA fu]) (tbr:=[rU fu]) (ys:=[]) [(48,1)] mixed (cY.2 ⟨fw fu,cY.2 ⟨FI fu,cY.2 ⟨sW fu,cY.2 ⟨kM fu,cY.2 ⟨j8 fu,cY.2 ⟨tW fu,(by intro c h;cases h)⟩⟩⟩⟩⟩⟩) (cY.2 ⟨w6 fu,(by intro c h;cases h)⟩) (by intro c h;cases h) Tryz.func111 Tryz.call111 rfl rfl (by kernel_rfl) rfl (by kernel_rfl) (mvs:=[]) (ns:=[]) (fun q=>by kernel_rfl)
abbrev RL(fu:Nat):bB S0:=⟨112,[nq,cp,cp,cp],[],false,[(8,Fy),(9,bd)],[],fun q=>F.zP fu q.1 q.2.1 q.2.2.1 q.2.2.2⟩
def KU(fu:Nat):aO Tryz.prog (RL fu):=.o fu 150 [(16,.cP [] I3),(28,.du ⟨[(47,bd)],[(8,u9),(12,wR),(420,cV),(421,cV)]⟩ 0 ⟨[],[(8,u9),(12,wR),(420,cV),(421,cV)]⟩),(41,.cP [] ⟨[(89,dO)],[]⟩),(48,.gV [12]),(50,.cP [420,12] ⟨[],[(420,cV),(12,wR)]⟩),(51,.cP [421,12] ⟨[],[(421,cV),(12,wR)]⟩)] (tC (kM fu) (tC (tW fu) tN)) [] mixed Tryz.func112 Tryz.call112 rfl rfl
abbrev OA(fu:Nat):bB S0:=⟨113,[nq,cp],[],false,[(4,Fy),(5,bd)],[],fun q=>F.xw fu q.1 q.2⟩
def Jd(fu:Nat):aO Tryz.prog (OA fu):=.o fu 70 [(21,.cP [7] ⟨[(7,.loc 7 0)],[Ry,(27,cV),(30,cV)]⟩),(26,.loop ⟨[(34,bd)],[Ry,(30,cV)]⟩ 0 ⟨[],[Ry,(30,cV)]⟩),(38,.cP [7] ⟨[],[Ry]⟩),(39,.gV [30])] (tC (fw fu) (tC (kM fu) (tC (wY fu) (tC (tW fu) tN)))) [] mixed Tryz.func113 Tryz.call113 rfl rfl
abbrev NX(fu:Nat):bB S0:=⟨71,[oB,cp],[],false,[(4,nq),(5,bd)],[],fun q=>F.vU fu q.1 q.2⟩
def HM(fu:Nat):aO Tryz.prog (NX fu):=.o fu 63 [] (tC (HD fu) (tC (FJ fu) (tC (Jc fu) (tC (FL fu) (tC (KU fu) (tC (Jd fu) tN)))))) [] mixed Tryz.func71 Tryz.call71 rfl rfl
abbrev NZ(fu:Nat):bB S0:=⟨39,[oB,CY],[],false,[(4,cp),(5,bd)],[],fun q=>F.fo fu q.1 q.2⟩
def HP(fu:Nat):aO Tryz.prog (NZ fu):=.o fu 178 [(22,.mN FB),(27,.join I3),(31,.join I3),(35,.join I3),(39,.join I3),(43,.join I3),(46,.mN FB),(51,.du ⟨[(49,bd)],[]⟩ 1 j5),(73,.mN FB),(74,.gV []),(77,.mN FB),(78,.gV []),(81,.mN ⟨[(8,bd),(7,cp)],[]⟩),(85,.gV [11]),(88,.join ⟨[(7,iD)],[]⟩),(93,.mN FB),(97,.mN FB),(106,.gV []),(109,.mN FB),(114,.cP [] ⟨[(156,dO)],[]⟩),(120,.gV []),(124,.gV [13])] (tC (fw fu) (tC (HN fu) (tC (vo fu) (tC (D4 fu) (tC (D8 fu) (tC (HK fu) (tC (D9 fu) (tC (uX fu) (tC (HM fu) (tC (j8 fu) tN)))))))))) [] mixed Tryz.func39 Tryz.call39 rfl rfl
abbrev FP(fu:Nat):bB S0:=⟨51,[Ny],[],false,[(2,dO)],[],fun q=>F.tL fu q⟩
def BL(fu:Nat):aO Tryz.prog (FP fu):=.o fu 7 [] tN [] mixed Tryz.func51 Tryz.call51 rfl rfl
abbrev A8(fu:Nat):bB S0:=⟨50,[yB,.bf 51 []],[],false,[(4,bd)],[],fun q=>F.pJ fu q⟩
def xj(fu:Nat):aO Tryz.prog (A8 fu):=.o fu 19 [(6,.du I0 0 j5)] (tC (BL fu) tN) [] mixed Tryz.func50 Tryz.call50 rfl rfl
abbrev Ji(fu:Nat):bB S0:=⟨24,[pc],[],false,[(2,bd)],[],fun q=>F.nP fu q⟩
def vr(fu:Nat):aO Tryz.prog (Ji fu):=.o fu 13 [] (tC (xj fu) tN) [] mixed Tryz.func24 Tryz.call24 rfl rfl
abbrev Jh(fu:Nat):bB S0:=⟨55,[Ny,fM,fM,.own 1000 p7],[.arr 23 false false p7],false,[(8,cp),(9,bd)],[(1000,.arr 23 false false p7)],fun q=>F.sJ fu q.1 q.2.1 q.2.2.1 q.2.2.2⟩
def D3(fu:Nat):aO Tryz.prog (Jh fu):=.o fu 84 [(8,.du ⟨[(10,.own 10 p7),(18,bd)],[(10,yC)]⟩ 0 ⟨[(10,.own 10 p7)],[(10,yC)]⟩),(21,.cP [] ⟨[(28,dO)],[]⟩),(40,.cP [] ⟨[(47,dO)],[]⟩)] (tC (fw fu) (tC (HP fu) (tC (j8 fu) tN))) [] mixed Tryz.func55 Tryz.call55 rfl rfl
abbrev NT(fu:Nat):bB S0:=⟨29,[pc],[],false,[(2,.own 19 p7),(3,bd)],[(19,yC)],fun q=>F.sK fu q⟩
def HH(fu:Nat):aO Tryz.prog (NT fu):=.o fu 64 [(18,.du ⟨[(4,.own 19 p7),(25,bd)],[(19,yC)]⟩ 0 ⟨[(4,.own 19 p7)],[(19,yC)]⟩),(45,.du ⟨[(49,bd)],[]⟩ 2 j5),(57,.cP [] ⟨[(61,dO)],[]⟩)] (tC (D3 fu) (tC (vr fu) tN)) [] mixed Tryz.func29 Tryz.call29 rfl rfl
abbrev HF(fu:Nat):bB S0:=⟨31,[yB],[],false,[(2,.own 5 (.st 4))],[(5,wS)],fun q=>F.ra fu q⟩
def C9(fu:Nat):aO Tryz.prog (HF fu):=.o fu 8 [] tN [] mixed Tryz.func31 Tryz.call31 rfl rfl
abbrev FZ(fu:Nat):bB S0:=⟨86,[fM],[],false,[(2,.aE true (.st 10))],[],fun q=>F.qv fu q⟩
def BT(fu:Nat):aO Tryz.prog (FZ fu):=.o fu 31 [(27,.join ⟨[(13,dO)],[]⟩),(31,.join ⟨[(13,dO)],[]⟩),(35,.join ⟨[(13,dO)],[]⟩),(45,.join ⟨[(19,dO)],[]⟩),(55,.join ⟨[(23,dO)],[]⟩)] tN [] mixed Tryz.func86 Tryz.call86 rfl rfl
abbrev HO(fu:Nat):bB S0:=⟨87,[cp,.aE false .bool],[],false,[(4,iD)],[],fun q=>F.cU fu q.1 q.2⟩
def Db(fu:Nat):aO Tryz.prog (HO fu):=.o fu 9 [] (tC (fw fu) tN) [] mixed Tryz.func87 Tryz.call87 rfl rfl
abbrev KY(fu:Nat):bB S0:=⟨58,[oB],[],false,[(2,.aE true (.st 0))],[],fun q=>F.qX fu q⟩
def w7(fu:Nat):aO Tryz.prog (KY fu):=.o fu 48 [(7,.cP [5] ⟨[(5,.loc 5 0)],[(5,.box 52 true [bd,iD,iD,iD,iD,iD,bd])]⟩),(11,.join ⟨[],[(5,.box 52 true [bd,iD,iD,iD,iD,iD,bd])]⟩)] (tC (BT fu) (tC (Db fu) tN)) [] mixed Tryz.func58 Tryz.call58 rfl rfl
abbrev Z2(fu:Nat):bB S0:=Xc S0
def KC(fu:Nat):aO Tryz.prog (Z2 fu):=Wn
abbrev FM(fu:Nat):bB S0:=⟨141,[fM],[],false,[(2,.aE true .str)],[],fun q=>F.tp fu q⟩
def Bx(fu:Nat):aO Tryz.prog (FM fu):=.o fu 5 [] (tC (KC fu) tN) [] mixed Tryz.func141 Tryz.call141 rfl rfl
abbrev Je(fu:Nat):bB S0:=⟨90,[fM],[],false,[(2,.aE true .str)],[],fun q=>F.strconv_Itoa fu q⟩
def vn(fu:Nat):aO Tryz.prog (Je fu):=.o fu 5 [] (tC (Bx fu) tN) [] mixed Tryz.func90 Tryz.call90 rfl rfl
abbrev Yo(fu:Nat):bB S0:=KD S0
def HJ(fu:Nat):aO Tryz.prog (Yo fu):=NU
abbrev tc(fu:Nat):bB S0:=⟨89,[u7,.aE false .str],RC,false,[(4,bd),(5,.any)],Ks,fun q=>F.dN fu q.1 q.2.1 q.2.2⟩
def je(fu:Nat):aO Tryz.prog (tc fu):=.o fu 19 [] (tC (HJ fu) tN) [1001] mixed Tryz.func89 Tryz.call89 rfl rfl
abbrev uW(fu:Nat):bB S0:=⟨91,[u7,.aE false (.int .u8)],RC,false,[(4,.any)],Ks,fun q=>F.eV fu q.1 q.2.1 q.2.2⟩
def mT(fu:Nat):aO Tryz.prog (uW fu):=.o fu 17 [] (tC (HJ fu) tN) [1001] mixed Tryz.func91 Tryz.call91 rfl rfl
abbrev KV(fu:Nat):bB S0:=⟨88,[cp,u7],RC,false,[],Ks,fun q=>F.qV fu q.1 q.2.1 q.2.2⟩
def FQ(fu:Nat):aO Tryz.prog (KV fu):=.o fu 21 [(6,.loop ⟨[(11,bd)],Ks⟩ 0 ⟨[],Ks⟩)] (tC (je fu) (tC (mT fu) (tC (vn fu) tN))) [1001] mixed Tryz.func88 Tryz.call88 rfl rfl
abbrev HI(fu:Nat):bB S0:=⟨88,[cp,u7],RC,true,[],Ks,fun q=>F.u6 fu q.1 q.2.1 q.2.2⟩
def Da(fu:Nat):aO Tryz.prog (HI fu):=.o fu 21 [(6,.loop ⟨[(11,bd)],Ks⟩ 0 ⟨[],Ks⟩)] (tC (je fu) (tC (mT fu) (tC (vn fu) tN))) [1001] mixed Tryz.func88 Tryz.call88 rfl rfl
abbrev Bz(fu:Nat):bB S0:=⟨92,[fM,fM],[],false,[(4,.aE true .str)],[],fun q=>F.nu fu q.1 q.2⟩
def yF(fu:Nat):aO Tryz.prog (Bz fu):=.o fu 8 [] (tC (KC fu) tN) [] mixed Tryz.func92 Tryz.call92 rfl rfl
abbrev Yp(fu:Nat):bB S0:=Ub S0
def RN(fu:Nat):aO Tryz.prog (Yp fu):=Ua
abbrev OB(fu:Nat):bB S0:=⟨59,[Ny],[],false,[(2,.aE true .str)],[],fun q=>F.uL fu q⟩
def zz(fu:Nat):aO Tryz.prog (OB fu):=.o fu 47 [(3,.cP [] ⟨[(3,.loc 3 0)],[(3,.box 151 true [.gG 3 0,.own 420 (.int .u8)]),(420,.arr 5 true true (.int .u8))]⟩),(12,.loop ⟨[(33,bd)],ZN⟩ 0 ⟨[],ZN⟩)] (tC (Da fu) (tC (FQ fu) (tC (je fu) (tC (RN fu) (tC (yF fu) tN))))) [] mixed Tryz.func59 Tryz.call59 rfl rfl
abbrev FN(fu:Nat):bB S0:=⟨32,[cp],[],true,[(2,.own 5 db)],[(5,cV)],fun q=>F.tu fu q⟩
def BK(fu:Nat):aO Tryz.prog (FN fu):=.o fu 8 [] tN [] mixed Tryz.func32 Tryz.call32 rfl rfl
abbrev BN(fu:Nat):bB S0:=⟨35,[u7,oB,cp],[.box 67 false [.own 1001 (.st 4),.own 1002 db,.ee 1003],AS,tT,AT],false,[(6,bd)],[Wc,(481,AS),(1002,lT),(483,AT)],fun q=>F.nz fu q.1 q.2.1 q.2.2.1 q.2.2.2.1 q.2.2.2.2.1 q.2.2.2.2.2⟩
def yI(fu:Nat):aO Tryz.prog (BN fu):=.o fu 69 [(19,.join ⟨[(22,.any),(32,.any)],[Wc,(483,AT)]⟩),(22,.fz [14]),(23,.cP [481,1000] ⟨[],[(481,AS),Wc]⟩),(25,.gV [483])] (tC (fw fu) (tC (w7 fu) (tC (zz fu) tN))) [1001,1003] mixed Tryz.func35 Tryz.call35 rfl rfl
abbrev BM(fu:Nat):bB S0:=⟨35,[u7,oB,.own 1001 db],[.box 67 false [.own 1002 (.st 4),.own 1003 db,.ee 1004],tT,AS,tT,AT],false,[(6,bd)],[Wa,(1001,lT),(482,AS),(1003,lT),(484,AT)],fun q=>F.ny fu q.1 q.2.1 q.2.2.1 q.2.2.2.1 q.2.2.2.2.1 q.2.2.2.2.2⟩
def yH(fu:Nat):aO Tryz.prog (BM fu):=.o fu 69 [(19,.join ⟨[(22,.any),(32,.any)],[Wa,(484,AT)]⟩),(22,.fz [14]),(23,.cP [482,1000] ⟨[],[(482,AS),Wa]⟩),(25,.gV [484])] (tC (BK fu) (tC (w7 fu) (tC (zz fu) tN))) [1002,1004] mixed Tryz.func35 Tryz.call35 rfl rfl
abbrev FO(fu:Nat):bB S0:=⟨52,[fM,u7,.loc 1001 0,.loc 1002 0,.loc 1003 0],[.box 101 false [.mp 1004],.box 22 false [yB],.box 102 false [.bf 52 Ru],.box 64 false [.loc 1005 0],.deep 0 false false (.sm true) (.st 7),.box 67 false [.own 1006 (.st 4),.own 1007 db,.ee 1008],AS,tT,AT],false,[(6,bd)],[(1000,.box 101 false [.mp 1004]),(1001,.box 22 false [yB]),(1002,.box 102 false [.bf 52 Ru]),(1003,.box 64 false [.loc 1005 0]),(1004,.deep 0 false false (.sm true) (.st 7)),(1005,.box 67 false [.own 486 (.st 4),.own 1007 db,.ee 488]),(486,AS),(1007,lT),(488,AT)],fun q=>F.fF fu q.1 q.2.1 q.2.2.1 q.2.2.2.1 q.2.2.2.2.1 q.2.2.2.2.2.1 q.2.2.2.2.2.2⟩
def tj:∀fu:Nat,aO Tryz.prog (FO fu)|0=>⟨Tryz.call52,fun q r h=>nomatch (show(none:Option _)=some r from h)⟩|fu+1=>.o (fu+1) 50 [(18,.loop ⟨[(9,.own 9 db),(27,bd)],ZT⟩ 0 ⟨[(9,.own 9 db)],ZT⟩),(32,.gV [1005,1006,1007,1008,486,488,9])] (tC (tj fu) (tC (yH (fu+1)) tN)) [1006,1008] mixed Tryz.func52 Tryz.call52 rfl rfl
abbrev NS(fu:Nat):bB S0:=⟨25,[yB,fM,cp],[],false,[(6,pc)],[],fun q=>F.vM fu q.1 q.2.1 q.2.2⟩
def HG(fu:Nat):aO Tryz.prog (NS fu):=.o fu 56 [(10,.loop ⟨[(17,bd)],ZQ⟩ 0 ⟨[],ZQ⟩),(21,.gV [14,421,420,15,422]),(31,.loop ⟨[(33,bd)],ZS⟩ 2 ⟨[],ZS⟩),(42,.cP [8,3,10,7,15,14,421,420,422] ⟨[],[(3,.box 22 true [yB]),(15,.deep 0 true false (.sm true) (.st 7)),(14,.box 67 true [.own 421 (.st 4),.own 422 db,.ee 420]),(421,wS),(420,.deep 0 true false (.sm false) (.st 9)),(422,cV),(8,.box 101 true [.mp 15]),(10,.box 102 true [.bf 52 [.loc 8 0,.loc 3 0,.loc 10 0,.loc 7 0]]),(7,.box 64 true [.loc 14 0])]⟩)] (tC (yI fu) (tC (tj fu) tN)) [] mixed Tryz.func25 Tryz.call25 rfl rfl
abbrev KW(fu:Nat):bB S0:=⟨12,[pc,pc],[],false,[(4,pc),(5,bd)],[],fun q=>F.yv fu q.1 q.2⟩
def FT(fu:Nat):aO Tryz.prog (KW fu):=.o fu 140 [(36,.du ⟨[(52,bd)],[Rx]⟩ 0 ⟨[],[Rx]⟩),(48,.gV []),(63,.loop ⟨[(13,.own 74 db),(12,.own 71 (.st 4)),(80,bd)],[(74,cV),(71,wS)]⟩ 2 ⟨[(13,.own 74 db),(12,.own 71 (.st 4))],[(74,cV),(71,wS)]⟩),(80,.loop ⟨[(90,bd)],[(16,I5),(420,cV)]⟩ 4 ⟨[],[(16,I5),(420,cV)]⟩),(91,.cP [101,16,420] ⟨[],[(420,cV),(16,I5)]⟩),(103,.loop ⟨[(19,.own 19 db),(117,bd)],[(19,cV)]⟩ 6 ⟨[(19,.own 19 db)],[(19,cV)]⟩)] (tC (HH fu) (tC (C9 fu) (tC (fw fu) (tC (vr fu) (tC (vo fu) (tC (HG fu) tN)))))) [] mixed Tryz.func12 Tryz.call12 rfl rfl
abbrev Bc(fu:Nat):bB S0:=⟨27,[pc],[],false,[(2,bd)],[],fun q=>F.iw fu q⟩
def qy(fu:Nat):aO Tryz.prog (Bc fu):=.o fu 22 [(6,.du I0 0 j5)] tN [] mixed Tryz.func27 Tryz.call27 rfl rfl
abbrev Dj(fu:Nat):bB S0:=⟨56,[cp],[],false,[(2,bd),(3,bd)],[],fun q=>F.fk fu q⟩
def gX(fu:Nat):aO Tryz.prog (Dj fu):=.o fu 42 [(16,.du ⟨[(4,dO),(15,bd)],[]⟩ 0 CW),(29,.cP [] ⟨[(24,dO)],[]⟩),(37,.join CW),(55,.du ⟨[(7,bd),(31,bd)],[]⟩ 2 ⟨[(7,bd)],[]⟩)] tN [] mixed Tryz.func56 Tryz.call56 rfl rfl
abbrev BX(fu:Nat):bB S0:=⟨84,[oB,fM],[],false,[(4,bd)],[],fun q=>F.nE fu q.1 q.2⟩
def yP(fu:Nat):aO Tryz.prog (BX fu):=.o fu 40 [(8,.mN j5),(19,.join Fx),(23,.join Fx),(27,.join Fx),(31,.join Fx),(35,.join Fx),(39,.join Fx),(43,.join Fx),(46,.mN j5),(56,.mN j5),(67,.join I2),(71,.join I2),(75,.join I2),(79,.join I2),(83,.join I2),(87,.join I2),(90,.mN j5)] tN [] mixed Tryz.func84 Tryz.call84 rfl rfl
abbrev yO(fu:Nat):bB S0:=⟨28,[cp,cp],[],false,[(4,dO)],[],fun q=>F.cB fu q.1 q.2⟩
def fP(fu:Nat):aO Tryz.prog (yO fu):=.o fu 26 [(14,.du ⟨[(13,bd)],[]⟩ 0 j5),(26,.gV [])] tN [] mixed Tryz.func28 Tryz.call28 rfl rfl
abbrev Bg(fu:Nat):bB S0:=⟨132,[cp,fM],[],false,[(4,dO)],[],fun q=>F.jv fu q.1 q.2⟩
def mC(fu:Nat):aO Tryz.prog (Bg fu):=.o fu 35 [(6,.du ⟨[(9,bd)],[]⟩ 0 j5),(18,.cP [] ⟨[(33,dO)],[]⟩)] tN [] mixed Tryz.func132 Tryz.call132 rfl rfl
abbrev Ea(fu:Nat):bB S0:=⟨183,[cp,fM],[],false,[(4,dO)],[],fun q=>F.mZ fu q.1 q.2⟩
def sX(fu:Nat):aO Tryz.prog (Ea fu):=.o fu 17 [(6,.du ⟨[(9,bd)],[]⟩ 0 j5)] tN [] mixed Tryz.func183 Tryz.call183 rfl rfl
abbrev Df(fu:Nat):bB S0:=⟨134,[cp,cp],[],false,[(4,iD)],[],fun q=>F.j9 fu q.1 q.2⟩
def rW(fu:Nat):aO Tryz.prog (Df fu):=.o fu 22 [(8,.loop ⟨[(5,.own 5 db),(9,bd)],[(5,cV)]⟩ 0 V3),(21,.join V3)] (tC (sX fu) tN) [] mixed Tryz.func134 Tryz.call134 rfl rfl
abbrev Bd(fu:Nat):bB S0:=⟨133,[cp,cp],[],false,[(4,iD)],[],fun q=>F.dq fu q.1 q.2⟩
def qz(fu:Nat):aO Tryz.prog (Bd fu):=.o fu 23 [(8,.loop ⟨[(5,.own 5 db),(10,bd)],[(5,cV)]⟩ 0 V3)] tN [] mixed Tryz.func133 Tryz.call133 rfl rfl
abbrev zC(fu:Nat):bB S0:=⟨135,[oB,cp],[],false,[(4,iD),(5,bd)],[],fun q=>F.mf fu q.1 q.2⟩
def w9(fu:Nat):aO Tryz.prog (zC fu):=.o fu 117 [(4,.cP [] ⟨[(30,dO)],[]⟩),(16,.du ⟨[(6,.own 6 db),(33,bd)],[(6,cV)]⟩ 0 V4),(29,.cP [] ⟨[(81,dO)],[]⟩),(40,.join I0),(41,.gV []),(43,.gV [6])] tN [] mixed Tryz.func135 Tryz.call135 rfl rfl
abbrev De(fu:Nat):bB S0:=⟨138,[cp,cp],[],false,[(4,iD)],[],fun q=>F.fj fu q.1 q.2⟩
def rV(fu:Nat):aO Tryz.prog (De fu):=.o fu 10 [] tN [] mixed Tryz.func138 Tryz.call138 rfl rfl
abbrev Dd(fu:Nat):bB S0:=⟨184,[cp,fM],[],false,[(4,dO)],[],fun q=>F.lW fu q.1 q.2⟩
def zD(fu:Nat):aO Tryz.prog (Dd fu):=.o fu 29 [(6,.du ⟨[(9,bd)],[]⟩ 0 j5),(18,.cP [] ⟨[(27,dO)],[]⟩)] (tC (sX fu) tN) [] mixed Tryz.func184 Tryz.call184 rfl rfl
abbrev zE(fu:Nat):bB S0:=⟨136,[oB,cp,cp],[],false,[(6,iD),(7,bd)],[],fun q=>F.mh fu q.1 q.2.1 q.2.2⟩
def xa(fu:Nat):aO Tryz.prog (zE fu):=.o fu 94 [(4,.cP [] ⟨[(25,dO)],[]⟩),(12,.cP [] ⟨[(45,dO)],[]⟩),(20,.cP [] ⟨[(67,dO)],[]⟩)] (tC (rV fu) (tC (zD fu) (tC (qz fu) (tC (fP fu) (tC (rW fu) tN))))) [] mixed Tryz.func136 Tryz.call136 rfl rfl
abbrev yN(fu:Nat):bB S0:=⟨137,[oB,CY],[],false,[(4,iD),(5,bd)],[],fun q=>F.lr fu q.1 q.2⟩
def vR(fu:Nat):aO Tryz.prog (yN fu):=.o fu 84 [(4,.cP [] ⟨[(31,dO)],[]⟩),(16,.du ⟨[(40,bd),(6,.own 32 db)],[(32,cV)]⟩ 0 Rs),(38,.du ⟨[(51,bd),(6,.own 32 db)],[(32,cV)]⟩ 2 Rs),(51,.mN Rs),(52,.gV [32]),(54,.gV [])] tN [] mixed Tryz.func137 Tryz.call137 rfl rfl
abbrev Eb(fu:Nat):bB S0:=⟨211,[cp,fM],[],false,[(4,dO)],[],fun q=>F.kP fu q.1 q.2⟩
def oE(fu:Nat):aO Tryz.prog (Eb fu):=.o fu 17 [(6,.du ⟨[(9,bd)],[]⟩ 0 j5)] tN [] mixed Tryz.func211 Tryz.call211 rfl rfl
abbrev B2(fu:Nat):bB S0:=⟨209,[cp],[],false,[(2,iD)],[],fun q=>F.nI fu q⟩
def yT(fu:Nat):aO Tryz.prog (B2 fu):=.o fu 35 [(8,.loop ⟨[(3,.own 8 db),(11,bd)],[(8,cV)]⟩ 0 ⟨[(3,.own 8 db)],[(8,cV)]⟩),(25,.loop ⟨[(5,bd),(19,bd)],[]⟩ 2 ⟨[(5,bd)],[]⟩),(41,.join ⟨[(5,bd)],[]⟩)] (tC (oE fu) tN) [] mixed Tryz.func209 Tryz.call209 rfl rfl
abbrev B1(fu:Nat):bB S0:=⟨185,[cp],[],false,[(2,nq),(3,bd)],[],fun q=>F.nH fu q⟩
def yS(fu:Nat):aO Tryz.prog (B1 fu):=.o fu 19 [] (tC (gX fu) (tC (yT fu) tN)) [] mixed Tryz.func185 Tryz.call185 rfl rfl
abbrev Ec(fu:Nat):bB S0:=⟨225,[fM],[],false,[(2,dO)],[],fun q=>F.nb fu q⟩
def Be(fu:Nat):aO Tryz.prog (Ec fu):=.o fu 9 [(3,.cP [] ⟨[(2,dO)],[]⟩)] tN [] mixed Tryz.func225 Tryz.call225 rfl rfl
abbrev B0(fu:Nat):bB S0:=⟨210,[nq],[],false,[(2,bd)],[],fun q=>F.gN fu q⟩
def iV(fu:Nat):aO Tryz.prog (B0 fu):=.o fu 36 [(32,.du ⟨[(29,bd)],[]⟩ 0 j5)] (tC (gX fu) (tC (Be fu) tN)) [] mixed Tryz.func210 Tryz.call210 rfl rfl
abbrev Bf(fu:Nat):bB S0:=⟨186,[nq,cp,cp],[],false,[(6,nq),(7,bd)],[],fun q=>F.nc fu q.1 q.2.1 q.2.2⟩
def xq(fu:Nat):aO Tryz.prog (Bf fu):=.o fu 79 [(24,.cP [] ⟨[(41,dO)],[]⟩),(31,.cP [11] ⟨[(11,.loc 11 0)],[V6,(48,cV)]⟩),(36,.du ⟨[(52,bd)],[(6,u9),(48,cV),V6]⟩ 0 ⟨[],[(6,u9),(48,cV),V6]⟩),(49,.gV []),(55,.gV [48])] (tC (iV fu) (tC (gX fu) (tC (mC fu) tN))) [] mixed Tryz.func186 Tryz.call186 rfl rfl
abbrev Di(fu:Nat):bB S0:=⟨187,[nq,cp],[],false,[(4,Fy),(5,bd)],[],fun q=>F.oH fu q.1 q.2⟩
def zG(fu:Nat):aO Tryz.prog (Di fu):=.o fu 67 [(24,.du ⟨[(27,bd)],[(4,u9)]⟩ 0 ⟨[],[(4,u9)]⟩),(49,.loop ⟨[(41,bd)],[(8,wR),(420,cV),(421,cV)]⟩ 2 ⟨[],[(8,wR),(420,cV),(421,cV)]⟩),(61,.cP [53,8,420] ⟨[],[(420,cV),(8,wR)]⟩),(62,.cP [421,8] ⟨[],[(421,cV),(8,wR)]⟩)] (tC (iV fu) (tC (oE fu) tN)) [] mixed Tryz.func187 Tryz.call187 rfl rfl
abbrev Dl(fu:Nat):bB S0:=⟨212,[fM,fM,fM],[],false,[(6,bd)],[],fun q=>F.lY fu q.1 q.2.1 q.2.2⟩
def zH(fu:Nat):aO Tryz.prog (Dl fu):=.o fu 19 [(8,.loop ⟨[(7,bd),(8,bd)],[]⟩ 0 ⟨[(7,bd)],[]⟩)] tN [] mixed Tryz.func212 Tryz.call212 rfl rfl
abbrev Dh(fu:Nat):bB S0:=⟨213,[nq],[],false,[(2,nq),(3,bd)],[],fun q=>F.lX fu q⟩
def rX(fu:Nat):aO Tryz.prog (Dh fu):=.o fu 9 [] (tC (iV fu) tN) [] mixed Tryz.func213 Tryz.call213 rfl rfl
abbrev Ed(fu:Nat):bB S0:=⟨188,[nq,cp,cp,cp],[],false,[(8,Fy),(9,bd)],[],fun q=>F.pA fu q.1 q.2.1 q.2.2.1 q.2.2.2⟩
def Bh(fu:Nat):aO Tryz.prog (Ed fu):=.o fu 153 [(14,.cP [] ⟨[(42,dO)],[]⟩),(26,.du ⟨[(50,bd)],[(8,u9)]⟩ 0 ⟨[],[(8,u9)]⟩),(38,.cP [] ⟨[(92,dO)],[]⟩),(49,.loop ⟨[(98,bd)],[(11,wR),(420,cV),(421,cV)]⟩ 2 ⟨[],[(11,wR),(420,cV),(421,cV)]⟩),(61,.gV [11]),(63,.cP [420,11] ⟨[],[(420,cV),(11,wR)]⟩),(64,.cP [421,11] ⟨[],[(421,cV),(11,wR)]⟩)] (tC (iV fu) (tC (zH fu) (tC (rX fu) tN))) [] mixed Tryz.func188 Tryz.call188 rfl rfl
abbrev Dm(fu:Nat):bB S0:=⟨189,[nq,cp],[],false,[(4,nq),(5,bd)],[],fun q=>F.oI fu q.1 q.2⟩
def zI(fu:Nat):aO Tryz.prog (Dm fu):=.o fu 70 [(26,.loop ⟨[(31,bd)],[Rw,(420,cV)]⟩ 0 ⟨[],[Rw,(420,cV)]⟩),(40,.join ⟨[(9,bd)],[Rw]⟩),(44,.join ⟨[],[Rw]⟩),(45,.gV [7])] (tC (iV fu) (tC (mC fu) (tC (oE fu) (tC (rX fu) tN)))) [] mixed Tryz.func189 Tryz.call189 rfl rfl
abbrev yL(fu:Nat):bB S0:=⟨139,[oB,cp],[],false,[(4,cp),(5,bd)],[],fun q=>F.oG fu q.1 q.2⟩
def vQ(fu:Nat):aO Tryz.prog (yL fu):=.o fu 61 [(18,.join V8),(22,.join V8),(26,.join V8)] (tC (yS fu) (tC (xq fu) (tC (zG fu) (tC (Bh fu) (tC (zI fu) tN))))) [] mixed Tryz.func139 Tryz.call139 rfl rfl
abbrev BW(fu:Nat):bB S0:=⟨85,[oB,CY],[],false,[(4,cp),(5,bd)],[],fun q=>F.dD fu q.1 q.2⟩
def yM(fu:Nat):aO Tryz.prog (BW fu):=.o fu 177 [(15,.join Nx),(19,.join Nx),(23,.join Nx),(27,.join Nx),(31,.join Nx),(39,.du ⟨[(27,bd)],[]⟩ 1 j5),(66,.gV []),(73,.gV []),(105,.gV []),(111,.gV []),(131,.gV []),(138,.cP [] ⟨[(158,dO)],[]⟩),(145,.gV []),(149,.gV [])] (tC (fP fu) (tC (mC fu) (tC (rW fu) (tC (qz fu) (tC (gX fu) (tC (w9 fu) (tC (xa fu) (tC (vR fu) (tC (rV fu) (tC (vQ fu) tN)))))))))) [] mixed Tryz.func85 Tryz.call85 rfl rfl
abbrev Dg(fu:Nat):bB S0:=⟨57,[oB,CY],[],false,[(4,cp),(5,bd)],[],fun q=>F.iy fu q.1 q.2⟩
def zF(fu:Nat):aO Tryz.prog (Dg fu):=.o fu 55 [(16,.du ⟨[(24,bd)],[]⟩ 0 j5)] (tC (yP fu) (tC (gX fu) (tC (yM fu) tN))) [] mixed Tryz.func57 Tryz.call57 rfl rfl
abbrev Dc(fu:Nat):bB S0:=⟨33,[pc],[],false,[(2,CY),(3,bd)],[],fun q=>F.lV fu q⟩
def zB(fu:Nat):aO Tryz.prog (Dc fu):=.o fu 127 [(16,.du ⟨[(4,.own 4 p7),(23,bd)],[(4,yC)]⟩ 0 ⟨[(4,.own 4 p7)],[(4,yC)]⟩),(24,.mN ⟨[(4,.own 4 p7)],[(4,yC)]⟩),(33,.du ⟨[(7,.own 7 p7),(31,bd)],[(7,yC)]⟩ 2 ⟨[(7,.own 7 p7)],[(7,yC)]⟩),(46,.cP [] ⟨[(41,dO)],[]⟩),(60,.cP [] ⟨[(73,dO)],[]⟩),(104,.du ⟨[(112,bd)],[]⟩ 4 j5),(116,.cP [] ⟨[(124,dO)],[]⟩)] (tC (qy fu) (tC (gX fu) (tC (zF fu) tN))) [] mixed Tryz.func33 Tryz.call33 rfl rfl
abbrev BU(fu:Nat):bB S0:=⟨53,[yB,fM,.own 1000 db],[tT],false,[(6,.own 480 db)],[(480,lT)],fun q=>F.fW fu q.1 q.2.1 q.2.2⟩
def qW:∀fu:Nat,aO Tryz.prog (BU fu)|0=>⟨Tryz.call53,fun q r h=>nomatch (show(none:Option _)=some r from h)⟩|fu+1=>.o (fu+1) 41 [(6,.du ⟨[(13,bd)],[]⟩ 0 j5),(29,.loop ⟨[(2,.own 480 db),(28,bd)],[(480,lT)]⟩ 2 ⟨[(2,.own 480 db)],[(480,lT)]⟩)] (tC (qW fu) tN) [1000] mixed Tryz.func53 Tryz.call53 rfl rfl
abbrev BY(fu:Nat):bB S0:=⟨54,[oB],[],false,[(2,oB)],[],fun q=>F.nF fu q⟩
def yQ(fu:Nat):aO Tryz.prog (BY fu):=.o fu 85 [(8,.cP [] ⟨[(27,dO)],[]⟩),(9,.join ⟨[],[(3,.box 52 true [bd,cp,iD,iD,iD,iD,bd])]⟩),(14,.cP [] ⟨[(56,dO)],[]⟩),(15,.join ⟨[],[(3,.box 52 true [bd,cp,cp,iD,iD,iD,bd])]⟩),(20,.cP [] ⟨[(69,dO)],[]⟩),(21,.join ZK),(22,.gV [3]),(27,.join ZK)] tN [] mixed Tryz.func54 Tryz.call54 rfl rfl
abbrev BZ(fu:Nat):bB S0:=⟨49,[oB,oB],[],false,[(4,dO)],[],fun q=>F.nG fu q.1 q.2⟩
def yR(fu:Nat):aO Tryz.prog (BZ fu):=.o fu 52 [(3,.cP [] CW)] (tC (fP fu) tN) [] mixed Tryz.func49 Tryz.call49 rfl rfl
abbrev yJ(fu:Nat):bB S0:=⟨23,[Ny,Ny],[],false,[(4,dO)],[],fun q=>F.jK fu q.1 q.2⟩
def pp(fu:Nat):aO Tryz.prog (yJ fu):=.o fu 17 [(3,.cP [] CW)] (tC (yR fu) (tC (fP fu) tN)) [] mixed Tryz.func23 Tryz.call23 rfl rfl
abbrev Bb(fu:Nat):bB S0:=⟨26,[yB,fM,cp],[],false,[(6,pc)],[],fun q=>F.mX fu q.1 q.2.1 q.2.2⟩
def xn(fu:Nat):aO Tryz.prog (Bb fu):=.o fu 142 [(8,.loop ⟨[(7,.own 7 db),(8,bd)],[(7,cV)]⟩ 0 ⟨[(7,.own 7 db)],[(7,cV)]⟩),(23,.loop ⟨[(7,.own 7 db),(33,bd)],[(7,cV)]⟩ 2 ⟨[(7,.own 7 db)],[(7,cV)]⟩),(44,.loop ⟨[(47,bd),(12,.own 44 db)],[I4,(44,cV),(420,wS),(422,cV)]⟩ 4 ⟨[(12,.own 44 db)],[I4,(44,cV),(420,wS),(422,cV)]⟩),(61,.loop ⟨[(64,bd)],[Wd,(421,cV)]⟩ 6 ⟨[],[Wd,(421,cV)]⟩),(72,.cP [75,15,421] ⟨[],[(421,cV),Wd]⟩),(80,.loop ⟨[(87,bd),(12,.own 44 db)],[(44,cV)]⟩ 8 ⟨[(12,.own 44 db)],[(44,cV)]⟩),(92,.cP [] ⟨[(104,dO)],[]⟩),(93,.join ⟨[(12,.own 44 db)],[(44,cV)]⟩),(97,.fz [421]),(98,.gV []),(99,.join ⟨[],[(420,wS),I4]⟩),(107,.loop ⟨[(127,bd)],[(422,cV),I4]⟩ 10 ⟨[],[(422,cV),I4]⟩),(118,.cP [422,11] ⟨[],[(422,cV),I4]⟩)] (tC (qW fu) (tC (yQ fu) (tC (pp fu) tN))) [] mixed Tryz.func26 Tryz.call26 rfl rfl
abbrev zA(fu:Nat):bB S0:=⟨34,[pc],[],false,[(2,pc),(3,bd)],[],fun q=>F.pf fu q⟩
def w8(fu:Nat):aO Tryz.prog (zA fu):=.o fu 10 [] tN [] mixed Tryz.func34 Tryz.call34 rfl rfl
abbrev BV(fu:Nat):bB S0:=⟨13,[pc,pc],[],false,[(4,pc),(5,bd)],[],fun q=>F.qH fu q.1 q.2⟩
def yK(fu:Nat):aO Tryz.prog (BV fu):=.o fu 139 [(24,.gV []),(34,.du ⟨[(49,bd)],[Rx]⟩ 0 ⟨[],[Rx]⟩),(46,.gV []),(61,.loop ⟨[(12,.own 70 db),(11,.own 66 (.st 4)),(77,bd)],[(70,cV),(66,wS)]⟩ 2 ZM),(69,.join ZM),(84,.loop ⟨[(92,bd)],[(15,I5),(420,cV)]⟩ 4 ⟨[],[(15,I5),(420,cV)]⟩),(95,.cP [103,15,420] ⟨[],[(420,cV),(15,I5)]⟩),(107,.loop ⟨[(18,.own 18 db),(119,bd)],[(18,cV)]⟩ 6 ⟨[(18,.own 18 db)],[(18,cV)]⟩)] (tC (zB fu) (tC (qy fu) (tC (fP fu) (tC (xn fu) (tC (w8 fu) tN))))) [] mixed Tryz.func13 Tryz.call13 rfl rfl
abbrev xp(fu:Nat):bB S0:=⟨11,[pc,pc],[],false,[(4,dO)],[],fun q=>F.ju fu q.1 q.2⟩
def vd(fu:Nat):aO Tryz.prog (xp fu):=.o fu 40 [(4,.cP [] ⟨[(20,dO)],[]⟩),(14,.du ⟨[(24,bd)],[]⟩ 0 j5),(26,.gV [])] (tC (fP fu) (tC (pp fu) tN)) [] mixed Tryz.func11 Tryz.call11 rfl rfl
abbrev vS(fu:Nat):bB S0:=⟨4,[pc,pc],[],false,[(4,dO)],[],fun q=>F.jU fu q.1 q.2⟩
def tX(fu:Nat):aO Tryz.prog (vS fu):=.o fu 29 [(7,.cP [] CW)] (tC (FT fu) (tC (yK fu) (tC (vd fu) tN))) [] mixed Tryz.func4 Tryz.call4 rfl rfl
end
end Go.DN
