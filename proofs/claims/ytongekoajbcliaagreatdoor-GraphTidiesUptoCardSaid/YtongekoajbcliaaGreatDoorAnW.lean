/-
  Each function does what its Lean function says.
-/
import Derived.Test.YtongekoajbcliaaGreatDoorAnF
import Derived.Test.YtongekoajbcliaaGreatDoorProg
import Derived.Test.YtongekoajbcliaaGreatDoorTgD
import Derived.Test.YtongekoajbcliaaGreatDoorTgE
import Derived.Test.YtongekoajbcliaaGreatDoorCcW
import Derived.KernelRfl
set_option maxRecDepth 20000
set_option linter.unusedVariables false
set_option linter.unusedSimpArgs false
namespace Go.DN
open Go.AM
open Go.Proofs
noncomputable section
theorem mixed:Tryz.prog.follows .mixedOrders=true:=by kernel_rfl
abbrev jU:JH:=⟨[],[]⟩
abbrev dy:Ty:=(.int .i64)
abbrev uO:Sh:=.loc 1000 0
abbrev dH:Sh:=.aD true .bool
abbrev E4:Sh:=.aD true (.st 2)
abbrev mZ:Sh:=.aD false (.st 2)
abbrev od:Sh:=.aD false (.st 0)
abbrev rh:Sh:=.aD false (.st 5)
abbrev MX:Sh:=.aD false (.st 4)
abbrev pO:Ty:=(.list dy)
abbrev bg:Sh:=.aD true dy
abbrev fF:Sh:=.aD false dy
abbrev QQ:Oh:=.arr 4 true true .bool
abbrev Al:Sh:=.aD false (.list (.st 4))
abbrev Iw:Oh:=.arr 54 true false (.st 4)
abbrev Am:Oh:=.arr 54 false false (.st 4)
abbrev dx:Oh:=.arr 3 true true dy
abbrev Cr:Oh:=.arr 241 false false (.st 3)
abbrev E2:JH:=⟨[(4,dH)],[]⟩
abbrev Ir:JH:=⟨[(6,dH)],[]⟩
abbrev iA:Sh:=.aD true pO
abbrev lJ:Oh:=.arr 3 false true dy
abbrev E5:JH:=⟨[(14,dH)],[]⟩
abbrev E3:JH:=⟨[(11,dH)],[]⟩
abbrev Iv:JH:=⟨[(39,dH)],[]⟩
abbrev Iu:JH:=⟨[(26,dH)],[]⟩
abbrev MW:JH:=⟨[(18,dH)],[]⟩
abbrev cw:Sh:=.aD false pO
abbrev tA:Oh:=.arr 3 false false dy
abbrev Iq:JH:=⟨[(8,bg)],[]⟩
abbrev yb:Oh:=.arr 23 true false pO
abbrev Cs:Sh:=.aD false (.list pO)
abbrev Ao:Oh:=.deep 0 false false (.sm false) (.st 9)
abbrev QT:Nat×Oh:=(1003,.box 234 false [.own 486 (.st 3)])
abbrev Ak:Oh:=.box 23 false [cw]
abbrev Vo:Oh:=.lp 0 false [.loc 1002 0,.loc 1003 0,.loc 1004 0]
abbrev QS:List Sh:=[uO,.loc 1001 0,.loc 1002 0,.loc 1003 0]
abbrev Vv:JH:=⟨[(3,.own 3 (.st 3))],[(3,.arr 241 true true (.st 3))]⟩
abbrev Ix:Nat×Oh:=(11,.box 25 true [.own 420 (.st 4),.own 422 dy])
abbrev Vr:Oh:=.lp 1 true [.loc 1002 0,.loc 1003 0,.loc 1004 0,.loc 1005 0]
abbrev Vq:JH:=⟨[(6,.own 6 dy)],[(6,dx)]⟩
abbrev Vp:JH:=⟨[(5,.own 5 dy)],[(5,dx)]⟩
abbrev QR:JH:=⟨[(6,.own 32 dy)],[(32,dx)]⟩
abbrev E6:JH:=⟨[(7,cw),(8,bg)],[]⟩
abbrev Vx:Nat×Oh:=(1000,.box 67 false [.own 481 (.st 4),.own 1002 dy,.dX 483])
abbrev Vw:Nat×Oh:=(1000,.box 67 false [.own 482 (.st 4),.own 1003 dy,.dX 484])
abbrev wy:Oh:=.box 127 true [bg,.own 420 dy,.own 421 dy]
abbrev QZ:List Oh:=[.box 151 false [.gw 1000 0,.own 1001 (.int .u8)],.arr 5 false false (.int .u8)]
abbrev QV:Nat×Oh:=(7,.box 127 true [bg,.own 27 dy,.own 30 dy])
abbrev Vt:Nat×Oh:=(11,.box 127 true [bg,.own 46 dy,.own 49 dy])
abbrev Y3:List (Nat×Oh):=[(3,.box 151 true [.loc 3 0,.own 420 (.int .u8)]),(420,.arr 5 true true (.int .u8))]
abbrev Y0:Nat×Oh:=(1002,.box 127 false [bg,.own 1004 dy,.own 1005 dy])
abbrev JO:List (Nat×Oh):=[(1000,.box 151 false [uO,.own 481 (.int .u8)]),(481,.arr 5 false true (.int .u8))]
abbrev QU:Nat×Oh:=(7,.box 127 true [bg,cw,.own 420 dy])
abbrev Vs:Nat×Oh:=(11,.box 127 true [bg,cw,.own 48 dy])
abbrev uP:Oh:=.box 127 true [bg,iA,iA]
abbrev QP:Oh:=.box 127 false [bg,cw,cw]
abbrev Vu:JH:=⟨[(7,bg)],[(6,.box 127 true [bg,cw,cw])]⟩
abbrev MY:Nat×Oh:=(11,.box 121 true [cw,cw,.own 420 dy,bg,bg,bg,bg])
abbrev Q0:Nat×Oh:=(1000,.box 121 false [cw,cw,.own 482 dy,bg,bg,bg,bg])
abbrev QX:List Oh:=[.box 121 false [cw,cw,.own 1001 dy,fF,fF,fF,fF],tA]
abbrev Y1:JH:=⟨[],[(3,.box 52 true [bg,cw,cw,cw,cw,cw,bg])]⟩
abbrev Y6:List (Nat×Oh):=[(14,.box 67 true [.own 421 (.st 4),.own 422 dy,.dX 420]),(15,.deep 0 true true (.sm true) (.st 7)),(421,Iw),(422,dx),(420,.deep 0 true false (.sm false) (.st 9))]
abbrev QY:List (Nat×Oh):=[(1000,.box 121 false [cw,cw,.own 1001 dy,bg,bg,bg,bg]),(1001,lJ)]
abbrev Vy:Nat×Oh:=(15,.box 54 true [bg,cw,cw,cw,cw,cw,bg,.own 421 dy])
abbrev Y5:List (Nat×Oh):=[(1000,Vo),(1002,Ak),(1003,.box 23 false [.own 1005 dy]),(1004,.box 3 false [bg]),(1005,lJ)]
abbrev Y4:List Oh:=[.box 121 false [cw,cw,.own 1002 dy,fF,fF,fF,fF],.box 183 false [.ba 105 []],tA]
abbrev QW:JH:=⟨[(9,.own 9 dy)],[(482,lJ),Q0,(9,dx)]⟩
abbrev Y2:JH:=⟨[(9,.own 9 dy),(14,bg)],[(482,lJ),Q0,(9,dx)]⟩
abbrev Y8:List (Nat×Oh):=[(8,.box 101 true [.mp 15]),(3,.box 22 true [Al]),(10,.box 102 true [.ba 52 [.loc 8 0,.loc 3 0,.loc 10 0,.loc 7 0]]),(7,.box 64 true [.loc 14 0]),(15,.deep 0 true false (.sm true) (.st 7)),(14,.box 67 true [.own 421 (.st 4),.own 422 dy,.dX 420]),(421,Iw),(420,.deep 0 true false (.sm false) (.st 9)),(422,dx)]
abbrev Y7:List (Nat×Oh):=[(1000,Vr),(1002,QP),(1003,.box 26 false [bg]),(1004,.box 127 false [bg,.own 1006 dy,.own 1007 dy]),(1005,.box 234 false [.own 488 (.st 3)]),(1006,lJ),(1007,lJ),(488,Cr)]
abbrev Y9:List (Nat×Oh):=[(1000,.box 101 false [.mp 1004]),(1001,.box 22 false [Al]),(1002,.box 102 false [.ba 52 QS]),(1003,.box 64 false [.loc 1005 0]),(1004,.deep 0 false false (.sm true) (.st 7)),(1005,.box 67 false [.own 486 (.st 4),.own 1007 dy,.dX 488]),(486,Am),(1007,lJ),(488,Ao),(9,dx)]
abbrev Nn (fu:Nat):bz S0:=⟨82,[fF],[],false,[(2,bg)],[],fun q=>F.vB fu q⟩
theorem Hf (fu:Nat):aM Tryz.prog (Nn fu):=.o fu 27
 [(15,.join Ir),
  (19,.join Ir),
  (23,.join Ir),
  (27,.join Ir),
  (31,.join Ir),
  (35,.join Ir),
  (45,.join E5),
  (49,.join E5),
  (53,.join E5),
  (57,.join E5),
  (61,.join E5),
  (65,.join E5),
  (69,.join E5)]
 tN [] mixed Tryz.func82 Tryz.call82 rfl rfl
abbrev Kl (fu:Nat):bz S0:=⟨73,[fF],[],false,[(2,dH)],[],fun q=>F.qw fu q⟩
theorem Ff (fu:Nat):aM Tryz.prog (Kl fu):=.o fu 9
 [(3,.cO [] ⟨[(2,dH)],[]⟩)]
 tN [] mixed Tryz.func73 Tryz.call73 rfl rfl
abbrev CA (fu:Nat):bz S0:=⟨114,[cw,.ba 73 []],[],false,[(4,bg)],[],fun q=>F.qW fu q⟩
theorem yY (fu:Nat):aM Tryz.prog (CA fu):=.o fu 19
 [(6,.dv Iq 0 jU)]
 (tC (Ff fu) tN) [] mixed Tryz.func114 Tryz.call114 rfl rfl
abbrev yZ (fu:Nat):bz S0:=⟨72,[cw,.ba 73 []],[],false,[(4,dH)],[],fun q=>F.lT fu q⟩
theorem wF (fu:Nat):aM Tryz.prog (yZ fu):=.o fu 9
 []
 (tC (yY fu) tN) [] mixed Tryz.func72 Tryz.call72 rfl rfl
abbrev IH (fu:Nat):bz S0:=⟨115,[cw,fF],[],false,[(4,bg)],[],fun q=>F.vS fu q.1 q.2⟩
theorem Dw (fu:Nat):aM Tryz.prog (IH fu):=.o fu 19
 [(6,.dv Iq 0 jU)]
 tN [] mixed Tryz.func115 Tryz.call115 rfl rfl
abbrev u3 (fu:Nat):bz S0:=⟨74,[cw,fF],[],false,[(4,dH)],[],fun q=>F.iE fu q.1 q.2⟩
theorem jx (fu:Nat):aM Tryz.prog (u3 fu):=.o fu 9
 []
 (tC (Dw fu) tN) [] mixed Tryz.func74 Tryz.call74 rfl rfl
abbrev D6 (fu:Nat):bz S0:=⟨41,[cw],[],false,[(2,bg),(3,bg)],[],fun q=>F.jF fu q⟩
theorem jW (fu:Nat):aM Tryz.prog (D6 fu):=.o fu 32
 [(24,.dv ⟨[(4,bg),(14,bg)],[]⟩ 0 ⟨[(4,bg)],[]⟩),
  (39,.cO [] ⟨[(27,dH)],[]⟩)]
 (tC (wF fu) (tC (jx fu) tN)) [] mixed Tryz.func41 Tryz.call41 rfl rfl
abbrev Nq (fu:Nat):bz S0:=⟨65,[od,Cs],[],false,[(4,bg)],[],fun q=>F.gv fu q.1 q.2⟩
theorem Hh (fu:Nat):aM Tryz.prog (Nq fu):=.o fu 47
 [(14,.cO [] ⟨[(31,dH)],[]⟩),
  (24,.dv ⟨[(34,bg)],[]⟩ 0 jU)]
 (tC (Hf fu) (tC (jW fu) tN)) [] mixed Tryz.func65 Tryz.call65 rfl rfl
abbrev y8 (fu:Nat):bz S0:=⟨32,[cw],[],false,[(2,.own 5 dy)],[(5,dx)],fun q=>F.cS fu q⟩
theorem fN (fu:Nat):aM Tryz.prog (y8 fu):=.o fu 8
 []
 tN [] mixed Tryz.func32 Tryz.call32 rfl rfl
abbrev II (fu:Nat):bz S0:=⟨30,[cw,cw],[],false,[(4,dH)],[],fun q=>F.pq fu q.1 q.2⟩
theorem Dx (fu:Nat):aM Tryz.prog (II fu):=.o fu 26
 [(14,.dv ⟨[(13,bg)],[]⟩ 0 jU),
  (26,.gY [])]
 tN [] mixed Tryz.func30 Tryz.call30 rfl rfl
abbrev NY (fu:Nat):bz S0:=⟨223,[fF],[],false,[(2,dH)],[],fun q=>F.xD fu q⟩
theorem IL (fu:Nat):aM Tryz.prog (NY fu):=.o fu 6
 []
 tN [] mixed Tryz.func223 Tryz.call223 rfl rfl
abbrev Q9 (fu:Nat):bz S0:=⟨199,[fF,fF],[],false,[(4,dH)],[],fun q=>F.Az fu q.1 q.2⟩
theorem Kq (fu:Nat):aM Tryz.prog (Q9 fu):=.o fu 17
 [(3,.cO [] E2)]
 (tC (IL fu) tN) [] mixed Tryz.func199 Tryz.call199 rfl rfl
abbrev Dv (fu:Nat):bz S0:=⟨151,[cw],[],false,[(2,dH)],[],fun q=>F.oR fu q⟩
theorem AF (fu:Nat):aM Tryz.prog (Dv fu):=.o fu 21
 [(6,.dv ⟨[(3,bg)],[]⟩ 0 jU),
  (16,.gY [])]
 (tC (Kq fu) tN) [] mixed Tryz.func151 Tryz.call151 rfl rfl
abbrev Fv (fu:Nat):bz S0:=⟨104,[cw,fF],[],false,[(4,dH)],[],fun q=>F.ly fu q.1 q.2⟩
theorem sV (fu:Nat):aM Tryz.prog (Fv fu):=.o fu 33
 [(8,.dv ⟨[(12,bg),(5,.own 9 .bool)],[(9,QQ)]⟩ 0 ⟨[],[(9,QQ)]⟩),
  (21,.cO [] ⟨[(28,dH)],[]⟩)]
 tN [] mixed Tryz.func104 Tryz.call104 rfl rfl
abbrev IN (fu:Nat):bz S0:=⟨102,[cw,fF],[],false,[(4,dH)],[],fun q=>F.sJ fu q.1 q.2⟩
theorem DA (fu:Nat):aM Tryz.prog (IN fu):=.o fu 12
 [(3,.cO [] E2)]
 (tC (AF fu) (tC (sV fu) tN)) [] mixed Tryz.func102 Tryz.call102 rfl rfl
abbrev IM (fu:Nat):bz S0:=⟨66,[cw,cw],[],false,[(4,iA),(5,bg)],[],fun q=>F.sI fu q.1 q.2⟩
theorem Dz (fu:Nat):aM Tryz.prog (IM fu):=.o fu 31
 [(16,.loop ⟨[(6,.own 6 dy),(16,bg)],[(6,dx)]⟩ 0 Vq),
  (29,.join Vq)]
 (tC (DA fu) (tC (jx fu) tN)) [] mixed Tryz.func66 Tryz.call66 rfl rfl
abbrev Ft (fu:Nat):bz S0:=⟨103,[fF,fF],[],false,[(4,dH)],[],fun q=>F.lx fu q.1 q.2⟩
theorem Bh (fu:Nat):aM Tryz.prog (Ft fu):=.o fu 12
 [(3,.cO [] E2)]
 tN [] mixed Tryz.func103 Tryz.call103 rfl rfl
abbrev IQ (fu:Nat):bz S0:=⟨67,[od,cw],[],false,[(4,iA),(5,bg)],[],fun q=>F.sN fu q.1 q.2⟩
theorem DD (fu:Nat):aM Tryz.prog (IQ fu):=.o fu 102
 [(6,.cO [] ⟨[(30,dH)],[]⟩),
  (20,.dv ⟨[(35,bg),(8,.own 32 dy)],[(32,dx)]⟩ 0 ⟨[(8,.own 32 dy)],[(32,dx)]⟩),
  (33,.cO [] ⟨[(62,dH)],[]⟩),
  (40,.gY [32]),
  (43,.join ⟨[(8,.own 32 dy)],[(32,dx)]⟩),
  (44,.gY [32])]
 (tC (Bh fu) tN) [] mixed Tryz.func67 Tryz.call67 rfl rfl
abbrev G8 (fu:Nat):bz S0:=⟨70,[Cs],[],false,[(0,iA)],[],fun q=>Go.Proofs.YtongekoajbcliaaGreatDoor.F.c7 fu q⟩
theorem uG (fu:Nat):aM Tryz.prog (G8 fu):=⟨Tryz.call70,fun q r h=>Go.Proofs.YtongekoajbcliaaGreatDoor.Ei fu q r h⟩
abbrev Fs (fu:Nat):bz S0:=⟨105,[.loc 1000 3,fF],QX,false,[],QY,fun q=>F.tM fu q.1 q.2.1 q.2.2.1 q.2.2.2.1 q.2.2.2.2.1 q.2.2.2.2.2.1 q.2.2.2.2.2.2.1 q.2.2.2.2.2.2.2⟩
theorem Bg (fu:Nat):aM Tryz.prog (Fs fu):=.o fu 12
 []
 tN [] mixed Tryz.func105 Tryz.call105 rfl rfl
abbrev Fq (fu:Nat):bz S0:=⟨105,[.loc 1000 4,fF],QX,false,[],QY,fun q=>F.tL fu q.1 q.2.1 q.2.2.1 q.2.2.2.1 q.2.2.2.2.1 q.2.2.2.2.2.1 q.2.2.2.2.2.2.1 q.2.2.2.2.2.2.2⟩
theorem Bf (fu:Nat):aM Tryz.prog (Fq fu):=.o fu 12
 []
 tN [] mixed Tryz.func105 Tryz.call105 rfl rfl
abbrev IP (fu:Nat):bz S0:=⟨106,[cw,cw,.loc 1000 4,uO,.loc 1001 0],Y4,false,[(8,iA)],[Q0,(1001,.box 183 false [.ba 105 []]),(482,lJ)],fun q=>F.sK fu q.1 q.2.1 q.2.2.1 q.2.2.2.1 q.2.2.2.2.1 q.2.2.2.2.2.1 q.2.2.2.2.2.2.1 q.2.2.2.2.2.2.2.1 q.2.2.2.2.2.2.2.2⟩
theorem DB (fu:Nat):aM Tryz.prog (IP fu):=.o fu 39
 [(8,.loop Y2 0 QW),
  (21,.join QW)]
 (tC (Bf fu) (tC (jx fu) tN)) [1002] mixed Tryz.func106 Tryz.call106 rfl rfl
abbrev Fp (fu:Nat):bz S0:=⟨105,[.loc 1000 5,fF],QX,false,[],QY,fun q=>F.tK fu q.1 q.2.1 q.2.2.1 q.2.2.2.1 q.2.2.2.2.1 q.2.2.2.2.2.1 q.2.2.2.2.2.2.1 q.2.2.2.2.2.2.2⟩
theorem Be (fu:Nat):aM Tryz.prog (Fp fu):=.o fu 12
 []
 tN [] mixed Tryz.func105 Tryz.call105 rfl rfl
abbrev Fo (fu:Nat):bz S0:=⟨106,[cw,cw,.loc 1000 5,uO,.loc 1001 0],Y4,false,[(8,iA)],[Q0,(1001,.box 183 false [.ba 105 []]),(482,lJ)],fun q=>F.qd fu q.1 q.2.1 q.2.2.1 q.2.2.2.1 q.2.2.2.2.1 q.2.2.2.2.2.1 q.2.2.2.2.2.2.1 q.2.2.2.2.2.2.2.1 q.2.2.2.2.2.2.2.2⟩
theorem Bd (fu:Nat):aM Tryz.prog (Fo fu):=.o fu 39
 [(8,.loop Y2 0 QW),
  (21,.join QW)]
 (tC (Be fu) (tC (jx fu) tN)) [1002] mixed Tryz.func106 Tryz.call106 rfl rfl
abbrev DC (fu:Nat):bz S0:=⟨105,[.loc 1000 6,fF],QX,false,[],QY,fun q=>F.sL fu q.1 q.2.1 q.2.2.1 q.2.2.2.1 q.2.2.2.2.1 q.2.2.2.2.2.1 q.2.2.2.2.2.2.1 q.2.2.2.2.2.2.2⟩
theorem AI (fu:Nat):aM Tryz.prog (DC fu):=.o fu 12
 []
 tN [] mixed Tryz.func105 Tryz.call105 rfl rfl
abbrev Nl (fu:Nat):bz S0:=⟨68,[od,cw,cw],[],false,[(6,.aD true (.st 1)),(7,bg)],[],fun q=>F.sM fu q.1 q.2.1 q.2.2⟩
theorem He (fu:Nat):aM Tryz.prog (Nl fu):=.o fu 153
 [(3,.cO [] ⟨[(8,iA),(9,iA)],[]⟩),
  (6,.cO [] ⟨[(61,dH)],[]⟩),
  (16,.dv ⟨[(65,bg)],[(6,.box 121 true [iA,iA,iA,bg,bg,bg,bg])]⟩ 0 ⟨[],[(6,.box 121 true [iA,iA,iA,bg,bg,bg,bg])]⟩),
  (28,.gY []),
  (43,.loop ⟨[(89,bg)],[MY,(420,dx)]⟩ 2 ⟨[],[MY,(420,dx)]⟩),
  (55,.cO [100,11,420] ⟨[],[(420,dx),MY]⟩),
  (56,.gY [11,420]),
  (68,.loop ⟨[(124,bg)],[MY,(420,dx)]⟩ 4 ⟨[],[MY,(420,dx)]⟩),
  (79,.gY [11,420]),
  (82,.cO [11] ⟨[],[(11,.box 121 true [iA,iA,.own 420 dy,bg,bg,bg,bg])]⟩)]
 (tC (Bg fu) (tC (DB fu) (tC (Bd fu) (tC (AI fu) (tC (uG fu) (tC (sV fu) tN)))))) [] mixed Tryz.func68 Tryz.call68 rfl rfl
abbrev IR (fu:Nat):bz S0:=⟨69,[cw,Cs],[],false,[(4,iA),(5,bg)],[],fun q=>F.sO fu q.1 q.2⟩
theorem DE (fu:Nat):aM Tryz.prog (IR fu):=.o fu 83
 [(4,.cO [] ⟨[(28,dH)],[]⟩),
  (16,.dv ⟨[(36,bg),(6,.own 32 dy)],[(32,dx)]⟩ 0 QR),
  (39,.dv ⟨[(47,bg)],[]⟩ 2 jU),
  (51,.cO [] ⟨[(65,dH)],[]⟩),
  (58,.gY [32])]
 (tC (fN fu) tN) [] mixed Tryz.func69 Tryz.call69 rfl rfl
abbrev qo (fu:Nat):bz S0:=⟨156,[cw],[],false,[(2,.ba 202 [.loc 1 0])],[(1,.box 23 true [cw])],fun q=>F.mu fu q⟩
theorem sG (fu:Nat):aM Tryz.prog (qo fu):=.o fu 4
 []
 tN [] mixed Tryz.func156 Tryz.call156 rfl rfl
abbrev uY (fu:Nat):rm S0:=⟨0,[fF,fF],[uO,.loc 1001 0,.loc 1002 0],[Ak,.box 23 false [.own 1003 dy],.box 3 false [fF],tA],[(1000,Ak),(1001,.box 23 false [.own 1003 dy]),(1002,.box 3 false [bg]),(1003,lJ)],false,fun q=>F.rO fu q.1 q.2.1 q.2.2.1 q.2.2.2.1 q.2.2.2.2⟩
theorem zn (fu:Nat):Hr Tryz.prog (uY fu):=Hr.of (fu:=fu)
 (H:=[(4,.gY [1002])])
 (tbl:=[])
 mixed (by intro c h;cases h) (by kernel_rfl) (by kernel_rfl) (by kernel_rfl) (mvs:=[]) (ns:=[]) (fun q=>by kernel_rfl)
abbrev sT (fu:Nat):bz S0:=⟨202,[.cW 1000,.loc 1001 0],[Vo,Ak,Ak,.box 23 false [.own 1005 dy],.box 3 false [fF],tA],false,[],[(1000,Vo),(1001,Ak),(1002,Ak),(1003,.box 23 false [.own 1005 dy]),(1004,.box 3 false [bg]),(1005,lJ)],fun q=>F.qm fu q.1 q.2.1 q.2.2.1 q.2.2.2⟩
theorem yf (fu:Nat):aM Tryz.prog (sT fu):=aM.Wc (N:=19) (fu:=fu)
 (H:=[(3,.dv ⟨[(3,bg)],Y5⟩ 0 ⟨[],Y5⟩)])
 (tbl:=[]) (tbr:=[]) (ys:=[uY fu])
 [] mixed (by intro c h;cases h) (by intro c h;cases h) (db.2 ⟨zn fu,(by intro c h;cases h)⟩) Tryz.func202 Tryz.call202 rfl rfl (by kernel_rfl) rfl (by kernel_rfl) (mvs:=[]) (ns:=[]) (fun q=>by kernel_rfl)
abbrev G6 (fu:Nat):bz S0:=⟨152,[cw],[],false,[(2,iA)],[],fun q=>F.qJ fu q⟩
theorem Cy (fu:Nat):aM Tryz.prog (G6 fu):=aM.Wc (N:=27) (fu:=fu)
 (H:=[(18,.RT 0 350)])
 (tbl:=[qo fu,u3 fu]) (tbr:=[sT fu]) (ys:=[])
 [(18,0)] mixed (db.2 ⟨sG fu,db.2 ⟨jx fu,(by intro c h;cases h)⟩⟩) (db.2 ⟨yf fu,(by intro c h;cases h)⟩) (by intro c h;cases h) Tryz.func152 Tryz.call152 rfl rfl (by kernel_rfl) rfl (by kernel_rfl) (mvs:=[]) (ns:=[]) (fun q=>by kernel_rfl)
abbrev Ng (fu:Nat):bz S0:=⟨108,[cw],[],false,[(2,E4),(3,bg)],[],fun q=>F.u6 fu q⟩
theorem G7 (fu:Nat):aM Tryz.prog (Ng fu):=.o fu 20
 []
 (tC (fN fu) (tC (jW fu) (tC (Cy fu) tN))) [] mixed Tryz.func108 Tryz.call108 rfl rfl
abbrev NU (fu:Nat):bz S0:=⟨200,[fF],[],false,[(2,dH)],[],fun q=>F.ub fu q⟩
theorem yX (fu:Nat):aM Tryz.prog (NU fu):=.o fu 9
 [(3,.cO [] ⟨[(2,dH)],[]⟩)]
 tN [] mixed Tryz.func200 Tryz.call200 rfl rfl
abbrev ID (fu:Nat):bz S0:=⟨201,[fF],[],false,[(2,dH)],[],fun q=>F.rP fu q⟩
theorem Du (fu:Nat):aM Tryz.prog (ID fu):=.o fu 6
 []
 (tC (yX fu) tN) [] mixed Tryz.func201 Tryz.call201 rfl rfl
abbrev AH (fu:Nat):bz S0:=⟨114,[cw,.ba 201 []],[],false,[(4,bg)],[],fun q=>F.pp fu q⟩
theorem wS (fu:Nat):aM Tryz.prog (AH fu):=.o fu 19
 [(6,.dv Iq 0 jU)]
 (tC (Du fu) tN) [] mixed Tryz.func114 Tryz.call114 rfl rfl
abbrev wT (fu:Nat):bz S0:=⟨72,[cw,.ba 201 []],[],false,[(4,dH)],[],fun q=>F.kw fu q⟩
theorem uS (fu:Nat):aM Tryz.prog (wT fu):=.o fu 9
 []
 (tC (wS fu) tN) [] mixed Tryz.func72 Tryz.call72 rfl rfl
abbrev Cz (fu:Nat):bz S0:=⟨153,[mZ],[],false,[(2,bg)],[],fun q=>F.kW fu q⟩
theorem kD (fu:Nat):aM Tryz.prog (Cz fu):=.o fu 30
 [(22,.cO [] ⟨[(29,dH)],[]⟩)]
 (tC (jW fu) (tC (yX fu) (tC (uS fu) tN))) [] mixed Tryz.func153 Tryz.call153 rfl rfl
abbrev Kj (fu:Nat):bz S0:=⟨154,[cw,fF],[],false,[(4,dH)],[],fun q=>F.qv fu q.1 q.2⟩
theorem wE (fu:Nat):aM Tryz.prog (Kj fu):=.o fu 24
 [(8,.dv ⟨[(5,bg),(10,bg)],[]⟩ 0 jU),
  (21,.cO [] ⟨[(21,dH)],[]⟩)]
 tN [] mixed Tryz.func154 Tryz.call154 rfl rfl
abbrev Kk (fu:Nat):bz S0:=⟨109,[mZ,cw,cw],[],false,[(6,E4),(7,bg)],[],fun q=>F.tQ fu q.1 q.2.1 q.2.2⟩
theorem Fe (fu:Nat):aM Tryz.prog (Kk fu):=.o fu 80
 [(24,.cO [] ⟨[(41,dH)],[]⟩),
  (31,.cO [11] ⟨[(11,.loc 11 0)],[Vt,(46,dx),(49,dx)]⟩),
  (36,.dv ⟨[(53,bg)],[(6,uP),(49,dx),Vt]⟩ 0 ⟨[],[(6,uP),(49,dx),Vt]⟩),
  (49,.gY []),
  (55,.gY [49])]
 (tC (fN fu) (tC (kD fu) (tC (jW fu) (tC (wE fu) tN)))) [] mixed Tryz.func109 Tryz.call109 rfl rfl
abbrev NV (fu:Nat):bz S0:=⟨110,[mZ,cw],[],false,[(4,E4),(5,bg)],[],fun q=>F.w6 fu q.1 q.2⟩
theorem IE (fu:Nat):aM Tryz.prog (NV fu):=.o fu 76
 [(20,.dv ⟨[(26,bg),(7,.own 20 .bool)],[(4,uP),(20,QQ),(8,wy),(420,dx),(421,dx)]⟩ 0 ⟨[(7,.own 20 .bool)],[(4,uP),(20,QQ),(8,wy),(420,dx),(421,dx)]⟩),
  (33,.cO [] ⟨[(43,dH)],[]⟩),
  (41,.cO [56,65,8,420,421] ⟨[],[(420,dx),(421,dx),(8,wy)]⟩)]
 (tC (kD fu) tN) [] mixed Tryz.func110 Tryz.call110 rfl rfl
abbrev A5 (fu:Nat):bz S0:=⟨155,[mZ],[],false,[(2,.own 3 (.st 3))],[(3,.arr 241 true true (.st 3))],fun q=>F.tP fu q⟩
theorem Fc (fu:Nat):aM Tryz.prog (A5 fu):=.o fu 67
 [(8,.loop ⟨[(3,.own 3 (.st 3)),(10,bg)],[(3,.arr 241 true true (.st 3))]⟩ 0 Vv),
  (16,.join Vv),
  (28,.cO [] ⟨[(36,dH)],[]⟩),
  (29,.join Vv),
  (30,.gY [3])]
 tN [] mixed Tryz.func155 Tryz.call155 rfl rfl
abbrev wX (fu:Nat):rm S0:=⟨1,[fF,fF],QS,[.box 127 false [fF,cw,cw],.box 26 false [fF],.box 127 false [fF,.own 1004 dy,.own 1005 dy],.box 234 false [.own 1006 (.st 3)],tA,tA,Cr],[(1000,QP),(1001,.box 26 false [bg]),Y0,QT,(1004,lJ),(1005,lJ),(486,Cr)],true,fun q=>F.uK fu q.1 q.2.1 q.2.2.1 q.2.2.2.1 q.2.2.2.2.1 q.2.2.2.2.2.1 q.2.2.2.2.2.2.1 q.2.2.2.2.2.2.2.1 q.2.2.2.2.2.2.2.2.1 q.2.2.2.2.2.2.2.2.2⟩
theorem Bs (fu:Nat):Hr Tryz.prog (wX fu):=Hr.of (fu:=fu)
 (H:=[(3,.mC ⟨[],[(1005,lJ),(486,Cr),(1000,QP),(1001,.box 26 false [bg]),Y0,QT]⟩),
  (21,.gY [1005]),
  (23,.cO [1006,486] ⟨[],[(486,Cr),QT]⟩),
  (26,.join ⟨[(15,.any),(64,.any),(65,.any),(66,.any),(67,.any),(76,.any),(77,.any),(78,.any),(96,.any),(97,.any),(98,.any)],[(486,Cr),QT]⟩)])
 (tbl:=[])
 mixed (by intro c h;cases h) (by kernel_rfl) (by kernel_rfl) (by kernel_rfl) (mvs:=[1006]) (ns:=[]) (fun q=>by kernel_rfl)
abbrev rG (fu:Nat):bz S0:=⟨202,[.cW 1000,.loc 1001 0],[Vr,Ak,.box 127 false [fF,cw,cw],.box 26 false [fF],.box 127 false [fF,.own 1006 dy,.own 1007 dy],.box 234 false [.own 1008 (.st 3)],tA,tA,Cr],false,[],[(1000,Vr),(1001,Ak),(1002,QP),(1003,.box 26 false [bg]),(1004,.box 127 false [bg,.own 1006 dy,.own 1007 dy]),(1005,.box 234 false [.own 488 (.st 3)]),(1006,lJ),(1007,lJ),(488,Cr)],fun q=>F.lU fu q.1 q.2.1 q.2.2.1 q.2.2.2.1 q.2.2.2.2.1 q.2.2.2.2.2.1 q.2.2.2.2.2.2.1 q.2.2.2.2.2.2.2.1 q.2.2.2.2.2.2.2.2.1 q.2.2.2.2.2.2.2.2.2⟩
theorem wG (fu:Nat):aM Tryz.prog (rG fu):=aM.Wc (N:=19) (fu:=fu)
 (H:=[(3,.dv ⟨[(3,bg)],Y7⟩ 0 ⟨[],Y7⟩)])
 (tbl:=[]) (tbr:=[]) (ys:=[wX fu])
 [] mixed (by intro c h;cases h) (by intro c h;cases h) (db.2 ⟨Bs fu,(by intro c h;cases h)⟩) Tryz.func202 Tryz.call202 rfl rfl (by kernel_rfl) rfl (by kernel_rfl) (mvs:=[1008]) (ns:=[]) (fun q=>by kernel_rfl)
abbrev D5 (fu:Nat):bz S0:=⟨157,[mZ],[],false,[(2,mZ),(3,bg)],[],fun q=>F.pj fu q⟩
theorem tE (fu:Nat):aM Tryz.prog (D5 fu):=.o fu 9
 []
 (tC (kD fu) tN) [] mixed Tryz.func157 Tryz.call157 rfl rfl
abbrev Km (fu:Nat):bz S0:=⟨111,[mZ,cw],[],false,[(4,mZ),(5,bg)],[],fun q=>F.tR fu q.1 q.2⟩
theorem Fg (fu:Nat):aM Tryz.prog (Km fu):=aM.Wc (N:=110) (fu:=fu)
 (H:=[(33,.cO [11] ⟨[(11,.loc 11 0)],[(11,.box 127 true [bg,.own 44 dy,.own 47 dy]),(44,dx),(47,dx)]⟩),
  (48,.RT 1 350)])
 (tbl:=[y8 fu,A5 fu,qo fu,Cz fu,D6 fu,D5 fu]) (tbr:=[rG fu]) (ys:=[])
 [(48,1)] mixed (db.2 ⟨fN fu,db.2 ⟨Fc fu,db.2 ⟨sG fu,db.2 ⟨kD fu,db.2 ⟨jW fu,db.2 ⟨tE fu,(by intro c h;cases h)⟩⟩⟩⟩⟩⟩) (db.2 ⟨wG fu,(by intro c h;cases h)⟩) (by intro c h;cases h) Tryz.func111 Tryz.call111 rfl rfl (by kernel_rfl) rfl (by kernel_rfl) (mvs:=[]) (ns:=[]) (fun q=>by kernel_rfl)
abbrev Q8 (fu:Nat):bz S0:=⟨112,[mZ,cw,cw,cw],[],false,[(8,E4),(9,bg)],[],fun q=>F.zp fu q.1 q.2.1 q.2.2.1 q.2.2.2⟩
theorem Kn (fu:Nat):aM Tryz.prog (Q8 fu):=.o fu 150
 [(16,.cO [] Iv),
  (28,.dv ⟨[(47,bg)],[(8,uP),(12,wy),(420,dx),(421,dx)]⟩ 0 ⟨[],[(8,uP),(12,wy),(420,dx),(421,dx)]⟩),
  (41,.cO [] ⟨[(89,dH)],[]⟩),
  (48,.gY [12]),
  (50,.cO [420,12] ⟨[],[(420,dx),(12,wy)]⟩),
  (51,.cO [421,12] ⟨[],[(421,dx),(12,wy)]⟩)]
 (tC (kD fu) (tC (tE fu) tN)) [] mixed Tryz.func112 Tryz.call112 rfl rfl
abbrev NW (fu:Nat):bz S0:=⟨113,[mZ,cw],[],false,[(4,E4),(5,bg)],[],fun q=>F.w7 fu q.1 q.2⟩
theorem IF (fu:Nat):aM Tryz.prog (NW fu):=.o fu 70
 [(21,.cO [7] ⟨[(7,.loc 7 0)],[QV,(27,dx),(30,dx)]⟩),
  (26,.loop ⟨[(34,bg)],[QV,(30,dx)]⟩ 0 ⟨[],[QV,(30,dx)]⟩),
  (38,.cO [7] ⟨[],[QV]⟩),
  (39,.gY [30])]
 (tC (fN fu) (tC (kD fu) (tC (wE fu) (tC (tE fu) tN)))) [] mixed Tryz.func113 Tryz.call113 rfl rfl
abbrev Np (fu:Nat):bz S0:=⟨71,[od,cw],[],false,[(4,mZ),(5,bg)],[],fun q=>F.vC fu q.1 q.2⟩
theorem Hg (fu:Nat):aM Tryz.prog (Np fu):=.o fu 63
 []
 (tC (G7 fu) (tC (Fe fu) (tC (IE fu) (tC (Fg fu) (tC (Kn fu) (tC (IF fu) tN)))))) [] mixed Tryz.func71 Tryz.call71 rfl rfl
abbrev Nr (fu:Nat):bz S0:=⟨39,[od,Cs],[],false,[(4,cw),(5,bg)],[],fun q=>F.fe fu q.1 q.2⟩
theorem Hk (fu:Nat):aM Tryz.prog (Nr fu):=.o fu 178
 [(22,.mC E6),
  (27,.join Iv),
  (31,.join Iv),
  (35,.join Iv),
  (39,.join Iv),
  (43,.join Iv),
  (46,.mC E6),
  (51,.dv ⟨[(49,bg)],[]⟩ 1 jU),
  (73,.mC E6),
  (74,.gY []),
  (77,.mC E6),
  (78,.gY []),
  (81,.mC ⟨[(8,bg),(7,cw)],[]⟩),
  (85,.gY [11]),
  (88,.join ⟨[(7,iA)],[]⟩),
  (93,.mC E6),
  (97,.mC E6),
  (106,.gY []),
  (109,.mC E6),
  (114,.cO [] ⟨[(156,dH)],[]⟩),
  (120,.gY []),
  (124,.gY [13])]
 (tC (fN fu) (tC (Hh fu) (tC (Dx fu) (tC (Dz fu) (tC (DD fu) (tC (He fu) (tC (DE fu) (tC (uG fu) (tC (Hg fu) (tC (jW fu) tN)))))))))) [] mixed Tryz.func39 Tryz.call39 rfl rfl
abbrev Fl (fu:Nat):bz S0:=⟨51,[MX],[],false,[(2,dH)],[],fun q=>F.tn fu q⟩
theorem Ba (fu:Nat):aM Tryz.prog (Fl fu):=.o fu 7
 []
 tN [] mixed Tryz.func51 Tryz.call51 rfl rfl
abbrev AG (fu:Nat):bz S0:=⟨50,[Al,.ba 51 []],[],false,[(4,bg)],[],fun q=>F.po fu q⟩
theorem wR (fu:Nat):aM Tryz.prog (AG fu):=.o fu 19
 [(6,.dv Iq 0 jU)]
 (tC (Ba fu) tN) [] mixed Tryz.func50 Tryz.call50 rfl rfl
abbrev IK (fu:Nat):bz S0:=⟨24,[rh],[],false,[(2,bg)],[],fun q=>F.pI fu q⟩
theorem u4 (fu:Nat):aM Tryz.prog (IK fu):=.o fu 13
 []
 (tC (wR fu) tN) [] mixed Tryz.func24 Tryz.call24 rfl rfl
abbrev IJ (fu:Nat):bz S0:=⟨55,[MX,fF,fF,.own 1000 pO],[.arr 23 false false pO],false,[(8,cw),(9,bg)],[(1000,.arr 23 false false pO)],fun q=>F.ss fu q.1 q.2.1 q.2.2.1 q.2.2.2⟩
theorem Dy (fu:Nat):aM Tryz.prog (IJ fu):=.o fu 84
 [(8,.dv ⟨[(10,.own 10 pO),(18,bg)],[(10,yb)]⟩ 0 ⟨[(10,.own 10 pO)],[(10,yb)]⟩),
  (21,.cO [] ⟨[(28,dH)],[]⟩),
  (40,.cO [] ⟨[(47,dH)],[]⟩)]
 (tC (fN fu) (tC (Hk fu) (tC (jW fu) tN))) [] mixed Tryz.func55 Tryz.call55 rfl rfl
abbrev Ni (fu:Nat):bz S0:=⟨29,[rh],[],false,[(2,.own 19 pO),(3,bg)],[(19,yb)],fun q=>F.vq fu q⟩
theorem Ha (fu:Nat):aM Tryz.prog (Ni fu):=.o fu 64
 [(18,.dv ⟨[(4,.own 19 pO),(25,bg)],[(19,yb)]⟩ 0 ⟨[(4,.own 19 pO)],[(19,yb)]⟩),
  (45,.dv ⟨[(49,bg)],[]⟩ 2 jU),
  (57,.cO [] ⟨[(61,dH)],[]⟩)]
 (tC (Dy fu) (tC (u4 fu) tN)) [] mixed Tryz.func29 Tryz.call29 rfl rfl
abbrev Ko (fu:Nat):bz S0:=⟨20,[rh],[],false,[(2,bg)],[],fun q=>F.xW fu q⟩
theorem Fk (fu:Nat):aM Tryz.prog (Ko fu):=.o fu 11
 []
 (tC (Ha fu) tN) [] mixed Tryz.func20 Tryz.call20 rfl rfl
abbrev Fu (fu:Nat):bz S0:=⟨86,[fF],[],false,[(2,.aD true (.st 10))],[],fun q=>F.qe fu q⟩
theorem Bi (fu:Nat):aM Tryz.prog (Fu fu):=.o fu 31
 [(27,.join ⟨[(13,dH)],[]⟩),
  (31,.join ⟨[(13,dH)],[]⟩),
  (35,.join ⟨[(13,dH)],[]⟩),
  (45,.join ⟨[(19,dH)],[]⟩),
  (55,.join ⟨[(23,dH)],[]⟩)]
 tN [] mixed Tryz.func86 Tryz.call86 rfl rfl
abbrev Hj (fu:Nat):bz S0:=⟨87,[cw,.aD false .bool],[],false,[(4,iA)],[],fun q=>F.cN fu q.1 q.2⟩
theorem CC (fu:Nat):aM Tryz.prog (Hj fu):=.o fu 9
 []
 (tC (fN fu) tN) [] mixed Tryz.func87 Tryz.call87 rfl rfl
abbrev Kr (fu:Nat):bz S0:=⟨58,[od],[],false,[(2,.aD true (.st 0))],[],fun q=>F.qH fu q⟩
theorem wH (fu:Nat):aM Tryz.prog (Kr fu):=.o fu 48
 [(7,.cO [5] ⟨[(5,.loc 5 0)],[(5,.box 52 true [bg,iA,iA,iA,iA,iA,bg])]⟩),
  (11,.join ⟨[],[(5,.box 52 true [bg,iA,iA,iA,iA,iA,bg])]⟩)]
 (tC (Bi fu) (tC (CC fu) tN)) [] mixed Tryz.func58 Tryz.call58 rfl rfl
abbrev Zm (fu:Nat):bz S0:=Wv S0
theorem JY (fu:Nat):aM Tryz.prog (Zm fu):=VJ
abbrev Fh (fu:Nat):bz S0:=⟨141,[fF],[],false,[(2,.aD true .str)],[],fun q=>F.sX fu q⟩
theorem A7 (fu:Nat):aM Tryz.prog (Fh fu):=.o fu 5
 []
 (tC (JY fu) tN) [] mixed Tryz.func141 Tryz.call141 rfl rfl
abbrev IG (fu:Nat):bz S0:=⟨90,[fF],[],false,[(2,.aD true .str)],[],fun q=>F.strconv_Itoa fu q⟩
theorem u0 (fu:Nat):aM Tryz.prog (IG fu):=.o fu 5
 []
 (tC (A7 fu) tN) [] mixed Tryz.func90 Tryz.call90 rfl rfl
abbrev XL (fu:Nat):bz S0:=JZ S0
theorem Hd (fu:Nat):aM Tryz.prog (XL fu):=Nk
abbrev sQ (fu:Nat):bz S0:=⟨89,[uO,.aD false .str],QZ,false,[(4,bg),(5,.any)],JO,fun q=>F.dJ fu q.1 q.2.1 q.2.2⟩
theorem iU (fu:Nat):aM Tryz.prog (sQ fu):=.o fu 19
 []
 (tC (Hd fu) tN) [1001] mixed Tryz.func89 Tryz.call89 rfl rfl
abbrev uF (fu:Nat):bz S0:=⟨91,[uO,.aD false (.int .u8)],QZ,false,[(4,.any)],JO,fun q=>F.eQ fu q.1 q.2.1 q.2.2⟩
theorem mJ (fu:Nat):aM Tryz.prog (uF fu):=.o fu 17
 []
 (tC (Hd fu) tN) [1001] mixed Tryz.func91 Tryz.call91 rfl rfl
abbrev Kp (fu:Nat):bz S0:=⟨88,[cw,uO],QZ,false,[],JO,fun q=>F.qF fu q.1 q.2.1 q.2.2⟩
theorem Fm (fu:Nat):aM Tryz.prog (Kp fu):=.o fu 21
 [(6,.loop ⟨[(11,bg)],JO⟩ 0 ⟨[],JO⟩)]
 (tC (iU fu) (tC (mJ fu) (tC (u0 fu) tN))) [1001] mixed Tryz.func88 Tryz.call88 rfl rfl
abbrev Hc (fu:Nat):bz S0:=⟨88,[cw,uO],QZ,true,[],JO,fun q=>F.uN fu q.1 q.2.1 q.2.2⟩
theorem CB (fu:Nat):aM Tryz.prog (Hc fu):=.o fu 21
 [(6,.loop ⟨[(11,bg)],JO⟩ 0 ⟨[],JO⟩)]
 (tC (iU fu) (tC (mJ fu) (tC (u0 fu) tN))) [1001] mixed Tryz.func88 Tryz.call88 rfl rfl
abbrev A8 (fu:Nat):bz S0:=⟨92,[fF,fF],[],false,[(4,.aD true .str)],[],fun q=>F.nc fu q.1 q.2⟩
theorem ye (fu:Nat):aM Tryz.prog (A8 fu):=.o fu 8
 []
 (tC (JY fu) tN) [] mixed Tryz.func92 Tryz.call92 rfl rfl
abbrev XM (fu:Nat):bz S0:=Tu S0
theorem Ra (fu:Nat):aM Tryz.prog (XM fu):=Tt
abbrev NX (fu:Nat):bz S0:=⟨59,[MX],[],false,[(2,.aD true .str)],[],fun q=>F.uu fu q⟩
theorem y9 (fu:Nat):aM Tryz.prog (NX fu):=.o fu 47
 [(3,.cO [] ⟨[(3,.loc 3 0)],[(3,.box 151 true [.gw 3 0,.own 420 (.int .u8)]),(420,.arr 5 true true (.int .u8))]⟩),
  (12,.loop ⟨[(33,bg)],Y3⟩ 0 ⟨[],Y3⟩)]
 (tC (CB fu) (tC (Fm fu) (tC (iU fu) (tC (Ra fu) (tC (ye fu) tN))))) [] mixed Tryz.func59 Tryz.call59 rfl rfl
abbrev Fi (fu:Nat):bz S0:=⟨32,[cw],[],true,[(2,.own 5 dy)],[(5,dx)],fun q=>F.sZ fu q⟩
theorem A9 (fu:Nat):aM Tryz.prog (Fi fu):=.o fu 8
 []
 tN [] mixed Tryz.func32 Tryz.call32 rfl rfl
abbrev Bc (fu:Nat):bz S0:=⟨35,[uO,od,cw],[.box 67 false [.own 1001 (.st 4),.own 1002 dy,.dX 1003],Am,tA,Ao],false,[(6,bg)],[Vx,(481,Am),(1002,lJ),(483,Ao)],fun q=>F.ni fu q.1 q.2.1 q.2.2.1 q.2.2.2.1 q.2.2.2.2.1 q.2.2.2.2.2⟩
theorem yh (fu:Nat):aM Tryz.prog (Bc fu):=.o fu 69
 [(19,.join ⟨[(22,.any),(32,.any)],[Vx,(483,Ao)]⟩),
  (22,.fz [14]),
  (23,.cO [481,1000] ⟨[],[(481,Am),Vx]⟩),
  (25,.gY [483])]
 (tC (fN fu) (tC (wH fu) (tC (y9 fu) tN))) [1001,1003] mixed Tryz.func35 Tryz.call35 rfl rfl
abbrev Bb (fu:Nat):bz S0:=⟨35,[uO,od,.own 1001 dy],[.box 67 false [.own 1002 (.st 4),.own 1003 dy,.dX 1004],tA,Am,tA,Ao],false,[(6,bg)],[Vw,(1001,lJ),(482,Am),(1003,lJ),(484,Ao)],fun q=>F.nh fu q.1 q.2.1 q.2.2.1 q.2.2.2.1 q.2.2.2.2.1 q.2.2.2.2.2⟩
theorem yg (fu:Nat):aM Tryz.prog (Bb fu):=.o fu 69
 [(19,.join ⟨[(22,.any),(32,.any)],[Vw,(484,Ao)]⟩),
  (22,.fz [14]),
  (23,.cO [482,1000] ⟨[],[(482,Am),Vw]⟩),
  (25,.gY [484])]
 (tC (A9 fu) (tC (wH fu) (tC (y9 fu) tN))) [1002,1004] mixed Tryz.func35 Tryz.call35 rfl rfl
abbrev Fj (fu:Nat):bz S0:=⟨52,[fF,uO,.loc 1001 0,.loc 1002 0,.loc 1003 0],[.box 101 false [.mp 1004],.box 22 false [Al],.box 102 false [.ba 52 QS],.box 64 false [.loc 1005 0],.deep 0 false false (.sm true) (.st 7),.box 67 false [.own 1006 (.st 4),.own 1007 dy,.dX 1008],Am,tA,Ao],false,[(6,bg)],[(1000,.box 101 false [.mp 1004]),(1001,.box 22 false [Al]),(1002,.box 102 false [.ba 52 QS]),(1003,.box 64 false [.loc 1005 0]),(1004,.deep 0 false false (.sm true) (.st 7)),(1005,.box 67 false [.own 486 (.st 4),.own 1007 dy,.dX 488]),(486,Am),(1007,lJ),(488,Ao)],fun q=>F.fx fu q.1 q.2.1 q.2.2.1 q.2.2.2.1 q.2.2.2.2.1 q.2.2.2.2.2.1 q.2.2.2.2.2.2⟩
theorem sU:∀fu:Nat,aM Tryz.prog (Fj fu)
 | 0=>⟨Tryz.call52,fun q r h=>nomatch (show(none:Option _)=some r from h)⟩
 | fu+1=>.o (fu+1) 50
   [(18,.loop ⟨[(9,.own 9 dy),(27,bg)],Y9⟩ 0 ⟨[(9,.own 9 dy)],Y9⟩),
    (32,.gY [1005,1006,1007,1008,486,488,9])]
   (tC (sU fu) (tC (yg (fu+1)) tN)) [1006,1008] mixed Tryz.func52 Tryz.call52 rfl rfl
abbrev Nh (fu:Nat):bz S0:=⟨25,[Al,fF,cw],[],false,[(6,rh)],[],fun q=>F.vo fu q.1 q.2.1 q.2.2⟩
theorem G9 (fu:Nat):aM Tryz.prog (Nh fu):=.o fu 56
 [(10,.loop ⟨[(17,bg)],Y6⟩ 0 ⟨[],Y6⟩),
  (21,.gY [14,421,420,15,422]),
  (31,.loop ⟨[(33,bg)],Y8⟩ 2 ⟨[],Y8⟩),
  (42,.cO [8,3,10,7,15,14,421,420,422] ⟨[],[(3,.box 22 true [Al]),(15,.deep 0 true false (.sm true) (.st 7)),(14,.box 67 true [.own 421 (.st 4),.own 422 dy,.dX 420]),(421,Iw),(420,.deep 0 true false (.sm false) (.st 9)),(422,dx),(8,.box 101 true [.mp 15]),(10,.box 102 true [.ba 52 [.loc 8 0,.loc 3 0,.loc 10 0,.loc 7 0]]),(7,.box 64 true [.loc 14 0])]⟩)]
 (tC (yh fu) (tC (sU fu) tN)) [] mixed Tryz.func25 Tryz.call25 rfl rfl
abbrev Nj (fu:Nat):bz S0:=⟨9,[rh],[],false,[(2,rh),(3,bg)],[],fun q=>F.Aa fu q⟩
theorem Hb (fu:Nat):aM Tryz.prog (Nj fu):=.o fu 18
 [(13,.gY [2])]
 (tC (Fk fu) (tC (u4 fu) (tC (G9 fu) tN))) [] mixed Tryz.func9 Tryz.call9 rfl rfl
abbrev AK (fu:Nat):bz S0:=⟨27,[rh],[],false,[(2,bg)],[],fun q=>F.kl fu q⟩
theorem qh (fu:Nat):aM Tryz.prog (AK fu):=.o fu 22
 [(6,.dv Iq 0 jU)]
 tN [] mixed Tryz.func27 Tryz.call27 rfl rfl
abbrev CL (fu:Nat):bz S0:=⟨56,[cw],[],false,[(2,bg),(3,bg)],[],fun q=>F.e9 fu q⟩
theorem gQ (fu:Nat):aM Tryz.prog (CL fu):=.o fu 42
 [(16,.dv ⟨[(4,dH),(15,bg)],[]⟩ 0 E2),
  (29,.cO [] ⟨[(24,dH)],[]⟩),
  (37,.join E2),
  (55,.dv ⟨[(7,bg),(31,bg)],[]⟩ 2 ⟨[(7,bg)],[]⟩)]
 tN [] mixed Tryz.func56 Tryz.call56 rfl rfl
abbrev Bm (fu:Nat):bz S0:=⟨84,[od,fF],[],false,[(4,bg)],[],fun q=>F.nq fu q.1 q.2⟩
theorem yq (fu:Nat):aM Tryz.prog (Bm fu):=.o fu 40
 [(8,.mC jU),
  (19,.join E3),
  (23,.join E3),
  (27,.join E3),
  (31,.join E3),
  (35,.join E3),
  (39,.join E3),
  (43,.join E3),
  (46,.mC jU),
  (56,.mC jU),
  (67,.join Iu),
  (71,.join Iu),
  (75,.join Iu),
  (79,.join Iu),
  (83,.join Iu),
  (87,.join Iu),
  (90,.mC jU)]
 tN [] mixed Tryz.func84 Tryz.call84 rfl rfl
abbrev yp (fu:Nat):bz S0:=⟨28,[cw,cw],[],false,[(4,dH)],[],fun q=>F.cE fu q.1 q.2⟩
theorem gM (fu:Nat):aM Tryz.prog (yp fu):=.o fu 26
 [(14,.dv ⟨[(13,bg)],[]⟩ 0 jU),
  (26,.gY [])]
 tN [] mixed Tryz.func28 Tryz.call28 rfl rfl
abbrev AP (fu:Nat):bz S0:=⟨132,[cw,fF],[],false,[(4,dH)],[],fun q=>F.jj fu q.1 q.2⟩
theorem mj (fu:Nat):aM Tryz.prog (AP fu):=.o fu 35
 [(6,.dv ⟨[(9,bg)],[]⟩ 0 jU),
  (18,.cO [] ⟨[(33,dH)],[]⟩)]
 tN [] mixed Tryz.func132 Tryz.call132 rfl rfl
abbrev DF (fu:Nat):bz S0:=⟨183,[cw,fF],[],false,[(4,dH)],[],fun q=>F.mN fu q.1 q.2⟩
theorem sH (fu:Nat):aM Tryz.prog (DF fu):=.o fu 17
 [(6,.dv ⟨[(9,bg)],[]⟩ 0 jU)]
 tN [] mixed Tryz.func183 Tryz.call183 rfl rfl
abbrev CH (fu:Nat):bz S0:=⟨134,[cw,cw],[],false,[(4,iA)],[],fun q=>F.jX fu q.1 q.2⟩
theorem rI (fu:Nat):aM Tryz.prog (CH fu):=.o fu 22
 [(8,.loop ⟨[(5,.own 5 dy),(9,bg)],[(5,dx)]⟩ 0 Vp),
  (21,.join Vp)]
 (tC (sH fu) tN) [] mixed Tryz.func134 Tryz.call134 rfl rfl
abbrev AL (fu:Nat):bz S0:=⟨133,[cw,cw],[],false,[(4,iA)],[],fun q=>F.dd fu q.1 q.2⟩
theorem qi (fu:Nat):aM Tryz.prog (AL fu):=.o fu 23
 [(8,.loop ⟨[(5,.own 5 dy),(10,bg)],[(5,dx)]⟩ 0 Vp)]
 tN [] mixed Tryz.func133 Tryz.call133 rfl rfl
abbrev zc (fu:Nat):bz S0:=⟨135,[od,cw],[],false,[(4,iA),(5,bg)],[],fun q=>F.l3 fu q.1 q.2⟩
theorem wI (fu:Nat):aM Tryz.prog (zc fu):=.o fu 117
 [(4,.cO [] ⟨[(30,dH)],[]⟩),
  (16,.dv ⟨[(6,.own 6 dy),(33,bg)],[(6,dx)]⟩ 0 Vq),
  (29,.cO [] ⟨[(81,dH)],[]⟩),
  (40,.join Iq),
  (41,.gY []),
  (43,.gY [6])]
 tN [] mixed Tryz.func135 Tryz.call135 rfl rfl
abbrev CG (fu:Nat):bz S0:=⟨138,[cw,cw],[],false,[(4,iA)],[],fun q=>F.e8 fu q.1 q.2⟩
theorem rH (fu:Nat):aM Tryz.prog (CG fu):=.o fu 10
 []
 tN [] mixed Tryz.func138 Tryz.call138 rfl rfl
abbrev CF (fu:Nat):bz S0:=⟨184,[cw,fF],[],false,[(4,dH)],[],fun q=>F.lM fu q.1 q.2⟩
theorem zd (fu:Nat):aM Tryz.prog (CF fu):=.o fu 29
 [(6,.dv ⟨[(9,bg)],[]⟩ 0 jU),
  (18,.cO [] ⟨[(27,dH)],[]⟩)]
 (tC (sH fu) tN) [] mixed Tryz.func184 Tryz.call184 rfl rfl
abbrev ze (fu:Nat):bz S0:=⟨136,[od,cw,cw],[],false,[(6,iA),(7,bg)],[],fun q=>F.l5 fu q.1 q.2.1 q.2.2⟩
theorem wJ (fu:Nat):aM Tryz.prog (ze fu):=.o fu 94
 [(4,.cO [] ⟨[(25,dH)],[]⟩),
  (12,.cO [] ⟨[(45,dH)],[]⟩),
  (20,.cO [] ⟨[(67,dH)],[]⟩)]
 (tC (rH fu) (tC (zd fu) (tC (qi fu) (tC (gM fu) (tC (rI fu) tN))))) [] mixed Tryz.func136 Tryz.call136 rfl rfl
abbrev yn (fu:Nat):bz S0:=⟨137,[od,Cs],[],false,[(4,iA),(5,bg)],[],fun q=>F.lc fu q.1 q.2⟩
theorem vz (fu:Nat):aM Tryz.prog (yn fu):=.o fu 84
 [(4,.cO [] ⟨[(31,dH)],[]⟩),
  (16,.dv ⟨[(40,bg),(6,.own 32 dy)],[(32,dx)]⟩ 0 QR),
  (38,.dv ⟨[(51,bg),(6,.own 32 dy)],[(32,dx)]⟩ 2 QR),
  (51,.mC QR),
  (52,.gY [32]),
  (54,.gY [])]
 tN [] mixed Tryz.func137 Tryz.call137 rfl rfl
abbrev DG (fu:Nat):bz S0:=⟨211,[cw,fF],[],false,[(4,dH)],[],fun q=>F.kH fu q.1 q.2⟩
theorem oi (fu:Nat):aM Tryz.prog (DG fu):=.o fu 17
 [(6,.dv ⟨[(9,bg)],[]⟩ 0 jU)]
 tN [] mixed Tryz.func211 Tryz.call211 rfl rfl
abbrev Br (fu:Nat):bz S0:=⟨209,[cw],[],false,[(2,iA)],[],fun q=>F.nv fu q⟩
theorem yv (fu:Nat):aM Tryz.prog (Br fu):=.o fu 35
 [(8,.loop ⟨[(3,.own 8 dy),(11,bg)],[(8,dx)]⟩ 0 ⟨[(3,.own 8 dy)],[(8,dx)]⟩),
  (25,.loop ⟨[(5,bg),(19,bg)],[]⟩ 2 ⟨[(5,bg)],[]⟩),
  (41,.join ⟨[(5,bg)],[]⟩)]
 (tC (oi fu) tN) [] mixed Tryz.func209 Tryz.call209 rfl rfl
abbrev Bq (fu:Nat):bz S0:=⟨185,[cw],[],false,[(2,mZ),(3,bg)],[],fun q=>F.nu fu q⟩
theorem yu (fu:Nat):aM Tryz.prog (Bq fu):=.o fu 19
 []
 (tC (gQ fu) (tC (yv fu) tN)) [] mixed Tryz.func185 Tryz.call185 rfl rfl
abbrev DH (fu:Nat):bz S0:=⟨225,[fF],[],false,[(2,dH)],[],fun q=>F.mP fu q⟩
theorem AN (fu:Nat):aM Tryz.prog (DH fu):=.o fu 9
 [(3,.cO [] ⟨[(2,dH)],[]⟩)]
 tN [] mixed Tryz.func225 Tryz.call225 rfl rfl
abbrev Bp (fu:Nat):bz S0:=⟨210,[mZ],[],false,[(2,bg)],[],fun q=>F.gE fu q⟩
theorem iL (fu:Nat):aM Tryz.prog (Bp fu):=.o fu 36
 [(32,.dv ⟨[(29,bg)],[]⟩ 0 jU)]
 (tC (gQ fu) (tC (AN fu) tN)) [] mixed Tryz.func210 Tryz.call210 rfl rfl
abbrev AO (fu:Nat):bz S0:=⟨186,[mZ,cw,cw],[],false,[(6,mZ),(7,bg)],[],fun q=>F.mQ fu q.1 q.2.1 q.2.2⟩
theorem wW (fu:Nat):aM Tryz.prog (AO fu):=.o fu 79
 [(24,.cO [] ⟨[(41,dH)],[]⟩),
  (31,.cO [11] ⟨[(11,.loc 11 0)],[Vs,(48,dx)]⟩),
  (36,.dv ⟨[(52,bg)],[(6,uP),(48,dx),Vs]⟩ 0 ⟨[],[(6,uP),(48,dx),Vs]⟩),
  (49,.gY []),
  (55,.gY [48])]
 (tC (iL fu) (tC (gQ fu) (tC (mj fu) tN))) [] mixed Tryz.func186 Tryz.call186 rfl rfl
abbrev CK (fu:Nat):bz S0:=⟨187,[mZ,cw],[],false,[(4,E4),(5,bg)],[],fun q=>F.oq fu q.1 q.2⟩
theorem zg (fu:Nat):aM Tryz.prog (CK fu):=.o fu 67
 [(24,.dv ⟨[(27,bg)],[(4,uP)]⟩ 0 ⟨[],[(4,uP)]⟩),
  (49,.loop ⟨[(41,bg)],[(8,wy),(420,dx),(421,dx)]⟩ 2 ⟨[],[(8,wy),(420,dx),(421,dx)]⟩),
  (61,.cO [53,8,420] ⟨[],[(420,dx),(8,wy)]⟩),
  (62,.cO [421,8] ⟨[],[(421,dx),(8,wy)]⟩)]
 (tC (iL fu) (tC (oi fu) tN)) [] mixed Tryz.func187 Tryz.call187 rfl rfl
abbrev CM (fu:Nat):bz S0:=⟨212,[fF,fF,fF],[],false,[(6,bg)],[],fun q=>F.lO fu q.1 q.2.1 q.2.2⟩
theorem zh (fu:Nat):aM Tryz.prog (CM fu):=.o fu 19
 [(8,.loop ⟨[(7,bg),(8,bg)],[]⟩ 0 ⟨[(7,bg)],[]⟩)]
 tN [] mixed Tryz.func212 Tryz.call212 rfl rfl
abbrev CJ (fu:Nat):bz S0:=⟨213,[mZ],[],false,[(2,mZ),(3,bg)],[],fun q=>F.lN fu q⟩
theorem rJ (fu:Nat):aM Tryz.prog (CJ fu):=.o fu 9
 []
 (tC (iL fu) tN) [] mixed Tryz.func213 Tryz.call213 rfl rfl
abbrev DI (fu:Nat):bz S0:=⟨188,[mZ,cw,cw,cw],[],false,[(8,E4),(9,bg)],[],fun q=>F.pc fu q.1 q.2.1 q.2.2.1 q.2.2.2⟩
theorem AQ (fu:Nat):aM Tryz.prog (DI fu):=.o fu 153
 [(14,.cO [] ⟨[(42,dH)],[]⟩),
  (26,.dv ⟨[(50,bg)],[(8,uP)]⟩ 0 ⟨[],[(8,uP)]⟩),
  (38,.cO [] ⟨[(92,dH)],[]⟩),
  (49,.loop ⟨[(98,bg)],[(11,wy),(420,dx),(421,dx)]⟩ 2 ⟨[],[(11,wy),(420,dx),(421,dx)]⟩),
  (61,.gY [11]),
  (63,.cO [420,11] ⟨[],[(420,dx),(11,wy)]⟩),
  (64,.cO [421,11] ⟨[],[(421,dx),(11,wy)]⟩)]
 (tC (iL fu) (tC (zh fu) (tC (rJ fu) tN))) [] mixed Tryz.func188 Tryz.call188 rfl rfl
abbrev CN (fu:Nat):bz S0:=⟨189,[mZ,cw],[],false,[(4,mZ),(5,bg)],[],fun q=>F.ot fu q.1 q.2⟩
theorem zi (fu:Nat):aM Tryz.prog (CN fu):=.o fu 70
 [(26,.loop ⟨[(31,bg)],[QU,(420,dx)]⟩ 0 ⟨[],[QU,(420,dx)]⟩),
  (40,.join ⟨[(9,bg)],[QU]⟩),
  (44,.join ⟨[],[QU]⟩),
  (45,.gY [7])]
 (tC (iL fu) (tC (mj fu) (tC (oi fu) (tC (rJ fu) tN)))) [] mixed Tryz.func189 Tryz.call189 rfl rfl
abbrev yk (fu:Nat):bz S0:=⟨139,[od,cw],[],false,[(4,cw),(5,bg)],[],fun q=>F.oo fu q.1 q.2⟩
theorem vv (fu:Nat):aM Tryz.prog (yk fu):=.o fu 61
 [(18,.join Vu),
  (22,.join Vu),
  (26,.join Vu)]
 (tC (yu fu) (tC (wW fu) (tC (zg fu) (tC (AQ fu) (tC (zi fu) tN))))) [] mixed Tryz.func139 Tryz.call139 rfl rfl
abbrev Bl (fu:Nat):bz S0:=⟨85,[od,Cs],[],false,[(4,cw),(5,bg)],[],fun q=>F.dz fu q.1 q.2⟩
theorem ym (fu:Nat):aM Tryz.prog (Bl fu):=.o fu 177
 [(15,.join MW),
  (19,.join MW),
  (23,.join MW),
  (27,.join MW),
  (31,.join MW),
  (39,.dv ⟨[(27,bg)],[]⟩ 1 jU),
  (66,.gY []),
  (73,.gY []),
  (105,.gY []),
  (111,.gY []),
  (131,.gY []),
  (138,.cO [] ⟨[(158,dH)],[]⟩),
  (145,.gY []),
  (149,.gY [])]
 (tC (gM fu) (tC (mj fu) (tC (rI fu) (tC (qi fu) (tC (gQ fu) (tC (wI fu) (tC (wJ fu) (tC (vz fu) (tC (rH fu) (tC (vv fu) tN)))))))))) [] mixed Tryz.func85 Tryz.call85 rfl rfl
abbrev CI (fu:Nat):bz S0:=⟨57,[od,Cs],[],false,[(4,cw),(5,bg)],[],fun q=>F.ig fu q.1 q.2⟩
theorem zf (fu:Nat):aM Tryz.prog (CI fu):=.o fu 55
 [(16,.dv ⟨[(24,bg)],[]⟩ 0 jU)]
 (tC (yq fu) (tC (gQ fu) (tC (ym fu) tN))) [] mixed Tryz.func57 Tryz.call57 rfl rfl
abbrev CE (fu:Nat):bz S0:=⟨33,[rh],[],false,[(2,Cs),(3,bg)],[],fun q=>F.om fu q⟩
theorem zb (fu:Nat):aM Tryz.prog (CE fu):=.o fu 127
 [(16,.dv ⟨[(4,.own 4 pO),(23,bg)],[(4,yb)]⟩ 0 ⟨[(4,.own 4 pO)],[(4,yb)]⟩),
  (24,.mC ⟨[(4,.own 4 pO)],[(4,yb)]⟩),
  (33,.dv ⟨[(7,.own 7 pO),(31,bg)],[(7,yb)]⟩ 2 ⟨[(7,.own 7 pO)],[(7,yb)]⟩),
  (46,.cO [] ⟨[(41,dH)],[]⟩),
  (60,.cO [] ⟨[(73,dH)],[]⟩),
  (104,.dv ⟨[(112,bg)],[]⟩ 4 jU),
  (116,.cO [] ⟨[(124,dH)],[]⟩)]
 (tC (qh fu) (tC (gQ fu) (tC (zf fu) tN))) [] mixed Tryz.func33 Tryz.call33 rfl rfl
abbrev Bj (fu:Nat):bz S0:=⟨21,[rh],[],false,[(2,bg)],[],fun q=>F.qq fu q⟩
theorem yi (fu:Nat):aM Tryz.prog (Bj fu):=.o fu 11
 []
 (tC (zb fu) tN) [] mixed Tryz.func21 Tryz.call21 rfl rfl
abbrev Bk (fu:Nat):bz S0:=⟨53,[Al,fF,.own 1000 dy],[tA],false,[(6,.own 480 dy)],[(480,lJ)],fun q=>F.fO fu q.1 q.2.1 q.2.2⟩
theorem qG:∀fu:Nat,aM Tryz.prog (Bk fu)
 | 0=>⟨Tryz.call53,fun q r h=>nomatch (show(none:Option _)=some r from h)⟩
 | fu+1=>.o (fu+1) 41
   [(6,.dv ⟨[(13,bg)],[]⟩ 0 jU),
    (29,.loop ⟨[(2,.own 480 dy),(28,bg)],[(480,lJ)]⟩ 2 ⟨[(2,.own 480 dy)],[(480,lJ)]⟩)]
   (tC (qG fu) tN) [1000] mixed Tryz.func53 Tryz.call53 rfl rfl
abbrev Bn (fu:Nat):bz S0:=⟨54,[od],[],false,[(2,od)],[],fun q=>F.nr fu q⟩
theorem yr (fu:Nat):aM Tryz.prog (Bn fu):=.o fu 85
 [(8,.cO [] ⟨[(27,dH)],[]⟩),
  (9,.join ⟨[],[(3,.box 52 true [bg,cw,iA,iA,iA,iA,bg])]⟩),
  (14,.cO [] ⟨[(56,dH)],[]⟩),
  (15,.join ⟨[],[(3,.box 52 true [bg,cw,cw,iA,iA,iA,bg])]⟩),
  (20,.cO [] ⟨[(69,dH)],[]⟩),
  (21,.join Y1),
  (22,.gY [3]),
  (27,.join Y1)]
 tN [] mixed Tryz.func54 Tryz.call54 rfl rfl
abbrev Bo (fu:Nat):bz S0:=⟨49,[od,od],[],false,[(4,dH)],[],fun q=>F.nt fu q.1 q.2⟩
theorem yt (fu:Nat):aM Tryz.prog (Bo fu):=.o fu 52
 [(3,.cO [] E2)]
 (tC (gM fu) tN) [] mixed Tryz.func49 Tryz.call49 rfl rfl
abbrev yj (fu:Nat):bz S0:=⟨23,[MX,MX],[],false,[(4,dH)],[],fun q=>F.jB fu q.1 q.2⟩
theorem oX (fu:Nat):aM Tryz.prog (yj fu):=.o fu 17
 [(3,.cO [] E2)]
 (tC (yt fu) (tC (gM fu) tN)) [] mixed Tryz.func23 Tryz.call23 rfl rfl
abbrev AJ (fu:Nat):bz S0:=⟨26,[Al,fF,cw],[],false,[(6,rh)],[],fun q=>F.mL fu q.1 q.2.1 q.2.2⟩
theorem wU (fu:Nat):aM Tryz.prog (AJ fu):=.o fu 142
 [(8,.loop ⟨[(7,.own 7 dy),(8,bg)],[(7,dx)]⟩ 0 ⟨[(7,.own 7 dy)],[(7,dx)]⟩),
  (23,.loop ⟨[(7,.own 7 dy),(33,bg)],[(7,dx)]⟩ 2 ⟨[(7,.own 7 dy)],[(7,dx)]⟩),
  (44,.loop ⟨[(47,bg),(12,.own 44 dy)],[Ix,(44,dx),(420,Iw),(422,dx)]⟩ 4 ⟨[(12,.own 44 dy)],[Ix,(44,dx),(420,Iw),(422,dx)]⟩),
  (61,.loop ⟨[(64,bg)],[Vy,(421,dx)]⟩ 6 ⟨[],[Vy,(421,dx)]⟩),
  (72,.cO [75,15,421] ⟨[],[(421,dx),Vy]⟩),
  (80,.loop ⟨[(87,bg),(12,.own 44 dy)],[(44,dx)]⟩ 8 ⟨[(12,.own 44 dy)],[(44,dx)]⟩),
  (92,.cO [] ⟨[(104,dH)],[]⟩),
  (93,.join ⟨[(12,.own 44 dy)],[(44,dx)]⟩),
  (97,.fz [421]),
  (98,.gY []),
  (99,.join ⟨[],[(420,Iw),Ix]⟩),
  (107,.loop ⟨[(127,bg)],[(422,dx),Ix]⟩ 10 ⟨[],[(422,dx),Ix]⟩),
  (118,.cO [422,11] ⟨[],[(422,dx),Ix]⟩)]
 (tC (qG fu) (tC (yr fu) (tC (oX fu) tN))) [] mixed Tryz.func26 Tryz.call26 rfl rfl
abbrev CD (fu:Nat):bz S0:=⟨10,[rh],[],false,[(2,rh),(3,bg)],[],fun q=>F.rl fu q⟩
theorem za (fu:Nat):aM Tryz.prog (CD fu):=.o fu 18
 [(13,.gY [2])]
 (tC (yi fu) (tC (qh fu) (tC (wU fu) tN))) [] mixed Tryz.func10 Tryz.call10 rfl rfl
abbrev wV (fu:Nat):bz S0:=⟨11,[rh,rh],[],false,[(4,dH)],[],fun q=>F.kE fu q.1 q.2⟩
theorem uT (fu:Nat):aM Tryz.prog (wV fu):=.o fu 40
 [(4,.cO [] ⟨[(20,dH)],[]⟩),
  (14,.dv ⟨[(24,bg)],[]⟩ 0 jU),
  (26,.gY [])]
 (tC (gM fu) (tC (oX fu) tN)) [] mixed Tryz.func11 Tryz.call11 rfl rfl
abbrev vA (fu:Nat):bz S0:=⟨3,[rh],[],false,[(2,dH)],[],fun q=>F.jM fu q⟩
theorem tF (fu:Nat):aM Tryz.prog (vA fu):=.o fu 25
 [(7,.cO [] ⟨[(2,dH)],[]⟩)]
 (tC (Hb fu) (tC (za fu) (tC (uT fu) tN))) [] mixed Tryz.func3 Tryz.call3 rfl rfl
end
end Go.DN
