/-
  Each function does what its Lean function says.
-/
import Derived.Test.YtmhbeopldeccmaaDoorTrF
import Derived.Test.YtmhbeopldeccmaaDoorProg
import Derived.Test.YtmhbeopldeccmaaDoorTfA
import Derived.Test.YtmhbeopldeccmaaDoorTgG
import Derived.Test.YtmhbeopldeccmaaDoorTgD
import Derived.Test.YtmhbeopldeccmaaDoorTgE
import Derived.Test.YtmhbeopldeccmaaDoorSgB
import Derived.KernelRfl
set_option maxRecDepth 20000
set_option linter.unusedVariables false
set_option linter.unusedSimpArgs false
namespace Go.DN
open Go.AM
open Go.Proofs
noncomputable section
abbrev Su:Sh:=.ae true (.int .i64)
abbrev Sv:Sh:=.ae true .bool
abbrev Sx:Sh:=.ae false (.int .i64)
abbrev Sy:Sh:=.ae true .str
abbrev Sz:Sh:=.ae false (.list (.st 3))
abbrev SA:Sh:=.ae false (.st 2)
abbrev SB:Sh:=.ae false .bool
theorem mixed:Tryd.prog.follows .mixedOrders=true:=by kernel_rfl
abbrev HY (fu:Nat):de S0:=DQ S0
theorem JF (fu:Nat):bf Tryd.prog (HY fu):=Gz
abbrev lK (fu:Nat):de S0:=⟨45,[.loc 1000 0,.ae false .str],[.box 75 false [.bP 1000 0,.own 1001 (.int .u8),Sx,SB],.arr 5 false false (.int .u8)],false,[(4,Su),(5,.any)],[(1000,.box 75 false [.loc 1000 0,.own 481 (.int .u8),Su,Sv]),(481,.arr 5 false true (.int .u8))],fun q=>F.gG fu q.1 q.2.1 q.2.2.1 q.2.2.2.1 q.2.2.2.2⟩
theorem px (fu:Nat):bf Tryd.prog (lK fu):=bf.of (N:=19) (fu:=fu)
 (H:=[])
 (tbl:=[HY fu])
 mixed (af.2 ⟨JF fu,(by intro c h;cases h)⟩) Tryd.func45 Tryd.call45 rfl rfl (by kernel_rfl) (mvs:=[1001]) (ns:=[]) (fun q=>by kernel_rfl)
abbrev eQ (fu:Nat):de S0:=⟨41,[.loc 1000 0,.ae false (.list .str)],[.box 75 false [.bP 1000 0,.own 1001 (.int .u8),Sx,SB],.arr 5 false false (.int .u8)],true,[],[(1000,.box 75 false [.bP 1000 0,.own 481 (.int .u8),Su,Sv]),(481,.arr 5 false true (.int .u8))],fun q=>F.a8 fu q.1 q.2.1 q.2.2.1 q.2.2.2.1 q.2.2.2.2⟩
theorem eG (fu:Nat):bf Tryd.prog (eQ fu):=bf.of (N:=18) (fu:=fu)
 (H:=[(3,.loop ⟨[(8,Su)],[(1000,.box 75 false [.bP 1000 0,.own 481 (.int .u8),Su,Sv]),(481,.arr 5 false true (.int .u8))]⟩ 0 ⟨[],[(1000,.box 75 false [.bP 1000 0,.own 481 (.int .u8),Su,Sv]),(481,.arr 5 false true (.int .u8))]⟩)])
 (tbl:=[lK fu])
 mixed (af.2 ⟨px fu,(by intro c h;cases h)⟩) Tryd.func41 Tryd.call41 rfl rfl (by kernel_rfl) (mvs:=[1001]) (ns:=[]) (fun q=>by kernel_rfl)
abbrev xc (fu:Nat):de S0:=⟨53,[.ae false (.int .u8)],[],false,[(2,Sv)],[],fun q=>F.oL fu q⟩
theorem Aa (fu:Nat):bf Tryd.prog (xc fu):=bf.of (N:=21) (fu:=fu)
 (H:=[(3,.ez [] ⟨[(2,Sv)],[]⟩)])
 (tbl:=[])
 mixed (by intro c h;cases h) Tryd.func53 Tryd.call53 rfl rfl (by kernel_rfl) (mvs:=[]) (ns:=[]) (fun q=>by kernel_rfl)
abbrev vD (fu:Nat):de S0:=⟨54,[.ae false .str],[],false,[(2,Sv)],[],fun q=>F.qb fu q⟩
theorem yS (fu:Nat):bf Tryd.prog (vD fu):=bf.of (N:=10) (fu:=fu)
 (H:=[(9,.join ⟨[(4,Sv)],[]⟩),
  (13,.join ⟨[(4,Sv)],[]⟩),
  (17,.join ⟨[(4,Sv)],[]⟩),
  (21,.join ⟨[(4,Sv)],[]⟩)])
 (tbl:=[])
 mixed (by intro c h;cases h) Tryd.func54 Tryd.call54 rfl rfl (by kernel_rfl) (mvs:=[]) (ns:=[]) (fun q=>by kernel_rfl)
abbrev yg (fu:Nat):de S0:=⟨55,[.ae false (.int .u8)],[],false,[(2,Sv)],[],fun q=>F.sB fu q⟩
theorem BL (fu:Nat):bf Tryd.prog (yg fu):=bf.of (N:=9) (fu:=fu)
 (H:=[(3,.ez [] ⟨[(2,Sv)],[]⟩)])
 (tbl:=[])
 mixed (by intro c h;cases h) Tryd.func55 Tryd.call55 rfl rfl (by kernel_rfl) (mvs:=[]) (ns:=[]) (fun q=>by kernel_rfl)
abbrev tS (fu:Nat):de S0:=⟨46,[.ae false .str],[],false,[(2,Sv)],[],fun q=>F.oc fu q⟩
theorem xe (fu:Nat):bf Tryd.prog (tS fu):=bf.of (N:=34) (fu:=fu)
 (H:=[(4,.ez [] ⟨[(15,Sv)],[]⟩),
  (14,.fw ⟨[(2,Sv),(18,Su)],[]⟩ 0 ⟨[],[]⟩),
  (26,.ez [] ⟨[(32,Sv)],[]⟩)])
 (tbl:=[xc fu,vD fu,yg fu])
 mixed (af.2 ⟨Aa fu,af.2 ⟨yS fu,af.2 ⟨BL fu,(by intro c h;cases h)⟩⟩⟩) Tryd.func46 Tryd.call46 rfl rfl (by kernel_rfl) (mvs:=[]) (ns:=[]) (fun q=>by kernel_rfl)
abbrev rr (fu:Nat):iv S0:=LC S0
theorem ow (fu:Nat):db Tryd.prog (rr fu):=LB
abbrev ic (fu:Nat):iv S0:=⟨42,[.loc 1000 0,.ae false .str],[.box 75 false [.bP 1000 0,.own 1001 (.int .u8),Sx,SB],.arr 5 false false (.int .u8)],false,[],[(1000,.box 75 false [.bP 1000 0,.own 481 (.int .u8),Su,Sv]),(481,.arr 5 false true (.int .u8))],[(1000,.box 75 false [.bP 1000 0,.own 481 (.int .u8),Su,Sv]),(481,.arr 5 false true (.int .u8))],94,fun q=>F.eJ fu q.1 q.2.1 q.2.2.1 q.2.2.2.1 q.2.2.2.2⟩
theorem ib (fu:Nat):db Tryd.prog (ic fu):=db.of (N:=12) (fu:=fu)
 (H:=[])
 (cl:=(vA (tQ [eQ fu,tS fu] []) [rr fu])) (tblD:=[])
 mixed (mS (lA (af.2 ⟨eG fu,af.2 ⟨xe fu,(by intro c h;cases h)⟩⟩)) (af.2 ⟨ow fu,(by intro c h;cases h)⟩)) (by intro c h;cases h) Tryd.func42 Tryd.call42 rfl rfl (by kernel_rfl) (by kernel_rfl) (mvs:=[1001]) (fun q=>by kernel_rfl)
abbrev LA (fu:Nat):de S0:=Ot S0
theorem Lz (fu:Nat):bf Tryd.prog (LA fu):=NE
abbrev iO (fu:Nat):iv S0:=⟨48,[.loc 1000 0,Sx],[.box 75 false [.bP 1000 0,.own 1001 (.int .u8),Sx,SB],.arr 5 false false (.int .u8)],false,[],[(1000,.box 75 false [.bP 1000 0,.own 481 (.int .u8),Su,Sv]),(481,.arr 5 false true (.int .u8))],[(1000,.box 75 false [.bP 1000 0,.own 481 (.int .u8),Su,Sv]),(481,.arr 5 false true (.int .u8))],94,fun q=>F.fW fu q.1 q.2.1 q.2.2.1 q.2.2.2.1 q.2.2.2.2⟩
theorem jk (fu:Nat):db Tryd.prog (iO fu):=db.of (N:=12) (fu:=fu)
 (H:=[])
 (cl:=(vA (tQ [eQ fu,LA fu] []) [rr fu])) (tblD:=[])
 mixed (mS (lA (af.2 ⟨eG fu,af.2 ⟨Lz fu,(by intro c h;cases h)⟩⟩)) (af.2 ⟨ow fu,(by intro c h;cases h)⟩)) (by intro c h;cases h) Tryd.func48 Tryd.call48 rfl rfl (by kernel_rfl) (by kernel_rfl) (mvs:=[1001]) (fun q=>by kernel_rfl)
abbrev nk (fu:Nat):iv S0:=⟨43,[.loc 1000 0,.ae false (.list (.st 0))],[.box 75 false [.bP 1000 0,.own 1001 (.int .u8),Sx,SB],.arr 5 false false (.int .u8)],false,[],[(1000,.box 75 false [.bP 1000 0,.own 481 (.int .u8),Su,Sv]),(481,.arr 5 false true (.int .u8))],[(1000,.box 75 false [.bP 1000 0,.own 481 (.int .u8),Su,Sv]),(481,.arr 5 false true (.int .u8))],94,fun q=>F.ja fu q.1 q.2.1 q.2.2.1 q.2.2.2.1 q.2.2.2.2⟩
theorem oS (fu:Nat):db Tryd.prog (nk fu):=db.of (N:=42) (fu:=fu)
 (H:=[(6,.fw ⟨[(11,Su)],[(1000,.box 75 false [.bP 1000 0,.own 481 (.int .u8),Su,Sv]),(481,.arr 5 false true (.int .u8))]⟩ 0 ⟨[],[(1000,.box 75 false [.bP 1000 0,.own 481 (.int .u8),Su,Sv]),(481,.arr 5 false true (.int .u8))]⟩),
  (20,.join ⟨[],[(1000,.box 75 false [.bP 1000 0,.own 481 (.int .u8),Su,Sv]),(481,.arr 5 false true (.int .u8))]⟩),
  (26,.om ⟨[],[(1000,.box 75 false [.bP 1000 0,.own 481 (.int .u8),Su,Sv]),(481,.arr 5 false true (.int .u8))]⟩)])
 (cl:=(vA (tQ [eQ fu] []) [iO fu,ic fu,rr fu])) (tblD:=[])
 mixed (mS (lA (af.2 ⟨eG fu,(by intro c h;cases h)⟩)) (af.2 ⟨jk fu,af.2 ⟨ib fu,af.2 ⟨ow fu,(by intro c h;cases h)⟩⟩⟩)) (by intro c h;cases h) Tryd.func43 Tryd.call43 rfl rfl (by kernel_rfl) (by kernel_rfl) (mvs:=[1001]) (fun q=>by kernel_rfl)
abbrev tT (fu:Nat):de S0:=⟨50,[SA],[],false,[(2,Sv)],[],fun q=>F.qc fu q⟩
theorem uN (fu:Nat):bf Tryd.prog (tT fu):=bf.of (N:=71) (fu:=fu)
 (H:=[(8,.ez [] ⟨[(7,Sv)],[]⟩),
  (9,.join ⟨[(7,Sv)],[]⟩),
  (12,.ez [] ⟨[(7,Sv)],[]⟩),
  (13,.join ⟨[(7,Sv)],[]⟩),
  (15,.ez [] ⟨[(7,Sv)],[]⟩),
  (22,.ez [] ⟨[(31,Sv)],[]⟩),
  (23,.join ⟨[(31,Sv)],[]⟩),
  (25,.ez [] ⟨[(31,Sv)],[]⟩),
  (38,.join ⟨[(55,Sv)],[]⟩),
  (48,.join ⟨[(62,Sv)],[]⟩),
  (52,.join ⟨[(62,Sv)],[]⟩)])
 (tbl:=[])
 mixed (by intro c h;cases h) Tryd.func50 Tryd.call50 rfl rfl (by kernel_rfl) (mvs:=[]) (ns:=[]) (fun q=>by kernel_rfl)
abbrev qH (fu:Nat):l6 S0:=⟨49,[.loc 1000 0],[.box 89 false [.loc 1001 0],.box 75 false [.bP 1001 0,.own 1002 (.int .u8),Sx,SB],.arr 5 false false (.int .u8)],false,[(1000,.box 89 false [.loc 1001 0]),(1001,.box 75 false [.bP 1001 0,.own 1002 (.int .u8),Su,Sv]),(1002,.arr 5 false true (.int .u8))],false,fun m q=>F.cK fu q.1 q.2.1 q.2.2.1 q.2.2.2⟩
theorem ud (fu:Nat):oa Tryd.prog 94 (qH fu):=oa.of (N:=8) (fu:=fu)
 (H:=[])
 (cl:=(tQ [] []))
 mixed (lA (by intro c h;cases h)) Tryd.func49 Tryd.call49 rfl rfl (by kernel_rfl) (mvs:=[]) (fun m q=>by kernel_rfl)
abbrev qI (fu:Nat):de S0:=⟨57,[SA],[],false,[(2,Su)],[],fun q=>F.mK fu q⟩
theorem sa (fu:Nat):bf Tryd.prog (qI fu):=bf.of (N:=20) (fu:=fu)
 (H:=[(5,.ez [] ⟨[(3,Sv)],[]⟩)])
 (tbl:=[])
 mixed (by intro c h;cases h) Tryd.func57 Tryd.call57 rfl rfl (by kernel_rfl) (mvs:=[]) (ns:=[]) (fun q=>by kernel_rfl)
abbrev jr (self:ai→Bool→Int→Bool→(List Int)→Option ((Bool×Int×Bool×(List Int))⊕((Int×Int)×(Bool×Int×Bool×(List Int))))):iv S0:=⟨44,[.loc 1000 0,SA],[.box 75 false [.bP 1000 0,.own 1001 (.int .u8),Sx,SB],.arr 5 false false (.int .u8)],false,[],[(1000,.box 75 false [.bP 1000 0,.own 481 (.int .u8),Su,Sv]),(481,.arr 5 false true (.int .u8))],[(1000,.box 75 false [.bP 1000 0,.own 481 (.int .u8),Su,Sv]),(481,.arr 5 false true (.int .u8))],94,fun q=>self q.1 q.2.1 q.2.2.1 q.2.2.2.1 q.2.2.2.2⟩
abbrev rZ (self:ai→Bool→Int→Bool→(List Int)→Option ((Bool×Int×Bool×(List Int))⊕((Int×Int)×(Bool×Int×Bool×(List Int))))) (fu:Nat):iv S0:=⟨59,[.loc 1000 0,SA],[.box 75 false [.bP 1000 0,.own 1001 (.int .u8),Sx,SB],.arr 5 false false (.int .u8)],false,[],[(1000,.box 75 false [.bP 1000 0,.own 481 (.int .u8),Su,Sv]),(481,.arr 5 false true (.int .u8))],[(1000,.box 75 false [.bP 1000 0,.own 481 (.int .u8),Su,Sv]),(481,.arr 5 false true (.int .u8))],94,fun q=>F.mh self fu q.1 q.2.1 q.2.2.1 q.2.2.2.1 q.2.2.2.2⟩
theorem vC (self:ai→Bool→Int→Bool→(List Int)→Option ((Bool×Int×Bool×(List Int))⊕((Int×Int)×(Bool×Int×Bool×(List Int))))) (hs:db Tryd.prog (jr self)) (fu:Nat):db Tryd.prog (rZ self fu):=db.of (N:=73) (fu:=fu)
 (H:=[(7,.om ⟨[],[(1000,.box 75 false [.bP 1000 0,.own 481 (.int .u8),Su,Sv]),(481,.arr 5 false true (.int .u8))]⟩),
  (14,.fw ⟨[(23,Su)],[(1000,.box 75 false [.bP 1000 0,.own 481 (.int .u8),Su,Sv]),(481,.arr 5 false true (.int .u8))]⟩ 0 ⟨[],[(1000,.box 75 false [.bP 1000 0,.own 481 (.int .u8),Su,Sv]),(481,.arr 5 false true (.int .u8))]⟩),
  (31,.fw ⟨[(32,Su)],[(1000,.box 75 false [.bP 1000 0,.own 481 (.int .u8),Su,Sv]),(481,.arr 5 false true (.int .u8))]⟩ 2 ⟨[],[(1000,.box 75 false [.bP 1000 0,.own 481 (.int .u8),Su,Sv]),(481,.arr 5 false true (.int .u8))]⟩),
  (45,.join ⟨[],[(1000,.box 75 false [.bP 1000 0,.own 481 (.int .u8),Su,Sv]),(481,.arr 5 false true (.int .u8))]⟩),
  (58,.fw ⟨[(56,Su)],[(1000,.box 75 false [.bP 1000 0,.own 481 (.int .u8),Su,Sv]),(481,.arr 5 false true (.int .u8))]⟩ 4 ⟨[],[(1000,.box 75 false [.bP 1000 0,.own 481 (.int .u8),Su,Sv]),(481,.arr 5 false true (.int .u8))]⟩),
  (72,.join ⟨[],[(1000,.box 75 false [.bP 1000 0,.own 481 (.int .u8),Su,Sv]),(481,.arr 5 false true (.int .u8))]⟩)])
 (cl:=(vA (tQ [eQ fu] []) [ic fu,nk fu,iO fu,jr self])) (tblD:=[])
 mixed (mS (lA (af.2 ⟨eG fu,(by intro c h;cases h)⟩)) (af.2 ⟨ib fu,af.2 ⟨oS fu,af.2 ⟨jk fu,af.2 ⟨hs,(by intro c h;cases h)⟩⟩⟩⟩)) (by intro c h;cases h) Tryd.func59 Tryd.call59 rfl rfl (by kernel_rfl) (by kernel_rfl) (mvs:=[1001]) (fun q=>by kernel_rfl)
abbrev ni (self:ai→Int→Int→Bool→Int→Bool→(List Int)→Option ((Bool×Int×Bool×(List Int))⊕((Int×Int)×(Bool×Int×Bool×(List Int))))):iv S0:=⟨51,[.loc 1000 0,SA,Sx,Sx],[.box 75 false [.bP 1000 0,.own 1001 (.int .u8),Sx,SB],.arr 5 false false (.int .u8)],false,[],[(1000,.box 75 false [.bP 1000 0,.own 481 (.int .u8),Su,Sv]),(481,.arr 5 false true (.int .u8))],[(1000,.box 75 false [.bP 1000 0,.own 481 (.int .u8),Su,Sv]),(481,.arr 5 false true (.int .u8))],94,fun q=>self q.1 q.2.1 q.2.2.1 q.2.2.2.1 q.2.2.2.2.1 q.2.2.2.2.2.1 q.2.2.2.2.2.2⟩
abbrev sw (self:ai→Int→Int→Bool→Int→Bool→(List Int)→Option ((Bool×Int×Bool×(List Int))⊕((Int×Int)×(Bool×Int×Bool×(List Int))))) (fu:Nat):iv S0:=⟨58,[.loc 1000 0,SA,Sx,Sx],[.box 75 false [.bP 1000 0,.own 1001 (.int .u8),Sx,SB],.arr 5 false false (.int .u8)],false,[],[(1000,.box 75 false [.bP 1000 0,.own 481 (.int .u8),Su,Sv]),(481,.arr 5 false true (.int .u8))],[(1000,.box 75 false [.bP 1000 0,.own 481 (.int .u8),Su,Sv]),(481,.arr 5 false true (.int .u8))],94,fun q=>F.nA self fu q.1 q.2.1 q.2.2.1 q.2.2.2.1 q.2.2.2.2.1 q.2.2.2.2.2.1 q.2.2.2.2.2.2⟩
theorem wR (self:ai→Int→Int→Bool→Int→Bool→(List Int)→Option ((Bool×Int×Bool×(List Int))⊕((Int×Int)×(Bool×Int×Bool×(List Int))))) (hs:db Tryd.prog (ni self)) (fu:Nat):db Tryd.prog (sw self fu):=db.of (N:=64) (fu:=fu)
 (H:=[(4,.ez [] ⟨[(21,Sv)],[]⟩),
  (9,.ez [] ⟨[],[(1000,.box 75 false [.bP 1000 0,.own 481 (.int .u8),Su,Sv])]⟩),
  (15,.join ⟨[(8,Su)],[]⟩)])
 (cl:=(vA (tQ [eQ fu,qI fu] []) [ni self,rr fu])) (tblD:=[])
 mixed (mS (lA (af.2 ⟨eG fu,af.2 ⟨sa fu,(by intro c h;cases h)⟩⟩)) (af.2 ⟨hs,af.2 ⟨ow fu,(by intro c h;cases h)⟩⟩)) (by intro c h;cases h) Tryd.func58 Tryd.call58 rfl rfl (by kernel_rfl) (by kernel_rfl) (mvs:=[1001]) (fun q=>by kernel_rfl)
abbrev rY (self:ai→Bool→Int→Bool→(List Int)→Option ((Bool×Int×Bool×(List Int))⊕((Int×Int)×(Bool×Int×Bool×(List Int))))) (fu:Nat):iv S0:=ni (F.ej self fu)
theorem pS (self:ai→Bool→Int→Bool→(List Int)→Option ((Bool×Int×Bool×(List Int))⊕((Int×Int)×(Bool×Int×Bool×(List Int))))) (hs:db Tryd.prog (jr self)):∀fu:Nat,db Tryd.prog (rY self fu)
 | 0=>⟨Tryd.call51,fun q r h=>nomatch (show(none:Option _)=some r from h)⟩
 | fu+1=>db.of (N:=51) (fu:=fu+1)
   (H:=[(27,.om ⟨[],[(1000,.box 75 false [.bP 1000 0,.own 481 (.int .u8),Su,Sv]),(481,.arr 5 false true (.int .u8))]⟩),
    (31,.om ⟨[],[(1000,.box 75 false [.bP 1000 0,.own 481 (.int .u8),Su,Sv]),(481,.arr 5 false true (.int .u8))]⟩),
    (35,.om ⟨[],[(1000,.box 75 false [.bP 1000 0,.own 481 (.int .u8),Su,Sv]),(481,.arr 5 false true (.int .u8))]⟩)])
   (cl:=(vA (tQ [eQ (fu+1),tT (fu+1),qI (fu+1)] []) [jr self,iO (fu+1),ic (fu+1),sw (F.ej self fu) (fu+1),rZ self (fu+1),rr (fu+1)])) (tblD:=[])
   mixed (mS (lA (af.2 ⟨eG (fu+1),af.2 ⟨uN (fu+1),af.2 ⟨sa (fu+1),(by intro c h;cases h)⟩⟩⟩)) (af.2 ⟨hs,af.2 ⟨jk (fu+1),af.2 ⟨ib (fu+1),af.2 ⟨wR (F.ej self fu) (pS self hs fu) (fu+1),af.2 ⟨vC self hs (fu+1),af.2 ⟨ow (fu+1),(by intro c h;cases h)⟩⟩⟩⟩⟩⟩)) (by intro c h;cases h) Tryd.func51 Tryd.call51 rfl rfl (by kernel_rfl) (by kernel_rfl) (mvs:=[1001]) (fun q=>by kernel_rfl)
abbrev nX (fu:Nat):iv S0:=jr (F.cp fu)
theorem lY:∀fu:Nat,db Tryd.prog (nX fu)
 | 0=>⟨Tryd.call44,fun q r h=>nomatch (show(none:Option _)=some r from h)⟩
 | fu+1=>db.of (N:=96) (fu:=fu+1)
   (H:=[(13,.ez [1000] ⟨[],[(1000,.box 75 false [.bP 1000 0,.own 481 (.int .u8),Su,Sv])]⟩),
    (19,.om ⟨[],[(1000,.box 75 false [.bP 1000 0,.own 481 (.int .u8),Su,Sv]),(481,.arr 5 false true (.int .u8))]⟩),
    (27,.uo [1000,481]),
    (30,.uo [1000,481]),
    (33,.om ⟨[],[(1000,.box 75 false [.bP 1000 0,.own 481 (.int .u8),Su,Sv]),(481,.arr 5 false true (.int .u8))]⟩),
    (45,.uo [1000,481]),
    (48,.uo [1000,481])])
   (cl:=(vA (tQ [eQ (fu+1),tT (fu+1)] []) [ic (fu+1),nX fu,iO (fu+1),rY (F.cp fu) (fu+1),rr (fu+1)])) (tblD:=[qH (fu+1)])
   mixed (mS (lA (af.2 ⟨eG (fu+1),af.2 ⟨uN (fu+1),(by intro c h;cases h)⟩⟩)) (af.2 ⟨ib (fu+1),af.2 ⟨lY fu,af.2 ⟨jk (fu+1),af.2 ⟨pS (F.cp fu) (lY fu) (fu+1),af.2 ⟨ow (fu+1),(by intro c h;cases h)⟩⟩⟩⟩⟩)) (af.2 ⟨ud (fu+1),(by intro c h;cases h)⟩) Tryd.func44 Tryd.call44 rfl rfl (by kernel_rfl) (by kernel_rfl) (mvs:=[1001]) (fun q=>by kernel_rfl)
abbrev oT (fu:Nat):iv S0:=⟨39,[.loc 1000 0,.ae false (.st 3)],[.box 75 false [.bP 1000 0,.own 1001 (.int .u8),Sx,SB],.arr 5 false false (.int .u8)],false,[],[(1000,.box 75 false [.bP 1000 0,.own 481 (.int .u8),Su,Sv]),(481,.arr 5 false true (.int .u8))],[(1000,.box 75 false [.bP 1000 0,.own 481 (.int .u8),Su,Sv]),(481,.arr 5 false true (.int .u8))],94,fun q=>F.kn fu q.1 q.2.1 q.2.2.1 q.2.2.2.1 q.2.2.2.2⟩
theorem sN (fu:Nat):db Tryd.prog (oT fu):=db.of (N:=51) (fu:=fu)
 (H:=[(12,.fw ⟨[(19,Su)],[(1000,.box 75 false [.bP 1000 0,.own 481 (.int .u8),Su,Sv]),(481,.arr 5 false true (.int .u8))]⟩ 0 ⟨[],[(1000,.box 75 false [.bP 1000 0,.own 481 (.int .u8),Su,Sv]),(481,.arr 5 false true (.int .u8))]⟩),
  (26,.join ⟨[],[(1000,.box 75 false [.bP 1000 0,.own 481 (.int .u8),Su,Sv]),(481,.arr 5 false true (.int .u8))]⟩)])
 (cl:=(vA (tQ [eQ fu] []) [ic fu,nk fu,nX fu])) (tblD:=[])
 mixed (mS (lA (af.2 ⟨eG fu,(by intro c h;cases h)⟩)) (af.2 ⟨ib fu,af.2 ⟨oS fu,af.2 ⟨lY fu,(by intro c h;cases h)⟩⟩⟩)) (by intro c h;cases h) Tryd.func39 Tryd.call39 rfl rfl (by kernel_rfl) (by kernel_rfl) (mvs:=[1001]) (fun q=>by kernel_rfl)
abbrev DR (fu:Nat):l6 S0:=BN S0
theorem GA (fu:Nat):oa Tryd.prog 94 (DR fu):=D9
abbrev uc (fu:Nat):iv S0:=⟨28,[.loc 1000 0,Sz],[.box 75 false [.bP 1000 0,.own 1001 (.int .u8),Sx,SB],.arr 5 false false (.int .u8)],false,[(4,.ae true (.st 4))],[(1000,.box 75 false [.bP 1000 0,.own 481 (.int .u8),Su,Sv]),(481,.arr 5 false true (.int .u8))],[],94,fun q=>F.lS fu q.1 q.2.1 q.2.2.1 q.2.2.2.1 q.2.2.2.2⟩
theorem sk (fu:Nat):db Tryd.prog (uc fu):=db.of (N:=19) (fu:=fu)
 (H:=[(8,.fw ⟨[(10,Su)],[(1000,.box 75 false [.bP 1000 0,.own 481 (.int .u8),Su,Sv]),(481,.arr 5 false true (.int .u8))]⟩ 0 ⟨[],[(1000,.box 75 false [.bP 1000 0,.own 481 (.int .u8),Su,Sv]),(481,.arr 5 false true (.int .u8))]⟩)])
 (cl:=(vA (tQ [] []) [oT fu])) (tblD:=[DR fu])
 mixed (mS (lA (by intro c h;cases h)) (af.2 ⟨sN fu,(by intro c h;cases h)⟩)) (af.2 ⟨GA fu,(by intro c h;cases h)⟩) Tryd.func28 Tryd.call28 rfl rfl (by kernel_rfl) (by kernel_rfl) (mvs:=[1001]) (fun q=>by kernel_rfl)
abbrev pR (fu:Nat):de S0:=⟨28,[.loc 1000 0,Sz],[.box 75 false [.bP 1000 0,.own 1001 (.int .u8),Sx,SB],.arr 5 false false (.int .u8)],false,[(4,.ae true (.st 4))],[(1000,.box 75 false [.bP 1000 0,.own 481 (.int .u8),Su,Sv]),(481,.arr 5 false true (.int .u8))],fun q=>F.na fu q.1 q.2.1 q.2.2.1 q.2.2.2.1 q.2.2.2.2⟩
theorem tR (fu:Nat):bf Tryd.prog (pR fu):=db.Bv (sk fu) fun q r h=>EJ h
abbrev pT (fu:Nat):de S0:=⟨29,[.loc 1000 0],[.box 75 false [.bP 1000 0,.own 1001 (.int .u8),Sx,SB],.arr 5 false false (.int .u8)],false,[(2,Su)],[(1000,.box 75 false [.bP 1000 0,.own 1001 (.int .u8),Su,Sv]),(1001,.arr 5 false true (.int .u8))],fun q=>F.nb fu q.1 q.2.1 q.2.2.1 q.2.2.2⟩
theorem tU (fu:Nat):bf Tryd.prog (pT fu):=bf.of (N:=8) (fu:=fu)
 (H:=[])
 (tbl:=[])
 mixed (by intro c h;cases h) Tryd.func29 Tryd.call29 rfl rfl (by kernel_rfl) (mvs:=[]) (ns:=[]) (fun q=>by kernel_rfl)
abbrev HZ (fu:Nat):de S0:=LG S0
theorem JG (fu:Nat):bf Tryd.prog (HZ fu):=LF
abbrev yh (fu:Nat):de S0:=⟨12,[Sz],[],false,[(2,Sy),(3,Su)],[],fun q=>F.sC fu q⟩
theorem BM (fu:Nat):bf Tryd.prog (yh fu):=bf.of (N:=22) (fu:=fu)
 (H:=[(3,.ez [] ⟨[(4,.loc 4 0)],[(4,.box 75 true [.bP 4 0,.own 420 (.int .u8),Su,Sv]),(420,.arr 5 true true (.int .u8))]⟩),
  (11,.uo []),
  (16,.ez [] ⟨[(19,Sv)],[(4,.box 75 true [.bP 4 0,.own 420 (.int .u8),Su,Sv]),(420,.arr 5 true true (.int .u8))]⟩)])
 (tbl:=[pR fu,pT fu,HZ fu])
 mixed (af.2 ⟨tR fu,af.2 ⟨tU fu,af.2 ⟨JG fu,(by intro c h;cases h)⟩⟩⟩) Tryd.func12 Tryd.call12 rfl rfl (by kernel_rfl) (mvs:=[]) (ns:=[]) (fun q=>by kernel_rfl)
abbrev qG (fu:Nat):de S0:=⟨15,[.ae false .str],[],false,[(2,.ae true (.st 7)),(3,Sv)],[],fun q=>F.ld fu q⟩
theorem rX (fu:Nat):bf Tryd.prog (qG fu):=bf.of (N:=62) (fu:=fu)
 (H:=[])
 (tbl:=[])
 mixed (by intro c h;cases h) Tryd.func15 Tryd.call15 rfl rfl (by kernel_rfl) (mvs:=[]) (ns:=[]) (fun q=>by kernel_rfl)
abbrev wP (fu:Nat):iv S0:=Ly S0
theorem u3 (fu:Nat):db Tryd.prog (wP fu):=Lx
abbrev oG (fu:Nat):de S0:=⟨17,[.ae false (.pt 8),.ae false .str],[],false,[(4,Su),(5,Sv)],[],fun q=>F.jV fu q.1 q.2⟩
theorem qE (fu:Nat):bf Tryd.prog (oG fu):=bf.of (N:=24) (fu:=fu)
 (H:=[(4,.fw ⟨[(4,Su),(5,Sv),(0,.ae false (.pt 8))],[]⟩ 0 ⟨[(4,Su),(5,Sv)],[]⟩)])
 (tbl:=[])
 mixed (by intro c h;cases h) Tryd.func17 Tryd.call17 rfl rfl (by kernel_rfl) (mvs:=[]) (ns:=[]) (fun q=>by kernel_rfl)
abbrev oF (fu:Nat):de S0:=⟨18,[.ae false (.pt 8),.ae false .str,Sx],[],false,[(6,.ae false (.pt 8))],[],fun q=>F.iE fu q.1 q.2.1 q.2.2⟩
theorem qD (fu:Nat):bf Tryd.prog (oF fu):=bf.of (N:=12) (fu:=fu)
 (H:=[])
 (tbl:=[])
 mixed (by intro c h;cases h) Tryd.func18 Tryd.call18 rfl rfl (by kernel_rfl) (mvs:=[]) (ns:=[]) (fun q=>by kernel_rfl)
abbrev sv (fu:Nat):iv S0:=⟨31,[.agg [.mp 1000,.mp 1001],SA],[.deep 0 false false .sm (.st 6),.deep 0 false false .sm (.st 6)],false,[],[(1000,.deep 0 false false .sm (.st 6)),(1001,.deep 0 false false .sm (.st 6))],[(1000,.deep 0 false false .sm (.st 6)),(1001,.deep 0 false false .sm (.st 6))],1000082,fun q=>F.nw fu q.1 q.2.1 q.2.2⟩
theorem wQ (fu:Nat):db Tryd.prog (sv fu):=db.of (N:=114) (fu:=fu)
 (H:=[(14,.loop ⟨[(6,Sv),(25,Su)],[]⟩ 0 ⟨[(6,Sv)],[]⟩),
  (25,.ez [] ⟨[(6,Sv)],[]⟩),
  (35,.fw ⟨[(68,Su)],[]⟩ 2 ⟨[],[]⟩)])
 (cl:=(vA (tQ [qG fu] []) [wP fu])) (tblD:=[])
 mixed (mS (lA (af.2 ⟨rX fu,(by intro c h;cases h)⟩)) (af.2 ⟨u3 fu,(by intro c h;cases h)⟩)) (by intro c h;cases h) Tryd.func31 Tryd.call31 rfl rfl (by kernel_rfl) (by kernel_rfl) (mvs:=[]) (fun q=>by kernel_rfl)
abbrev oH (fu:Nat):iv S0:=⟨19,[.agg [.mp 1000,.mp 1001],SA,.ae false (.pt 8)],[.deep 0 false false .sm (.st 6),.deep 0 false false .sm (.st 6)],false,[],[(1000,.deep 0 false false .sm (.st 6)),(1001,.deep 0 false false .sm (.st 6))],[(1000,.deep 0 false false .sm (.st 6)),(1001,.deep 0 false false .sm (.st 6))],1000082,fun q=>F.dG fu q.1 q.2.1 q.2.2.1 q.2.2.2⟩
theorem qF:∀fu:Nat,db Tryd.prog (oH fu)
 | 0=>⟨Tryd.call19,fun q r h=>nomatch (show(none:Option _)=some r from h)⟩
 | fu+1=>db.of (N:=60) (fu:=fu+1)
   (H:=[(8,.om ⟨[],[(1000,.deep 0 false false .sm (.st 6)),(1001,.deep 0 false false .sm (.st 6))]⟩),
    (14,.om ⟨[],[(1000,.deep 0 false false .sm (.st 6)),(1001,.deep 0 false false .sm (.st 6))]⟩),
    (20,.fw ⟨[(31,Su)],[(1000,.deep 0 false false .sm (.st 6)),(1001,.deep 0 false false .sm (.st 6))]⟩ 1 ⟨[],[(1000,.deep 0 false false .sm (.st 6)),(1001,.deep 0 false false .sm (.st 6))]⟩),
    (32,.ez [] ⟨[(47,Sv)],[]⟩),
    (33,.om ⟨[],[(1000,.deep 0 false false .sm (.st 6)),(1001,.deep 0 false false .sm (.st 6))]⟩),
    (34,.uo [1000,1001])])
   (cl:=(vA (tQ [oG (fu+1),oF (fu+1)] []) [sv (fu+1),oH fu,wP (fu+1)])) (tblD:=[])
   mixed (mS (lA (af.2 ⟨qE (fu+1),af.2 ⟨qD (fu+1),(by intro c h;cases h)⟩⟩)) (af.2 ⟨wQ (fu+1),af.2 ⟨qF fu,af.2 ⟨u3 (fu+1),(by intro c h;cases h)⟩⟩⟩)) (by intro c h;cases h) Tryd.func19 Tryd.call19 rfl rfl (by kernel_rfl) (by kernel_rfl) (mvs:=[]) (fun q=>by kernel_rfl)
abbrev zk (fu:Nat):l6 S0:=DS S0
theorem CK (fu:Nat):oa Tryd.prog 1000082 (zk fu):=GB
abbrev CJ (fu:Nat):iv S0:=⟨6,[Sz],[],false,[(2,Su)],[],[],1000082,fun q=>F.ti fu q⟩
theorem yR (fu:Nat):db Tryd.prog (CJ fu):=db.of (N:=108) (fu:=fu)
 (H:=[(20,.fw ⟨[(32,Su)],[(5,.box 51 true [.mp 28,.any]),(28,.deep 0 true false .sm (.st 6))]⟩ 0 ⟨[],[(5,.box 51 true [.mp 28,.any]),(28,.deep 0 true false .sm (.st 6))]⟩),
  (45,.fw ⟨[(12,.ae true (.pt 8)),(62,Su)],[(57,.deep 0 true true .sm (.st 6))]⟩ 2 ⟨[(12,.ae true (.pt 8))],[(57,.deep 0 true true .sm (.st 6))]⟩),
  (65,.loop ⟨[(83,Su)],[(57,.deep 0 true true .sm (.st 6))]⟩ 4 ⟨[],[(57,.deep 0 true true .sm (.st 6))]⟩)])
 (cl:=(vA (tQ [yh fu,qG fu,oG fu,oF fu] []) [oH fu,wP fu])) (tblD:=[zk fu])
 mixed (mS (lA (af.2 ⟨BM fu,af.2 ⟨rX fu,af.2 ⟨qE fu,af.2 ⟨qD fu,(by intro c h;cases h)⟩⟩⟩⟩)) (af.2 ⟨qF fu,af.2 ⟨u3 fu,(by intro c h;cases h)⟩⟩)) (af.2 ⟨CK fu,(by intro c h;cases h)⟩) Tryd.func6 Tryd.call6 rfl rfl (by kernel_rfl) (by kernel_rfl) (mvs:=[]) (fun q=>by kernel_rfl)
abbrev yf (fu:Nat):de S0:=⟨6,[Sz],[],false,[(2,Su)],[],fun q=>F.sy fu q⟩
theorem BK (fu:Nat):bf Tryd.prog (yf fu):=db.Bv (yR fu) fun q r h=>EJ h
abbrev xd (fu:Nat):de S0:=⟨4,[Sz],[],false,[(2,Su)],[],fun q=>F.uW fu q⟩
theorem Ab (fu:Nat):bf Tryd.prog (xd fu):=bf.of (N:=5) (fu:=fu)
 (H:=[])
 (tbl:=[yf fu])
 mixed (af.2 ⟨BK fu,(by intro c h;cases h)⟩) Tryd.func4 Tryd.call4 rfl rfl (by kernel_rfl) (mvs:=[]) (ns:=[]) (fun q=>by kernel_rfl)
abbrev oV (fu:Nat):de S0:=⟨32,[.ae false (.int .u8)],[],false,[(2,Sv)],[],fun q=>F.iS fu q⟩
theorem sO (fu:Nat):bf Tryd.prog (oV fu):=bf.of (N:=21) (fu:=fu)
 (H:=[(3,.ez [] ⟨[(2,Sv)],[]⟩)])
 (tbl:=[])
 mixed (by intro c h;cases h) Tryd.func32 Tryd.call32 rfl rfl (by kernel_rfl) (mvs:=[]) (ns:=[]) (fun q=>by kernel_rfl)
abbrev pW (fu:Nat):de S0:=⟨33,[.ae false (.int .u8)],[],false,[(2,Sv)],[],fun q=>F.kZ fu q⟩
theorem tV (fu:Nat):bf Tryd.prog (pW fu):=bf.of (N:=9) (fu:=fu)
 (H:=[(3,.ez [] ⟨[(2,Sv)],[]⟩)])
 (tbl:=[])
 mixed (by intro c h;cases h) Tryd.func33 Tryd.call33 rfl rfl (by kernel_rfl) (mvs:=[]) (ns:=[]) (fun q=>by kernel_rfl)
abbrev kv (fu:Nat):de S0:=⟨20,[.ae false .str],[],false,[(2,Sv)],[],fun q=>F.cA fu q⟩
theorem la (fu:Nat):bf Tryd.prog (kv fu):=bf.of (N:=50) (fu:=fu)
 (H:=[(4,.ez [] ⟨[(31,Sv)],[]⟩),
  (14,.fw ⟨[(2,Sv),(3,Su)],[]⟩ 0 ⟨[],[]⟩),
  (24,.ez [] ⟨[(49,Sv)],[]⟩)])
 (tbl:=[oV fu,pW fu])
 mixed (af.2 ⟨sO fu,af.2 ⟨tV fu,(by intro c h;cases h)⟩⟩) Tryd.func20 Tryd.call20 rfl rfl (by kernel_rfl) (mvs:=[]) (ns:=[]) (fun q=>by kernel_rfl)
abbrev lH (fu:Nat):de S0:=⟨22,[.ae false (.list (.st 0))],[],false,[(2,Sv)],[],fun q=>F.fj fu q⟩
theorem nF (fu:Nat):bf Tryd.prog (lH fu):=bf.of (N:=36) (fu:=fu)
 (H:=[(6,.fw ⟨[(2,Sv),(7,Su)],[]⟩ 0 ⟨[],[]⟩),
  (18,.ez [] ⟨[(34,Sv)],[]⟩)])
 (tbl:=[kv fu])
 mixed (af.2 ⟨la fu,(by intro c h;cases h)⟩) Tryd.func22 Tryd.call22 rfl rfl (by kernel_rfl) (mvs:=[]) (ns:=[]) (fun q=>by kernel_rfl)
abbrev nq (fu:Nat):de S0:=⟨21,[SA],[],false,[(2,Sv)],[],fun q=>F.jc fu q⟩
theorem oW:∀fu:Nat,bf Tryd.prog (nq fu)
 | 0=>⟨Tryd.call21,fun q r h=>nomatch (show(none:Option _)=some r from h)⟩
 | fu+1=>bf.of (N:=185) (fu:=fu+1)
   (H:=[(6,.fw ⟨[(2,Sv),(13,Su)],[]⟩ 0 ⟨[(2,Sv)],[]⟩),
    (26,.ez [] ⟨[(5,Sv)],[]⟩),
    (35,.ez [] ⟨[(2,Sv)],[]⟩),
    (41,.ez [] ⟨[(2,Sv)],[]⟩),
    (47,.ez [] ⟨[(2,Sv)],[]⟩),
    (53,.ez [] ⟨[(2,Sv)],[]⟩),
    (59,.ez [] ⟨[(2,Sv)],[]⟩),
    (68,.fw ⟨[(2,Sv),(148,Su)],[]⟩ 3 ⟨[],[]⟩),
    (82,.fw ⟨[(2,Sv),(154,Su)],[]⟩ 5 ⟨[(2,Sv)],[]⟩),
    (103,.ez [] ⟨[(2,Sv)],[]⟩)])
   (tbl:=[nq fu,kv (fu+1),lH (fu+1)])
   mixed (af.2 ⟨oW fu,af.2 ⟨la (fu+1),af.2 ⟨nF (fu+1),(by intro c h;cases h)⟩⟩⟩) Tryd.func21 Tryd.call21 rfl rfl (by kernel_rfl) (mvs:=[]) (ns:=[]) (fun q=>by kernel_rfl)
abbrev kx (fu:Nat):de S0:=⟨34,[Sx],[],false,[(2,Sy)],[],fun q=>F.eH fu q⟩
theorem lb:∀fu:Nat,bf Tryd.prog (kx fu)
 | 0=>⟨Tryd.call34,fun q r h=>nomatch (show(none:Option _)=some r from h)⟩
 | fu+1=>bf.of (N:=20) (fu:=fu+1)
   (H:=[(11,.ez [] ⟨[(2,Sy)],[]⟩)])
   (tbl:=[kx fu])
   mixed (af.2 ⟨lb fu,(by intro c h;cases h)⟩) Tryd.func34 Tryd.call34 rfl rfl (by kernel_rfl) (mvs:=[]) (ns:=[]) (fun q=>by kernel_rfl)
abbrev k8 (fu:Nat):de S0:=⟨23,[.ae false (.list (.st 0))],[],false,[(2,Sy)],[],fun q=>F.fS fu q⟩
theorem mT (fu:Nat):bf Tryd.prog (k8 fu):=bf.of (N:=32) (fu:=fu)
 (H:=[(8,.loop ⟨[(3,Sy),(8,Su)],[]⟩ 0 ⟨[(3,Sy)],[]⟩),
  (22,.join ⟨[(3,Sy)],[]⟩),
  (27,.join ⟨[(3,Sy)],[]⟩)])
 (tbl:=[kx fu])
 mixed (af.2 ⟨lb fu,(by intro c h;cases h)⟩) Tryd.func23 Tryd.call23 rfl rfl (by kernel_rfl) (mvs:=[]) (ns:=[]) (fun q=>by kernel_rfl)
abbrev nr (fu:Nat):de S0:=⟨40,[SA],[],false,[(2,Su)],[],fun q=>F.gC fu q⟩
theorem oX (fu:Nat):bf Tryd.prog (nr fu):=bf.of (N:=22) (fu:=fu)
 (H:=[(4,.ez [] ⟨[(10,Sv)],[]⟩),
  (12,.ez [] ⟨[(18,Sv)],[]⟩)])
 (tbl:=[])
 mixed (by intro c h;cases h) Tryd.func40 Tryd.call40 rfl rfl (by kernel_rfl) (mvs:=[]) (ns:=[]) (fun q=>by kernel_rfl)
abbrev nZ (fu:Nat):de S0:=⟨35,[SA,Sx],[],false,[(4,Sv)],[],fun q=>F.kQ fu q.1 q.2⟩
theorem pV (fu:Nat):bf Tryd.prog (nZ fu):=bf.of (N:=16) (fu:=fu)
 (H:=[(3,.uo [])])
 (tbl:=[nr fu])
 mixed (af.2 ⟨oX fu,(by intro c h;cases h)⟩) Tryd.func35 Tryd.call35 rfl rfl (by kernel_rfl) (mvs:=[]) (ns:=[]) (fun q=>by kernel_rfl)
abbrev n5 (fu:Nat):de S0:=⟨24,[SA],[],false,[(2,Sy)],[],fun q=>F.kR fu q⟩
theorem pX:∀fu:Nat,bf Tryd.prog (n5 fu)
 | 0=>⟨Tryd.call24,fun q r h=>nomatch (show(none:Option _)=some r from h)⟩
 | fu+1=>bf.of (N:=157) (fu:=fu+1)
   (H:=[(27,.loop ⟨[(3,Sy),(30,Su)],[]⟩ 1 ⟨[(3,Sy)],[]⟩),
    (43,.join ⟨[(6,Sy)],[]⟩),
    (49,.join ⟨[(3,Sy)],[]⟩),
    (61,.uo []),
    (67,.uo []),
    (75,.join ⟨[(7,Sy)],[]⟩),
    (82,.loop ⟨[(7,Sy),(111,Su)],[]⟩ 3 ⟨[(7,Sy)],[]⟩),
    (99,.loop ⟨[(7,Sy),(119,Su)],[]⟩ 5 ⟨[(7,Sy)],[]⟩),
    (113,.join ⟨[(7,Sy)],[]⟩),
    (126,.loop ⟨[(7,Sy),(141,Su)],[]⟩ 7 ⟨[(7,Sy)],[]⟩),
    (140,.join ⟨[(7,Sy)],[]⟩)])
   (tbl:=[kx (fu+1),n5 fu,nZ (fu+1),k8 (fu+1)])
   mixed (af.2 ⟨lb (fu+1),af.2 ⟨pX fu,af.2 ⟨pV (fu+1),af.2 ⟨mT (fu+1),(by intro c h;cases h)⟩⟩⟩⟩) Tryd.func24 Tryd.call24 rfl rfl (by kernel_rfl) (mvs:=[]) (ns:=[]) (fun q=>by kernel_rfl)
abbrev mA (fu:Nat):de S0:=⟨25,[SA],[],false,[(2,Su)],[],fun q=>F.ig fu q⟩
theorem oA:∀fu:Nat,bf Tryd.prog (mA fu)
 | 0=>⟨Tryd.call25,fun q r h=>nomatch (show(none:Option _)=some r from h)⟩
 | fu+1=>bf.of (N:=35) (fu:=fu+1)
   (H:=[(8,.loop ⟨[(3,Su),(10,Su)],[]⟩ 0 ⟨[(3,Su)],[]⟩),
    (23,.ez [] ⟨[(25,Sv)],[]⟩),
    (24,.join ⟨[(6,Su)],[]⟩),
    (29,.join ⟨[(3,Su)],[]⟩)])
   (tbl:=[mA fu,nZ (fu+1)])
   mixed (af.2 ⟨oA fu,af.2 ⟨pV (fu+1),(by intro c h;cases h)⟩⟩) Tryd.func25 Tryd.call25 rfl rfl (by kernel_rfl) (mvs:=[]) (ns:=[]) (fun q=>by kernel_rfl)
abbrev nt (fu:Nat):de S0:=⟨36,[SA],[],false,[(2,Su)],[],fun q=>F.kj fu q⟩
theorem oY:∀fu:Nat,bf Tryd.prog (nt fu)
 | 0=>⟨Tryd.call36,fun q r h=>nomatch (show(none:Option _)=some r from h)⟩
 | fu+1=>bf.of (N:=20) (fu:=fu+1)
   (H:=[(12,.uo [])])
   (tbl:=[nr (fu+1),nt fu])
   mixed (af.2 ⟨oX (fu+1),af.2 ⟨oY fu,(by intro c h;cases h)⟩⟩) Tryd.func36 Tryd.call36 rfl rfl (by kernel_rfl) (mvs:=[]) (ns:=[]) (fun q=>by kernel_rfl)
abbrev lZ (fu:Nat):de S0:=⟨26,[SA],[],false,[(2,Su)],[],fun q=>F.gK fu q⟩
theorem n4:∀fu:Nat,bf Tryd.prog (lZ fu)
 | 0=>⟨Tryd.call26,fun q r h=>nomatch (show(none:Option _)=some r from h)⟩
 | fu+1=>bf.of (N:=24) (fu:=fu+1)
   (H:=[(8,.loop ⟨[(3,Su),(12,Su)],[]⟩ 0 ⟨[(3,Su)],[]⟩),
    (23,.join ⟨[(3,Su)],[]⟩)])
   (tbl:=[nt (fu+1),lZ fu])
   mixed (af.2 ⟨oY (fu+1),af.2 ⟨n4 fu,(by intro c h;cases h)⟩⟩) Tryd.func26 Tryd.call26 rfl rfl (by kernel_rfl) (mvs:=[]) (ns:=[]) (fun q=>by kernel_rfl)
abbrev qT (fu:Nat):de S0:=⟨7,[Sz],[],false,[(2,Sy),(3,Su)],[],fun q=>F.lQ fu q⟩
theorem u5 (fu:Nat):bf Tryd.prog (qT fu):=bf.of (N:=92) (fu:=fu)
 (H:=[(10,.fw ⟨[(2,Sy),(3,Su),(4,Sy),(5,Sv),(12,Su)],[]⟩ 0 ⟨[(2,Sy),(3,Su),(4,Sy),(5,Sv)],[]⟩),
  (23,.ez [] ⟨[(25,Sv)],[]⟩),
  (35,.fw ⟨[(2,Sy),(3,Su),(4,Sy),(35,Su)],[]⟩ 2 ⟨[(2,Sy),(3,Su),(4,Sy)],[]⟩),
  (48,.ez [] ⟨[(49,Sv)],[]⟩),
  (57,.join ⟨[(4,Sy)],[]⟩),
  (60,.uo []),
  (64,.ez [] ⟨[(5,Sv)],[]⟩),
  (68,.ez [] ⟨[(90,Sv)],[]⟩)])
 (tbl:=[kv fu,nq fu,lH fu,k8 fu,n5 fu,mA fu,lZ fu])
 mixed (af.2 ⟨la fu,af.2 ⟨oW fu,af.2 ⟨nF fu,af.2 ⟨mT fu,af.2 ⟨pX fu,af.2 ⟨oA fu,af.2 ⟨n4 fu,(by intro c h;cases h)⟩⟩⟩⟩⟩⟩⟩) Tryd.func7 Tryd.call7 rfl rfl (by kernel_rfl) (mvs:=[]) (ns:=[]) (fun q=>by kernel_rfl)
abbrev mz (fu:Nat):de S0:=⟨8,[.ae false .str],[],false,[(2,.ae true (.st 9))],[],fun q=>F.dZ fu q⟩
theorem oz (fu:Nat):bf Tryd.prog (mz fu):=bf.of (N:=47) (fu:=fu)
 (H:=[])
 (tbl:=[])
 mixed (by intro c h;cases h) Tryd.func8 Tryd.call8 rfl rfl (by kernel_rfl) (mvs:=[]) (ns:=[]) (fun q=>by kernel_rfl)
abbrev nY (fu:Nat):de S0:=⟨9,[Sz,.ae false .str],[],false,[(4,Su)],[],fun q=>F.jD fu q.1 q.2⟩
theorem pU (fu:Nat):bf Tryd.prog (nY fu):=bf.of (N:=20) (fu:=fu)
 (H:=[(6,.fw ⟨[(4,Su),(9,Su)],[]⟩ 0 ⟨[],[]⟩)])
 (tbl:=[])
 mixed (by intro c h;cases h) Tryd.func9 Tryd.call9 rfl rfl (by kernel_rfl) (mvs:=[]) (ns:=[]) (fun q=>by kernel_rfl)
abbrev my (fu:Nat):de S0:=⟨10,[.ae false (.list .str),.ae false .str],[],false,[(4,Sv)],[],fun q=>F.kG fu q.1 q.2⟩
theorem np (fu:Nat):bf Tryd.prog (my fu):=bf.of (N:=17) (fu:=fu)
 (H:=[(6,.fw ⟨[(4,Sv),(9,Su)],[]⟩ 0 ⟨[],[]⟩)])
 (tbl:=[])
 mixed (by intro c h;cases h) Tryd.func10 Tryd.call10 rfl rfl (by kernel_rfl) (mvs:=[]) (ns:=[]) (fun q=>by kernel_rfl)
abbrev qJ (fu:Nat):de S0:=⟨27,[SA,.ae false (.list .str),Sz],[],false,[(6,Su)],[],fun q=>F.lB fu q.1 q.2.1 q.2.2⟩
theorem ue (fu:Nat):bf Tryd.prog (qJ fu):=bf.of (N:=97) (fu:=fu)
 (H:=[(20,.ez [] ⟨[(30,Sv)],[]⟩),
  (28,.uo []),
  (40,.ez [] ⟨[(61,Sv)],[]⟩),
  (48,.ez [] ⟨[(78,Sv)],[]⟩),
  (58,.fw ⟨[(6,Su),(82,Su)],[]⟩ 0 ⟨[],[]⟩),
  (70,.ez [] ⟨[(95,Sv)],[]⟩)])
 (tbl:=[mz fu,nY fu,my fu])
 mixed (af.2 ⟨oz fu,af.2 ⟨pU fu,af.2 ⟨np fu,(by intro c h;cases h)⟩⟩⟩) Tryd.func27 Tryd.call27 rfl rfl (by kernel_rfl) (mvs:=[]) (ns:=[]) (fun q=>by kernel_rfl)
abbrev nn (fu:Nat):de S0:=⟨11,[SA,.ae false (.list .str),.ae false (.list .str),Sz],[],false,[(8,Su)],[],fun q=>F.eA fu q.1 q.2.1 q.2.2.1 q.2.2.2⟩
theorem oU:∀fu:Nat,bf Tryd.prog (nn fu)
 | 0=>⟨Tryd.call11,fun q r h=>nomatch (show(none:Option _)=some r from h)⟩
 | fu+1=>bf.of (N:=71) (fu:=fu+1)
   (H:=[(4,.ez [] ⟨[(23,Sv)],[]⟩),
    (13,.om ⟨[(8,Su)],[]⟩),
    (28,.fw ⟨[(8,Su),(37,Su)],[]⟩ 0 ⟨[],[]⟩),
    (43,.ez [] ⟨[(54,Sv)],[]⟩),
    (44,.join ⟨[(12,.ae false (.list .str))],[]⟩),
    (45,.ez [55] ⟨[(12,.own 55 .str)],[(55,.arr 9 true true .str)]⟩)])
   (tbl:=[my (fu+1),qJ (fu+1),nn fu])
   mixed (af.2 ⟨np (fu+1),af.2 ⟨ue (fu+1),af.2 ⟨oU fu,(by intro c h;cases h)⟩⟩⟩) Tryd.func11 Tryd.call11 rfl rfl (by kernel_rfl) (mvs:=[]) (ns:=[]) (fun q=>by kernel_rfl)
abbrev qS (fu:Nat):de S0:=⟨5,[Sz],[],false,[(2,Su)],[],fun q=>F.lP fu q⟩
theorem u4 (fu:Nat):bf Tryd.prog (qS fu):=bf.of (N:=88) (fu:=fu)
 (H:=[(16,.fw ⟨[(2,Su),(24,Su)],[]⟩ 0 ⟨[],[]⟩),
  (29,.ez [] ⟨[(42,Sv)],[]⟩),
  (41,.fw ⟨[(2,Su),(7,.own 7 .str),(8,.own 8 .str),(46,Su)],[(8,.arr 9 true true .str),(7,.arr 9 true true .str)]⟩ 2 ⟨[(2,Su),(7,.own 7 .str),(8,.own 8 .str)],[(8,.arr 9 true true .str),(7,.arr 9 true true .str)]⟩),
  (65,.loop ⟨[(8,.own 8 .str),(62,Su)],[(8,.arr 9 true true .str)]⟩ 4 ⟨[(8,.own 8 .str)],[(8,.arr 9 true true .str)]⟩),
  (78,.join ⟨[(8,.own 8 .str)],[(8,.arr 9 true true .str)]⟩),
  (84,.uo [])])
 (tbl:=[qT fu,mz fu,nY fu,my fu,nn fu])
 mixed (af.2 ⟨u5 fu,af.2 ⟨oz fu,af.2 ⟨pU fu,af.2 ⟨np fu,af.2 ⟨oU fu,(by intro c h;cases h)⟩⟩⟩⟩⟩) Tryd.func5 Tryd.call5 rfl rfl (by kernel_rfl) (mvs:=[]) (ns:=[]) (fun q=>by kernel_rfl)
abbrev tW (fu:Nat):de S0:=⟨3,[Sz],[],false,[(2,Sv)],[],fun q=>F.jI fu q⟩
theorem sc (fu:Nat):bf Tryd.prog (tW fu):=bf.of (N:=8) (fu:=fu)
 (H:=[])
 (tbl:=[xd fu,qS fu])
 mixed (af.2 ⟨Ab fu,af.2 ⟨u4 fu,(by intro c h;cases h)⟩⟩) Tryd.func3 Tryd.call3 rfl rfl (by kernel_rfl) (mvs:=[]) (ns:=[]) (fun q=>by kernel_rfl)
end
end Go.DN
