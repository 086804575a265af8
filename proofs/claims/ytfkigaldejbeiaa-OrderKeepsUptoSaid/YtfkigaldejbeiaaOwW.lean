/-
  Each function does what its Lean function says.
-/
import Derived.Test.YtfkigaldejbeiaaOwF
import Derived.Test.YtfkigaldejbeiaaProg
import Derived.KernelRfl
set_option maxRecDepth 20000
set_option linter.unusedVariables false
set_option linter.unusedSectionVars false
set_option linter.unusedSimpArgs false
namespace Go.DN
open Go.AM
open Go.Proofs
noncomputable section
abbrev SA:Sh:=.af true (.int .i64)
abbrev SC:Sh:=.af false (.list (.int .i64))
abbrev SD:Sh:=.af false (.int .i64)
abbrev SE:Sh:=.af false (.list (.st 6))
abbrev SF:Sh:=.af true .bool
abbrev SG:Sh:=.af false (.list (.list (.st 0)))
abbrev SH:Sh:=.af false (.list (.st 0))
abbrev SI:Sh:=.af false (.list (.list (.int .i64)))
abbrev SJ:Sh:=.af false (.list (.st 2))
abbrev SK:Sh:=.af false (.st 4)
theorem mixed:Try.prog.follows .mixedOrders=true:=by kernel_rfl
abbrev vO (fu:Nat):cE S0:=⟨67,[SD],[],false,[(2,SF)],[],fun q=>F.mR fu q⟩
theorem zR (fu:Nat):aV Try.prog (vO fu):=aV.of (N:=9) (fu:=fu)
 (H:=[(3,.iJ [] ⟨[(2,SF)],[]⟩)])
 (tbl:=[])
 mixed (by intro c h;cases h) Try.func67 Try.call67 rfl rfl (by kernel_rfl) (mvs:=[]) (ns:=[]) (fun q=>by kernel_rfl)
abbrev rJ (fu:Nat):cE S0:=⟨89,[SC,.aM 67 []],[],false,[(4,SA)],[],fun q=>F.lB fu q⟩
theorem vI (fu:Nat):aV Try.prog (rJ fu):=aV.of (N:=19) (fu:=fu)
 (H:=[(6,.ie ⟨[(8,SA)],[]⟩ 0 ⟨[],[]⟩)])
 (tbl:=[vO fu])
 mixed (ak.2 ⟨zR fu,(by intro c h;cases h)⟩) Try.func89 Try.call89 rfl rfl (by kernel_rfl) (mvs:=[]) (ns:=[]) (fun q=>by kernel_rfl)
abbrev o9 (fu:Nat):cE S0:=⟨66,[SC,.aM 67 []],[],false,[(4,SF)],[],fun q=>F.iQ fu q⟩
theorem tH (fu:Nat):aV Try.prog (o9 fu):=aV.of (N:=9) (fu:=fu)
 (H:=[])
 (tbl:=[rJ fu])
 mixed (ak.2 ⟨vI fu,(by intro c h;cases h)⟩) Try.func66 Try.call66 rfl rfl (by kernel_rfl) (mvs:=[]) (ns:=[]) (fun q=>by kernel_rfl)
abbrev qM (fu:Nat):cE S0:=⟨76,[SD],[],false,[(2,SF)],[],fun q=>F.k7 fu q⟩
theorem sj (fu:Nat):aV Try.prog (qM fu):=aV.of (N:=9) (fu:=fu)
 (H:=[(3,.iJ [] ⟨[(2,SF)],[]⟩)])
 (tbl:=[])
 mixed (by intro c h;cases h) Try.func76 Try.call76 rfl rfl (by kernel_rfl) (mvs:=[]) (ns:=[]) (fun q=>by kernel_rfl)
abbrev pX (fu:Nat):cE S0:=⟨89,[SC,.aM 76 []],[],false,[(4,SA)],[],fun q=>F.kC fu q⟩
theorem ub (fu:Nat):aV Try.prog (pX fu):=aV.of (N:=19) (fu:=fu)
 (H:=[(6,.ie ⟨[(8,SA)],[]⟩ 0 ⟨[],[]⟩)])
 (tbl:=[qM fu])
 mixed (ak.2 ⟨sj fu,(by intro c h;cases h)⟩) Try.func89 Try.call89 rfl rfl (by kernel_rfl) (mvs:=[]) (ns:=[]) (fun q=>by kernel_rfl)
abbrev nQ (fu:Nat):cE S0:=⟨66,[SC,.aM 76 []],[],false,[(4,SF)],[],fun q=>F.g9 fu q⟩
theorem rX (fu:Nat):aV Try.prog (nQ fu):=aV.of (N:=9) (fu:=fu)
 (H:=[])
 (tbl:=[pX fu])
 mixed (ak.2 ⟨ub fu,(by intro c h;cases h)⟩) Try.func66 Try.call66 rfl rfl (by kernel_rfl) (mvs:=[]) (ns:=[]) (fun q=>by kernel_rfl)
abbrev p7 (fu:Nat):cE S0:=⟨45,[.af false (.st 0),SD],[],false,[(4,SA)],[],fun q=>F.nu fu q.1 q.2⟩
theorem p6 (fu:Nat):aV Try.prog (p7 fu):=aV.of (N:=21) (fu:=fu)
 (H:=[(14,.iJ [] ⟨[(20,SF)],[]⟩)])
 (tbl:=[qM fu,nQ fu])
 mixed (ak.2 ⟨sj fu,ak.2 ⟨rX fu,(by intro c h;cases h)⟩⟩) Try.func45 Try.call45 rfl rfl (by kernel_rfl) (mvs:=[]) (ns:=[]) (fun q=>by kernel_rfl)
abbrev nL (fu:Nat):cE S0:=⟨87,[.af false (.st 1)],[],false,[(2,SA)],[],fun q=>F.jb fu q⟩
theorem nX (fu:Nat):aV Try.prog (nL fu):=aV.of (N:=62) (fu:=fu)
 (H:=[(16,.ie ⟨[(18,SA)],[]⟩ 0 ⟨[],[]⟩),
  (28,.iJ [] ⟨[(27,SF)],[]⟩),
  (39,.loop ⟨[(3,SA),(32,SA)],[]⟩ 2 ⟨[(3,SA)],[]⟩),
  (72,.ie ⟨[(49,SA)],[]⟩ 4 ⟨[],[]⟩)])
 (tbl:=[p7 fu])
 mixed (ak.2 ⟨p6 fu,(by intro c h;cases h)⟩) Try.func87 Try.call87 rfl rfl (by kernel_rfl) (mvs:=[]) (ns:=[]) (fun q=>by kernel_rfl)
abbrev Ao (fu:Nat):cE S0:=⟨90,[SD],[],false,[(2,SA)],[],fun q=>F.um fu q⟩
theorem DI (fu:Nat):aV Try.prog (Ao fu):=aV.of (N:=18) (fu:=fu)
 (H:=[(15,.join ⟨[(6,SF)],[]⟩),
  (25,.join ⟨[(9,SF)],[]⟩),
  (29,.join ⟨[(9,SF)],[]⟩),
  (33,.join ⟨[(9,SF)],[]⟩),
  (37,.join ⟨[(9,SF)],[]⟩),
  (41,.join ⟨[(9,SF)],[]⟩)])
 (tbl:=[])
 mixed (by intro c h;cases h) Try.func90 Try.call90 rfl rfl (by kernel_rfl) (mvs:=[]) (ns:=[]) (fun q=>by kernel_rfl)
abbrev tO (fu:Nat):cE S0:=⟨68,[SK,.af false (.st 3)],[],false,[(4,SA)],[],fun q=>F.nz fu q.1 q.2⟩
theorem xO (fu:Nat):aV Try.prog (tO fu):=aV.of (N:=59) (fu:=fu)
 (H:=[(34,.ie ⟨[(33,SA)],[]⟩ 0 ⟨[],[]⟩),
  (47,.iJ [] ⟨[(47,SF)],[]⟩)])
 (tbl:=[nL fu,Ao fu,p7 fu])
 mixed (ak.2 ⟨nX fu,ak.2 ⟨DI fu,ak.2 ⟨p6 fu,(by intro c h;cases h)⟩⟩⟩) Try.func68 Try.call68 rfl rfl (by kernel_rfl) (mvs:=[]) (ns:=[]) (fun q=>by kernel_rfl)
abbrev tP (fu:Nat):cE S0:=⟨29,[SK],[],false,[(2,SA)],[],fun q=>F.pD fu q⟩
theorem uX (fu:Nat):aV Try.prog (tP fu):=aV.of (N:=27) (fu:=fu)
 (H:=[(22,.ie ⟨[(16,SA)],[]⟩ 0 ⟨[],[]⟩)])
 (tbl:=[o9 fu,tO fu])
 mixed (ak.2 ⟨tH fu,ak.2 ⟨xO fu,(by intro c h;cases h)⟩⟩) Try.func29 Try.call29 rfl rfl (by kernel_rfl) (mvs:=[]) (ns:=[]) (fun q=>by kernel_rfl)
abbrev xI (fu:Nat):cE S0:=⟨20,[SK,SG],[],false,[(4,SA)],[],fun q=>F.od fu q.1 q.2⟩
theorem Bf (fu:Nat):aV Try.prog (xI fu):=aV.of (N:=53) (fu:=fu)
 (H:=[(24,.ie ⟨[(24,SA)],[]⟩ 0 ⟨[],[]⟩),
  (46,.ie ⟨[(34,SA)],[]⟩ 2 ⟨[],[]⟩),
  (58,.mN [])])
 (tbl:=[tP fu,p7 fu])
 mixed (ak.2 ⟨uX fu,ak.2 ⟨p6 fu,(by intro c h;cases h)⟩⟩) Try.func20 Try.call20 rfl rfl (by kernel_rfl) (mvs:=[]) (ns:=[]) (fun q=>by kernel_rfl)
abbrev tL (fu:Nat):cE S0:=⟨65,[.af false (.st 1)],[],false,[(2,.aM 86 [.loc 1 0])],[(1,.box 59 true [SC,SH])],fun q=>F.pw fu q⟩
theorem uS (fu:Nat):aV Try.prog (tL fu):=aV.of (N:=4) (fu:=fu)
 (H:=[])
 (tbl:=[])
 mixed (by intro c h;cases h) Try.func65 Try.call65 rfl rfl (by kernel_rfl) (mvs:=[]) (ns:=[]) (fun q=>by kernel_rfl)
abbrev nW (fu:Nat):cE S0:=⟨98,[.af false (.st 1),SC,SD],[],false,[(6,SF)],[],fun q=>F.kG fu q.1 q.2.1 q.2.2⟩
theorem p5 (fu:Nat):aV Try.prog (nW fu):=aV.of (N:=58) (fu:=fu)
 (H:=[(6,.ie ⟨[(15,SA)],[]⟩ 0 ⟨[],[]⟩),
  (23,.loop ⟨[(9,SA),(24,SA)],[]⟩ 2 ⟨[(9,SA)],[]⟩),
  (37,.join ⟨[(9,SA)],[]⟩),
  (41,.join ⟨[(9,SA)],[]⟩)])
 (tbl:=[])
 mixed (by intro c h;cases h) Try.func98 Try.call98 rfl rfl (by kernel_rfl) (mvs:=[]) (ns:=[]) (fun q=>by kernel_rfl)
abbrev qL (fu:Nat):cE S0:=⟨32,[SC],[],false,[(2,.af true (.list (.int .i64)))],[],fun q=>F.kX fu q⟩
theorem si (fu:Nat):aV Try.prog (qL fu):=aV.of (N:=8) (fu:=fu)
 (H:=[])
 (tbl:=[])
 mixed (by intro c h;cases h) Try.func32 Try.call32 rfl rfl (by kernel_rfl) (mvs:=[]) (ns:=[]) (fun q=>by kernel_rfl)
abbrev rj (fu:Nat):cE S0:=⟨77,[.af false (.st 0),SC],[],false,[(4,SA)],[],fun q=>F.oX fu q.1 q.2⟩
theorem qN (fu:Nat):aV Try.prog (rj fu):=aV.of (N:=28) (fu:=fu)
 (H:=[(8,.loop ⟨[(5,SA),(13,SA)],[]⟩ 0 ⟨[(5,SA)],[]⟩)])
 (tbl:=[])
 mixed (by intro c h;cases h) Try.func77 Try.call77 rfl rfl (by kernel_rfl) (mvs:=[]) (ns:=[]) (fun q=>by kernel_rfl)
abbrev sd (fu:Nat):oQ S0:=⟨0,[SC],[.loc 1000 0,.loc 1001 0,.loc 1002 0,.loc 1003 0,.loc 1004 0,.loc 1005 0],[.box 31 false [SG],.box 83 false [.own 1006 (.st 6)],.box 26 false [SD],.box 3 false [SD],.box 83 false [.own 1007 (.st 6)],.box 3 false [SD],.aT 77 false false (.st 6),.aT 77 false false (.st 6)],[(1000,.box 31 false [SG]),(1001,.box 83 false [.own 486 (.st 6)]),(1002,.box 26 false [SA]),(1003,.box 3 false [SA]),(1004,.box 83 false [.own 487 (.st 6)]),(1005,.box 3 false [SA]),(486,.aT 77 false false (.st 6)),(487,.aT 77 false false (.st 6))],true,fun q=>F.mz fu q.1 q.2.1 q.2.2.1 q.2.2.2.1 q.2.2.2.2.1 q.2.2.2.2.2.1 q.2.2.2.2.2.2⟩
theorem vY (fu:Nat):CL Try.prog (sd fu):=CL.of (fu:=fu)
 (H:=[(16,.loop ⟨[(56,SA),(14,.own 50 (.int .i64))],[(50,.aT 3 true true (.int .i64))]⟩ 6 ⟨[(14,.own 50 (.int .i64))],[(50,.aT 3 true true (.int .i64))]⟩)])
 (tbl:=[rj fu])
 mixed (ak.2 ⟨qN fu,(by intro c h;cases h)⟩) (by kernel_rfl) (by kernel_rfl) (by kernel_rfl) (mvs:=[1006,1007]) (ns:=[]) (fun q=>by kernel_rfl)
abbrev pZ (fu:Nat):cE S0:=⟨88,[.af false (.st 1),.own 1000 (.int .i64),SD,.cq 1001],[.aT 3 false false (.int .i64),.lp 0 true [.loc 1002 0,.loc 1003 0,.loc 1004 0,.loc 1005 0,.loc 1006 0,.loc 1007 0],.box 31 false [SG],.box 83 false [.own 1008 (.st 6)],.box 26 false [SD],.box 3 false [SD],.box 83 false [.own 1009 (.st 6)],.box 3 false [SD],.aT 77 false false (.st 6),.aT 77 false false (.st 6)],false,[(8,SF)],[(1000,.aT 3 false true (.int .i64)),(1001,.lp 0 true [.loc 1002 0,.loc 1003 0,.loc 1004 0,.loc 1005 0,.loc 1006 0,.loc 1007 0]),(1002,.box 31 false [SG]),(1003,.box 83 false [.own 488 (.st 6)]),(1004,.box 26 false [SA]),(1005,.box 3 false [SA]),(1006,.box 83 false [.own 489 (.st 6)]),(1007,.box 3 false [SA]),(488,.aT 77 false false (.st 6)),(489,.aT 77 false false (.st 6))],fun q=>F.gQ fu q.1 q.2.1 q.2.2.1 q.2.2.2.1 q.2.2.2.2.1 q.2.2.2.2.2.1 q.2.2.2.2.2.2.1 q.2.2.2.2.2.2.2.1 q.2.2.2.2.2.2.2.2.1 q.2.2.2.2.2.2.2.2.2⟩
theorem rL:∀fu:Nat,aV Try.prog (pZ fu)
 | 0=>⟨Try.call88,fun q r h=>nomatch (show(none:Option _)=some r from h)⟩
 | fu+1=>aV.OK (N:=48) (fu:=fu+1)
   (H:=[(22,.ie ⟨[(1,.own 1000 (.int .i64))],[(1000,.aT 3 false true (.int .i64)),(1001,.lp 0 true [.loc 1002 0,.loc 1003 0,.loc 1004 0,.loc 1005 0,.loc 1006 0,.loc 1007 0]),(1002,.box 31 false [SG]),(1003,.box 83 false [.own 488 (.st 6)]),(1004,.box 26 false [SA]),(1005,.box 3 false [SA]),(1006,.box 83 false [.own 489 (.st 6)]),(1007,.box 3 false [SA]),(488,.aT 77 false false (.st 6)),(489,.aT 77 false false (.st 6))]⟩ 0 ⟨[],[(1000,.aT 3 false true (.int .i64)),(1001,.lp 0 true [.loc 1002 0,.loc 1003 0,.loc 1004 0,.loc 1005 0,.loc 1006 0,.loc 1007 0]),(1002,.box 31 false [SG]),(1003,.box 83 false [.own 488 (.st 6)]),(1004,.box 26 false [SA]),(1005,.box 3 false [SA]),(1006,.box 83 false [.own 489 (.st 6)]),(1007,.box 3 false [SA]),(488,.aT 77 false false (.st 6)),(489,.aT 77 false false (.st 6))]⟩),
    (25,.mN [])])
   (tbl:=[pZ fu,nW (fu+1),qL (fu+1)]) (tbr:=[]) (ys:=[sd (fu+1)])
   [] mixed (ak.2 ⟨rL fu,ak.2 ⟨p5 (fu+1),ak.2 ⟨si (fu+1),(by intro c h;cases h)⟩⟩⟩) (by intro c h;cases h) (ak.2 ⟨vY (fu+1),(by intro c h;cases h)⟩) Try.func88 Try.call88 rfl rfl (by kernel_rfl) rfl (by kernel_rfl) (mvs:=[1008,1009]) (ns:=[]) (fun q=>by kernel_rfl)
abbrev vK (fu:Nat):cE S0:=⟨86,[.cq 1000,.loc 1001 0],[.lp 0 true [.loc 1002 0,.loc 1003 0,.loc 1004 0,.loc 1005 0,.loc 1006 0,.loc 1007 0],.box 59 false [SC,SH],.box 31 false [SG],.box 83 false [.own 1008 (.st 6)],.box 26 false [SD],.box 3 false [SD],.box 83 false [.own 1009 (.st 6)],.box 3 false [SD],.aT 77 false false (.st 6),.aT 77 false false (.st 6)],false,[],[(1000,.lp 0 true [.loc 1002 0,.loc 1003 0,.loc 1004 0,.loc 1005 0,.loc 1006 0,.loc 1007 0]),(1001,.box 59 false [SC,SH]),(1002,.box 31 false [SG]),(1003,.box 83 false [.own 488 (.st 6)]),(1004,.box 26 false [SA]),(1005,.box 3 false [SA]),(1006,.box 83 false [.own 489 (.st 6)]),(1007,.box 3 false [SA]),(488,.aT 77 false false (.st 6)),(489,.aT 77 false false (.st 6))],fun q=>F.jW fu q.1 q.2.1 q.2.2.1 q.2.2.2.1 q.2.2.2.2.1 q.2.2.2.2.2.1 q.2.2.2.2.2.2.1 q.2.2.2.2.2.2.2.1 q.2.2.2.2.2.2.2.2⟩
theorem zO (fu:Nat):aV Try.prog (vK fu):=aV.of (N:=13) (fu:=fu)
 (H:=[(2,.join ⟨[],[(1000,.lp 0 true [.loc 1002 0,.loc 1003 0,.loc 1004 0,.loc 1005 0,.loc 1006 0,.loc 1007 0]),(1002,.box 31 false [SG]),(1004,.box 26 false [SA]),(1005,.box 3 false [SA]),(1007,.box 3 false [SA]),(488,.aT 77 false false (.st 6)),(489,.aT 77 false false (.st 6)),(1003,.box 83 false [.own 488 (.st 6)]),(1006,.box 83 false [.own 489 (.st 6)])]⟩),
  (3,.mN [10,1000,1002,1003,1004,1005,1006,1007,1008,1009,488,489])])
 (tbl:=[pZ fu,nL fu])
 mixed (ak.2 ⟨rL fu,ak.2 ⟨nX fu,(by intro c h;cases h)⟩⟩) Try.func86 Try.call86 rfl rfl (by kernel_rfl) (mvs:=[1008,1009]) (ns:=[]) (fun q=>by kernel_rfl)
abbrev rY (fu:Nat):cE S0:=⟨49,[SK,SG],[],false,[(4,.own 420 (.st 6)),(5,SA)],[(420,.aT 77 true false (.st 6))],fun q=>F.im fu q.1 q.2⟩
theorem tM (fu:Nat):aV Try.prog (rY fu):=aV.OK (N:=80) (fu:=fu)
 (H:=[(18,.loop ⟨[(25,SA)],[(7,.box 3 true [SA])]⟩ 0 ⟨[],[(7,.box 3 true [SA])]⟩),
  (37,.ie ⟨[(37,SA)],[(4,.box 83 true [.own 420 (.st 6)]),(10,.box 83 true [.own 421 (.st 6)]),(3,.box 31 true [SG]),(5,.box 26 true [SA]),(7,.box 3 true [SA]),(420,.aT 77 true false (.st 6)),(421,.aT 77 true false (.st 6))]⟩ 2 ⟨[],[(4,.box 83 true [.own 420 (.st 6)]),(10,.box 83 true [.own 421 (.st 6)]),(3,.box 31 true [SG]),(5,.box 26 true [SA]),(7,.box 3 true [SA]),(420,.aT 77 true false (.st 6)),(421,.aT 77 true false (.st 6))]⟩),
  (51,.LD 0 350)])
 (tbl:=[tL fu,xI fu]) (tbr:=[vK fu]) (ys:=[])
 [(51,0)] mixed (ak.2 ⟨uS fu,ak.2 ⟨Bf fu,(by intro c h;cases h)⟩⟩) (ak.2 ⟨zO fu,(by intro c h;cases h)⟩) (by intro c h;cases h) Try.func49 Try.call49 rfl rfl (by kernel_rfl) rfl (by kernel_rfl) (mvs:=[]) (ns:=[]) (fun q=>by kernel_rfl)
abbrev tJ (fu:Nat):cE S0:=⟨78,[SC],[],false,[(2,.own 5 (.int .i64))],[(5,.aT 2 true true (.int .i64))],fun q=>F.nr fu q⟩
theorem xM (fu:Nat):aV Try.prog (tJ fu):=aV.of (N:=8) (fu:=fu)
 (H:=[])
 (tbl:=[])
 mixed (by intro c h;cases h) Try.func78 Try.call78 rfl rfl (by kernel_rfl) (mvs:=[]) (ns:=[]) (fun q=>by kernel_rfl)
abbrev sa (fu:Nat):cE S0:=⟨50,[SK,SI],[],false,[(4,.own 17 (.list (.int .i64))),(5,SA)],[(17,.deep 104 true true (.dG 2) (.list (.list (.int .i64))))],fun q=>F.gL fu q.1 q.2⟩
theorem tQ (fu:Nat):aV Try.prog (sa fu):=aV.of (N:=40) (fu:=fu)
 (H:=[(12,.th 17 2),
  (16,.ie ⟨[(20,SA),(6,.own 17 (.list (.int .i64)))],[(17,.deep 104 true true (.dG 2) (.list (.list (.int .i64))))]⟩ 0 ⟨[(6,.own 17 (.list (.int .i64)))],[(17,.deep 104 true true (.dG 2) (.list (.list (.int .i64))))]⟩)])
 (tbl:=[tJ fu])
 mixed (ak.2 ⟨xM fu,(by intro c h;cases h)⟩) Try.func50 Try.call50 rfl rfl (by kernel_rfl) (mvs:=[]) (ns:=[]) (fun q=>by kernel_rfl)
abbrev Ap (fu:Nat):cE S0:=⟨94,[SD],[],false,[(2,SF)],[],fun q=>F.uP fu q⟩
theorem DJ (fu:Nat):aV Try.prog (Ap fu):=aV.of (N:=6) (fu:=fu)
 (H:=[])
 (tbl:=[])
 mixed (by intro c h;cases h) Try.func94 Try.call94 rfl rfl (by kernel_rfl) (mvs:=[]) (ns:=[]) (fun q=>by kernel_rfl)
abbrev xK (fu:Nat):cE S0:=⟨74,[SD,SD],[],false,[(4,SA)],[],fun q=>F.ri fu q.1 q.2⟩
theorem Bh (fu:Nat):aV Try.prog (xK fu):=aV.of (N:=20) (fu:=fu)
 (H:=[])
 (tbl:=[Ap fu])
 mixed (ak.2 ⟨DJ fu,(by intro c h;cases h)⟩) Try.func74 Try.call74 rfl rfl (by kernel_rfl) (mvs:=[]) (ns:=[]) (fun q=>by kernel_rfl)
abbrev oM (fu:Nat):cE S0:=⟨42,[SC,SC],[],false,[(4,SA)],[],fun q=>F.kW fu q.1 q.2⟩
theorem qi (fu:Nat):aV Try.prog (oM fu):=aV.of (N:=36) (fu:=fu)
 (H:=[(6,.ie ⟨[(11,SA)],[]⟩ 0 ⟨[],[]⟩)])
 (tbl:=[xK fu])
 mixed (ak.2 ⟨Bh fu,(by intro c h;cases h)⟩) Try.func42 Try.call42 rfl rfl (by kernel_rfl) (mvs:=[]) (ns:=[]) (fun q=>by kernel_rfl)
abbrev rZ (fu:Nat):cE S0:=⟨52,[.af false (.st 6),.af false (.st 6)],[],false,[(4,SA)],[],fun q=>F.jM fu q.1 q.2⟩
theorem tN (fu:Nat):aV Try.prog (rZ fu):=aV.of (N:=10) (fu:=fu)
 (H:=[])
 (tbl:=[oM fu])
 mixed (ak.2 ⟨qi fu,(by intro c h;cases h)⟩) Try.func52 Try.call52 rfl rfl (by kernel_rfl) (mvs:=[]) (ns:=[]) (fun q=>by kernel_rfl)
abbrev kN (fu:Nat):cE S0:=⟨95,[.own 1000 (.st 6),SD,SD,.aM 52 []],[.aT 77 false false (.st 6)],false,[],[(1000,.aT 77 false false (.st 6))],fun q=>F.fh fu q.1 q.2.1 q.2.2⟩
theorem oL (fu:Nat):aV Try.prog (kN fu):=aV.of (N:=53) (fu:=fu)
 (H:=[(3,.loop ⟨[(8,SA),(0,.own 1000 (.st 6))],[(1000,.aT 77 false false (.st 6))]⟩ 0 ⟨[],[(1000,.aT 77 false false (.st 6))]⟩),
  (15,.loop ⟨[(9,SA),(0,.own 1000 (.st 6))],[(1000,.aT 77 false false (.st 6))]⟩ 2 ⟨[(0,.own 1000 (.st 6))],[(1000,.aT 77 false false (.st 6))]⟩),
  (18,.iJ [] ⟨[(34,SF)],[]⟩),
  (24,.iJ [1000] ⟨[(0,.own 1000 (.st 6))],[(1000,.aT 77 false false (.st 6))]⟩)])
 (tbl:=[rZ fu])
 mixed (ak.2 ⟨tN fu,(by intro c h;cases h)⟩) Try.func95 Try.call95 rfl rfl (by kernel_rfl) (mvs:=[]) (ns:=[]) (fun q=>by kernel_rfl)
abbrev mC (fu:Nat):cE S0:=⟨100,[.own 1000 (.st 6),SD,SD,SD,.aM 52 []],[.aT 77 false false (.st 6)],false,[],[(1000,.aT 77 false false (.st 6))],fun q=>F.fo fu q.1 q.2.1 q.2.2.1 q.2.2.2⟩
theorem qK (fu:Nat):aV Try.prog (mC fu):=aV.of (N:=38) (fu:=fu)
 (H:=[(3,.loop ⟨[(10,SA),(0,.own 1000 (.st 6))],[(1000,.aT 77 false false (.st 6))]⟩ 0 ⟨[],[(1000,.aT 77 false false (.st 6))]⟩),
  (12,.iJ [1000] ⟨[(0,.own 1000 (.st 6))],[(1000,.aT 77 false false (.st 6))]⟩)])
 (tbl:=[])
 mixed (by intro c h;cases h) Try.func100 Try.call100 rfl rfl (by kernel_rfl) (mvs:=[]) (ns:=[]) (fun q=>by kernel_rfl)
abbrev ol (fu:Nat):cE S0:=⟨99,[.own 1000 (.st 6),SD,SD,SD,.aM 52 []],[.aT 77 false false (.st 6)],false,[],[(1000,.aT 77 false false (.st 6))],fun q=>F.gf fu q.1 q.2.1 q.2.2.1 q.2.2.2⟩
theorem sH (fu:Nat):aV Try.prog (ol fu):=aV.of (N:=58) (fu:=fu)
 (H:=[(6,.loop ⟨[(10,SA),(11,SA),(0,.own 1000 (.st 6))],[(1000,.aT 77 false false (.st 6))]⟩ 0 ⟨[(10,SA),(0,.own 1000 (.st 6))],[(1000,.aT 77 false false (.st 6))]⟩),
  (16,.join ⟨[(10,SA),(11,SA),(0,.own 1000 (.st 6))],[(1000,.aT 77 false false (.st 6))]⟩)])
 (tbl:=[mC fu])
 mixed (ak.2 ⟨qK fu,(by intro c h;cases h)⟩) Try.func99 Try.call99 rfl rfl (by kernel_rfl) (mvs:=[]) (ns:=[]) (fun q=>by kernel_rfl)
abbrev j5 (fu:Nat):cE S0:=⟨96,[.own 1000 (.st 6),SD,SD,SD,.aM 52 []],[.aT 77 false false (.st 6)],false,[],[(1000,.aT 77 false false (.st 6))],fun q=>F.cy fu q.1 q.2.1 q.2.2.1 q.2.2.2⟩
theorem lr:∀fu:Nat,aV Try.prog (j5 fu)
 | 0=>⟨Try.call96,fun q r h=>nomatch (show(none:Option _)=some r from h)⟩
 | fu+1=>aV.of (N:=220) (fu:=fu+1)
   (H:=[(10,.loop ⟨[(10,SA),(11,SA)],[]⟩ 0 ⟨[(10,SA)],[]⟩),
    (21,.mN []),
    (22,.join ⟨[(10,SA),(11,SA)],[]⟩),
    (29,.loop ⟨[(13,SA),(0,.own 1000 (.st 6))],[(1000,.aT 77 false false (.st 6))]⟩ 2 ⟨[],[(1000,.aT 77 false false (.st 6))]⟩),
    (38,.iJ [1000] ⟨[(0,.own 1000 (.st 6))],[(1000,.aT 77 false false (.st 6))]⟩),
    (52,.loop ⟨[(14,SA),(15,SA)],[]⟩ 4 ⟨[(14,SA)],[]⟩),
    (63,.mN []),
    (64,.join ⟨[(14,SA),(15,SA)],[]⟩),
    (71,.loop ⟨[(17,SA),(0,.own 1000 (.st 6))],[(1000,.aT 77 false false (.st 6))]⟩ 6 ⟨[],[(1000,.aT 77 false false (.st 6))]⟩),
    (80,.iJ [1000] ⟨[(0,.own 1000 (.st 6))],[(1000,.aT 77 false false (.st 6))]⟩),
    (93,.join ⟨[(20,SA),(21,SA)],[]⟩),
    (104,.loop ⟨[(20,SA),(21,SA)],[]⟩ 8 ⟨[(20,SA)],[]⟩),
    (115,.mN []),
    (116,.join ⟨[(20,SA),(21,SA)],[]⟩),
    (123,.iJ [] ⟨[(185,SF)],[]⟩),
    (124,.join ⟨[(0,.own 1000 (.st 6))],[(1000,.aT 77 false false (.st 6))]⟩),
    (129,.iJ [] ⟨[(199,SF)],[]⟩),
    (130,.join ⟨[(0,.own 1000 (.st 6))],[(1000,.aT 77 false false (.st 6))]⟩),
    (134,.iJ [] ⟨[(213,SF)],[]⟩),
    (135,.join ⟨[],[(1000,.aT 77 false false (.st 6))]⟩)])
   (tbl:=[ol (fu+1),j5 fu,rZ (fu+1)])
   mixed (ak.2 ⟨sH (fu+1),ak.2 ⟨lr fu,ak.2 ⟨tN (fu+1),(by intro c h;cases h)⟩⟩⟩) Try.func96 Try.call96 rfl rfl (by kernel_rfl) (mvs:=[]) (ns:=[]) (fun q=>by kernel_rfl)
abbrev oi (fu:Nat):cE S0:=⟨79,[.own 1000 (.st 6),SD,.aM 52 []],[.aT 77 false false (.st 6)],false,[],[(1000,.aT 77 false false (.st 6))],fun q=>F.lA fu q.1 q.2⟩
theorem sG (fu:Nat):aV Try.prog (oi fu):=aV.of (N:=63) (fu:=fu)
 (H:=[(6,.loop ⟨[(7,SA),(8,SA),(0,.own 1000 (.st 6))],[(1000,.aT 77 false false (.st 6))]⟩ 0 ⟨[(7,SA),(0,.own 1000 (.st 6))],[(1000,.aT 77 false false (.st 6))]⟩),
  (22,.loop ⟨[(6,SA),(0,.own 1000 (.st 6))],[(1000,.aT 77 false false (.st 6))]⟩ 2 ⟨[],[(1000,.aT 77 false false (.st 6))]⟩),
  (34,.loop ⟨[(7,SA),(8,SA),(0,.own 1000 (.st 6))],[(1000,.aT 77 false false (.st 6))]⟩ 4 ⟨[(7,SA),(0,.own 1000 (.st 6))],[(1000,.aT 77 false false (.st 6))]⟩),
  (52,.join ⟨[(0,.own 1000 (.st 6))],[(1000,.aT 77 false false (.st 6))]⟩)])
 (tbl:=[kN fu,j5 fu])
 mixed (ak.2 ⟨oL fu,ak.2 ⟨lr fu,(by intro c h;cases h)⟩⟩) Try.func79 Try.call79 rfl rfl (by kernel_rfl) (mvs:=[]) (ns:=[]) (fun q=>by kernel_rfl)
abbrev nP (fu:Nat):cE S0:=⟨51,[.own 1000 (.st 6),.aM 52 []],[.aT 77 false false (.st 6)],false,[],[(1000,.aT 77 false false (.st 6))],fun q=>F.jk fu q⟩
theorem rV (fu:Nat):aV Try.prog (nP fu):=aV.of (N:=9) (fu:=fu)
 (H:=[])
 (tbl:=[oi fu])
 mixed (ak.2 ⟨sG fu,(by intro c h;cases h)⟩) Try.func51 Try.call51 rfl rfl (by kernel_rfl) (mvs:=[]) (ns:=[]) (fun q=>by kernel_rfl)
abbrev vJ (fu:Nat):cE S0:=⟨48,[SC,SC],[],false,[(4,SF)],[],fun q=>F.pj fu q.1 q.2⟩
theorem zN (fu:Nat):aV Try.prog (vJ fu):=aV.of (N:=26) (fu:=fu)
 (H:=[(14,.ie ⟨[(13,SA)],[]⟩ 0 ⟨[],[]⟩),
  (26,.mN [])])
 (tbl:=[])
 mixed (by intro c h;cases h) Try.func48 Try.call48 rfl rfl (by kernel_rfl) (mvs:=[]) (ns:=[]) (fun q=>by kernel_rfl)
abbrev tI (fu:Nat):cE S0:=⟨55,[.sub 1000 (.st 6)],[.aT 77 false false (.st 6)],false,[(2,.own 5 (.st 6))],[(1000,.aT 77 false false (.st 6)),(5,.aT 77 true false (.st 6))],fun q=>F.nq fu q.1 q.2.1 q.2.2⟩
theorem xL (fu:Nat):aV Try.prog (tI fu):=aV.of (N:=8) (fu:=fu)
 (H:=[])
 (tbl:=[])
 mixed (by intro c h;cases h) Try.func55 Try.call55 rfl rfl (by kernel_rfl) (mvs:=[]) (ns:=[]) (fun q=>by kernel_rfl)
abbrev mj (fu:Nat):cE S0:=⟨81,[.own 1000 (.list (.int .i64)),.af false (.st 2),SC],[.deep 104 false false (.dG 2) (.list (.list (.int .i64)))],false,[(6,.fA 1000 (.int .i64))],[(1000,.deep 104 false true (.dG 2) (.list (.list (.int .i64))))],fun q=>F.jE fu q.1 q.2.1 q.2.2⟩
theorem om (fu:Nat):aV Try.prog (mj fu):=aV.of (N:=31) (fu:=fu)
 (H:=[(6,.iJ [] ⟨[(23,SF)],[]⟩)])
 (tbl:=[rj fu])
 mixed (ak.2 ⟨qN fu,(by intro c h;cases h)⟩) Try.func81 Try.call81 rfl rfl (by kernel_rfl) (mvs:=[]) (ns:=[]) (fun q=>by kernel_rfl)
abbrev sn (fu:Nat):cE S0:=⟨80,[.own 1000 (.list (.int .i64)),.af false (.st 2),SC],[.deep 104 false false (.dG 2) (.list (.list (.int .i64)))],false,[(6,SA)],[(1000,.deep 104 false true (.dG 2) (.list (.list (.int .i64))))],fun q=>F.kI fu q.1 q.2.1 q.2.2⟩
theorem xn (fu:Nat):aV Try.prog (sn fu):=aV.of (N:=17) (fu:=fu)
 (H:=[])
 (tbl:=[mj fu])
 mixed (ak.2 ⟨om fu,(by intro c h;cases h)⟩) Try.func80 Try.call80 rfl rfl (by kernel_rfl) (mvs:=[]) (ns:=[]) (fun q=>by kernel_rfl)
abbrev oN (fu:Nat):cE S0:=⟨56,[.own 1000 (.list (.int .i64)),.af false (.st 3),SC],[.deep 104 false false (.dG 2) (.list (.list (.int .i64)))],false,[],[(1000,.deep 104 false true (.dG 2) (.list (.list (.int .i64))))],fun q=>F.lb fu q.1 q.2.1 q.2.2⟩
theorem qj (fu:Nat):aV Try.prog (oN fu):=aV.of (N:=144) (fu:=fu)
 (H:=[(8,.loop ⟨[(14,SA),(6,.own 10 (.int .i64)),(0,.own 1000 (.list (.int .i64)))],[(1000,.deep 104 false true (.dG 2) (.list (.list (.int .i64)))),(10,.aT 2 true true (.int .i64))]⟩ 0 ⟨[(6,.own 10 (.int .i64)),(0,.own 1000 (.list (.int .i64)))],[(1000,.deep 104 false true (.dG 2) (.list (.list (.int .i64)))),(10,.aT 2 true true (.int .i64))]⟩),
  (34,.join ⟨[],[(1000,.deep 104 false true (.dG 2) (.list (.list (.int .i64))))]⟩),
  (38,.join ⟨[],[(1000,.deep 104 false true (.dG 2) (.list (.list (.int .i64))))]⟩),
  (42,.join ⟨[],[(1000,.deep 104 false true (.dG 2) (.list (.list (.int .i64))))]⟩),
  (43,.mN [1000]),
  (46,.join ⟨[],[(1000,.deep 104 false true (.dG 2) (.list (.list (.int .i64))))]⟩),
  (47,.mN [1000]),
  (50,.join ⟨[],[(1000,.deep 104 false true (.dG 2) (.list (.list (.int .i64))))]⟩),
  (51,.mN [1000]),
  (54,.join ⟨[],[(1000,.deep 104 false true (.dG 2) (.list (.list (.int .i64))))]⟩),
  (55,.mN [1000]),
  (58,.join ⟨[],[(1000,.deep 104 false true (.dG 2) (.list (.list (.int .i64))))]⟩),
  (62,.mN []),
  (63,.join ⟨[],[(1000,.deep 104 false true (.dG 2) (.list (.list (.int .i64))))]⟩),
  (68,.join ⟨[],[(1000,.deep 104 false true (.dG 2) (.list (.list (.int .i64))))]⟩),
  (73,.join ⟨[],[(1000,.deep 104 false true (.dG 2) (.list (.list (.int .i64))))]⟩),
  (78,.join ⟨[],[(1000,.deep 104 false true (.dG 2) (.list (.list (.int .i64))))]⟩),
  (79,.mN [1000]),
  (80,.mN [1000])])
 (tbl:=[sn fu,mj fu])
 mixed (ak.2 ⟨xn fu,ak.2 ⟨om fu,(by intro c h;cases h)⟩⟩) Try.func56 Try.call56 rfl rfl (by kernel_rfl) (mvs:=[]) (ns:=[]) (fun q=>by kernel_rfl)
abbrev sg (fu:Nat):cE S0:=⟨57,[.sub 1000 (.st 6),SD,SD],[.aT 77 false false (.st 6)],false,[(6,.sub 1000 (.st 6))],[(1000,.aT 77 false false (.st 6))],fun q=>F.mr fu q.1 q.2.1 q.2.2.1 q.2.2.2.1 q.2.2.2.2⟩
theorem xj (fu:Nat):aV Try.prog (sg fu):=aV.of (N:=33) (fu:=fu)
 (H:=[(15,.mN [1000])])
 (tbl:=[])
 mixed (by intro c h;cases h) Try.func57 Try.call57 rfl rfl (by kernel_rfl) (mvs:=[]) (ns:=[]) (fun q=>by kernel_rfl)
abbrev uV (fu:Nat):cE S0:=⟨54,[.af false (.st 6),.loc 1000 0],[.box 83 false [.sub 1001 (.st 6)],.aT 77 false false (.st 6)],false,[(3,SF)],[(1000,.box 83 false [.sub 1001 (.st 6)]),(1001,.aT 77 false false (.st 6))],fun q=>F.ov fu q.1 q.2.1 q.2.2.1 q.2.2.2⟩
theorem yV (fu:Nat):aV Try.prog (uV fu):=aV.of (N:=12) (fu:=fu)
 (H:=[(3,.mN [])])
 (tbl:=[vJ fu])
 mixed (ak.2 ⟨zN fu,(by intro c h;cases h)⟩) Try.func54 Try.call54 rfl rfl (by kernel_rfl) (mvs:=[]) (ns:=[]) (fun q=>by kernel_rfl)
abbrev pW (fu:Nat):cE S0:=⟨53,[.sub 1000 (.st 6),.aM 54 [.loc 1001 0]],[.aT 77 false false (.st 6),.box 83 false [.sub 1000 (.st 6)]],false,[(4,SA)],[(1000,.aT 77 false false (.st 6)),(1001,.box 83 false [.sub 1000 (.st 6)])],fun q=>F.kB fu q.1 q.2.1 q.2.2.1 q.2.2.2.1 q.2.2.2.2⟩
theorem ua (fu:Nat):aV Try.prog (pW fu):=aV.of (N:=19) (fu:=fu)
 (H:=[(6,.ie ⟨[(8,SA),(0,.sub 1000 (.st 6))],[(1001,.box 83 false [.sub 1000 (.st 6)]),(1000,.aT 77 false false (.st 6))]⟩ 0 ⟨[],[(1001,.box 83 false [.sub 1000 (.st 6)]),(1000,.aT 77 false false (.st 6))]⟩)])
 (tbl:=[uV fu])
 mixed (ak.2 ⟨yV fu,(by intro c h;cases h)⟩) Try.func53 Try.call53 rfl rfl (by kernel_rfl) (mvs:=[]) (ns:=[]) (fun q=>by kernel_rfl)
abbrev u5 (fu:Nat):cE S0:=⟨24,[SK,SG,SI,SC],[],false,[(8,SI),(9,SA)],[],fun q=>F.jN fu q.1 q.2.1 q.2.2.1 q.2.2.2⟩
theorem vN (fu:Nat):aV Try.prog (u5 fu):=aV.of (N:=102) (fu:=fu)
 (H:=[(28,.loop ⟨[(13,SA),(12,.own 29 (.list (.int .i64)))],[(20,.aT 77 true false (.st 6)),(29,.deep 104 true true (.dG 2) (.list (.list (.int .i64)))),(10,.box 83 true [.sub 20 (.st 6)])]⟩ 0 ⟨[(12,.own 29 (.list (.int .i64)))],[(20,.aT 77 true false (.st 6)),(29,.deep 104 true true (.dG 2) (.list (.list (.int .i64)))),(10,.box 83 true [.sub 20 (.st 6)])]⟩),
  (41,.join ⟨[(14,SA)],[]⟩),
  (48,.loop ⟨[(13,SA),(15,.sub 50 (.st 6)),(12,.own 29 (.list (.int .i64)))],[(29,.deep 104 true true (.dG 2) (.list (.list (.int .i64)))),(50,.aT 77 true false (.st 6))]⟩ 2 ⟨[(13,SA),(12,.own 29 (.list (.int .i64)))],[(29,.deep 104 true true (.dG 2) (.list (.list (.int .i64)))),(50,.aT 77 true false (.st 6))]⟩),
  (61,.join ⟨[(16,SA),(13,SA)],[]⟩),
  (67,.mN [29])])
 (tbl:=[rY fu,sa fu,nP fu,pW fu,tI fu,oN fu,sg fu])
 mixed (ak.2 ⟨tM fu,ak.2 ⟨tQ fu,ak.2 ⟨rV fu,ak.2 ⟨ua fu,ak.2 ⟨xL fu,ak.2 ⟨qj fu,ak.2 ⟨xj fu,(by intro c h;cases h)⟩⟩⟩⟩⟩⟩⟩) Try.func24 Try.call24 rfl rfl (by kernel_rfl) (mvs:=[]) (ns:=[]) (fun q=>by kernel_rfl)
abbrev p8 (fu:Nat):cE S0:=⟨27,[],[],false,[(0,SF)],[],fun q=>F.ji fu⟩
theorem uc (fu:Nat):aV Try.prog (p8 fu):=aV.of (N:=36) (fu:=fu)
 (H:=[(5,.iJ [] ⟨[(0,SF)],[]⟩)])
 (tbl:=[u5 fu])
 mixed (ak.2 ⟨vN fu,(by intro c h;cases h)⟩) Try.func27 Try.call27 rfl rfl (by kernel_rfl) (mvs:=[]) (ns:=[]) (fun q=>by kernel_rfl)
abbrev vM (fu:Nat):cE S0:=⟨92,[SK,.af false (.st 2),SC],[],false,[(6,.af true (.st 7)),(7,SF)],[],fun q=>F.mP fu q.1 q.2.1 q.2.2⟩
theorem zQ (fu:Nat):aV Try.prog (vM fu):=aV.of (N:=29) (fu:=fu)
 (H:=[(5,.iJ [6] ⟨[(7,SF)],[(6,.box 132 true [SA,SA])]⟩)])
 (tbl:=[rj fu])
 mixed (ak.2 ⟨qN fu,(by intro c h;cases h)⟩) Try.func92 Try.call92 rfl rfl (by kernel_rfl) (mvs:=[]) (ns:=[]) (fun q=>by kernel_rfl)
abbrev uU (fu:Nat):cE S0:=⟨91,[.af false (.st 7),.loc 1000 0],[.box 114 false [.mp 1001],.deep 0 false false (.map .i64 3 136) .map],false,[(3,.fA 1001 (.list (.int .i64)))],[(1000,.box 114 false [.mp 1001]),(1001,.deep 0 false true (.map .i64 3 136) .map)],fun q=>F.bY fu q.1 q.2⟩
theorem yU (fu:Nat):aV Try.prog (uU fu):=aV.of (N:=20) (fu:=fu)
 (H:=[(7,.join ⟨[(4,.fA 1001 (.list (.int .i64)))],[(1001,.deep 0 false true (.map .i64 3 136) .map)]⟩)])
 (tbl:=[])
 mixed (by intro c h;cases h) Try.func91 Try.call91 rfl rfl (by kernel_rfl) (mvs:=[]) (ns:=[]) (fun q=>by kernel_rfl)
abbrev uW (fu:Nat):cE S0:=⟨41,[.af false (.st 6),.af false (.st 6)],[],false,[(4,SF)],[],fun q=>F.gR fu q.1 q.2⟩
theorem yW (fu:Nat):aV Try.prog (uW fu):=aV.of (N:=11) (fu:=fu)
 (H:=[])
 (tbl:=[oM fu])
 mixed (ak.2 ⟨qi fu,(by intro c h;cases h)⟩) Try.func41 Try.call41 rfl rfl (by kernel_rfl) (mvs:=[]) (ns:=[]) (fun q=>by kernel_rfl)
abbrev ni (fu:Nat):cE S0:=⟨73,[SD,.loc 1000 0,.loc 1001 0,.loc 1002 0,.loc 1003 0],[.box 3 false [SD],.box 79 false [.aM 41 []],.box 83 false [SE],.box 77 false [SD,SC,SD,SC]],false,[],[(1000,.box 3 false [SA]),(1001,.box 79 false [.aM 41 []]),(1002,.box 83 false [SE]),(1003,.box 77 false [SA,SC,SA,SC])],fun q=>F.AL fu q.1 q.2.1 q.2.2.1 q.2.2.2.1 q.2.2.2.2.1 q.2.2.2.2.2.1 q.2.2.2.2.2.2⟩
theorem pb (fu:Nat):aV Try.prog (ni fu):=aV.of (N:=23) (fu:=fu)
 (H:=[(1,.iJ [] ⟨[(21,SF)],[]⟩),
  (2,.join ⟨[],[(1000,.box 3 false [SA])]⟩)])
 (tbl:=[uW fu])
 mixed (ak.2 ⟨yW fu,(by intro c h;cases h)⟩) Try.func73 Try.call73 rfl rfl (by kernel_rfl) (mvs:=[]) (ns:=[]) (fun q=>by kernel_rfl)
abbrev sm (fu:Nat):cE S0:=⟨93,[.sub 1000 (.list (.int .i64)),.loc 1001 0],[.box 22 false [.ks 1002 (.int .i64),.ks 1002 (.int .i64)],.box 116 false [.aM 73 [.loc 1003 0,.loc 1004 0,.loc 1005 0,.loc 1006 0]],.deep 0 false false (.map .i64 3 136) .map,.box 3 false [SD],.box 79 false [.aM 41 []],.box 83 false [SE],.box 77 false [SD,SC,SD,SC]],false,[],[(1000,.box 22 false [.any,.any]),(1001,.box 116 false [.aM 73 [.loc 1003 0,.loc 1004 0,.loc 1005 0,.loc 1006 0]]),(1002,.deep 0 false true (.map .i64 3 136) .map),(1003,.box 3 false [SA]),(1004,.box 79 false [.aM 41 []]),(1005,.box 83 false [SE]),(1006,.box 77 false [SA,SC,SA,SC])],fun q=>F.BZ fu q.1 q.2.1 q.2.2.1 q.2.2.2.1 q.2.2.2.2.1 q.2.2.2.2.2.1 q.2.2.2.2.2.2.1 q.2.2.2.2.2.2.2.1 q.2.2.2.2.2.2.2.2.1 q.2.2.2.2.2.2.2.2.2.1 q.2.2.2.2.2.2.2.2.2.2.1 q.2.2.2.2.2.2.2.2.2.2.2.1 q.2.2.2.2.2.2.2.2.2.2.2.2⟩
theorem xm (fu:Nat):aV Try.prog (sm fu):=aV.of (N:=24) (fu:=fu)
 (H:=[(3,.loop ⟨[(9,SA)],[(1003,.box 3 false [SA]),(1004,.box 79 false [.aM 41 []]),(1005,.box 83 false [SE]),(1006,.box 77 false [SA,SC,SA,SC])]⟩ 0 ⟨[],[(1003,.box 3 false [SA]),(1004,.box 79 false [.aM 41 []]),(1005,.box 83 false [SE]),(1006,.box 77 false [SA,SC,SA,SC])]⟩),
  (17,.loop ⟨[(15,SA)],[(1003,.box 3 false [SA]),(1004,.box 79 false [.aM 41 []]),(1005,.box 83 false [SE]),(1006,.box 77 false [SA,SC,SA,SC])]⟩ 2 ⟨[],[(1003,.box 3 false [SA]),(1004,.box 79 false [.aM 41 []]),(1005,.box 83 false [SE]),(1006,.box 77 false [SA,SC,SA,SC])]⟩)])
 (tbl:=[ni fu])
 mixed (ak.2 ⟨pb fu,(by intro c h;cases h)⟩) Try.func93 Try.call93 rfl rfl (by kernel_rfl) (mvs:=[]) (ns:=[]) (fun q=>by kernel_rfl)
abbrev sk (fu:Nat):cE S0:=⟨93,[.sub 1000 (.list (.int .i64)),.loc 1001 0],[.box 22 false [.ks 1002 (.int .i64)],.box 116 false [.aM 73 [.loc 1003 0,.loc 1004 0,.loc 1005 0,.loc 1006 0]],.deep 0 false false (.map .i64 3 136) .map,.box 3 false [SD],.box 79 false [.aM 41 []],.box 83 false [SE],.box 77 false [SD,SC,SD,SC]],false,[],[(1000,.box 22 false [.any]),(1001,.box 116 false [.aM 73 [.loc 1003 0,.loc 1004 0,.loc 1005 0,.loc 1006 0]]),(1002,.deep 0 false true (.map .i64 3 136) .map),(1003,.box 3 false [SA]),(1004,.box 79 false [.aM 41 []]),(1005,.box 83 false [SE]),(1006,.box 77 false [SA,SC,SA,SC])],fun q=>F.BY fu q.1 q.2.1 q.2.2.1 q.2.2.2.1 q.2.2.2.2.1 q.2.2.2.2.2.1 q.2.2.2.2.2.2.1 q.2.2.2.2.2.2.2.1 q.2.2.2.2.2.2.2.2.1 q.2.2.2.2.2.2.2.2.2.1 q.2.2.2.2.2.2.2.2.2.2⟩
theorem xk (fu:Nat):aV Try.prog (sk fu):=aV.of (N:=24) (fu:=fu)
 (H:=[(3,.loop ⟨[(9,SA)],[(1003,.box 3 false [SA]),(1004,.box 79 false [.aM 41 []]),(1005,.box 83 false [SE]),(1006,.box 77 false [SA,SC,SA,SC])]⟩ 0 ⟨[],[(1003,.box 3 false [SA]),(1004,.box 79 false [.aM 41 []]),(1005,.box 83 false [SE]),(1006,.box 77 false [SA,SC,SA,SC])]⟩),
  (17,.loop ⟨[(15,SA)],[(1003,.box 3 false [SA]),(1004,.box 79 false [.aM 41 []]),(1005,.box 83 false [SE]),(1006,.box 77 false [SA,SC,SA,SC])]⟩ 2 ⟨[],[(1003,.box 3 false [SA]),(1004,.box 79 false [.aM 41 []]),(1005,.box 83 false [SE]),(1006,.box 77 false [SA,SC,SA,SC])]⟩)])
 (tbl:=[ni fu])
 mixed (ak.2 ⟨pb fu,(by intro c h;cases h)⟩) Try.func93 Try.call93 rfl rfl (by kernel_rfl) (mvs:=[]) (ns:=[]) (fun q=>by kernel_rfl)
abbrev uT (fu:Nat):cE S0:=⟨72,[SK,.mp 1000,.af false (.st 6),.aM 73 [.loc 1001 0,.loc 1002 0,.loc 1003 0,.loc 1004 0]],[.deep 0 false false (.map .i64 3 136) .map,.box 3 false [SD],.box 79 false [.aM 41 []],.box 83 false [SE],.box 77 false [SD,SC,SD,SC]],false,[],[(1000,.deep 0 false true (.map .i64 3 136) .map),(1001,.box 3 false [SA]),(1002,.box 79 false [.aM 41 []]),(1003,.box 83 false [SE]),(1004,.box 77 false [SA,SC,SA,SC])],fun q=>F.EP fu q.1 q.2.1 q.2.2.1 q.2.2.2.1 q.2.2.2.2.1 q.2.2.2.2.2.1 q.2.2.2.2.2.2.1 q.2.2.2.2.2.2.2.1 q.2.2.2.2.2.2.2.2⟩
theorem yT (fu:Nat):aV Try.prog (uT fu):=aV.of (N:=170) (fu:=fu)
 (H:=[(9,.iJ [] ⟨[(12,SF)],[]⟩),
  (15,.join ⟨[],[(1000,.deep 0 false true (.map .i64 3 136) .map),(1001,.box 3 false [SA]),(1003,.box 83 false [SE]),(1004,.box 77 false [SA,SC,SA,SC]),(5,.box 114 true [.mp 1000]),(7,.box 116 true [.aM 73 [.loc 1001 0,.loc 1002 0,.loc 1003 0,.loc 1004 0]]),(1002,.box 79 false [.aM 41 []])]⟩),
  (19,.iJ [62,7,1000,1001,1002,1003,1004] ⟨[],[(1000,.deep 0 false true (.map .i64 3 136) .map),(1001,.box 3 false [SA]),(1003,.box 83 false [SE]),(1004,.box 77 false [SA,SC,SA,SC]),(7,.box 116 true [.aM 73 [.loc 1001 0,.loc 1002 0,.loc 1003 0,.loc 1004 0]]),(1002,.box 79 false [.aM 41 []])]⟩),
  (22,.join ⟨[],[(1000,.deep 0 false true (.map .i64 3 136) .map),(1001,.box 3 false [SA]),(1003,.box 83 false [SE]),(1004,.box 77 false [SA,SC,SA,SC]),(7,.box 116 true [.aM 73 [.loc 1001 0,.loc 1002 0,.loc 1003 0,.loc 1004 0]]),(1002,.box 79 false [.aM 41 []])]⟩),
  (32,.loop ⟨[(15,.own 15 (.st 7)),(76,SA)],[(5,.box 114 true [.mp 1000]),(1000,.deep 0 false true (.map .i64 3 136) .map),(7,.box 116 true [.aM 73 [.loc 1001 0,.loc 1002 0,.loc 1003 0,.loc 1004 0]]),(1001,.box 3 false [SA]),(1002,.box 79 false [.aM 41 []]),(1003,.box 83 false [SE]),(1004,.box 77 false [SA,SC,SA,SC]),(15,.aT 132 true true (.st 7))]⟩ 0 ⟨[(15,.own 15 (.st 7))],[(5,.box 114 true [.mp 1000]),(1000,.deep 0 false true (.map .i64 3 136) .map),(7,.box 116 true [.aM 73 [.loc 1001 0,.loc 1002 0,.loc 1003 0,.loc 1004 0]]),(1001,.box 3 false [SA]),(1002,.box 79 false [.aM 41 []]),(1003,.box 83 false [SE]),(1004,.box 77 false [SA,SC,SA,SC]),(15,.aT 132 true true (.st 7))]⟩),
  (46,.iJ [] ⟨[(92,SF)],[]⟩),
  (47,.join ⟨[(15,.own 15 (.st 7))],[(1000,.deep 0 false true (.map .i64 3 136) .map),(1001,.box 3 false [SA]),(1003,.box 83 false [SE]),(1004,.box 77 false [SA,SC,SA,SC]),(15,.aT 132 true true (.st 7)),(5,.box 114 true [.mp 1000]),(7,.box 116 true [.aM 73 [.loc 1001 0,.loc 1002 0,.loc 1003 0,.loc 1004 0]]),(1002,.box 79 false [.aM 41 []])]⟩),
  (49,.iJ [5,1000,106,7,1001,1002,1003,1004] ⟨[],[(1000,.deep 0 false true (.map .i64 3 136) .map),(1001,.box 3 false [SA]),(1003,.box 83 false [SE]),(1004,.box 77 false [SA,SC,SA,SC]),(5,.box 114 true [.mp 1000]),(7,.box 116 true [.aM 73 [.loc 1001 0,.loc 1002 0,.loc 1003 0,.loc 1004 0]]),(1002,.box 79 false [.aM 41 []])]⟩),
  (55,.iJ [] ⟨[(116,SF)],[]⟩),
  (56,.join ⟨[],[(1000,.deep 0 false true (.map .i64 3 136) .map),(5,.box 114 true [.mp 1000])]⟩),
  (57,.iJ [5,1000] ⟨[],[(1000,.deep 0 false true (.map .i64 3 136) .map),(5,.box 114 true [.mp 1000])]⟩),
  (60,.join ⟨[],[(1000,.deep 0 false true (.map .i64 3 136) .map),(5,.box 114 true [.mp 1000])]⟩),
  (61,.iJ [5,1000] ⟨[],[(1000,.deep 0 false true (.map .i64 3 136) .map),(5,.box 114 true [.mp 1000])]⟩),
  (66,.loop ⟨[(150,SA)],[(5,.box 114 true [.mp 1000]),(1000,.deep 0 false true (.map .i64 3 136) .map)]⟩ 2 ⟨[],[(5,.box 114 true [.mp 1000]),(1000,.deep 0 false true (.map .i64 3 136) .map)]⟩),
  (77,.iJ [5,1000] ⟨[],[(1000,.deep 0 false true (.map .i64 3 136) .map),(5,.box 114 true [.mp 1000])]⟩)])
 (tbl:=[uU fu,sm fu,sk fu,vM fu])
 mixed (ak.2 ⟨yU fu,ak.2 ⟨xm fu,ak.2 ⟨xk fu,ak.2 ⟨zQ fu,(by intro c h;cases h)⟩⟩⟩⟩) Try.func72 Try.call72 rfl rfl (by kernel_rfl) (mvs:=[]) (ns:=[]) (fun q=>by kernel_rfl)
abbrev vL (fu:Nat):cE S0:=⟨40,[SK,SG,.aM 41 []],[],false,[(6,.af false (.st 8)),(7,SA)],[],fun q=>F.td fu q.1 q.2⟩
theorem zP (fu:Nat):aV Try.prog (vL fu):=aV.of (N:=48) (fu:=fu)
 (H:=[(13,.fz [17]),
  (18,.ie ⟨[(27,SA)],[(24,.deep 0 true true (.map .i64 3 136) .map),(5,.box 79 true [.aM 41 []]),(8,.box 83 true [SE]),(6,.box 42 true [SF,SA,.af true (.list (.int .i64)),SA,.af true (.list (.int .i64))])]⟩ 0 ⟨[],[(24,.deep 0 true true (.map .i64 3 136) .map),(5,.box 79 true [.aM 41 []]),(8,.box 83 true [SE]),(6,.box 42 true [SF,SA,.af true (.list (.int .i64)),SA,.af true (.list (.int .i64))])]⟩),
  (37,.mN [6])])
 (tbl:=[rY fu,uT fu])
 mixed (ak.2 ⟨tM fu,ak.2 ⟨yT fu,(by intro c h;cases h)⟩⟩) Try.func40 Try.call40 rfl rfl (by kernel_rfl) (mvs:=[]) (ns:=[]) (fun q=>by kernel_rfl)
abbrev xJ (fu:Nat):cE S0:=⟨17,[SK,SG],[],false,[(4,.af false (.st 8)),(5,SA)],[],fun q=>F.qW fu q.1 q.2⟩
theorem Bg (fu:Nat):aV Try.prog (xJ fu):=aV.of (N:=11) (fu:=fu)
 (H:=[])
 (tbl:=[vL fu])
 mixed (ak.2 ⟨zP fu,(by intro c h;cases h)⟩) Try.func17 Try.call17 rfl rfl (by kernel_rfl) (mvs:=[]) (ns:=[]) (fun q=>by kernel_rfl)
abbrev va (fu:Nat):oQ S0:=⟨1,[SC],[.loc 1000 0,.loc 1001 0],[.box 86 false [.own 1002 (.list (.int .i64))],.box 64 false [SC,SH,SD,SD,SD,SC,SD,SJ],.deep 104 false false (.dG 2) (.list (.list (.int .i64)))],[(1000,.box 86 false [.own 1002 (.list (.int .i64))]),(1001,.box 64 false [SC,SH,SA,SA,SA,SC,SA,SJ]),(1002,.deep 104 false true (.dG 2) (.list (.list (.int .i64))))],false,fun q=>F.pE fu q.1 q.2.1 q.2.2.1 q.2.2.2.1 q.2.2.2.2.1 q.2.2.2.2.2.1 q.2.2.2.2.2.2.1 q.2.2.2.2.2.2.2.1 q.2.2.2.2.2.2.2.2.1 q.2.2.2.2.2.2.2.2.2⟩
theorem zM (fu:Nat):CL Try.prog (va fu):=CL.of (fu:=fu)
 (H:=[])
 (tbl:=[oN fu])
 mixed (ak.2 ⟨qj fu,(by intro c h;cases h)⟩) (by kernel_rfl) (by kernel_rfl) (by kernel_rfl) (mvs:=[]) (ns:=[]) (fun q=>by kernel_rfl)
abbrev pY (fu:Nat):cE S0:=⟨88,[.af false (.st 1),.own 1000 (.int .i64),SD,.cq 1001],[.aT 3 false false (.int .i64),.lp 1 false [.loc 1002 0,.loc 1003 0],.box 86 false [.own 1004 (.list (.int .i64))],.box 64 false [SC,SH,SD,SD,SD,SC,SD,SJ],.deep 104 false false (.dG 2) (.list (.list (.int .i64)))],false,[(8,SF)],[(1000,.aT 3 false true (.int .i64)),(1001,.lp 1 false [.loc 1002 0,.loc 1003 0]),(1002,.box 86 false [.own 1004 (.list (.int .i64))]),(1003,.box 64 false [SC,SH,SA,SA,SA,SC,SA,SJ]),(1004,.deep 104 false true (.dG 2) (.list (.list (.int .i64))))],fun q=>F.jy fu q.1 q.2.1 q.2.2.1 q.2.2.2.1 q.2.2.2.2.1 q.2.2.2.2.2.1 q.2.2.2.2.2.2.1 q.2.2.2.2.2.2.2.1 q.2.2.2.2.2.2.2.2.1 q.2.2.2.2.2.2.2.2.2.1 q.2.2.2.2.2.2.2.2.2.2.1 q.2.2.2.2.2.2.2.2.2.2.2⟩
theorem rK:∀fu:Nat,aV Try.prog (pY fu)
 | 0=>⟨Try.call88,fun q r h=>nomatch (show(none:Option _)=some r from h)⟩
 | fu+1=>aV.OK (N:=48) (fu:=fu+1)
   (H:=[(22,.ie ⟨[(1,.own 1000 (.int .i64))],[(1000,.aT 3 false true (.int .i64)),(1001,.lp 1 false [.loc 1002 0,.loc 1003 0]),(1002,.box 86 false [.own 1004 (.list (.int .i64))]),(1003,.box 64 false [SC,SH,SA,SA,SA,SC,SA,SJ]),(1004,.deep 104 false true (.dG 2) (.list (.list (.int .i64))))]⟩ 0 ⟨[],[(1000,.aT 3 false true (.int .i64)),(1001,.lp 1 false [.loc 1002 0,.loc 1003 0]),(1002,.box 86 false [.own 1004 (.list (.int .i64))]),(1003,.box 64 false [SC,SH,SA,SA,SA,SC,SA,SJ]),(1004,.deep 104 false true (.dG 2) (.list (.list (.int .i64))))]⟩),
    (25,.mN [])])
   (tbl:=[pY fu,nW (fu+1),qL (fu+1)]) (tbr:=[]) (ys:=[va (fu+1)])
   [] mixed (ak.2 ⟨rK fu,ak.2 ⟨p5 (fu+1),ak.2 ⟨si (fu+1),(by intro c h;cases h)⟩⟩⟩) (by intro c h;cases h) (ak.2 ⟨zM (fu+1),(by intro c h;cases h)⟩) Try.func88 Try.call88 rfl rfl (by kernel_rfl) rfl (by kernel_rfl) (mvs:=[]) (ns:=[]) (fun q=>by kernel_rfl)
abbrev tK (fu:Nat):cE S0:=⟨86,[.cq 1000,.loc 1001 0],[.lp 1 false [.loc 1002 0,.loc 1003 0],.box 59 false [SC,SH],.box 86 false [.own 1004 (.list (.int .i64))],.box 64 false [SC,SH,SD,SD,SD,SC,SD,SJ],.deep 104 false false (.dG 2) (.list (.list (.int .i64)))],false,[],[(1000,.lp 1 false [.loc 1002 0,.loc 1003 0]),(1001,.box 59 false [SC,SH]),(1002,.box 86 false [.own 1004 (.list (.int .i64))]),(1003,.box 64 false [SC,SH,SA,SA,SA,SC,SA,SJ]),(1004,.deep 104 false true (.dG 2) (.list (.list (.int .i64))))],fun q=>F.nv fu q.1 q.2.1 q.2.2.1 q.2.2.2.1 q.2.2.2.2.1 q.2.2.2.2.2.1 q.2.2.2.2.2.2.1 q.2.2.2.2.2.2.2.1 q.2.2.2.2.2.2.2.2.1 q.2.2.2.2.2.2.2.2.2.1 q.2.2.2.2.2.2.2.2.2.2⟩
theorem xN (fu:Nat):aV Try.prog (tK fu):=aV.of (N:=13) (fu:=fu)
 (H:=[(2,.join ⟨[],[(1003,.box 64 false [SC,SH,SA,SA,SA,SC,SA,SJ]),(1004,.deep 104 false true (.dG 2) (.list (.list (.int .i64)))),(1000,.lp 1 false [.loc 1002 0,.loc 1003 0]),(1002,.box 86 false [.own 1004 (.list (.int .i64))])]⟩),
  (3,.mN [10,1000,1002,1003,1004])])
 (tbl:=[pY fu,nL fu])
 mixed (ak.2 ⟨rK fu,ak.2 ⟨nX fu,(by intro c h;cases h)⟩⟩) Try.func86 Try.call86 rfl rfl (by kernel_rfl) (mvs:=[]) (ns:=[]) (fun q=>by kernel_rfl)
abbrev CE (fu:Nat):cE S0:=⟨28,[SK,SI],[],false,[(4,SI),(5,SA)],[],fun q=>F.mS fu q.1 q.2⟩
theorem EW (fu:Nat):aV Try.prog (CE fu):=aV.OK (N:=43) (fu:=fu)
 (H:=[(26,.loop ⟨[(29,SA)],[(7,.box 86 true [.own 20 (.list (.int .i64))]),(20,.deep 104 true true (.dG 2) (.list (.list (.int .i64))))]⟩ 0 ⟨[],[(7,.box 86 true [.own 20 (.list (.int .i64))]),(20,.deep 104 true true (.dG 2) (.list (.list (.int .i64))))]⟩),
  (40,.LD 1 350)])
 (tbl:=[sa fu,tL fu,tP fu]) (tbr:=[tK fu]) (ys:=[])
 [(40,1)] mixed (ak.2 ⟨tQ fu,ak.2 ⟨uS fu,ak.2 ⟨uX fu,(by intro c h;cases h)⟩⟩⟩) (ak.2 ⟨xN fu,(by intro c h;cases h)⟩) (by intro c h;cases h) Try.func28 Try.call28 rfl rfl (by kernel_rfl) rfl (by kernel_rfl) (mvs:=[]) (ns:=[]) (fun q=>by kernel_rfl)
abbrev mD (fu:Nat):cE S0:=⟨26,[SI,SI],[],false,[(4,SF)],[],fun q=>F.gu fu q.1 q.2⟩
theorem qO (fu:Nat):aV Try.prog (mD fu):=aV.of (N:=53) (fu:=fu)
 (H:=[(14,.ie ⟨[(14,SA)],[]⟩ 0 ⟨[],[]⟩),
  (27,.mN []),
  (36,.ie ⟨[(33,SA)],[]⟩ 2 ⟨[],[]⟩),
  (48,.mN [])])
 (tbl:=[])
 mixed (by intro c h;cases h) Try.func26 Try.call26 rfl rfl (by kernel_rfl) (mvs:=[]) (ns:=[]) (fun q=>by kernel_rfl)
abbrev sI (fu:Nat):cE S0:=⟨6,[SK,SG,SI],[],false,[(6,SF)],[],fun q=>F.iP fu q.1 q.2.1 q.2.2⟩
theorem qP (fu:Nat):aV Try.prog (sI fu):=aV.of (N:=47) (fu:=fu)
 (H:=[(14,.iJ [] ⟨[(24,SF)],[]⟩),
  (33,.iJ [] ⟨[(6,SF)],[]⟩)])
 (tbl:=[p8 fu,xJ fu,CE fu,u5 fu,mD fu])
 mixed (ak.2 ⟨uc fu,ak.2 ⟨Bg fu,ak.2 ⟨EW fu,ak.2 ⟨vN fu,ak.2 ⟨qO fu,(by intro c h;cases h)⟩⟩⟩⟩⟩) Try.func6 Try.call6 rfl rfl (by kernel_rfl) (mvs:=[]) (ns:=[]) (fun q=>by kernel_rfl)
end
end Go.DN
