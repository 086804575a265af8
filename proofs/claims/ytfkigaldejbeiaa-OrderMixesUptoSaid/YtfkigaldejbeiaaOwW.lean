/-
  Each function does what its Lean function says.
-/
import Derived.Test.YtfkigaldejbeiaaOwF
import Derived.Test.YtfkigaldejbeiaaProg
import Derived.KernelRfl
set_option maxRecDepth 20000
set_option linter.unusedVariables false
set_option linter.unusedSectionVars false
set_option linter.unusedSimpArgs false
namespace Go.DN
open Go.AM
open Go.Proofs
noncomputable section
abbrev S5:Sh:=.ab true (.int .i64)
abbrev S6:Sh:=.ab false (.list (.int .i64))
abbrev S7:Sh:=.ab false (.int .i64)
abbrev S8:Sh:=.ab false (.list (.st 6))
abbrev S9:Sh:=.ab true .bool
abbrev Ta:Sh:=.ab false (.list (.list (.st 0)))
abbrev Tb:Sh:=.ab false (.list (.st 0))
abbrev Tc:Sh:=.ab false (.list (.list (.int .i64)))
abbrev Td:Sh:=.ab false (.st 4)
abbrev Te:Sh:=.ab true (.list (.int .i64))
abbrev Tf:Sh:=.ab false (.list (.st 2))
theorem mixed:Try.prog.follows .mixedOrders=true:=by kernel_rfl
abbrev wh (fu:Nat):cr S0:=⟨67,[S7],[],false,[(2,S9)],[],fun q=>F.mV fu q⟩
theorem Ah (fu:Nat):aP Try.prog (wh fu):=aP.of (N:=9) (fu:=fu)
 (H:=[(3,.fM [] ⟨[(2,S9)],[]⟩)])
 (tbl:=[])
 mixed (by intro c h;cases h) Try.func67 Try.call67 rfl rfl (by kernel_rfl) (mvs:=[]) (ns:=[]) (fun q=>by kernel_rfl)
abbrev rU (fu:Nat):cr S0:=⟨89,[S6,.aE 67 []],[],false,[(4,S5)],[],fun q=>F.lD fu q⟩
theorem vZ (fu:Nat):aP Try.prog (rU fu):=aP.of (N:=19) (fu:=fu)
 (H:=[(6,.gW ⟨[(8,S5)],[]⟩ 0 ⟨[],[]⟩)])
 (tbl:=[wh fu])
 mixed (ai.2 ⟨Ah fu,(by intro c h;cases h)⟩) Try.func89 Try.call89 rfl rfl (by kernel_rfl) (mvs:=[]) (ns:=[]) (fun q=>by kernel_rfl)
abbrev po (fu:Nat):cr S0:=⟨66,[S6,.aE 67 []],[],false,[(4,S9)],[],fun q=>F.iT fu q⟩
theorem tX (fu:Nat):aP Try.prog (po fu):=aP.of (N:=9) (fu:=fu)
 (H:=[])
 (tbl:=[rU fu])
 mixed (ai.2 ⟨vZ fu,(by intro c h;cases h)⟩) Try.func66 Try.call66 rfl rfl (by kernel_rfl) (mvs:=[]) (ns:=[]) (fun q=>by kernel_rfl)
abbrev qX (fu:Nat):cr S0:=⟨76,[S7],[],false,[(2,S9)],[],fun q=>F.la fu q⟩
theorem sE (fu:Nat):aP Try.prog (qX fu):=aP.of (N:=9) (fu:=fu)
 (H:=[(3,.fM [] ⟨[(2,S9)],[]⟩)])
 (tbl:=[])
 mixed (by intro c h;cases h) Try.func76 Try.call76 rfl rfl (by kernel_rfl) (mvs:=[]) (ns:=[]) (fun q=>by kernel_rfl)
abbrev qa (fu:Nat):cr S0:=⟨89,[S6,.aE 76 []],[],false,[(4,S5)],[],fun q=>F.kE fu q⟩
theorem uv (fu:Nat):aP Try.prog (qa fu):=aP.of (N:=19) (fu:=fu)
 (H:=[(6,.gW ⟨[(8,S5)],[]⟩ 0 ⟨[],[]⟩)])
 (tbl:=[qX fu])
 mixed (ai.2 ⟨sE fu,(by intro c h;cases h)⟩) Try.func89 Try.call89 rfl rfl (by kernel_rfl) (mvs:=[]) (ns:=[]) (fun q=>by kernel_rfl)
abbrev nV (fu:Nat):cr S0:=⟨66,[S6,.aE 76 []],[],false,[(4,S9)],[],fun q=>F.ib fu q⟩
theorem sq (fu:Nat):aP Try.prog (nV fu):=aP.of (N:=9) (fu:=fu)
 (H:=[])
 (tbl:=[qa fu])
 mixed (ai.2 ⟨uv fu,(by intro c h;cases h)⟩) Try.func66 Try.call66 rfl rfl (by kernel_rfl) (mvs:=[]) (ns:=[]) (fun q=>by kernel_rfl)
abbrev qf (fu:Nat):cr S0:=⟨45,[.ab false (.st 0),S7],[],false,[(4,S5)],[],fun q=>F.nA fu q.1 q.2⟩
theorem qe (fu:Nat):aP Try.prog (qf fu):=aP.of (N:=21) (fu:=fu)
 (H:=[(14,.fM [] ⟨[(20,S9)],[]⟩)])
 (tbl:=[qX fu,nV fu])
 mixed (ai.2 ⟨sE fu,ai.2 ⟨sq fu,(by intro c h;cases h)⟩⟩) Try.func45 Try.call45 rfl rfl (by kernel_rfl) (mvs:=[]) (ns:=[]) (fun q=>by kernel_rfl)
abbrev nQ (fu:Nat):cr S0:=⟨87,[.ab false (.st 1)],[],false,[(2,S5)],[],fun q=>F.je fu q⟩
theorem oa (fu:Nat):aP Try.prog (nQ fu):=aP.of (N:=62) (fu:=fu)
 (H:=[(16,.gW ⟨[(18,S5)],[]⟩ 0 ⟨[],[]⟩),
  (28,.fM [] ⟨[(27,S9)],[]⟩),
  (39,.loop ⟨[(3,S5),(32,S5)],[]⟩ 2 ⟨[(3,S5)],[]⟩),
  (72,.gW ⟨[(49,S5)],[]⟩ 4 ⟨[],[]⟩)])
 (tbl:=[qf fu])
 mixed (ai.2 ⟨qe fu,(by intro c h;cases h)⟩) Try.func87 Try.call87 rfl rfl (by kernel_rfl) (mvs:=[]) (ns:=[]) (fun q=>by kernel_rfl)
abbrev AI (fu:Nat):cr S0:=⟨90,[S7],[],false,[(2,S5)],[],fun q=>F.uH fu q⟩
theorem D7 (fu:Nat):aP Try.prog (AI fu):=aP.of (N:=18) (fu:=fu)
 (H:=[(15,.join ⟨[(6,S9)],[]⟩),
  (25,.join ⟨[(9,S9)],[]⟩),
  (29,.join ⟨[(9,S9)],[]⟩),
  (33,.join ⟨[(9,S9)],[]⟩),
  (37,.join ⟨[(9,S9)],[]⟩),
  (41,.join ⟨[(9,S9)],[]⟩)])
 (tbl:=[])
 mixed (by intro c h;cases h) Try.func90 Try.call90 rfl rfl (by kernel_rfl) (mvs:=[]) (ns:=[]) (fun q=>by kernel_rfl)
abbrev ue (fu:Nat):cr S0:=⟨68,[Td,.ab false (.st 3)],[],false,[(4,S5)],[],fun q=>F.nE fu q.1 q.2⟩
theorem yf (fu:Nat):aP Try.prog (ue fu):=aP.of (N:=59) (fu:=fu)
 (H:=[(34,.gW ⟨[(33,S5)],[]⟩ 0 ⟨[],[]⟩),
  (47,.fM [] ⟨[(47,S9)],[]⟩)])
 (tbl:=[nQ fu,AI fu,qf fu])
 mixed (ai.2 ⟨oa fu,ai.2 ⟨D7 fu,ai.2 ⟨qe fu,(by intro c h;cases h)⟩⟩⟩) Try.func68 Try.call68 rfl rfl (by kernel_rfl) (mvs:=[]) (ns:=[]) (fun q=>by kernel_rfl)
abbrev uf (fu:Nat):cr S0:=⟨29,[Td],[],false,[(2,S5)],[],fun q=>F.pN fu q⟩
theorem vg (fu:Nat):aP Try.prog (uf fu):=aP.of (N:=27) (fu:=fu)
 (H:=[(22,.gW ⟨[(16,S5)],[]⟩ 0 ⟨[],[]⟩)])
 (tbl:=[po fu,ue fu])
 mixed (ai.2 ⟨tX fu,ai.2 ⟨yf fu,(by intro c h;cases h)⟩⟩) Try.func29 Try.call29 rfl rfl (by kernel_rfl) (mvs:=[]) (ns:=[]) (fun q=>by kernel_rfl)
abbrev xY (fu:Nat):cr S0:=⟨20,[Td,Ta],[],false,[(4,S5)],[],fun q=>F.om fu q.1 q.2⟩
theorem Bx (fu:Nat):aP Try.prog (xY fu):=aP.of (N:=53) (fu:=fu)
 (H:=[(24,.gW ⟨[(24,S5)],[]⟩ 0 ⟨[],[]⟩),
  (46,.gW ⟨[(34,S5)],[]⟩ 2 ⟨[],[]⟩),
  (58,.my [])])
 (tbl:=[uf fu,qf fu])
 mixed (ai.2 ⟨vg fu,ai.2 ⟨qe fu,(by intro c h;cases h)⟩⟩) Try.func20 Try.call20 rfl rfl (by kernel_rfl) (mvs:=[]) (ns:=[]) (fun q=>by kernel_rfl)
abbrev ub (fu:Nat):cr S0:=⟨65,[.ab false (.st 1)],[],false,[(2,.aE 86 [.loc 1 0])],[(1,.box 59 true [S6,Tb])],fun q=>F.pG fu q⟩
theorem va (fu:Nat):aP Try.prog (ub fu):=aP.of (N:=4) (fu:=fu)
 (H:=[])
 (tbl:=[])
 mixed (by intro c h;cases h) Try.func65 Try.call65 rfl rfl (by kernel_rfl) (mvs:=[]) (ns:=[]) (fun q=>by kernel_rfl)
abbrev n9 (fu:Nat):cr S0:=⟨98,[.ab false (.st 1),S6,S7],[],false,[(6,S9)],[],fun q=>F.kI fu q.1 q.2.1 q.2.2⟩
theorem qd (fu:Nat):aP Try.prog (n9 fu):=aP.of (N:=58) (fu:=fu)
 (H:=[(6,.gW ⟨[(15,S5)],[]⟩ 0 ⟨[],[]⟩),
  (23,.loop ⟨[(9,S5),(24,S5)],[]⟩ 2 ⟨[(9,S5)],[]⟩),
  (37,.join ⟨[(9,S5)],[]⟩),
  (41,.join ⟨[(9,S5)],[]⟩)])
 (tbl:=[])
 mixed (by intro c h;cases h) Try.func98 Try.call98 rfl rfl (by kernel_rfl) (mvs:=[]) (ns:=[]) (fun q=>by kernel_rfl)
abbrev qW (fu:Nat):cr S0:=⟨32,[S6],[],false,[(2,Te)],[],fun q=>F.kZ fu q⟩
theorem sD (fu:Nat):aP Try.prog (qW fu):=aP.of (N:=8) (fu:=fu)
 (H:=[])
 (tbl:=[])
 mixed (by intro c h;cases h) Try.func32 Try.call32 rfl rfl (by kernel_rfl) (mvs:=[]) (ns:=[]) (fun q=>by kernel_rfl)
abbrev rD (fu:Nat):cr S0:=⟨77,[.ab false (.st 0),S6],[],false,[(4,S5)],[],fun q=>F.pf fu q.1 q.2⟩
theorem qY (fu:Nat):aP Try.prog (rD fu):=aP.of (N:=28) (fu:=fu)
 (H:=[(8,.loop ⟨[(5,S5),(13,S5)],[]⟩ 0 ⟨[(5,S5)],[]⟩)])
 (tbl:=[])
 mixed (by intro c h;cases h) Try.func77 Try.call77 rfl rfl (by kernel_rfl) (mvs:=[]) (ns:=[]) (fun q=>by kernel_rfl)
abbrev sw (fu:Nat):o6 S0:=⟨0,[S6],[.loc 1000 0,.loc 1001 0,.loc 1002 0,.loc 1003 0,.loc 1004 0,.loc 1005 0],[.box 31 false [Ta],.box 83 false [.own 1006 (.st 6)],.box 26 false [S7],.box 3 false [S7],.box 83 false [.own 1007 (.st 6)],.box 3 false [S7],.aU 77 false false (.st 6),.aU 77 false false (.st 6)],[(1000,.box 31 false [Ta]),(1001,.box 83 false [.own 486 (.st 6)]),(1002,.box 26 false [S5]),(1003,.box 3 false [S5]),(1004,.box 83 false [.own 487 (.st 6)]),(1005,.box 3 false [S5]),(486,.aU 77 false false (.st 6)),(487,.aU 77 false false (.st 6))],true,fun q=>F.mC fu q.1 q.2.1 q.2.2.1 q.2.2.2.1 q.2.2.2.2.1 q.2.2.2.2.2.1 q.2.2.2.2.2.2⟩
theorem wz (fu:Nat):Dc Try.prog (sw fu):=Dc.of (fu:=fu)
 (H:=[(16,.loop ⟨[(56,S5),(14,.own 50 (.int .i64))],[(50,.aU 3 true true (.int .i64))]⟩ 6 ⟨[(14,.own 50 (.int .i64))],[(50,.aU 3 true true (.int .i64))]⟩)])
 (tbl:=[rD fu])
 mixed (ai.2 ⟨qY fu,(by intro c h;cases h)⟩) (by kernel_rfl) (by kernel_rfl) (by kernel_rfl) (mvs:=[1006,1007]) (ns:=[]) (fun q=>by kernel_rfl)
abbrev qc (fu:Nat):cr S0:=⟨88,[.ab false (.st 1),.own 1000 (.int .i64),S7,.cq 1001],[.aU 3 false false (.int .i64),.lp 0 true [.loc 1002 0,.loc 1003 0,.loc 1004 0,.loc 1005 0,.loc 1006 0,.loc 1007 0],.box 31 false [Ta],.box 83 false [.own 1008 (.st 6)],.box 26 false [S7],.box 3 false [S7],.box 83 false [.own 1009 (.st 6)],.box 3 false [S7],.aU 77 false false (.st 6),.aU 77 false false (.st 6)],false,[(8,S9)],[(1000,.aU 3 false true (.int .i64)),(1001,.lp 0 true [.loc 1002 0,.loc 1003 0,.loc 1004 0,.loc 1005 0,.loc 1006 0,.loc 1007 0]),(1002,.box 31 false [Ta]),(1003,.box 83 false [.own 488 (.st 6)]),(1004,.box 26 false [S5]),(1005,.box 3 false [S5]),(1006,.box 83 false [.own 489 (.st 6)]),(1007,.box 3 false [S5]),(488,.aU 77 false false (.st 6)),(489,.aU 77 false false (.st 6))],fun q=>F.gT fu q.1 q.2.1 q.2.2.1 q.2.2.2.1 q.2.2.2.2.1 q.2.2.2.2.2.1 q.2.2.2.2.2.2.1 q.2.2.2.2.2.2.2.1 q.2.2.2.2.2.2.2.2.1 q.2.2.2.2.2.2.2.2.2⟩
theorem rX:∀fu:Nat,aP Try.prog (qc fu)
 | 0=>⟨Try.call88,fun q r h=>nomatch (show(none:Option _)=some r from h)⟩
 | fu+1=>aP.O8 (N:=48) (fu:=fu+1)
   (H:=[(22,.gW ⟨[(1,.own 1000 (.int .i64))],[(1000,.aU 3 false true (.int .i64)),(1001,.lp 0 true [.loc 1002 0,.loc 1003 0,.loc 1004 0,.loc 1005 0,.loc 1006 0,.loc 1007 0]),(1002,.box 31 false [Ta]),(1003,.box 83 false [.own 488 (.st 6)]),(1004,.box 26 false [S5]),(1005,.box 3 false [S5]),(1006,.box 83 false [.own 489 (.st 6)]),(1007,.box 3 false [S5]),(488,.aU 77 false false (.st 6)),(489,.aU 77 false false (.st 6))]⟩ 0 ⟨[],[(1000,.aU 3 false true (.int .i64)),(1001,.lp 0 true [.loc 1002 0,.loc 1003 0,.loc 1004 0,.loc 1005 0,.loc 1006 0,.loc 1007 0]),(1002,.box 31 false [Ta]),(1003,.box 83 false [.own 488 (.st 6)]),(1004,.box 26 false [S5]),(1005,.box 3 false [S5]),(1006,.box 83 false [.own 489 (.st 6)]),(1007,.box 3 false [S5]),(488,.aU 77 false false (.st 6)),(489,.aU 77 false false (.st 6))]⟩),
    (25,.my [])])
   (tbl:=[qc fu,n9 (fu+1),qW (fu+1)]) (tbr:=[]) (ys:=[sw (fu+1)])
   [] mixed (ai.2 ⟨rX fu,ai.2 ⟨qd (fu+1),ai.2 ⟨sD (fu+1),(by intro c h;cases h)⟩⟩⟩) (by intro c h;cases h) (ai.2 ⟨wz (fu+1),(by intro c h;cases h)⟩) Try.func88 Try.call88 rfl rfl (by kernel_rfl) rfl (by kernel_rfl) (mvs:=[1008,1009]) (ns:=[]) (fun q=>by kernel_rfl)
abbrev wa (fu:Nat):cr S0:=⟨86,[.cq 1000,.loc 1001 0],[.lp 0 true [.loc 1002 0,.loc 1003 0,.loc 1004 0,.loc 1005 0,.loc 1006 0,.loc 1007 0],.box 59 false [S6,Tb],.box 31 false [Ta],.box 83 false [.own 1008 (.st 6)],.box 26 false [S7],.box 3 false [S7],.box 83 false [.own 1009 (.st 6)],.box 3 false [S7],.aU 77 false false (.st 6),.aU 77 false false (.st 6)],false,[],[(1000,.lp 0 true [.loc 1002 0,.loc 1003 0,.loc 1004 0,.loc 1005 0,.loc 1006 0,.loc 1007 0]),(1001,.box 59 false [S6,Tb]),(1002,.box 31 false [Ta]),(1003,.box 83 false [.own 488 (.st 6)]),(1004,.box 26 false [S5]),(1005,.box 3 false [S5]),(1006,.box 83 false [.own 489 (.st 6)]),(1007,.box 3 false [S5]),(488,.aU 77 false false (.st 6)),(489,.aU 77 false false (.st 6))],fun q=>F.jY fu q.1 q.2.1 q.2.2.1 q.2.2.2.1 q.2.2.2.2.1 q.2.2.2.2.2.1 q.2.2.2.2.2.2.1 q.2.2.2.2.2.2.2.1 q.2.2.2.2.2.2.2.2⟩
theorem Ae (fu:Nat):aP Try.prog (wa fu):=aP.of (N:=13) (fu:=fu)
 (H:=[(2,.join ⟨[],[(1000,.lp 0 true [.loc 1002 0,.loc 1003 0,.loc 1004 0,.loc 1005 0,.loc 1006 0,.loc 1007 0]),(1002,.box 31 false [Ta]),(1004,.box 26 false [S5]),(1005,.box 3 false [S5]),(1007,.box 3 false [S5]),(488,.aU 77 false false (.st 6)),(489,.aU 77 false false (.st 6)),(1003,.box 83 false [.own 488 (.st 6)]),(1006,.box 83 false [.own 489 (.st 6)])]⟩),
  (3,.my [10,1000,1002,1003,1004,1005,1006,1007,1008,1009,488,489])])
 (tbl:=[qc fu,nQ fu])
 mixed (ai.2 ⟨rX fu,ai.2 ⟨oa fu,(by intro c h;cases h)⟩⟩) Try.func86 Try.call86 rfl rfl (by kernel_rfl) (mvs:=[1008,1009]) (ns:=[]) (fun q=>by kernel_rfl)
abbrev oE (fu:Nat):cr S0:=⟨49,[Td,Ta],[],false,[(4,.own 420 (.st 6)),(5,S5)],[(420,.aU 77 true false (.st 6))],fun q=>F.iw fu q.1 q.2⟩
theorem oU (fu:Nat):aP Try.prog (oE fu):=aP.O8 (N:=80) (fu:=fu)
 (H:=[(18,.loop ⟨[(25,S5)],[(7,.box 3 true [S5])]⟩ 0 ⟨[],[(7,.box 3 true [S5])]⟩),
  (37,.gW ⟨[(37,S5)],[(4,.box 83 true [.own 420 (.st 6)]),(10,.box 83 true [.own 421 (.st 6)]),(3,.box 31 true [Ta]),(5,.box 26 true [S5]),(7,.box 3 true [S5]),(420,.aU 77 true false (.st 6)),(421,.aU 77 true false (.st 6))]⟩ 2 ⟨[],[(4,.box 83 true [.own 420 (.st 6)]),(10,.box 83 true [.own 421 (.st 6)]),(3,.box 31 true [Ta]),(5,.box 26 true [S5]),(7,.box 3 true [S5]),(420,.aU 77 true false (.st 6)),(421,.aU 77 true false (.st 6))]⟩),
  (51,.L7 0 350)])
 (tbl:=[ub fu,xY fu]) (tbr:=[wa fu]) (ys:=[])
 [(51,0)] mixed (ai.2 ⟨va fu,ai.2 ⟨Bx fu,(by intro c h;cases h)⟩⟩) (ai.2 ⟨Ae fu,(by intro c h;cases h)⟩) (by intro c h;cases h) Try.func49 Try.call49 rfl rfl (by kernel_rfl) rfl (by kernel_rfl) (mvs:=[]) (ns:=[]) (fun q=>by kernel_rfl)
abbrev tZ (fu:Nat):cr S0:=⟨78,[S6],[],false,[(2,.own 5 (.int .i64))],[(5,.aU 2 true true (.int .i64))],fun q=>F.ny fu q⟩
theorem yc (fu:Nat):aP Try.prog (tZ fu):=aP.of (N:=8) (fu:=fu)
 (H:=[])
 (tbl:=[])
 mixed (by intro c h;cases h) Try.func78 Try.call78 rfl rfl (by kernel_rfl) (mvs:=[]) (ns:=[]) (fun q=>by kernel_rfl)
abbrev su (fu:Nat):cr S0:=⟨50,[Td,Tc],[],false,[(4,.own 17 (.list (.int .i64))),(5,S5)],[(17,.deep 104 true true (.dG 2) (.list (.list (.int .i64))))],fun q=>F.gO fu q.1 q.2⟩
theorem ug (fu:Nat):aP Try.prog (su fu):=aP.of (N:=40) (fu:=fu)
 (H:=[(12,.th 17 2),
  (16,.gW ⟨[(20,S5),(6,.own 17 (.list (.int .i64)))],[(17,.deep 104 true true (.dG 2) (.list (.list (.int .i64))))]⟩ 0 ⟨[(6,.own 17 (.list (.int .i64)))],[(17,.deep 104 true true (.dG 2) (.list (.list (.int .i64))))]⟩)])
 (tbl:=[tZ fu])
 mixed (ai.2 ⟨yc fu,(by intro c h;cases h)⟩) Try.func50 Try.call50 rfl rfl (by kernel_rfl) (mvs:=[]) (ns:=[]) (fun q=>by kernel_rfl)
abbrev AJ (fu:Nat):cr S0:=⟨94,[S7],[],false,[(2,S9)],[],fun q=>F.u6 fu q⟩
theorem D8 (fu:Nat):aP Try.prog (AJ fu):=aP.of (N:=6) (fu:=fu)
 (H:=[])
 (tbl:=[])
 mixed (by intro c h;cases h) Try.func94 Try.call94 rfl rfl (by kernel_rfl) (mvs:=[]) (ns:=[]) (fun q=>by kernel_rfl)
abbrev ya (fu:Nat):cr S0:=⟨74,[S7,S7],[],false,[(4,S5)],[],fun q=>F.rC fu q.1 q.2⟩
theorem Bz (fu:Nat):aP Try.prog (ya fu):=aP.of (N:=20) (fu:=fu)
 (H:=[])
 (tbl:=[AJ fu])
 mixed (ai.2 ⟨D8 fu,(by intro c h;cases h)⟩) Try.func74 Try.call74 rfl rfl (by kernel_rfl) (mvs:=[]) (ns:=[]) (fun q=>by kernel_rfl)
abbrev oT (fu:Nat):cr S0:=⟨42,[S6,S6],[],false,[(4,S5)],[],fun q=>F.kY fu q.1 q.2⟩
theorem qt (fu:Nat):aP Try.prog (oT fu):=aP.of (N:=36) (fu:=fu)
 (H:=[(6,.gW ⟨[(11,S5)],[]⟩ 0 ⟨[],[]⟩)])
 (tbl:=[ya fu])
 mixed (ai.2 ⟨Bz fu,(by intro c h;cases h)⟩) Try.func42 Try.call42 rfl rfl (by kernel_rfl) (mvs:=[]) (ns:=[]) (fun q=>by kernel_rfl)
abbrev ss (fu:Nat):cr S0:=⟨52,[.ab false (.st 6),.ab false (.st 6)],[],false,[(4,S5)],[],fun q=>F.jO fu q.1 q.2⟩
theorem ud (fu:Nat):aP Try.prog (ss fu):=aP.of (N:=10) (fu:=fu)
 (H:=[])
 (tbl:=[oT fu])
 mixed (ai.2 ⟨qt fu,(by intro c h;cases h)⟩) Try.func52 Try.call52 rfl rfl (by kernel_rfl) (mvs:=[]) (ns:=[]) (fun q=>by kernel_rfl)
abbrev kP (fu:Nat):cr S0:=⟨95,[.own 1000 (.st 6),S7,S7,.aE 52 []],[.aU 77 false false (.st 6)],false,[],[(1000,.aU 77 false false (.st 6))],fun q=>F.fj fu q.1 q.2.1 q.2.2⟩
theorem oS (fu:Nat):aP Try.prog (kP fu):=aP.of (N:=53) (fu:=fu)
 (H:=[(3,.loop ⟨[(8,S5),(0,.own 1000 (.st 6))],[(1000,.aU 77 false false (.st 6))]⟩ 0 ⟨[],[(1000,.aU 77 false false (.st 6))]⟩),
  (15,.loop ⟨[(9,S5),(0,.own 1000 (.st 6))],[(1000,.aU 77 false false (.st 6))]⟩ 2 ⟨[(0,.own 1000 (.st 6))],[(1000,.aU 77 false false (.st 6))]⟩),
  (18,.fM [] ⟨[(34,S9)],[]⟩),
  (24,.fM [1000] ⟨[(0,.own 1000 (.st 6))],[(1000,.aU 77 false false (.st 6))]⟩)])
 (tbl:=[ss fu])
 mixed (ai.2 ⟨ud fu,(by intro c h;cases h)⟩) Try.func95 Try.call95 rfl rfl (by kernel_rfl) (mvs:=[]) (ns:=[]) (fun q=>by kernel_rfl)
abbrev mH (fu:Nat):cr S0:=⟨100,[.own 1000 (.st 6),S7,S7,S7,.aE 52 []],[.aU 77 false false (.st 6)],false,[],[(1000,.aU 77 false false (.st 6))],fun q=>F.fp fu q.1 q.2.1 q.2.2.1 q.2.2.2⟩
theorem qU (fu:Nat):aP Try.prog (mH fu):=aP.of (N:=38) (fu:=fu)
 (H:=[(3,.loop ⟨[(10,S5),(0,.own 1000 (.st 6))],[(1000,.aU 77 false false (.st 6))]⟩ 0 ⟨[],[(1000,.aU 77 false false (.st 6))]⟩),
  (12,.fM [1000] ⟨[(0,.own 1000 (.st 6))],[(1000,.aU 77 false false (.st 6))]⟩)])
 (tbl:=[])
 mixed (by intro c h;cases h) Try.func100 Try.call100 rfl rfl (by kernel_rfl) (mvs:=[]) (ns:=[]) (fun q=>by kernel_rfl)
abbrev ou (fu:Nat):cr S0:=⟨99,[.own 1000 (.st 6),S7,S7,S7,.aE 52 []],[.aU 77 false false (.st 6)],false,[],[(1000,.aU 77 false false (.st 6))],fun q=>F.gi fu q.1 q.2.1 q.2.2.1 q.2.2.2⟩
theorem sY (fu:Nat):aP Try.prog (ou fu):=aP.of (N:=58) (fu:=fu)
 (H:=[(6,.loop ⟨[(10,S5),(11,S5),(0,.own 1000 (.st 6))],[(1000,.aU 77 false false (.st 6))]⟩ 0 ⟨[(10,S5),(0,.own 1000 (.st 6))],[(1000,.aU 77 false false (.st 6))]⟩),
  (16,.join ⟨[(10,S5),(11,S5),(0,.own 1000 (.st 6))],[(1000,.aU 77 false false (.st 6))]⟩)])
 (tbl:=[mH fu])
 mixed (ai.2 ⟨qU fu,(by intro c h;cases h)⟩) Try.func99 Try.call99 rfl rfl (by kernel_rfl) (mvs:=[]) (ns:=[]) (fun q=>by kernel_rfl)
abbrev j8 (fu:Nat):cr S0:=⟨96,[.own 1000 (.st 6),S7,S7,S7,.aE 52 []],[.aU 77 false false (.st 6)],false,[],[(1000,.aU 77 false false (.st 6))],fun q=>F.cA fu q.1 q.2.1 q.2.2.1 q.2.2.2⟩
theorem ly:∀fu:Nat,aP Try.prog (j8 fu)
 | 0=>⟨Try.call96,fun q r h=>nomatch (show(none:Option _)=some r from h)⟩
 | fu+1=>aP.of (N:=220) (fu:=fu+1)
   (H:=[(10,.loop ⟨[(10,S5),(11,S5)],[]⟩ 0 ⟨[(10,S5)],[]⟩),
    (21,.my []),
    (22,.join ⟨[(10,S5),(11,S5)],[]⟩),
    (29,.loop ⟨[(13,S5),(0,.own 1000 (.st 6))],[(1000,.aU 77 false false (.st 6))]⟩ 2 ⟨[],[(1000,.aU 77 false false (.st 6))]⟩),
    (38,.fM [1000] ⟨[(0,.own 1000 (.st 6))],[(1000,.aU 77 false false (.st 6))]⟩),
    (52,.loop ⟨[(14,S5),(15,S5)],[]⟩ 4 ⟨[(14,S5)],[]⟩),
    (63,.my []),
    (64,.join ⟨[(14,S5),(15,S5)],[]⟩),
    (71,.loop ⟨[(17,S5),(0,.own 1000 (.st 6))],[(1000,.aU 77 false false (.st 6))]⟩ 6 ⟨[],[(1000,.aU 77 false false (.st 6))]⟩),
    (80,.fM [1000] ⟨[(0,.own 1000 (.st 6))],[(1000,.aU 77 false false (.st 6))]⟩),
    (93,.join ⟨[(20,S5),(21,S5)],[]⟩),
    (104,.loop ⟨[(20,S5),(21,S5)],[]⟩ 8 ⟨[(20,S5)],[]⟩),
    (115,.my []),
    (116,.join ⟨[(20,S5),(21,S5)],[]⟩),
    (123,.fM [] ⟨[(185,S9)],[]⟩),
    (124,.join ⟨[(0,.own 1000 (.st 6))],[(1000,.aU 77 false false (.st 6))]⟩),
    (129,.fM [] ⟨[(199,S9)],[]⟩),
    (130,.join ⟨[(0,.own 1000 (.st 6))],[(1000,.aU 77 false false (.st 6))]⟩),
    (134,.fM [] ⟨[(213,S9)],[]⟩),
    (135,.join ⟨[],[(1000,.aU 77 false false (.st 6))]⟩)])
   (tbl:=[ou (fu+1),j8 fu,ss (fu+1)])
   mixed (ai.2 ⟨sY (fu+1),ai.2 ⟨ly fu,ai.2 ⟨ud (fu+1),(by intro c h;cases h)⟩⟩⟩) Try.func96 Try.call96 rfl rfl (by kernel_rfl) (mvs:=[]) (ns:=[]) (fun q=>by kernel_rfl)
abbrev ot (fu:Nat):cr S0:=⟨79,[.own 1000 (.st 6),S7,.aE 52 []],[.aU 77 false false (.st 6)],false,[],[(1000,.aU 77 false false (.st 6))],fun q=>F.lC fu q.1 q.2⟩
theorem sX (fu:Nat):aP Try.prog (ot fu):=aP.of (N:=63) (fu:=fu)
 (H:=[(6,.loop ⟨[(7,S5),(8,S5),(0,.own 1000 (.st 6))],[(1000,.aU 77 false false (.st 6))]⟩ 0 ⟨[(7,S5),(0,.own 1000 (.st 6))],[(1000,.aU 77 false false (.st 6))]⟩),
  (22,.loop ⟨[(6,S5),(0,.own 1000 (.st 6))],[(1000,.aU 77 false false (.st 6))]⟩ 2 ⟨[],[(1000,.aU 77 false false (.st 6))]⟩),
  (34,.loop ⟨[(7,S5),(8,S5),(0,.own 1000 (.st 6))],[(1000,.aU 77 false false (.st 6))]⟩ 4 ⟨[(7,S5),(0,.own 1000 (.st 6))],[(1000,.aU 77 false false (.st 6))]⟩),
  (52,.join ⟨[(0,.own 1000 (.st 6))],[(1000,.aU 77 false false (.st 6))]⟩)])
 (tbl:=[kP fu,j8 fu])
 mixed (ai.2 ⟨oS fu,ai.2 ⟨ly fu,(by intro c h;cases h)⟩⟩) Try.func79 Try.call79 rfl rfl (by kernel_rfl) (mvs:=[]) (ns:=[]) (fun q=>by kernel_rfl)
abbrev nU (fu:Nat):cr S0:=⟨51,[.own 1000 (.st 6),.aE 52 []],[.aU 77 false false (.st 6)],false,[],[(1000,.aU 77 false false (.st 6))],fun q=>F.jn fu q⟩
theorem sn (fu:Nat):aP Try.prog (nU fu):=aP.of (N:=9) (fu:=fu)
 (H:=[])
 (tbl:=[ot fu])
 mixed (ai.2 ⟨sX fu,(by intro c h;cases h)⟩) Try.func51 Try.call51 rfl rfl (by kernel_rfl) (mvs:=[]) (ns:=[]) (fun q=>by kernel_rfl)
abbrev qV (fu:Nat):cr S0:=⟨48,[S6,S6],[],false,[(4,S9)],[],fun q=>F.mR fu q.1 q.2⟩
theorem sy (fu:Nat):aP Try.prog (qV fu):=aP.of (N:=26) (fu:=fu)
 (H:=[(14,.gW ⟨[(13,S5)],[]⟩ 0 ⟨[],[]⟩),
  (26,.my [])])
 (tbl:=[])
 mixed (by intro c h;cases h) Try.func48 Try.call48 rfl rfl (by kernel_rfl) (mvs:=[]) (ns:=[]) (fun q=>by kernel_rfl)
abbrev tY (fu:Nat):cr S0:=⟨55,[.sub 1000 (.st 6)],[.aU 77 false false (.st 6)],false,[(2,.own 5 (.st 6))],[(1000,.aU 77 false false (.st 6)),(5,.aU 77 true false (.st 6))],fun q=>F.nw fu q.1 q.2.1 q.2.2⟩
theorem yb (fu:Nat):aP Try.prog (tY fu):=aP.of (N:=8) (fu:=fu)
 (H:=[])
 (tbl:=[])
 mixed (by intro c h;cases h) Try.func55 Try.call55 rfl rfl (by kernel_rfl) (mvs:=[]) (ns:=[]) (fun q=>by kernel_rfl)
abbrev mo (fu:Nat):cr S0:=⟨81,[.own 1000 (.list (.int .i64)),.ab false (.st 2),S6],[.deep 104 false false (.dG 2) (.list (.list (.int .i64)))],false,[(6,.fB 1000 (.int .i64))],[(1000,.deep 104 false true (.dG 2) (.list (.list (.int .i64))))],fun q=>F.jG fu q.1 q.2.1 q.2.2⟩
theorem ov (fu:Nat):aP Try.prog (mo fu):=aP.of (N:=31) (fu:=fu)
 (H:=[(6,.fM [] ⟨[(23,S9)],[]⟩)])
 (tbl:=[rD fu])
 mixed (ai.2 ⟨qY fu,(by intro c h;cases h)⟩) Try.func81 Try.call81 rfl rfl (by kernel_rfl) (mvs:=[]) (ns:=[]) (fun q=>by kernel_rfl)
abbrev sK (fu:Nat):cr S0:=⟨80,[.own 1000 (.list (.int .i64)),.ab false (.st 2),S6],[.deep 104 false false (.dG 2) (.list (.list (.int .i64)))],false,[(6,S5)],[(1000,.deep 104 false true (.dG 2) (.list (.list (.int .i64))))],fun q=>F.kK fu q.1 q.2.1 q.2.2⟩
theorem xG (fu:Nat):aP Try.prog (sK fu):=aP.of (N:=17) (fu:=fu)
 (H:=[])
 (tbl:=[mo fu])
 mixed (ai.2 ⟨ov fu,(by intro c h;cases h)⟩) Try.func80 Try.call80 rfl rfl (by kernel_rfl) (mvs:=[]) (ns:=[]) (fun q=>by kernel_rfl)
abbrev oV (fu:Nat):cr S0:=⟨56,[.own 1000 (.list (.int .i64)),.ab false (.st 3),S6],[.deep 104 false false (.dG 2) (.list (.list (.int .i64)))],false,[],[(1000,.deep 104 false true (.dG 2) (.list (.list (.int .i64))))],fun q=>F.ld fu q.1 q.2.1 q.2.2⟩
theorem qu (fu:Nat):aP Try.prog (oV fu):=aP.of (N:=144) (fu:=fu)
 (H:=[(8,.loop ⟨[(14,S5),(6,.own 10 (.int .i64)),(0,.own 1000 (.list (.int .i64)))],[(1000,.deep 104 false true (.dG 2) (.list (.list (.int .i64)))),(10,.aU 2 true true (.int .i64))]⟩ 0 ⟨[(6,.own 10 (.int .i64)),(0,.own 1000 (.list (.int .i64)))],[(1000,.deep 104 false true (.dG 2) (.list (.list (.int .i64)))),(10,.aU 2 true true (.int .i64))]⟩),
  (34,.join ⟨[],[(1000,.deep 104 false true (.dG 2) (.list (.list (.int .i64))))]⟩),
  (38,.join ⟨[],[(1000,.deep 104 false true (.dG 2) (.list (.list (.int .i64))))]⟩),
  (42,.join ⟨[],[(1000,.deep 104 false true (.dG 2) (.list (.list (.int .i64))))]⟩),
  (43,.my [1000]),
  (46,.join ⟨[],[(1000,.deep 104 false true (.dG 2) (.list (.list (.int .i64))))]⟩),
  (47,.my [1000]),
  (50,.join ⟨[],[(1000,.deep 104 false true (.dG 2) (.list (.list (.int .i64))))]⟩),
  (51,.my [1000]),
  (54,.join ⟨[],[(1000,.deep 104 false true (.dG 2) (.list (.list (.int .i64))))]⟩),
  (55,.my [1000]),
  (58,.join ⟨[],[(1000,.deep 104 false true (.dG 2) (.list (.list (.int .i64))))]⟩),
  (62,.my []),
  (63,.join ⟨[],[(1000,.deep 104 false true (.dG 2) (.list (.list (.int .i64))))]⟩),
  (68,.join ⟨[],[(1000,.deep 104 false true (.dG 2) (.list (.list (.int .i64))))]⟩),
  (73,.join ⟨[],[(1000,.deep 104 false true (.dG 2) (.list (.list (.int .i64))))]⟩),
  (78,.join ⟨[],[(1000,.deep 104 false true (.dG 2) (.list (.list (.int .i64))))]⟩),
  (79,.my [1000]),
  (80,.my [1000])])
 (tbl:=[sK fu,mo fu])
 mixed (ai.2 ⟨xG fu,ai.2 ⟨ov fu,(by intro c h;cases h)⟩⟩) Try.func56 Try.call56 rfl rfl (by kernel_rfl) (mvs:=[]) (ns:=[]) (fun q=>by kernel_rfl)
abbrev sC (fu:Nat):cr S0:=⟨57,[.sub 1000 (.st 6),S7,S7],[.aU 77 false false (.st 6)],false,[(6,.sub 1000 (.st 6))],[(1000,.aU 77 false false (.st 6))],fun q=>F.mw fu q.1 q.2.1 q.2.2.1 q.2.2.2.1 q.2.2.2.2⟩
theorem xB (fu:Nat):aP Try.prog (sC fu):=aP.of (N:=33) (fu:=fu)
 (H:=[(15,.my [1000])])
 (tbl:=[])
 mixed (by intro c h;cases h) Try.func57 Try.call57 rfl rfl (by kernel_rfl) (mvs:=[]) (ns:=[]) (fun q=>by kernel_rfl)
abbrev vd (fu:Nat):cr S0:=⟨54,[.ab false (.st 6),.loc 1000 0],[.box 83 false [.sub 1001 (.st 6)],.aU 77 false false (.st 6)],false,[(3,S9)],[(1000,.box 83 false [.sub 1001 (.st 6)]),(1001,.aU 77 false false (.st 6))],fun q=>F.oA fu q.1 q.2.1 q.2.2.1 q.2.2.2⟩
theorem zm (fu:Nat):aP Try.prog (vd fu):=aP.of (N:=12) (fu:=fu)
 (H:=[(3,.my [])])
 (tbl:=[qV fu])
 mixed (ai.2 ⟨sy fu,(by intro c h;cases h)⟩) Try.func54 Try.call54 rfl rfl (by kernel_rfl) (mvs:=[]) (ns:=[]) (fun q=>by kernel_rfl)
abbrev p9 (fu:Nat):cr S0:=⟨53,[.sub 1000 (.st 6),.aE 54 [.loc 1001 0]],[.aU 77 false false (.st 6),.box 83 false [.sub 1000 (.st 6)]],false,[(4,S5)],[(1000,.aU 77 false false (.st 6)),(1001,.box 83 false [.sub 1000 (.st 6)])],fun q=>F.kD fu q.1 q.2.1 q.2.2.1 q.2.2.2.1 q.2.2.2.2⟩
theorem uu (fu:Nat):aP Try.prog (p9 fu):=aP.of (N:=19) (fu:=fu)
 (H:=[(6,.gW ⟨[(8,S5),(0,.sub 1000 (.st 6))],[(1001,.box 83 false [.sub 1000 (.st 6)]),(1000,.aU 77 false false (.st 6))]⟩ 0 ⟨[],[(1001,.box 83 false [.sub 1000 (.st 6)]),(1000,.aU 77 false false (.st 6))]⟩)])
 (tbl:=[vd fu])
 mixed (ai.2 ⟨zm fu,(by intro c h;cases h)⟩) Try.func53 Try.call53 rfl rfl (by kernel_rfl) (mvs:=[]) (ns:=[]) (fun q=>by kernel_rfl)
abbrev vr (fu:Nat):cr S0:=⟨24,[Td,Ta,Tc,S6],[],false,[(8,Tc),(9,S5)],[],fun q=>F.jP fu q.1 q.2.1 q.2.2.1 q.2.2.2⟩
theorem we (fu:Nat):aP Try.prog (vr fu):=aP.of (N:=102) (fu:=fu)
 (H:=[(28,.loop ⟨[(13,S5),(12,.own 29 (.list (.int .i64)))],[(20,.aU 77 true false (.st 6)),(29,.deep 104 true true (.dG 2) (.list (.list (.int .i64)))),(10,.box 83 true [.sub 20 (.st 6)])]⟩ 0 ⟨[(12,.own 29 (.list (.int .i64)))],[(20,.aU 77 true false (.st 6)),(29,.deep 104 true true (.dG 2) (.list (.list (.int .i64)))),(10,.box 83 true [.sub 20 (.st 6)])]⟩),
  (41,.join ⟨[(14,S5)],[]⟩),
  (48,.loop ⟨[(13,S5),(15,.sub 50 (.st 6)),(12,.own 29 (.list (.int .i64)))],[(29,.deep 104 true true (.dG 2) (.list (.list (.int .i64)))),(50,.aU 77 true false (.st 6))]⟩ 2 ⟨[(13,S5),(12,.own 29 (.list (.int .i64)))],[(29,.deep 104 true true (.dG 2) (.list (.list (.int .i64)))),(50,.aU 77 true false (.st 6))]⟩),
  (61,.join ⟨[(16,S5),(13,S5)],[]⟩),
  (67,.my [29])])
 (tbl:=[oE fu,su fu,nU fu,p9 fu,tY fu,oV fu,sC fu])
 mixed (ai.2 ⟨oU fu,ai.2 ⟨ug fu,ai.2 ⟨sn fu,ai.2 ⟨uu fu,ai.2 ⟨yb fu,ai.2 ⟨qu fu,ai.2 ⟨xB fu,(by intro c h;cases h)⟩⟩⟩⟩⟩⟩⟩) Try.func24 Try.call24 rfl rfl (by kernel_rfl) (mvs:=[]) (ns:=[]) (fun q=>by kernel_rfl)
abbrev qh (fu:Nat):cr S0:=⟨27,[],[],false,[(0,S9)],[],fun q=>F.jl fu⟩
theorem uw (fu:Nat):aP Try.prog (qh fu):=aP.of (N:=36) (fu:=fu)
 (H:=[(5,.fM [] ⟨[(0,S9)],[]⟩)])
 (tbl:=[vr fu])
 mixed (ai.2 ⟨we fu,(by intro c h;cases h)⟩) Try.func27 Try.call27 rfl rfl (by kernel_rfl) (mvs:=[]) (ns:=[]) (fun q=>by kernel_rfl)
abbrev qZ (fu:Nat):cr S0:=⟨92,[Td,.ab false (.st 2),S6],[],false,[(6,.ab true (.st 7)),(7,S9)],[],fun q=>F.mT fu q.1 q.2.1 q.2.2⟩
theorem sJ (fu:Nat):aP Try.prog (qZ fu):=aP.of (N:=29) (fu:=fu)
 (H:=[(5,.fM [6] ⟨[(7,S9)],[(6,.box 132 true [S5,S5])]⟩)])
 (tbl:=[rD fu])
 mixed (ai.2 ⟨qY fu,(by intro c h;cases h)⟩) Try.func92 Try.call92 rfl rfl (by kernel_rfl) (mvs:=[]) (ns:=[]) (fun q=>by kernel_rfl)
abbrev qg (fu:Nat):cr S0:=⟨91,[.ab false (.st 7),.loc 1000 0],[.box 114 false [.mp 1001],.deep 0 false false (.map .i64 3 136) .map],false,[(3,.fB 1001 (.list (.int .i64)))],[(1000,.box 114 false [.mp 1001]),(1001,.deep 0 false true (.map .i64 3 136) .map)],fun q=>F.bY fu q.1 q.2⟩
theorem rY (fu:Nat):aP Try.prog (qg fu):=aP.of (N:=20) (fu:=fu)
 (H:=[(7,.join ⟨[(4,.fB 1001 (.list (.int .i64)))],[(1001,.deep 0 false true (.map .i64 3 136) .map)]⟩)])
 (tbl:=[])
 mixed (by intro c h;cases h) Try.func91 Try.call91 rfl rfl (by kernel_rfl) (mvs:=[]) (ns:=[]) (fun q=>by kernel_rfl)
abbrev ve (fu:Nat):cr S0:=⟨41,[.ab false (.st 6),.ab false (.st 6)],[],false,[(4,S9)],[],fun q=>F.gU fu q.1 q.2⟩
theorem zn (fu:Nat):aP Try.prog (ve fu):=aP.of (N:=11) (fu:=fu)
 (H:=[])
 (tbl:=[oT fu])
 mixed (ai.2 ⟨qt fu,(by intro c h;cases h)⟩) Try.func41 Try.call41 rfl rfl (by kernel_rfl) (mvs:=[]) (ns:=[]) (fun q=>by kernel_rfl)
abbrev nq (fu:Nat):cr S0:=⟨73,[S7,.loc 1000 0,.loc 1001 0,.loc 1002 0,.loc 1003 0],[.box 3 false [S7],.box 79 false [.aE 41 []],.box 83 false [S8],.box 77 false [S7,S6,S7,S6]],false,[],[(1000,.box 3 false [S5]),(1001,.box 79 false [.aE 41 []]),(1002,.box 83 false [S8]),(1003,.box 77 false [S5,S6,S5,S6])],fun q=>F.A6 fu q.1 q.2.1 q.2.2.1 q.2.2.2.1 q.2.2.2.2.1 q.2.2.2.2.2.1 q.2.2.2.2.2.2⟩
theorem pt (fu:Nat):aP Try.prog (nq fu):=aP.of (N:=23) (fu:=fu)
 (H:=[(1,.fM [] ⟨[(21,S9)],[]⟩),
  (2,.join ⟨[],[(1000,.box 3 false [S5])]⟩)])
 (tbl:=[ve fu])
 mixed (ai.2 ⟨zn fu,(by intro c h;cases h)⟩) Try.func73 Try.call73 rfl rfl (by kernel_rfl) (mvs:=[]) (ns:=[]) (fun q=>by kernel_rfl)
abbrev sI (fu:Nat):cr S0:=⟨93,[.sub 1000 (.list (.int .i64)),.loc 1001 0],[.box 22 false [.ks 1002 (.int .i64),.ks 1002 (.int .i64)],.box 116 false [.aE 73 [.loc 1003 0,.loc 1004 0,.loc 1005 0,.loc 1006 0]],.deep 0 false false (.map .i64 3 136) .map,.box 3 false [S7],.box 79 false [.aE 41 []],.box 83 false [S8],.box 77 false [S7,S6,S7,S6]],false,[],[(1000,.box 22 false [.any,.any]),(1001,.box 116 false [.aE 73 [.loc 1003 0,.loc 1004 0,.loc 1005 0,.loc 1006 0]]),(1002,.deep 0 false true (.map .i64 3 136) .map),(1003,.box 3 false [S5]),(1004,.box 79 false [.aE 41 []]),(1005,.box 83 false [S8]),(1006,.box 77 false [S5,S6,S5,S6])],fun q=>F.Cn fu q.1 q.2.1 q.2.2.1 q.2.2.2.1 q.2.2.2.2.1 q.2.2.2.2.2.1 q.2.2.2.2.2.2.1 q.2.2.2.2.2.2.2.1 q.2.2.2.2.2.2.2.2.1 q.2.2.2.2.2.2.2.2.2.1 q.2.2.2.2.2.2.2.2.2.2.1 q.2.2.2.2.2.2.2.2.2.2.2.1 q.2.2.2.2.2.2.2.2.2.2.2.2⟩
theorem xF (fu:Nat):aP Try.prog (sI fu):=aP.of (N:=24) (fu:=fu)
 (H:=[(3,.loop ⟨[(9,S5)],[(1003,.box 3 false [S5]),(1004,.box 79 false [.aE 41 []]),(1005,.box 83 false [S8]),(1006,.box 77 false [S5,S6,S5,S6])]⟩ 0 ⟨[],[(1003,.box 3 false [S5]),(1004,.box 79 false [.aE 41 []]),(1005,.box 83 false [S8]),(1006,.box 77 false [S5,S6,S5,S6])]⟩),
  (17,.loop ⟨[(15,S5)],[(1003,.box 3 false [S5]),(1004,.box 79 false [.aE 41 []]),(1005,.box 83 false [S8]),(1006,.box 77 false [S5,S6,S5,S6])]⟩ 2 ⟨[],[(1003,.box 3 false [S5]),(1004,.box 79 false [.aE 41 []]),(1005,.box 83 false [S8]),(1006,.box 77 false [S5,S6,S5,S6])]⟩)])
 (tbl:=[nq fu])
 mixed (ai.2 ⟨pt fu,(by intro c h;cases h)⟩) Try.func93 Try.call93 rfl rfl (by kernel_rfl) (mvs:=[]) (ns:=[]) (fun q=>by kernel_rfl)
abbrev sH (fu:Nat):cr S0:=⟨93,[.sub 1000 (.list (.int .i64)),.loc 1001 0],[.box 22 false [.ks 1002 (.int .i64)],.box 116 false [.aE 73 [.loc 1003 0,.loc 1004 0,.loc 1005 0,.loc 1006 0]],.deep 0 false false (.map .i64 3 136) .map,.box 3 false [S7],.box 79 false [.aE 41 []],.box 83 false [S8],.box 77 false [S7,S6,S7,S6]],false,[],[(1000,.box 22 false [.any]),(1001,.box 116 false [.aE 73 [.loc 1003 0,.loc 1004 0,.loc 1005 0,.loc 1006 0]]),(1002,.deep 0 false true (.map .i64 3 136) .map),(1003,.box 3 false [S5]),(1004,.box 79 false [.aE 41 []]),(1005,.box 83 false [S8]),(1006,.box 77 false [S5,S6,S5,S6])],fun q=>F.Cm fu q.1 q.2.1 q.2.2.1 q.2.2.2.1 q.2.2.2.2.1 q.2.2.2.2.2.1 q.2.2.2.2.2.2.1 q.2.2.2.2.2.2.2.1 q.2.2.2.2.2.2.2.2.1 q.2.2.2.2.2.2.2.2.2.1 q.2.2.2.2.2.2.2.2.2.2⟩
theorem xE (fu:Nat):aP Try.prog (sH fu):=aP.of (N:=24) (fu:=fu)
 (H:=[(3,.loop ⟨[(9,S5)],[(1003,.box 3 false [S5]),(1004,.box 79 false [.aE 41 []]),(1005,.box 83 false [S8]),(1006,.box 77 false [S5,S6,S5,S6])]⟩ 0 ⟨[],[(1003,.box 3 false [S5]),(1004,.box 79 false [.aE 41 []]),(1005,.box 83 false [S8]),(1006,.box 77 false [S5,S6,S5,S6])]⟩),
  (17,.loop ⟨[(15,S5)],[(1003,.box 3 false [S5]),(1004,.box 79 false [.aE 41 []]),(1005,.box 83 false [S8]),(1006,.box 77 false [S5,S6,S5,S6])]⟩ 2 ⟨[],[(1003,.box 3 false [S5]),(1004,.box 79 false [.aE 41 []]),(1005,.box 83 false [S8]),(1006,.box 77 false [S5,S6,S5,S6])]⟩)])
 (tbl:=[nq fu])
 mixed (ai.2 ⟨pt fu,(by intro c h;cases h)⟩) Try.func93 Try.call93 rfl rfl (by kernel_rfl) (mvs:=[]) (ns:=[]) (fun q=>by kernel_rfl)
abbrev vc (fu:Nat):cr S0:=⟨72,[Td,.mp 1000,.ab false (.st 6),.aE 73 [.loc 1001 0,.loc 1002 0,.loc 1003 0,.loc 1004 0]],[.deep 0 false false (.map .i64 3 136) .map,.box 3 false [S7],.box 79 false [.aE 41 []],.box 83 false [S8],.box 77 false [S7,S6,S7,S6]],false,[],[(1000,.deep 0 false true (.map .i64 3 136) .map),(1001,.box 3 false [S5]),(1002,.box 79 false [.aE 41 []]),(1003,.box 83 false [S8]),(1004,.box 77 false [S5,S6,S5,S6])],fun q=>F.Fg fu q.1 q.2.1 q.2.2.1 q.2.2.2.1 q.2.2.2.2.1 q.2.2.2.2.2.1 q.2.2.2.2.2.2.1 q.2.2.2.2.2.2.2.1 q.2.2.2.2.2.2.2.2⟩
theorem zl (fu:Nat):aP Try.prog (vc fu):=aP.of (N:=170) (fu:=fu)
 (H:=[(9,.fM [] ⟨[(12,S9)],[]⟩),
  (15,.join ⟨[],[(1000,.deep 0 false true (.map .i64 3 136) .map),(1001,.box 3 false [S5]),(1003,.box 83 false [S8]),(1004,.box 77 false [S5,S6,S5,S6]),(5,.box 114 true [.mp 1000]),(7,.box 116 true [.aE 73 [.loc 1001 0,.loc 1002 0,.loc 1003 0,.loc 1004 0]]),(1002,.box 79 false [.aE 41 []])]⟩),
  (19,.fM [62,7,1000,1001,1002,1003,1004] ⟨[],[(1000,.deep 0 false true (.map .i64 3 136) .map),(1001,.box 3 false [S5]),(1003,.box 83 false [S8]),(1004,.box 77 false [S5,S6,S5,S6]),(7,.box 116 true [.aE 73 [.loc 1001 0,.loc 1002 0,.loc 1003 0,.loc 1004 0]]),(1002,.box 79 false [.aE 41 []])]⟩),
  (22,.join ⟨[],[(1000,.deep 0 false true (.map .i64 3 136) .map),(1001,.box 3 false [S5]),(1003,.box 83 false [S8]),(1004,.box 77 false [S5,S6,S5,S6]),(7,.box 116 true [.aE 73 [.loc 1001 0,.loc 1002 0,.loc 1003 0,.loc 1004 0]]),(1002,.box 79 false [.aE 41 []])]⟩),
  (32,.loop ⟨[(15,.own 15 (.st 7)),(76,S5)],[(5,.box 114 true [.mp 1000]),(1000,.deep 0 false true (.map .i64 3 136) .map),(7,.box 116 true [.aE 73 [.loc 1001 0,.loc 1002 0,.loc 1003 0,.loc 1004 0]]),(1001,.box 3 false [S5]),(1002,.box 79 false [.aE 41 []]),(1003,.box 83 false [S8]),(1004,.box 77 false [S5,S6,S5,S6]),(15,.aU 132 true true (.st 7))]⟩ 0 ⟨[(15,.own 15 (.st 7))],[(5,.box 114 true [.mp 1000]),(1000,.deep 0 false true (.map .i64 3 136) .map),(7,.box 116 true [.aE 73 [.loc 1001 0,.loc 1002 0,.loc 1003 0,.loc 1004 0]]),(1001,.box 3 false [S5]),(1002,.box 79 false [.aE 41 []]),(1003,.box 83 false [S8]),(1004,.box 77 false [S5,S6,S5,S6]),(15,.aU 132 true true (.st 7))]⟩),
  (46,.fM [] ⟨[(92,S9)],[]⟩),
  (47,.join ⟨[(15,.own 15 (.st 7))],[(1000,.deep 0 false true (.map .i64 3 136) .map),(1001,.box 3 false [S5]),(1003,.box 83 false [S8]),(1004,.box 77 false [S5,S6,S5,S6]),(15,.aU 132 true true (.st 7)),(5,.box 114 true [.mp 1000]),(7,.box 116 true [.aE 73 [.loc 1001 0,.loc 1002 0,.loc 1003 0,.loc 1004 0]]),(1002,.box 79 false [.aE 41 []])]⟩),
  (49,.fM [5,1000,106,7,1001,1002,1003,1004] ⟨[],[(1000,.deep 0 false true (.map .i64 3 136) .map),(1001,.box 3 false [S5]),(1003,.box 83 false [S8]),(1004,.box 77 false [S5,S6,S5,S6]),(5,.box 114 true [.mp 1000]),(7,.box 116 true [.aE 73 [.loc 1001 0,.loc 1002 0,.loc 1003 0,.loc 1004 0]]),(1002,.box 79 false [.aE 41 []])]⟩),
  (55,.fM [] ⟨[(116,S9)],[]⟩),
  (56,.join ⟨[],[(1000,.deep 0 false true (.map .i64 3 136) .map),(5,.box 114 true [.mp 1000])]⟩),
  (57,.fM [5,1000] ⟨[],[(1000,.deep 0 false true (.map .i64 3 136) .map),(5,.box 114 true [.mp 1000])]⟩),
  (60,.join ⟨[],[(1000,.deep 0 false true (.map .i64 3 136) .map),(5,.box 114 true [.mp 1000])]⟩),
  (61,.fM [5,1000] ⟨[],[(1000,.deep 0 false true (.map .i64 3 136) .map),(5,.box 114 true [.mp 1000])]⟩),
  (66,.loop ⟨[(150,S5)],[(5,.box 114 true [.mp 1000]),(1000,.deep 0 false true (.map .i64 3 136) .map)]⟩ 2 ⟨[],[(5,.box 114 true [.mp 1000]),(1000,.deep 0 false true (.map .i64 3 136) .map)]⟩),
  (77,.fM [5,1000] ⟨[],[(1000,.deep 0 false true (.map .i64 3 136) .map),(5,.box 114 true [.mp 1000])]⟩)])
 (tbl:=[qg fu,sI fu,sH fu,qZ fu])
 mixed (ai.2 ⟨rY fu,ai.2 ⟨xF fu,ai.2 ⟨xE fu,ai.2 ⟨sJ fu,(by intro c h;cases h)⟩⟩⟩⟩) Try.func72 Try.call72 rfl rfl (by kernel_rfl) (mvs:=[]) (ns:=[]) (fun q=>by kernel_rfl)
abbrev wc (fu:Nat):cr S0:=⟨40,[Td,Ta,.aE 41 []],[],false,[(6,.ab false (.st 8)),(7,S5)],[],fun q=>F.tI fu q.1 q.2⟩
theorem Af (fu:Nat):aP Try.prog (wc fu):=aP.of (N:=48) (fu:=fu)
 (H:=[(13,.fz [17]),
  (18,.gW ⟨[(27,S5)],[(24,.deep 0 true true (.map .i64 3 136) .map),(5,.box 79 true [.aE 41 []]),(8,.box 83 true [S8]),(6,.box 42 true [S9,S5,Te,S5,Te])]⟩ 0 ⟨[],[(24,.deep 0 true true (.map .i64 3 136) .map),(5,.box 79 true [.aE 41 []]),(8,.box 83 true [S8]),(6,.box 42 true [S9,S5,Te,S5,Te])]⟩),
  (37,.my [6])])
 (tbl:=[oE fu,vc fu])
 mixed (ai.2 ⟨oU fu,ai.2 ⟨zl fu,(by intro c h;cases h)⟩⟩) Try.func40 Try.call40 rfl rfl (by kernel_rfl) (mvs:=[]) (ns:=[]) (fun q=>by kernel_rfl)
abbrev xZ (fu:Nat):cr S0:=⟨17,[Td,Ta],[],false,[(4,.ab false (.st 8)),(5,S5)],[],fun q=>F.rq fu q.1 q.2⟩
theorem By (fu:Nat):aP Try.prog (xZ fu):=aP.of (N:=11) (fu:=fu)
 (H:=[])
 (tbl:=[wc fu])
 mixed (ai.2 ⟨Af fu,(by intro c h;cases h)⟩) Try.func17 Try.call17 rfl rfl (by kernel_rfl) (mvs:=[]) (ns:=[]) (fun q=>by kernel_rfl)
abbrev wg (fu:Nat):cr S0:=⟨47,[.ab false (.st 6),.ab false (.st 6)],[],false,[(4,S9)],[],fun q=>F.iC fu q.1 q.2⟩
theorem Ag (fu:Nat):aP Try.prog (wg fu):=aP.of (N:=10) (fu:=fu)
 (H:=[])
 (tbl:=[qV fu])
 mixed (ai.2 ⟨sy fu,(by intro c h;cases h)⟩) Try.func47 Try.call47 rfl rfl (by kernel_rfl) (mvs:=[]) (ns:=[]) (fun q=>by kernel_rfl)
abbrev np (fu:Nat):cr S0:=⟨73,[S7,.loc 1000 0,.loc 1001 0,.loc 1002 0,.loc 1003 0],[.box 3 false [S7],.box 79 false [.aE 47 []],.box 83 false [S8],.box 77 false [S7,S6,S7,S6]],false,[],[(1000,.box 3 false [S5]),(1001,.box 79 false [.aE 47 []]),(1002,.box 83 false [S8]),(1003,.box 77 false [S5,S6,S5,S6])],fun q=>F.A5 fu q.1 q.2.1 q.2.2.1 q.2.2.2.1 q.2.2.2.2.1 q.2.2.2.2.2.1 q.2.2.2.2.2.2⟩
theorem pp (fu:Nat):aP Try.prog (np fu):=aP.of (N:=23) (fu:=fu)
 (H:=[(1,.fM [] ⟨[(21,S9)],[]⟩),
  (2,.join ⟨[],[(1000,.box 3 false [S5])]⟩)])
 (tbl:=[wg fu])
 mixed (ai.2 ⟨Ag fu,(by intro c h;cases h)⟩) Try.func73 Try.call73 rfl rfl (by kernel_rfl) (mvs:=[]) (ns:=[]) (fun q=>by kernel_rfl)
abbrev sG (fu:Nat):cr S0:=⟨93,[.sub 1000 (.list (.int .i64)),.loc 1001 0],[.box 22 false [.ks 1002 (.int .i64),.ks 1002 (.int .i64)],.box 116 false [.aE 73 [.loc 1003 0,.loc 1004 0,.loc 1005 0,.loc 1006 0]],.deep 0 false false (.map .i64 3 136) .map,.box 3 false [S7],.box 79 false [.aE 47 []],.box 83 false [S8],.box 77 false [S7,S6,S7,S6]],false,[],[(1000,.box 22 false [.any,.any]),(1001,.box 116 false [.aE 73 [.loc 1003 0,.loc 1004 0,.loc 1005 0,.loc 1006 0]]),(1002,.deep 0 false true (.map .i64 3 136) .map),(1003,.box 3 false [S5]),(1004,.box 79 false [.aE 47 []]),(1005,.box 83 false [S8]),(1006,.box 77 false [S5,S6,S5,S6])],fun q=>F.Ck fu q.1 q.2.1 q.2.2.1 q.2.2.2.1 q.2.2.2.2.1 q.2.2.2.2.2.1 q.2.2.2.2.2.2.1 q.2.2.2.2.2.2.2.1 q.2.2.2.2.2.2.2.2.1 q.2.2.2.2.2.2.2.2.2.1 q.2.2.2.2.2.2.2.2.2.2.1 q.2.2.2.2.2.2.2.2.2.2.2.1 q.2.2.2.2.2.2.2.2.2.2.2.2⟩
theorem xD (fu:Nat):aP Try.prog (sG fu):=aP.of (N:=24) (fu:=fu)
 (H:=[(3,.loop ⟨[(9,S5)],[(1003,.box 3 false [S5]),(1004,.box 79 false [.aE 47 []]),(1005,.box 83 false [S8]),(1006,.box 77 false [S5,S6,S5,S6])]⟩ 0 ⟨[],[(1003,.box 3 false [S5]),(1004,.box 79 false [.aE 47 []]),(1005,.box 83 false [S8]),(1006,.box 77 false [S5,S6,S5,S6])]⟩),
  (17,.loop ⟨[(15,S5)],[(1003,.box 3 false [S5]),(1004,.box 79 false [.aE 47 []]),(1005,.box 83 false [S8]),(1006,.box 77 false [S5,S6,S5,S6])]⟩ 2 ⟨[],[(1003,.box 3 false [S5]),(1004,.box 79 false [.aE 47 []]),(1005,.box 83 false [S8]),(1006,.box 77 false [S5,S6,S5,S6])]⟩)])
 (tbl:=[np fu])
 mixed (ai.2 ⟨pp fu,(by intro c h;cases h)⟩) Try.func93 Try.call93 rfl rfl (by kernel_rfl) (mvs:=[]) (ns:=[]) (fun q=>by kernel_rfl)
abbrev sF (fu:Nat):cr S0:=⟨93,[.sub 1000 (.list (.int .i64)),.loc 1001 0],[.box 22 false [.ks 1002 (.int .i64)],.box 116 false [.aE 73 [.loc 1003 0,.loc 1004 0,.loc 1005 0,.loc 1006 0]],.deep 0 false false (.map .i64 3 136) .map,.box 3 false [S7],.box 79 false [.aE 47 []],.box 83 false [S8],.box 77 false [S7,S6,S7,S6]],false,[],[(1000,.box 22 false [.any]),(1001,.box 116 false [.aE 73 [.loc 1003 0,.loc 1004 0,.loc 1005 0,.loc 1006 0]]),(1002,.deep 0 false true (.map .i64 3 136) .map),(1003,.box 3 false [S5]),(1004,.box 79 false [.aE 47 []]),(1005,.box 83 false [S8]),(1006,.box 77 false [S5,S6,S5,S6])],fun q=>F.Cj fu q.1 q.2.1 q.2.2.1 q.2.2.2.1 q.2.2.2.2.1 q.2.2.2.2.2.1 q.2.2.2.2.2.2.1 q.2.2.2.2.2.2.2.1 q.2.2.2.2.2.2.2.2.1 q.2.2.2.2.2.2.2.2.2.1 q.2.2.2.2.2.2.2.2.2.2⟩
theorem xC (fu:Nat):aP Try.prog (sF fu):=aP.of (N:=24) (fu:=fu)
 (H:=[(3,.loop ⟨[(9,S5)],[(1003,.box 3 false [S5]),(1004,.box 79 false [.aE 47 []]),(1005,.box 83 false [S8]),(1006,.box 77 false [S5,S6,S5,S6])]⟩ 0 ⟨[],[(1003,.box 3 false [S5]),(1004,.box 79 false [.aE 47 []]),(1005,.box 83 false [S8]),(1006,.box 77 false [S5,S6,S5,S6])]⟩),
  (17,.loop ⟨[(15,S5)],[(1003,.box 3 false [S5]),(1004,.box 79 false [.aE 47 []]),(1005,.box 83 false [S8]),(1006,.box 77 false [S5,S6,S5,S6])]⟩ 2 ⟨[],[(1003,.box 3 false [S5]),(1004,.box 79 false [.aE 47 []]),(1005,.box 83 false [S8]),(1006,.box 77 false [S5,S6,S5,S6])]⟩)])
 (tbl:=[np fu])
 mixed (ai.2 ⟨pp fu,(by intro c h;cases h)⟩) Try.func93 Try.call93 rfl rfl (by kernel_rfl) (mvs:=[]) (ns:=[]) (fun q=>by kernel_rfl)
abbrev vb (fu:Nat):cr S0:=⟨72,[Td,.mp 1000,.ab false (.st 6),.aE 73 [.loc 1001 0,.loc 1002 0,.loc 1003 0,.loc 1004 0]],[.deep 0 false false (.map .i64 3 136) .map,.box 3 false [S7],.box 79 false [.aE 47 []],.box 83 false [S8],.box 77 false [S7,S6,S7,S6]],false,[],[(1000,.deep 0 false true (.map .i64 3 136) .map),(1001,.box 3 false [S5]),(1002,.box 79 false [.aE 47 []]),(1003,.box 83 false [S8]),(1004,.box 77 false [S5,S6,S5,S6])],fun q=>F.Ff fu q.1 q.2.1 q.2.2.1 q.2.2.2.1 q.2.2.2.2.1 q.2.2.2.2.2.1 q.2.2.2.2.2.2.1 q.2.2.2.2.2.2.2.1 q.2.2.2.2.2.2.2.2⟩
theorem zk (fu:Nat):aP Try.prog (vb fu):=aP.of (N:=170) (fu:=fu)
 (H:=[(9,.fM [] ⟨[(12,S9)],[]⟩),
  (15,.join ⟨[],[(1000,.deep 0 false true (.map .i64 3 136) .map),(1001,.box 3 false [S5]),(1003,.box 83 false [S8]),(1004,.box 77 false [S5,S6,S5,S6]),(5,.box 114 true [.mp 1000]),(7,.box 116 true [.aE 73 [.loc 1001 0,.loc 1002 0,.loc 1003 0,.loc 1004 0]]),(1002,.box 79 false [.aE 47 []])]⟩),
  (19,.fM [62,7,1000,1001,1002,1003,1004] ⟨[],[(1000,.deep 0 false true (.map .i64 3 136) .map),(1001,.box 3 false [S5]),(1003,.box 83 false [S8]),(1004,.box 77 false [S5,S6,S5,S6]),(7,.box 116 true [.aE 73 [.loc 1001 0,.loc 1002 0,.loc 1003 0,.loc 1004 0]]),(1002,.box 79 false [.aE 47 []])]⟩),
  (22,.join ⟨[],[(1000,.deep 0 false true (.map .i64 3 136) .map),(1001,.box 3 false [S5]),(1003,.box 83 false [S8]),(1004,.box 77 false [S5,S6,S5,S6]),(7,.box 116 true [.aE 73 [.loc 1001 0,.loc 1002 0,.loc 1003 0,.loc 1004 0]]),(1002,.box 79 false [.aE 47 []])]⟩),
  (32,.loop ⟨[(15,.own 15 (.st 7)),(76,S5)],[(5,.box 114 true [.mp 1000]),(1000,.deep 0 false true (.map .i64 3 136) .map),(7,.box 116 true [.aE 73 [.loc 1001 0,.loc 1002 0,.loc 1003 0,.loc 1004 0]]),(1001,.box 3 false [S5]),(1002,.box 79 false [.aE 47 []]),(1003,.box 83 false [S8]),(1004,.box 77 false [S5,S6,S5,S6]),(15,.aU 132 true true (.st 7))]⟩ 0 ⟨[(15,.own 15 (.st 7))],[(5,.box 114 true [.mp 1000]),(1000,.deep 0 false true (.map .i64 3 136) .map),(7,.box 116 true [.aE 73 [.loc 1001 0,.loc 1002 0,.loc 1003 0,.loc 1004 0]]),(1001,.box 3 false [S5]),(1002,.box 79 false [.aE 47 []]),(1003,.box 83 false [S8]),(1004,.box 77 false [S5,S6,S5,S6]),(15,.aU 132 true true (.st 7))]⟩),
  (46,.fM [] ⟨[(92,S9)],[]⟩),
  (47,.join ⟨[(15,.own 15 (.st 7))],[(1000,.deep 0 false true (.map .i64 3 136) .map),(1001,.box 3 false [S5]),(1003,.box 83 false [S8]),(1004,.box 77 false [S5,S6,S5,S6]),(15,.aU 132 true true (.st 7)),(5,.box 114 true [.mp 1000]),(7,.box 116 true [.aE 73 [.loc 1001 0,.loc 1002 0,.loc 1003 0,.loc 1004 0]]),(1002,.box 79 false [.aE 47 []])]⟩),
  (49,.fM [5,1000,106,7,1001,1002,1003,1004] ⟨[],[(1000,.deep 0 false true (.map .i64 3 136) .map),(1001,.box 3 false [S5]),(1003,.box 83 false [S8]),(1004,.box 77 false [S5,S6,S5,S6]),(5,.box 114 true [.mp 1000]),(7,.box 116 true [.aE 73 [.loc 1001 0,.loc 1002 0,.loc 1003 0,.loc 1004 0]]),(1002,.box 79 false [.aE 47 []])]⟩),
  (55,.fM [] ⟨[(116,S9)],[]⟩),
  (56,.join ⟨[],[(1000,.deep 0 false true (.map .i64 3 136) .map),(5,.box 114 true [.mp 1000])]⟩),
  (57,.fM [5,1000] ⟨[],[(1000,.deep 0 false true (.map .i64 3 136) .map),(5,.box 114 true [.mp 1000])]⟩),
  (60,.join ⟨[],[(1000,.deep 0 false true (.map .i64 3 136) .map),(5,.box 114 true [.mp 1000])]⟩),
  (61,.fM [5,1000] ⟨[],[(1000,.deep 0 false true (.map .i64 3 136) .map),(5,.box 114 true [.mp 1000])]⟩),
  (66,.loop ⟨[(150,S5)],[(5,.box 114 true [.mp 1000]),(1000,.deep 0 false true (.map .i64 3 136) .map)]⟩ 2 ⟨[],[(5,.box 114 true [.mp 1000]),(1000,.deep 0 false true (.map .i64 3 136) .map)]⟩),
  (77,.fM [5,1000] ⟨[],[(1000,.deep 0 false true (.map .i64 3 136) .map),(5,.box 114 true [.mp 1000])]⟩)])
 (tbl:=[qg fu,sG fu,sF fu,qZ fu])
 mixed (ai.2 ⟨rY fu,ai.2 ⟨xD fu,ai.2 ⟨xC fu,ai.2 ⟨sJ fu,(by intro c h;cases h)⟩⟩⟩⟩) Try.func72 Try.call72 rfl rfl (by kernel_rfl) (mvs:=[]) (ns:=[]) (fun q=>by kernel_rfl)
abbrev uc (fu:Nat):cr S0:=⟨40,[Td,Ta,.aE 47 []],[],false,[(6,.ab false (.st 8)),(7,S5)],[],fun q=>F.qG fu q.1 q.2⟩
theorem ye (fu:Nat):aP Try.prog (uc fu):=aP.of (N:=48) (fu:=fu)
 (H:=[(13,.fz [17]),
  (18,.gW ⟨[(27,S5)],[(24,.deep 0 true true (.map .i64 3 136) .map),(5,.box 79 true [.aE 47 []]),(8,.box 83 true [S8]),(6,.box 42 true [S9,S5,Te,S5,Te])]⟩ 0 ⟨[],[(24,.deep 0 true true (.map .i64 3 136) .map),(5,.box 79 true [.aE 47 []]),(8,.box 83 true [S8]),(6,.box 42 true [S9,S5,Te,S5,Te])]⟩),
  (37,.my [6])])
 (tbl:=[oE fu,vb fu])
 mixed (ai.2 ⟨oU fu,ai.2 ⟨zk fu,(by intro c h;cases h)⟩⟩) Try.func40 Try.call40 rfl rfl (by kernel_rfl) (mvs:=[]) (ns:=[]) (fun q=>by kernel_rfl)
abbrev zo (fu:Nat):cr S0:=⟨22,[Td,Ta],[],false,[(4,.ab false (.st 8)),(5,S5)],[],fun q=>F.sR fu q.1 q.2⟩
theorem C4 (fu:Nat):aP Try.prog (zo fu):=aP.of (N:=11) (fu:=fu)
 (H:=[])
 (tbl:=[uc fu])
 mixed (ai.2 ⟨ye fu,(by intro c h;cases h)⟩) Try.func22 Try.call22 rfl rfl (by kernel_rfl) (mvs:=[]) (ns:=[]) (fun q=>by kernel_rfl)
abbrev vz (fu:Nat):o6 S0:=⟨1,[S6],[.loc 1000 0,.loc 1001 0],[.box 86 false [.own 1002 (.list (.int .i64))],.box 64 false [S6,Tb,S7,S7,S7,S6,S7,Tf],.deep 104 false false (.dG 2) (.list (.list (.int .i64)))],[(1000,.box 86 false [.own 1002 (.list (.int .i64))]),(1001,.box 64 false [S6,Tb,S5,S5,S5,S6,S5,Tf]),(1002,.deep 104 false true (.dG 2) (.list (.list (.int .i64))))],false,fun q=>F.pO fu q.1 q.2.1 q.2.2.1 q.2.2.2.1 q.2.2.2.2.1 q.2.2.2.2.2.1 q.2.2.2.2.2.2.1 q.2.2.2.2.2.2.2.1 q.2.2.2.2.2.2.2.2.1 q.2.2.2.2.2.2.2.2.2⟩
theorem Ad (fu:Nat):Dc Try.prog (vz fu):=Dc.of (fu:=fu)
 (H:=[])
 (tbl:=[oV fu])
 mixed (ai.2 ⟨qu fu,(by intro c h;cases h)⟩) (by kernel_rfl) (by kernel_rfl) (by kernel_rfl) (mvs:=[]) (ns:=[]) (fun q=>by kernel_rfl)
abbrev qb (fu:Nat):cr S0:=⟨88,[.ab false (.st 1),.own 1000 (.int .i64),S7,.cq 1001],[.aU 3 false false (.int .i64),.lp 1 false [.loc 1002 0,.loc 1003 0],.box 86 false [.own 1004 (.list (.int .i64))],.box 64 false [S6,Tb,S7,S7,S7,S6,S7,Tf],.deep 104 false false (.dG 2) (.list (.list (.int .i64)))],false,[(8,S9)],[(1000,.aU 3 false true (.int .i64)),(1001,.lp 1 false [.loc 1002 0,.loc 1003 0]),(1002,.box 86 false [.own 1004 (.list (.int .i64))]),(1003,.box 64 false [S6,Tb,S5,S5,S5,S6,S5,Tf]),(1004,.deep 104 false true (.dG 2) (.list (.list (.int .i64))))],fun q=>F.jA fu q.1 q.2.1 q.2.2.1 q.2.2.2.1 q.2.2.2.2.1 q.2.2.2.2.2.1 q.2.2.2.2.2.2.1 q.2.2.2.2.2.2.2.1 q.2.2.2.2.2.2.2.2.1 q.2.2.2.2.2.2.2.2.2.1 q.2.2.2.2.2.2.2.2.2.2.1 q.2.2.2.2.2.2.2.2.2.2.2⟩
theorem rV:∀fu:Nat,aP Try.prog (qb fu)
 | 0=>⟨Try.call88,fun q r h=>nomatch (show(none:Option _)=some r from h)⟩
 | fu+1=>aP.O8 (N:=48) (fu:=fu+1)
   (H:=[(22,.gW ⟨[(1,.own 1000 (.int .i64))],[(1000,.aU 3 false true (.int .i64)),(1001,.lp 1 false [.loc 1002 0,.loc 1003 0]),(1002,.box 86 false [.own 1004 (.list (.int .i64))]),(1003,.box 64 false [S6,Tb,S5,S5,S5,S6,S5,Tf]),(1004,.deep 104 false true (.dG 2) (.list (.list (.int .i64))))]⟩ 0 ⟨[],[(1000,.aU 3 false true (.int .i64)),(1001,.lp 1 false [.loc 1002 0,.loc 1003 0]),(1002,.box 86 false [.own 1004 (.list (.int .i64))]),(1003,.box 64 false [S6,Tb,S5,S5,S5,S6,S5,Tf]),(1004,.deep 104 false true (.dG 2) (.list (.list (.int .i64))))]⟩),
    (25,.my [])])
   (tbl:=[qb fu,n9 (fu+1),qW (fu+1)]) (tbr:=[]) (ys:=[vz (fu+1)])
   [] mixed (ai.2 ⟨rV fu,ai.2 ⟨qd (fu+1),ai.2 ⟨sD (fu+1),(by intro c h;cases h)⟩⟩⟩) (by intro c h;cases h) (ai.2 ⟨Ad (fu+1),(by intro c h;cases h)⟩) Try.func88 Try.call88 rfl rfl (by kernel_rfl) rfl (by kernel_rfl) (mvs:=[]) (ns:=[]) (fun q=>by kernel_rfl)
abbrev ua (fu:Nat):cr S0:=⟨86,[.cq 1000,.loc 1001 0],[.lp 1 false [.loc 1002 0,.loc 1003 0],.box 59 false [S6,Tb],.box 86 false [.own 1004 (.list (.int .i64))],.box 64 false [S6,Tb,S7,S7,S7,S6,S7,Tf],.deep 104 false false (.dG 2) (.list (.list (.int .i64)))],false,[],[(1000,.lp 1 false [.loc 1002 0,.loc 1003 0]),(1001,.box 59 false [S6,Tb]),(1002,.box 86 false [.own 1004 (.list (.int .i64))]),(1003,.box 64 false [S6,Tb,S5,S5,S5,S6,S5,Tf]),(1004,.deep 104 false true (.dG 2) (.list (.list (.int .i64))))],fun q=>F.nB fu q.1 q.2.1 q.2.2.1 q.2.2.2.1 q.2.2.2.2.1 q.2.2.2.2.2.1 q.2.2.2.2.2.2.1 q.2.2.2.2.2.2.2.1 q.2.2.2.2.2.2.2.2.1 q.2.2.2.2.2.2.2.2.2.1 q.2.2.2.2.2.2.2.2.2.2⟩
theorem yd (fu:Nat):aP Try.prog (ua fu):=aP.of (N:=13) (fu:=fu)
 (H:=[(2,.join ⟨[],[(1003,.box 64 false [S6,Tb,S5,S5,S5,S6,S5,Tf]),(1004,.deep 104 false true (.dG 2) (.list (.list (.int .i64)))),(1000,.lp 1 false [.loc 1002 0,.loc 1003 0]),(1002,.box 86 false [.own 1004 (.list (.int .i64))])]⟩),
  (3,.my [10,1000,1002,1003,1004])])
 (tbl:=[qb fu,nQ fu])
 mixed (ai.2 ⟨rV fu,ai.2 ⟨oa fu,(by intro c h;cases h)⟩⟩) Try.func86 Try.call86 rfl rfl (by kernel_rfl) (mvs:=[]) (ns:=[]) (fun q=>by kernel_rfl)
abbrev C5 (fu:Nat):cr S0:=⟨28,[Td,Tc],[],false,[(4,Tc),(5,S5)],[],fun q=>F.mW fu q.1 q.2⟩
theorem Fm (fu:Nat):aP Try.prog (C5 fu):=aP.O8 (N:=43) (fu:=fu)
 (H:=[(26,.loop ⟨[(29,S5)],[(7,.box 86 true [.own 20 (.list (.int .i64))]),(20,.deep 104 true true (.dG 2) (.list (.list (.int .i64))))]⟩ 0 ⟨[],[(7,.box 86 true [.own 20 (.list (.int .i64))]),(20,.deep 104 true true (.dG 2) (.list (.list (.int .i64))))]⟩),
  (40,.L7 1 350)])
 (tbl:=[su fu,ub fu,uf fu]) (tbr:=[ua fu]) (ys:=[])
 [(40,1)] mixed (ai.2 ⟨ug fu,ai.2 ⟨va fu,ai.2 ⟨vg fu,(by intro c h;cases h)⟩⟩⟩) (ai.2 ⟨yd fu,(by intro c h;cases h)⟩) (by intro c h;cases h) Try.func28 Try.call28 rfl rfl (by kernel_rfl) rfl (by kernel_rfl) (mvs:=[]) (ns:=[]) (fun q=>by kernel_rfl)
abbrev mI (fu:Nat):cr S0:=⟨26,[Tc,Tc],[],false,[(4,S9)],[],fun q=>F.gw fu q.1 q.2⟩
theorem rc (fu:Nat):aP Try.prog (mI fu):=aP.of (N:=53) (fu:=fu)
 (H:=[(14,.gW ⟨[(14,S5)],[]⟩ 0 ⟨[],[]⟩),
  (27,.my []),
  (36,.gW ⟨[(33,S5)],[]⟩ 2 ⟨[],[]⟩),
  (48,.my [])])
 (tbl:=[])
 mixed (by intro c h;cases h) Try.func26 Try.call26 rfl rfl (by kernel_rfl) (mvs:=[]) (ns:=[]) (fun q=>by kernel_rfl)
abbrev sZ (fu:Nat):cr S0:=⟨7,[Td,Ta,Tc,S6],[],false,[(8,S9)],[],fun q=>F.iS fu q.1 q.2.1 q.2.2.1 q.2.2.2⟩
theorem re (fu:Nat):aP Try.prog (sZ fu):=aP.of (N:=60) (fu:=fu)
 (H:=[(14,.fM [] ⟨[(26,S9)],[]⟩),
  (51,.fM [] ⟨[(8,S9)],[]⟩)])
 (tbl:=[qh fu,xZ fu,zo fu,C5 fu,vr fu,mI fu])
 mixed (ai.2 ⟨uw fu,ai.2 ⟨By fu,ai.2 ⟨C4 fu,ai.2 ⟨Fm fu,ai.2 ⟨we fu,ai.2 ⟨rc fu,(by intro c h;cases h)⟩⟩⟩⟩⟩⟩) Try.func7 Try.call7 rfl rfl (by kernel_rfl) (mvs:=[]) (ns:=[]) (fun q=>by kernel_rfl)
end
end Go.DN
