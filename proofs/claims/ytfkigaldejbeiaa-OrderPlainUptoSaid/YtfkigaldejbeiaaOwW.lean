/-
  Each function does what its Lean function says.
-/
import Derived.Test.YtfkigaldejbeiaaOwF
import Derived.Test.YtfkigaldejbeiaaProg
import Derived.KernelRfl
set_option maxRecDepth 20000
set_option linter.unusedVariables false
set_option linter.unusedSimpArgs false
namespace Go.DN
open Go.AM
open Go.Proofs
noncomputable section
abbrev Tx:Sh:=.ab true (.int .i64)
abbrev Tz:Sh:=.ab false (.list (.int .i64))
abbrev TA:Sh:=.ab false (.int .i64)
abbrev TB:Sh:=.ab false (.list (.st 6))
abbrev TC:Sh:=.ab true .bool
abbrev TD:Sh:=.ab false (.list (.list (.st 0)))
abbrev TE:Sh:=.ab false (.list (.st 0))
abbrev TF:Sh:=.ab false (.list (.list (.int .i64)))
abbrev TG:Sh:=.ab false (.st 4)
abbrev TH:Sh:=.ab true (.list (.int .i64))
abbrev TI:Sh:=.ab false (.list (.st 2))
theorem mixed:Try.prog.follows .mixedOrders=true:=by kernel_rfl
abbrev wF (fu:Nat):cq S0:=⟨67,[TA],[],false,[(2,TC)],[],fun q=>F.na fu q⟩
theorem AD (fu:Nat):aP Try.prog (wF fu):=aP.of (N:=9) (fu:=fu)
 (H:=[(3,.fO [] ⟨[(2,TC)],[]⟩)])
 (tbl:=[])
 mixed (by intro c h;cases h) Try.func67 Try.call67 rfl rfl (by kernel_rfl) (mvs:=[]) (ns:=[]) (fun q=>by kernel_rfl)
abbrev sg (fu:Nat):cq S0:=⟨89,[Tz,.aF 67 []],[],false,[(4,Tx)],[],fun q=>F.lI fu q⟩
theorem wA (fu:Nat):aP Try.prog (sg fu):=aP.of (N:=19) (fu:=fu)
 (H:=[(6,.gX ⟨[(8,Tx)],[]⟩ 0 ⟨[],[]⟩)])
 (tbl:=[wF fu])
 mixed (ai.2 ⟨AD fu,(by intro c h;cases h)⟩) Try.func89 Try.call89 rfl rfl (by kernel_rfl) (mvs:=[]) (ns:=[]) (fun q=>by kernel_rfl)
abbrev pz (fu:Nat):cq S0:=⟨66,[Tz,.aF 67 []],[],false,[(4,TC)],[],fun q=>F.iX fu q⟩
theorem uh (fu:Nat):aP Try.prog (pz fu):=aP.of (N:=9) (fu:=fu)
 (H:=[])
 (tbl:=[sg fu])
 mixed (ai.2 ⟨wA fu,(by intro c h;cases h)⟩) Try.func66 Try.call66 rfl rfl (by kernel_rfl) (mvs:=[]) (ns:=[]) (fun q=>by kernel_rfl)
abbrev ri (fu:Nat):cq S0:=⟨76,[TA],[],false,[(2,TC)],[],fun q=>F.lg fu q⟩
theorem sL (fu:Nat):aP Try.prog (ri fu):=aP.of (N:=9) (fu:=fu)
 (H:=[(3,.fO [] ⟨[(2,TC)],[]⟩)])
 (tbl:=[])
 mixed (by intro c h;cases h) Try.func76 Try.call76 rfl rfl (by kernel_rfl) (mvs:=[]) (ns:=[]) (fun q=>by kernel_rfl)
abbrev qi (fu:Nat):cq S0:=⟨89,[Tz,.aF 76 []],[],false,[(4,Tx)],[],fun q=>F.kH fu q⟩
theorem uF (fu:Nat):aP Try.prog (qi fu):=aP.of (N:=19) (fu:=fu)
 (H:=[(6,.gX ⟨[(8,Tx)],[]⟩ 0 ⟨[],[]⟩)])
 (tbl:=[ri fu])
 mixed (ai.2 ⟨sL fu,(by intro c h;cases h)⟩) Try.func89 Try.call89 rfl rfl (by kernel_rfl) (mvs:=[]) (ns:=[]) (fun q=>by kernel_rfl)
abbrev oa (fu:Nat):cq S0:=⟨66,[Tz,.aF 76 []],[],false,[(4,TC)],[],fun q=>F.ie fu q⟩
theorem sD (fu:Nat):aP Try.prog (oa fu):=aP.of (N:=9) (fu:=fu)
 (H:=[])
 (tbl:=[qi fu])
 mixed (ai.2 ⟨uF fu,(by intro c h;cases h)⟩) Try.func66 Try.call66 rfl rfl (by kernel_rfl) (mvs:=[]) (ns:=[]) (fun q=>by kernel_rfl)
abbrev qn (fu:Nat):cq S0:=⟨45,[.ab false (.st 0),TA],[],false,[(4,Tx)],[],fun q=>F.nG fu q.1 q.2⟩
theorem qm (fu:Nat):aP Try.prog (qn fu):=aP.of (N:=21) (fu:=fu)
 (H:=[(14,.fO [] ⟨[(20,TC)],[]⟩)])
 (tbl:=[ri fu,oa fu])
 mixed (ai.2 ⟨sL fu,ai.2 ⟨sD fu,(by intro c h;cases h)⟩⟩) Try.func45 Try.call45 rfl rfl (by kernel_rfl) (mvs:=[]) (ns:=[]) (fun q=>by kernel_rfl)
abbrev nX (fu:Nat):cq S0:=⟨87,[.ab false (.st 1)],[],false,[(2,Tx)],[],fun q=>F.jh fu q⟩
theorem om (fu:Nat):aP Try.prog (nX fu):=aP.of (N:=62) (fu:=fu)
 (H:=[(16,.gX ⟨[(18,Tx)],[]⟩ 0 ⟨[],[]⟩),
  (28,.fO [] ⟨[(27,TC)],[]⟩),
  (39,.loop ⟨[(3,Tx),(32,Tx)],[]⟩ 2 ⟨[(3,Tx)],[]⟩),
  (72,.gX ⟨[(49,Tx)],[]⟩ 4 ⟨[],[]⟩)])
 (tbl:=[qn fu])
 mixed (ai.2 ⟨qm fu,(by intro c h;cases h)⟩) Try.func87 Try.call87 rfl rfl (by kernel_rfl) (mvs:=[]) (ns:=[]) (fun q=>by kernel_rfl)
abbrev A4 (fu:Nat):cq S0:=⟨90,[TA],[],false,[(2,Tx)],[],fun q=>F.uT fu q⟩
theorem Eo (fu:Nat):aP Try.prog (A4 fu):=aP.of (N:=18) (fu:=fu)
 (H:=[(15,.join ⟨[(6,TC)],[]⟩),
  (25,.join ⟨[(9,TC)],[]⟩),
  (29,.join ⟨[(9,TC)],[]⟩),
  (33,.join ⟨[(9,TC)],[]⟩),
  (37,.join ⟨[(9,TC)],[]⟩),
  (41,.join ⟨[(9,TC)],[]⟩)])
 (tbl:=[])
 mixed (by intro c h;cases h) Try.func90 Try.call90 rfl rfl (by kernel_rfl) (mvs:=[]) (ns:=[]) (fun q=>by kernel_rfl)
abbrev uq (fu:Nat):cq S0:=⟨68,[TG,.ab false (.st 3)],[],false,[(4,Tx)],[],fun q=>F.nL fu q.1 q.2⟩
theorem yA (fu:Nat):aP Try.prog (uq fu):=aP.of (N:=59) (fu:=fu)
 (H:=[(34,.gX ⟨[(33,Tx)],[]⟩ 0 ⟨[],[]⟩),
  (47,.fO [] ⟨[(47,TC)],[]⟩)])
 (tbl:=[nX fu,A4 fu,qn fu])
 mixed (ai.2 ⟨om fu,ai.2 ⟨Eo fu,ai.2 ⟨qm fu,(by intro c h;cases h)⟩⟩⟩) Try.func68 Try.call68 rfl rfl (by kernel_rfl) (mvs:=[]) (ns:=[]) (fun q=>by kernel_rfl)
abbrev ur (fu:Nat):cq S0:=⟨29,[TG],[],false,[(2,Tx)],[],fun q=>F.pV fu q⟩
theorem vz (fu:Nat):aP Try.prog (ur fu):=aP.of (N:=27) (fu:=fu)
 (H:=[(22,.gX ⟨[(16,Tx)],[]⟩ 0 ⟨[],[]⟩)])
 (tbl:=[pz fu,uq fu])
 mixed (ai.2 ⟨uh fu,ai.2 ⟨yA fu,(by intro c h;cases h)⟩⟩) Try.func29 Try.call29 rfl rfl (by kernel_rfl) (mvs:=[]) (ns:=[]) (fun q=>by kernel_rfl)
abbrev yr (fu:Nat):cq S0:=⟨20,[TG,TD],[],false,[(4,Tx)],[],fun q=>F.oy fu q.1 q.2⟩
theorem B0 (fu:Nat):aP Try.prog (yr fu):=aP.of (N:=53) (fu:=fu)
 (H:=[(24,.gX ⟨[(24,Tx)],[]⟩ 0 ⟨[],[]⟩),
  (46,.gX ⟨[(34,Tx)],[]⟩ 2 ⟨[],[]⟩),
  (58,.mF [])])
 (tbl:=[ur fu,qn fu])
 mixed (ai.2 ⟨vz fu,ai.2 ⟨qm fu,(by intro c h;cases h)⟩⟩) Try.func20 Try.call20 rfl rfl (by kernel_rfl) (mvs:=[]) (ns:=[]) (fun q=>by kernel_rfl)
abbrev ul (fu:Nat):cq S0:=⟨65,[.ab false (.st 1)],[],false,[(2,.aF 86 [.loc 1 0])],[(1,.box 59 true [Tz,TE])],fun q=>F.pN fu q⟩
theorem vq (fu:Nat):aP Try.prog (ul fu):=aP.of (N:=4) (fu:=fu)
 (H:=[])
 (tbl:=[])
 mixed (by intro c h;cases h) Try.func65 Try.call65 rfl rfl (by kernel_rfl) (mvs:=[]) (ns:=[]) (fun q=>by kernel_rfl)
abbrev ol (fu:Nat):cq S0:=⟨98,[.ab false (.st 1),Tz,TA],[],false,[(6,TC)],[],fun q=>F.kL fu q.1 q.2.1 q.2.2⟩
theorem ql (fu:Nat):aP Try.prog (ol fu):=aP.of (N:=58) (fu:=fu)
 (H:=[(6,.gX ⟨[(15,Tx)],[]⟩ 0 ⟨[],[]⟩),
  (23,.loop ⟨[(9,Tx),(24,Tx)],[]⟩ 2 ⟨[(9,Tx)],[]⟩),
  (37,.join ⟨[(9,Tx)],[]⟩),
  (41,.join ⟨[(9,Tx)],[]⟩)])
 (tbl:=[])
 mixed (by intro c h;cases h) Try.func98 Try.call98 rfl rfl (by kernel_rfl) (mvs:=[]) (ns:=[]) (fun q=>by kernel_rfl)
abbrev rh (fu:Nat):cq S0:=⟨32,[Tz],[],false,[(2,TH)],[],fun q=>F.k7 fu q⟩
theorem sK (fu:Nat):aP Try.prog (rh fu):=aP.of (N:=8) (fu:=fu)
 (H:=[])
 (tbl:=[])
 mixed (by intro c h;cases h) Try.func32 Try.call32 rfl rfl (by kernel_rfl) (mvs:=[]) (ns:=[]) (fun q=>by kernel_rfl)
abbrev rM (fu:Nat):cq S0:=⟨77,[.ab false (.st 0),Tz],[],false,[(4,Tx)],[],fun q=>F.po fu q.1 q.2⟩
theorem rj (fu:Nat):aP Try.prog (rM fu):=aP.of (N:=28) (fu:=fu)
 (H:=[(8,.loop ⟨[(5,Tx),(13,Tx)],[]⟩ 0 ⟨[(5,Tx)],[]⟩)])
 (tbl:=[])
 mixed (by intro c h;cases h) Try.func77 Try.call77 rfl rfl (by kernel_rfl) (mvs:=[]) (ns:=[]) (fun q=>by kernel_rfl)
abbrev sH (fu:Nat):pe S0:=⟨0,[Tz],[.loc 1000 0,.loc 1001 0,.loc 1002 0,.loc 1003 0,.loc 1004 0,.loc 1005 0],[.box 31 false [TD],.box 83 false [.own 1006 (.st 6)],.box 26 false [TA],.box 3 false [TA],.box 83 false [.own 1007 (.st 6)],.box 3 false [TA],.aV 77 false false (.st 6),.aV 77 false false (.st 6)],[(1000,.box 31 false [TD]),(1001,.box 83 false [.own 486 (.st 6)]),(1002,.box 26 false [Tx]),(1003,.box 3 false [Tx]),(1004,.box 83 false [.own 487 (.st 6)]),(1005,.box 3 false [Tx]),(486,.aV 77 false false (.st 6)),(487,.aV 77 false false (.st 6))],true,fun q=>F.mJ fu q.1 q.2.1 q.2.2.1 q.2.2.2.1 q.2.2.2.2.1 q.2.2.2.2.2.1 q.2.2.2.2.2.2⟩
theorem wQ (fu:Nat):Dx Try.prog (sH fu):=Dx.of (fu:=fu)
 (H:=[(16,.loop ⟨[(56,Tx),(14,.own 50 (.int .i64))],[(50,.aV 3 true true (.int .i64))]⟩ 6 ⟨[(14,.own 50 (.int .i64))],[(50,.aV 3 true true (.int .i64))]⟩)])
 (tbl:=[rM fu])
 mixed (ai.2 ⟨rj fu,(by intro c h;cases h)⟩) (by kernel_rfl) (by kernel_rfl) (by kernel_rfl) (mvs:=[1006,1007]) (ns:=[]) (fun q=>by kernel_rfl)
abbrev qk (fu:Nat):cq S0:=⟨88,[.ab false (.st 1),.own 1000 (.int .i64),TA,.ct 1001],[.aV 3 false false (.int .i64),.lp 0 true [.loc 1002 0,.loc 1003 0,.loc 1004 0,.loc 1005 0,.loc 1006 0,.loc 1007 0],.box 31 false [TD],.box 83 false [.own 1008 (.st 6)],.box 26 false [TA],.box 3 false [TA],.box 83 false [.own 1009 (.st 6)],.box 3 false [TA],.aV 77 false false (.st 6),.aV 77 false false (.st 6)],false,[(8,TC)],[(1000,.aV 3 false true (.int .i64)),(1001,.lp 0 true [.loc 1002 0,.loc 1003 0,.loc 1004 0,.loc 1005 0,.loc 1006 0,.loc 1007 0]),(1002,.box 31 false [TD]),(1003,.box 83 false [.own 488 (.st 6)]),(1004,.box 26 false [Tx]),(1005,.box 3 false [Tx]),(1006,.box 83 false [.own 489 (.st 6)]),(1007,.box 3 false [Tx]),(488,.aV 77 false false (.st 6)),(489,.aV 77 false false (.st 6))],fun q=>F.gU fu q.1 q.2.1 q.2.2.1 q.2.2.2.1 q.2.2.2.2.1 q.2.2.2.2.2.1 q.2.2.2.2.2.2.1 q.2.2.2.2.2.2.2.1 q.2.2.2.2.2.2.2.2.1 q.2.2.2.2.2.2.2.2.2⟩
theorem sj:∀fu:Nat,aP Try.prog (qk fu)
 | 0=>⟨Try.call88,fun q r h=>nomatch (show(none:Option _)=some r from h)⟩
 | fu+1=>aP.PB (N:=48) (fu:=fu+1)
   (H:=[(22,.gX ⟨[(1,.own 1000 (.int .i64))],[(1000,.aV 3 false true (.int .i64)),(1001,.lp 0 true [.loc 1002 0,.loc 1003 0,.loc 1004 0,.loc 1005 0,.loc 1006 0,.loc 1007 0]),(1002,.box 31 false [TD]),(1003,.box 83 false [.own 488 (.st 6)]),(1004,.box 26 false [Tx]),(1005,.box 3 false [Tx]),(1006,.box 83 false [.own 489 (.st 6)]),(1007,.box 3 false [Tx]),(488,.aV 77 false false (.st 6)),(489,.aV 77 false false (.st 6))]⟩ 0 ⟨[],[(1000,.aV 3 false true (.int .i64)),(1001,.lp 0 true [.loc 1002 0,.loc 1003 0,.loc 1004 0,.loc 1005 0,.loc 1006 0,.loc 1007 0]),(1002,.box 31 false [TD]),(1003,.box 83 false [.own 488 (.st 6)]),(1004,.box 26 false [Tx]),(1005,.box 3 false [Tx]),(1006,.box 83 false [.own 489 (.st 6)]),(1007,.box 3 false [Tx]),(488,.aV 77 false false (.st 6)),(489,.aV 77 false false (.st 6))]⟩),
    (25,.mF [])])
   (tbl:=[qk fu,ol (fu+1),rh (fu+1)]) (tbr:=[]) (ys:=[sH (fu+1)])
   [] mixed (ai.2 ⟨sj fu,ai.2 ⟨ql (fu+1),ai.2 ⟨sK (fu+1),(by intro c h;cases h)⟩⟩⟩) (by intro c h;cases h) (ai.2 ⟨wQ (fu+1),(by intro c h;cases h)⟩) Try.func88 Try.call88 rfl rfl (by kernel_rfl) rfl (by kernel_rfl) (mvs:=[1008,1009]) (ns:=[]) (fun q=>by kernel_rfl)
abbrev wB (fu:Nat):cq S0:=⟨86,[.ct 1000,.loc 1001 0],[.lp 0 true [.loc 1002 0,.loc 1003 0,.loc 1004 0,.loc 1005 0,.loc 1006 0,.loc 1007 0],.box 59 false [Tz,TE],.box 31 false [TD],.box 83 false [.own 1008 (.st 6)],.box 26 false [TA],.box 3 false [TA],.box 83 false [.own 1009 (.st 6)],.box 3 false [TA],.aV 77 false false (.st 6),.aV 77 false false (.st 6)],false,[],[(1000,.lp 0 true [.loc 1002 0,.loc 1003 0,.loc 1004 0,.loc 1005 0,.loc 1006 0,.loc 1007 0]),(1001,.box 59 false [Tz,TE]),(1002,.box 31 false [TD]),(1003,.box 83 false [.own 488 (.st 6)]),(1004,.box 26 false [Tx]),(1005,.box 3 false [Tx]),(1006,.box 83 false [.own 489 (.st 6)]),(1007,.box 3 false [Tx]),(488,.aV 77 false false (.st 6)),(489,.aV 77 false false (.st 6))],fun q=>F.j8 fu q.1 q.2.1 q.2.2.1 q.2.2.2.1 q.2.2.2.2.1 q.2.2.2.2.2.1 q.2.2.2.2.2.2.1 q.2.2.2.2.2.2.2.1 q.2.2.2.2.2.2.2.2⟩
theorem Az (fu:Nat):aP Try.prog (wB fu):=aP.of (N:=13) (fu:=fu)
 (H:=[(2,.join ⟨[],[(1000,.lp 0 true [.loc 1002 0,.loc 1003 0,.loc 1004 0,.loc 1005 0,.loc 1006 0,.loc 1007 0]),(1002,.box 31 false [TD]),(1004,.box 26 false [Tx]),(1005,.box 3 false [Tx]),(1007,.box 3 false [Tx]),(488,.aV 77 false false (.st 6)),(489,.aV 77 false false (.st 6)),(1003,.box 83 false [.own 488 (.st 6)]),(1006,.box 83 false [.own 489 (.st 6)])]⟩),
  (3,.mF [10,1000,1002,1003,1004,1005,1006,1007,1008,1009,488,489])])
 (tbl:=[qk fu,nX fu])
 mixed (ai.2 ⟨sj fu,ai.2 ⟨om fu,(by intro c h;cases h)⟩⟩) Try.func86 Try.call86 rfl rfl (by kernel_rfl) (mvs:=[1008,1009]) (ns:=[]) (fun q=>by kernel_rfl)
abbrev oM (fu:Nat):cq S0:=⟨49,[TG,TD],[],false,[(4,.own 420 (.st 6)),(5,Tx)],[(420,.aV 77 true false (.st 6))],fun q=>F.iA fu q.1 q.2⟩
theorem o7 (fu:Nat):aP Try.prog (oM fu):=aP.PB (N:=80) (fu:=fu)
 (H:=[(18,.loop ⟨[(25,Tx)],[(7,.box 3 true [Tx])]⟩ 0 ⟨[],[(7,.box 3 true [Tx])]⟩),
  (37,.gX ⟨[(37,Tx)],[(4,.box 83 true [.own 420 (.st 6)]),(10,.box 83 true [.own 421 (.st 6)]),(3,.box 31 true [TD]),(5,.box 26 true [Tx]),(7,.box 3 true [Tx]),(420,.aV 77 true false (.st 6)),(421,.aV 77 true false (.st 6))]⟩ 2 ⟨[],[(4,.box 83 true [.own 420 (.st 6)]),(10,.box 83 true [.own 421 (.st 6)]),(3,.box 31 true [TD]),(5,.box 26 true [Tx]),(7,.box 3 true [Tx]),(420,.aV 77 true false (.st 6)),(421,.aV 77 true false (.st 6))]⟩),
  (51,.My 0 350)])
 (tbl:=[ul fu,yr fu]) (tbr:=[wB fu]) (ys:=[])
 [(51,0)] mixed (ai.2 ⟨vq fu,ai.2 ⟨B0 fu,(by intro c h;cases h)⟩⟩) (ai.2 ⟨Az fu,(by intro c h;cases h)⟩) (by intro c h;cases h) Try.func49 Try.call49 rfl rfl (by kernel_rfl) rfl (by kernel_rfl) (mvs:=[]) (ns:=[]) (fun q=>by kernel_rfl)
abbrev uj (fu:Nat):cq S0:=⟨78,[Tz],[],false,[(2,.own 5 (.int .i64))],[(5,.aV 2 true true (.int .i64))],fun q=>F.nE fu q⟩
theorem yx (fu:Nat):aP Try.prog (uj fu):=aP.of (N:=8) (fu:=fu)
 (H:=[])
 (tbl:=[])
 mixed (by intro c h;cases h) Try.func78 Try.call78 rfl rfl (by kernel_rfl) (mvs:=[]) (ns:=[]) (fun q=>by kernel_rfl)
abbrev sF (fu:Nat):cq S0:=⟨50,[TG,TF],[],false,[(4,.own 17 (.list (.int .i64))),(5,Tx)],[(17,.deep 104 true true (.dK 2) (.list (.list (.int .i64))))],fun q=>F.gP fu q.1 q.2⟩
theorem uu (fu:Nat):aP Try.prog (sF fu):=aP.of (N:=40) (fu:=fu)
 (H:=[(12,.th 17 2),
  (16,.gX ⟨[(20,Tx),(6,.own 17 (.list (.int .i64)))],[(17,.deep 104 true true (.dK 2) (.list (.list (.int .i64))))]⟩ 0 ⟨[(6,.own 17 (.list (.int .i64)))],[(17,.deep 104 true true (.dK 2) (.list (.list (.int .i64))))]⟩)])
 (tbl:=[uj fu])
 mixed (ai.2 ⟨yx fu,(by intro c h;cases h)⟩) Try.func50 Try.call50 rfl rfl (by kernel_rfl) (mvs:=[]) (ns:=[]) (fun q=>by kernel_rfl)
abbrev A5 (fu:Nat):cq S0:=⟨94,[TA],[],false,[(2,TC)],[],fun q=>F.vm fu q⟩
theorem Ep (fu:Nat):aP Try.prog (A5 fu):=aP.of (N:=6) (fu:=fu)
 (H:=[])
 (tbl:=[])
 mixed (by intro c h;cases h) Try.func94 Try.call94 rfl rfl (by kernel_rfl) (mvs:=[]) (ns:=[]) (fun q=>by kernel_rfl)
abbrev yv (fu:Nat):cq S0:=⟨74,[TA,TA],[],false,[(4,Tx)],[],fun q=>F.rL fu q.1 q.2⟩
theorem B5 (fu:Nat):aP Try.prog (yv fu):=aP.of (N:=20) (fu:=fu)
 (H:=[])
 (tbl:=[A5 fu])
 mixed (ai.2 ⟨Ep fu,(by intro c h;cases h)⟩) Try.func74 Try.call74 rfl rfl (by kernel_rfl) (mvs:=[]) (ns:=[]) (fun q=>by kernel_rfl)
abbrev o6 (fu:Nat):cq S0:=⟨42,[Tz,Tz],[],false,[(4,Tx)],[],fun q=>F.k6 fu q.1 q.2⟩
theorem qB (fu:Nat):aP Try.prog (o6 fu):=aP.of (N:=36) (fu:=fu)
 (H:=[(6,.gX ⟨[(11,Tx)],[]⟩ 0 ⟨[],[]⟩)])
 (tbl:=[yv fu])
 mixed (ai.2 ⟨B5 fu,(by intro c h;cases h)⟩) Try.func42 Try.call42 rfl rfl (by kernel_rfl) (mvs:=[]) (ns:=[]) (fun q=>by kernel_rfl)
abbrev sE (fu:Nat):cq S0:=⟨52,[.ab false (.st 6),.ab false (.st 6)],[],false,[(4,Tx)],[],fun q=>F.jR fu q.1 q.2⟩
theorem uo (fu:Nat):aP Try.prog (sE fu):=aP.of (N:=10) (fu:=fu)
 (H:=[])
 (tbl:=[o6 fu])
 mixed (ai.2 ⟨qB fu,(by intro c h;cases h)⟩) Try.func52 Try.call52 rfl rfl (by kernel_rfl) (mvs:=[]) (ns:=[]) (fun q=>by kernel_rfl)
abbrev kS (fu:Nat):cq S0:=⟨95,[.own 1000 (.st 6),TA,TA,.aF 52 []],[.aV 77 false false (.st 6)],false,[],[(1000,.aV 77 false false (.st 6))],fun q=>F.fp fu q.1 q.2.1 q.2.2⟩
theorem o5 (fu:Nat):aP Try.prog (kS fu):=aP.of (N:=53) (fu:=fu)
 (H:=[(3,.loop ⟨[(8,Tx),(0,.own 1000 (.st 6))],[(1000,.aV 77 false false (.st 6))]⟩ 0 ⟨[],[(1000,.aV 77 false false (.st 6))]⟩),
  (15,.loop ⟨[(9,Tx),(0,.own 1000 (.st 6))],[(1000,.aV 77 false false (.st 6))]⟩ 2 ⟨[(0,.own 1000 (.st 6))],[(1000,.aV 77 false false (.st 6))]⟩),
  (18,.fO [] ⟨[(34,TC)],[]⟩),
  (24,.fO [1000] ⟨[(0,.own 1000 (.st 6))],[(1000,.aV 77 false false (.st 6))]⟩)])
 (tbl:=[sE fu])
 mixed (ai.2 ⟨uo fu,(by intro c h;cases h)⟩) Try.func95 Try.call95 rfl rfl (by kernel_rfl) (mvs:=[]) (ns:=[]) (fun q=>by kernel_rfl)
abbrev mM (fu:Nat):cq S0:=⟨100,[.own 1000 (.st 6),TA,TA,TA,.aF 52 []],[.aV 77 false false (.st 6)],false,[],[(1000,.aV 77 false false (.st 6))],fun q=>F.ft fu q.1 q.2.1 q.2.2.1 q.2.2.2⟩
theorem rc (fu:Nat):aP Try.prog (mM fu):=aP.of (N:=38) (fu:=fu)
 (H:=[(3,.loop ⟨[(10,Tx),(0,.own 1000 (.st 6))],[(1000,.aV 77 false false (.st 6))]⟩ 0 ⟨[],[(1000,.aV 77 false false (.st 6))]⟩),
  (12,.fO [1000] ⟨[(0,.own 1000 (.st 6))],[(1000,.aV 77 false false (.st 6))]⟩)])
 (tbl:=[])
 mixed (by intro c h;cases h) Try.func100 Try.call100 rfl rfl (by kernel_rfl) (mvs:=[]) (ns:=[]) (fun q=>by kernel_rfl)
abbrev oC (fu:Nat):cq S0:=⟨99,[.own 1000 (.st 6),TA,TA,TA,.aF 52 []],[.aV 77 false false (.st 6)],false,[],[(1000,.aV 77 false false (.st 6))],fun q=>F.gk fu q.1 q.2.1 q.2.2.1 q.2.2.2⟩
theorem ti (fu:Nat):aP Try.prog (oC fu):=aP.of (N:=58) (fu:=fu)
 (H:=[(6,.loop ⟨[(10,Tx),(11,Tx),(0,.own 1000 (.st 6))],[(1000,.aV 77 false false (.st 6))]⟩ 0 ⟨[(10,Tx),(0,.own 1000 (.st 6))],[(1000,.aV 77 false false (.st 6))]⟩),
  (16,.join ⟨[(10,Tx),(11,Tx),(0,.own 1000 (.st 6))],[(1000,.aV 77 false false (.st 6))]⟩)])
 (tbl:=[mM fu])
 mixed (ai.2 ⟨rc fu,(by intro c h;cases h)⟩) Try.func99 Try.call99 rfl rfl (by kernel_rfl) (mvs:=[]) (ns:=[]) (fun q=>by kernel_rfl)
abbrev kh (fu:Nat):cq S0:=⟨96,[.own 1000 (.st 6),TA,TA,TA,.aF 52 []],[.aV 77 false false (.st 6)],false,[],[(1000,.aV 77 false false (.st 6))],fun q=>F.cD fu q.1 q.2.1 q.2.2.1 q.2.2.2⟩
theorem lE:∀fu:Nat,aP Try.prog (kh fu)
 | 0=>⟨Try.call96,fun q r h=>nomatch (show(none:Option _)=some r from h)⟩
 | fu+1=>aP.of (N:=220) (fu:=fu+1)
   (H:=[(10,.loop ⟨[(10,Tx),(11,Tx)],[]⟩ 0 ⟨[(10,Tx)],[]⟩),
    (21,.mF []),
    (22,.join ⟨[(10,Tx),(11,Tx)],[]⟩),
    (29,.loop ⟨[(13,Tx),(0,.own 1000 (.st 6))],[(1000,.aV 77 false false (.st 6))]⟩ 2 ⟨[],[(1000,.aV 77 false false (.st 6))]⟩),
    (38,.fO [1000] ⟨[(0,.own 1000 (.st 6))],[(1000,.aV 77 false false (.st 6))]⟩),
    (52,.loop ⟨[(14,Tx),(15,Tx)],[]⟩ 4 ⟨[(14,Tx)],[]⟩),
    (63,.mF []),
    (64,.join ⟨[(14,Tx),(15,Tx)],[]⟩),
    (71,.loop ⟨[(17,Tx),(0,.own 1000 (.st 6))],[(1000,.aV 77 false false (.st 6))]⟩ 6 ⟨[],[(1000,.aV 77 false false (.st 6))]⟩),
    (80,.fO [1000] ⟨[(0,.own 1000 (.st 6))],[(1000,.aV 77 false false (.st 6))]⟩),
    (93,.join ⟨[(20,Tx),(21,Tx)],[]⟩),
    (104,.loop ⟨[(20,Tx),(21,Tx)],[]⟩ 8 ⟨[(20,Tx)],[]⟩),
    (115,.mF []),
    (116,.join ⟨[(20,Tx),(21,Tx)],[]⟩),
    (123,.fO [] ⟨[(185,TC)],[]⟩),
    (124,.join ⟨[(0,.own 1000 (.st 6))],[(1000,.aV 77 false false (.st 6))]⟩),
    (129,.fO [] ⟨[(199,TC)],[]⟩),
    (130,.join ⟨[(0,.own 1000 (.st 6))],[(1000,.aV 77 false false (.st 6))]⟩),
    (134,.fO [] ⟨[(213,TC)],[]⟩),
    (135,.join ⟨[],[(1000,.aV 77 false false (.st 6))]⟩)])
   (tbl:=[oC (fu+1),kh fu,sE (fu+1)])
   mixed (ai.2 ⟨ti (fu+1),ai.2 ⟨lE fu,ai.2 ⟨uo (fu+1),(by intro c h;cases h)⟩⟩⟩) Try.func96 Try.call96 rfl rfl (by kernel_rfl) (mvs:=[]) (ns:=[]) (fun q=>by kernel_rfl)
abbrev oB (fu:Nat):cq S0:=⟨79,[.own 1000 (.st 6),TA,.aF 52 []],[.aV 77 false false (.st 6)],false,[],[(1000,.aV 77 false false (.st 6))],fun q=>F.lH fu q.1 q.2⟩
theorem te (fu:Nat):aP Try.prog (oB fu):=aP.of (N:=63) (fu:=fu)
 (H:=[(6,.loop ⟨[(7,Tx),(8,Tx),(0,.own 1000 (.st 6))],[(1000,.aV 77 false false (.st 6))]⟩ 0 ⟨[(7,Tx),(0,.own 1000 (.st 6))],[(1000,.aV 77 false false (.st 6))]⟩),
  (22,.loop ⟨[(6,Tx),(0,.own 1000 (.st 6))],[(1000,.aV 77 false false (.st 6))]⟩ 2 ⟨[],[(1000,.aV 77 false false (.st 6))]⟩),
  (34,.loop ⟨[(7,Tx),(8,Tx),(0,.own 1000 (.st 6))],[(1000,.aV 77 false false (.st 6))]⟩ 4 ⟨[(7,Tx),(0,.own 1000 (.st 6))],[(1000,.aV 77 false false (.st 6))]⟩),
  (52,.join ⟨[(0,.own 1000 (.st 6))],[(1000,.aV 77 false false (.st 6))]⟩)])
 (tbl:=[kS fu,kh fu])
 mixed (ai.2 ⟨o5 fu,ai.2 ⟨lE fu,(by intro c h;cases h)⟩⟩) Try.func79 Try.call79 rfl rfl (by kernel_rfl) (mvs:=[]) (ns:=[]) (fun q=>by kernel_rfl)
abbrev n9 (fu:Nat):cq S0:=⟨51,[.own 1000 (.st 6),.aF 52 []],[.aV 77 false false (.st 6)],false,[],[(1000,.aV 77 false false (.st 6))],fun q=>F.jt fu q⟩
theorem sC (fu:Nat):aP Try.prog (n9 fu):=aP.of (N:=9) (fu:=fu)
 (H:=[])
 (tbl:=[oB fu])
 mixed (ai.2 ⟨te fu,(by intro c h;cases h)⟩) Try.func51 Try.call51 rfl rfl (by kernel_rfl) (mvs:=[]) (ns:=[]) (fun q=>by kernel_rfl)
abbrev re (fu:Nat):cq S0:=⟨48,[Tz,Tz],[],false,[(4,TC)],[],fun q=>F.mW fu q.1 q.2⟩
theorem sI (fu:Nat):aP Try.prog (re fu):=aP.of (N:=26) (fu:=fu)
 (H:=[(14,.gX ⟨[(13,Tx)],[]⟩ 0 ⟨[],[]⟩),
  (26,.mF [])])
 (tbl:=[])
 mixed (by intro c h;cases h) Try.func48 Try.call48 rfl rfl (by kernel_rfl) (mvs:=[]) (ns:=[]) (fun q=>by kernel_rfl)
abbrev ui (fu:Nat):cq S0:=⟨55,[.sub 1000 (.st 6)],[.aV 77 false false (.st 6)],false,[(2,.own 5 (.st 6))],[(1000,.aV 77 false false (.st 6)),(5,.aV 77 true false (.st 6))],fun q=>F.nD fu q.1 q.2.1 q.2.2⟩
theorem yw (fu:Nat):aP Try.prog (ui fu):=aP.of (N:=8) (fu:=fu)
 (H:=[])
 (tbl:=[])
 mixed (by intro c h;cases h) Try.func55 Try.call55 rfl rfl (by kernel_rfl) (mvs:=[]) (ns:=[]) (fun q=>by kernel_rfl)
abbrev mz (fu:Nat):cq S0:=⟨81,[.own 1000 (.list (.int .i64)),.ab false (.st 2),Tz],[.deep 104 false false (.dK 2) (.list (.list (.int .i64)))],false,[(6,.fD 1000 (.int .i64))],[(1000,.deep 104 false true (.dK 2) (.list (.list (.int .i64))))],fun q=>F.jJ fu q.1 q.2.1 q.2.2⟩
theorem oD (fu:Nat):aP Try.prog (mz fu):=aP.of (N:=31) (fu:=fu)
 (H:=[(6,.fO [] ⟨[(23,TC)],[]⟩)])
 (tbl:=[rM fu])
 mixed (ai.2 ⟨rj fu,(by intro c h;cases h)⟩) Try.func81 Try.call81 rfl rfl (by kernel_rfl) (mvs:=[]) (ns:=[]) (fun q=>by kernel_rfl)
abbrev sR (fu:Nat):cq S0:=⟨80,[.own 1000 (.list (.int .i64)),.ab false (.st 2),Tz],[.deep 104 false false (.dK 2) (.list (.list (.int .i64)))],false,[(6,Tx)],[(1000,.deep 104 false true (.dK 2) (.list (.list (.int .i64))))],fun q=>F.kN fu q.1 q.2.1 q.2.2⟩
theorem xW (fu:Nat):aP Try.prog (sR fu):=aP.of (N:=17) (fu:=fu)
 (H:=[])
 (tbl:=[mz fu])
 mixed (ai.2 ⟨oD fu,(by intro c h;cases h)⟩) Try.func80 Try.call80 rfl rfl (by kernel_rfl) (mvs:=[]) (ns:=[]) (fun q=>by kernel_rfl)
abbrev o8 (fu:Nat):cq S0:=⟨56,[.own 1000 (.list (.int .i64)),.ab false (.st 3),Tz],[.deep 104 false false (.dK 2) (.list (.list (.int .i64)))],false,[],[(1000,.deep 104 false true (.dK 2) (.list (.list (.int .i64))))],fun q=>F.lk fu q.1 q.2.1 q.2.2⟩
theorem qC (fu:Nat):aP Try.prog (o8 fu):=aP.of (N:=144) (fu:=fu)
 (H:=[(8,.loop ⟨[(14,Tx),(6,.own 10 (.int .i64)),(0,.own 1000 (.list (.int .i64)))],[(1000,.deep 104 false true (.dK 2) (.list (.list (.int .i64)))),(10,.aV 2 true true (.int .i64))]⟩ 0 ⟨[(6,.own 10 (.int .i64)),(0,.own 1000 (.list (.int .i64)))],[(1000,.deep 104 false true (.dK 2) (.list (.list (.int .i64)))),(10,.aV 2 true true (.int .i64))]⟩),
  (34,.join ⟨[],[(1000,.deep 104 false true (.dK 2) (.list (.list (.int .i64))))]⟩),
  (38,.join ⟨[],[(1000,.deep 104 false true (.dK 2) (.list (.list (.int .i64))))]⟩),
  (42,.join ⟨[],[(1000,.deep 104 false true (.dK 2) (.list (.list (.int .i64))))]⟩),
  (43,.mF [1000]),
  (46,.join ⟨[],[(1000,.deep 104 false true (.dK 2) (.list (.list (.int .i64))))]⟩),
  (47,.mF [1000]),
  (50,.join ⟨[],[(1000,.deep 104 false true (.dK 2) (.list (.list (.int .i64))))]⟩),
  (51,.mF [1000]),
  (54,.join ⟨[],[(1000,.deep 104 false true (.dK 2) (.list (.list (.int .i64))))]⟩),
  (55,.mF [1000]),
  (58,.join ⟨[],[(1000,.deep 104 false true (.dK 2) (.list (.list (.int .i64))))]⟩),
  (62,.mF []),
  (63,.join ⟨[],[(1000,.deep 104 false true (.dK 2) (.list (.list (.int .i64))))]⟩),
  (68,.join ⟨[],[(1000,.deep 104 false true (.dK 2) (.list (.list (.int .i64))))]⟩),
  (73,.join ⟨[],[(1000,.deep 104 false true (.dK 2) (.list (.list (.int .i64))))]⟩),
  (78,.join ⟨[],[(1000,.deep 104 false true (.dK 2) (.list (.list (.int .i64))))]⟩),
  (79,.mF [1000]),
  (80,.mF [1000])])
 (tbl:=[sR fu,mz fu])
 mixed (ai.2 ⟨xW fu,ai.2 ⟨oD fu,(by intro c h;cases h)⟩⟩) Try.func56 Try.call56 rfl rfl (by kernel_rfl) (mvs:=[]) (ns:=[]) (fun q=>by kernel_rfl)
abbrev sJ (fu:Nat):cq S0:=⟨57,[.sub 1000 (.st 6),TA,TA],[.aV 77 false false (.st 6)],false,[(6,.sub 1000 (.st 6))],[(1000,.aV 77 false false (.st 6))],fun q=>F.mD fu q.1 q.2.1 q.2.2.1 q.2.2.2.1 q.2.2.2.2⟩
theorem xR (fu:Nat):aP Try.prog (sJ fu):=aP.of (N:=33) (fu:=fu)
 (H:=[(15,.mF [1000])])
 (tbl:=[])
 mixed (by intro c h;cases h) Try.func57 Try.call57 rfl rfl (by kernel_rfl) (mvs:=[]) (ns:=[]) (fun q=>by kernel_rfl)
abbrev vu (fu:Nat):cq S0:=⟨54,[.ab false (.st 6),.loc 1000 0],[.box 83 false [.sub 1001 (.st 6)],.aV 77 false false (.st 6)],false,[(3,TC)],[(1000,.box 83 false [.sub 1001 (.st 6)]),(1001,.aV 77 false false (.st 6))],fun q=>F.oI fu q.1 q.2.1 q.2.2.1 q.2.2.2⟩
theorem zH (fu:Nat):aP Try.prog (vu fu):=aP.of (N:=12) (fu:=fu)
 (H:=[(3,.mF [])])
 (tbl:=[re fu])
 mixed (ai.2 ⟨sI fu,(by intro c h;cases h)⟩) Try.func54 Try.call54 rfl rfl (by kernel_rfl) (mvs:=[]) (ns:=[]) (fun q=>by kernel_rfl)
abbrev qh (fu:Nat):cq S0:=⟨53,[.sub 1000 (.st 6),.aF 54 [.loc 1001 0]],[.aV 77 false false (.st 6),.box 83 false [.sub 1000 (.st 6)]],false,[(4,Tx)],[(1000,.aV 77 false false (.st 6)),(1001,.box 83 false [.sub 1000 (.st 6)])],fun q=>F.kG fu q.1 q.2.1 q.2.2.1 q.2.2.2.1 q.2.2.2.2⟩
theorem uE (fu:Nat):aP Try.prog (qh fu):=aP.of (N:=19) (fu:=fu)
 (H:=[(6,.gX ⟨[(8,Tx),(0,.sub 1000 (.st 6))],[(1001,.box 83 false [.sub 1000 (.st 6)]),(1000,.aV 77 false false (.st 6))]⟩ 0 ⟨[],[(1001,.box 83 false [.sub 1000 (.st 6)]),(1000,.aV 77 false false (.st 6))]⟩)])
 (tbl:=[vu fu])
 mixed (ai.2 ⟨zH fu,(by intro c h;cases h)⟩) Try.func53 Try.call53 rfl rfl (by kernel_rfl) (mvs:=[]) (ns:=[]) (fun q=>by kernel_rfl)
abbrev vI (fu:Nat):cq S0:=⟨24,[TG,TD,TF,Tz],[],false,[(8,TF),(9,Tx)],[],fun q=>F.jS fu q.1 q.2.1 q.2.2.1 q.2.2.2⟩
theorem wD (fu:Nat):aP Try.prog (vI fu):=aP.of (N:=102) (fu:=fu)
 (H:=[(28,.loop ⟨[(13,Tx),(12,.own 29 (.list (.int .i64)))],[(20,.aV 77 true false (.st 6)),(29,.deep 104 true true (.dK 2) (.list (.list (.int .i64)))),(10,.box 83 true [.sub 20 (.st 6)])]⟩ 0 ⟨[(12,.own 29 (.list (.int .i64)))],[(20,.aV 77 true false (.st 6)),(29,.deep 104 true true (.dK 2) (.list (.list (.int .i64)))),(10,.box 83 true [.sub 20 (.st 6)])]⟩),
  (41,.join ⟨[(14,Tx)],[]⟩),
  (48,.loop ⟨[(13,Tx),(15,.sub 50 (.st 6)),(12,.own 29 (.list (.int .i64)))],[(29,.deep 104 true true (.dK 2) (.list (.list (.int .i64)))),(50,.aV 77 true false (.st 6))]⟩ 2 ⟨[(13,Tx),(12,.own 29 (.list (.int .i64)))],[(29,.deep 104 true true (.dK 2) (.list (.list (.int .i64)))),(50,.aV 77 true false (.st 6))]⟩),
  (61,.join ⟨[(16,Tx),(13,Tx)],[]⟩),
  (67,.mF [29])])
 (tbl:=[oM fu,sF fu,n9 fu,qh fu,ui fu,o8 fu,sJ fu])
 mixed (ai.2 ⟨o7 fu,ai.2 ⟨uu fu,ai.2 ⟨sC fu,ai.2 ⟨uE fu,ai.2 ⟨yw fu,ai.2 ⟨qC fu,ai.2 ⟨xR fu,(by intro c h;cases h)⟩⟩⟩⟩⟩⟩⟩) Try.func24 Try.call24 rfl rfl (by kernel_rfl) (mvs:=[]) (ns:=[]) (fun q=>by kernel_rfl)
abbrev qp (fu:Nat):cq S0:=⟨27,[],[],false,[(0,TC)],[],fun q=>F.jo fu⟩
theorem uG (fu:Nat):aP Try.prog (qp fu):=aP.of (N:=36) (fu:=fu)
 (H:=[(5,.fO [] ⟨[(0,TC)],[]⟩)])
 (tbl:=[vI fu])
 mixed (ai.2 ⟨wD fu,(by intro c h;cases h)⟩) Try.func27 Try.call27 rfl rfl (by kernel_rfl) (mvs:=[]) (ns:=[]) (fun q=>by kernel_rfl)
abbrev yt (fu:Nat):cq S0:=⟨13,[TG],[],false,[(2,.ab true (.list (.list (.st 0))))],[],fun q=>F.rC fu q⟩
theorem B3 (fu:Nat):aP Try.prog (yt fu):=aP.of (N:=49) (fu:=fu)
 (H:=[(8,.loop ⟨[(3,.own 3 (.list (.st 0))),(13,Tx)],[(3,.aV 34 true true (.list (.st 0)))]⟩ 0 ⟨[(3,.own 3 (.list (.st 0)))],[(3,.aV 34 true true (.list (.st 0)))]⟩),
  (27,.loop ⟨[(7,.own 26 (.st 0)),(28,Tx)],[(26,.aV 37 true true (.st 0))]⟩ 2 ⟨[(7,.own 26 (.st 0))],[(26,.aV 37 true true (.st 0))]⟩)])
 (tbl:=[])
 mixed (by intro c h;cases h) Try.func13 Try.call13 rfl rfl (by kernel_rfl) (mvs:=[]) (ns:=[]) (fun q=>by kernel_rfl)
abbrev rl (fu:Nat):cq S0:=⟨92,[TG,.ab false (.st 2),Tz],[],false,[(6,.ab true (.st 7)),(7,TC)],[],fun q=>F.mY fu q.1 q.2.1 q.2.2⟩
theorem sQ (fu:Nat):aP Try.prog (rl fu):=aP.of (N:=29) (fu:=fu)
 (H:=[(5,.fO [6] ⟨[(7,TC)],[(6,.box 132 true [Tx,Tx])]⟩)])
 (tbl:=[rM fu])
 mixed (ai.2 ⟨rj fu,(by intro c h;cases h)⟩) Try.func92 Try.call92 rfl rfl (by kernel_rfl) (mvs:=[]) (ns:=[]) (fun q=>by kernel_rfl)
abbrev qo (fu:Nat):cq S0:=⟨91,[.ab false (.st 7),.loc 1000 0],[.box 114 false [.mp 1001],.deep 0 false false (.map .i64 3 136) .map],false,[(3,.fD 1001 (.list (.int .i64)))],[(1000,.box 114 false [.mp 1001]),(1001,.deep 0 false true (.map .i64 3 136) .map)],fun q=>F.b5 fu q.1 q.2⟩
theorem sk (fu:Nat):aP Try.prog (qo fu):=aP.of (N:=20) (fu:=fu)
 (H:=[(7,.join ⟨[(4,.fD 1001 (.list (.int .i64)))],[(1001,.deep 0 false true (.map .i64 3 136) .map)]⟩)])
 (tbl:=[])
 mixed (by intro c h;cases h) Try.func91 Try.call91 rfl rfl (by kernel_rfl) (mvs:=[]) (ns:=[]) (fun q=>by kernel_rfl)
abbrev vv (fu:Nat):cq S0:=⟨41,[.ab false (.st 6),.ab false (.st 6)],[],false,[(4,TC)],[],fun q=>F.gV fu q.1 q.2⟩
theorem zI (fu:Nat):aP Try.prog (vv fu):=aP.of (N:=11) (fu:=fu)
 (H:=[])
 (tbl:=[o6 fu])
 mixed (ai.2 ⟨qB fu,(by intro c h;cases h)⟩) Try.func41 Try.call41 rfl rfl (by kernel_rfl) (mvs:=[]) (ns:=[]) (fun q=>by kernel_rfl)
abbrev nv (fu:Nat):cq S0:=⟨73,[TA,.loc 1000 0,.loc 1001 0,.loc 1002 0,.loc 1003 0],[.box 3 false [TA],.box 79 false [.aF 41 []],.box 83 false [TB],.box 77 false [TA,Tz,TA,Tz]],false,[],[(1000,.box 3 false [Tx]),(1001,.box 79 false [.aF 41 []]),(1002,.box 83 false [TB]),(1003,.box 77 false [Tx,Tz,Tx,Tz])],fun q=>F.Bp fu q.1 q.2.1 q.2.2.1 q.2.2.2.1 q.2.2.2.2.1 q.2.2.2.2.2.1 q.2.2.2.2.2.2⟩
theorem pB (fu:Nat):aP Try.prog (nv fu):=aP.of (N:=23) (fu:=fu)
 (H:=[(1,.fO [] ⟨[(21,TC)],[]⟩),
  (2,.join ⟨[],[(1000,.box 3 false [Tx])]⟩)])
 (tbl:=[vv fu])
 mixed (ai.2 ⟨zI fu,(by intro c h;cases h)⟩) Try.func73 Try.call73 rfl rfl (by kernel_rfl) (mvs:=[]) (ns:=[]) (fun q=>by kernel_rfl)
abbrev sP (fu:Nat):cq S0:=⟨93,[.sub 1000 (.list (.int .i64)),.loc 1001 0],[.box 22 false [.ks 1002 (.int .i64),.ks 1002 (.int .i64)],.box 116 false [.aF 73 [.loc 1003 0,.loc 1004 0,.loc 1005 0,.loc 1006 0]],.deep 0 false false (.map .i64 3 136) .map,.box 3 false [TA],.box 79 false [.aF 41 []],.box 83 false [TB],.box 77 false [TA,Tz,TA,Tz]],false,[],[(1000,.box 22 false [.any,.any]),(1001,.box 116 false [.aF 73 [.loc 1003 0,.loc 1004 0,.loc 1005 0,.loc 1006 0]]),(1002,.deep 0 false true (.map .i64 3 136) .map),(1003,.box 3 false [Tx]),(1004,.box 79 false [.aF 41 []]),(1005,.box 83 false [TB]),(1006,.box 77 false [Tx,Tz,Tx,Tz])],fun q=>F.CH fu q.1 q.2.1 q.2.2.1 q.2.2.2.1 q.2.2.2.2.1 q.2.2.2.2.2.1 q.2.2.2.2.2.2.1 q.2.2.2.2.2.2.2.1 q.2.2.2.2.2.2.2.2.1 q.2.2.2.2.2.2.2.2.2.1 q.2.2.2.2.2.2.2.2.2.2.1 q.2.2.2.2.2.2.2.2.2.2.2.1 q.2.2.2.2.2.2.2.2.2.2.2.2⟩
theorem xV (fu:Nat):aP Try.prog (sP fu):=aP.of (N:=24) (fu:=fu)
 (H:=[(3,.loop ⟨[(9,Tx)],[(1003,.box 3 false [Tx]),(1004,.box 79 false [.aF 41 []]),(1005,.box 83 false [TB]),(1006,.box 77 false [Tx,Tz,Tx,Tz])]⟩ 0 ⟨[],[(1003,.box 3 false [Tx]),(1004,.box 79 false [.aF 41 []]),(1005,.box 83 false [TB]),(1006,.box 77 false [Tx,Tz,Tx,Tz])]⟩),
  (17,.loop ⟨[(15,Tx)],[(1003,.box 3 false [Tx]),(1004,.box 79 false [.aF 41 []]),(1005,.box 83 false [TB]),(1006,.box 77 false [Tx,Tz,Tx,Tz])]⟩ 2 ⟨[],[(1003,.box 3 false [Tx]),(1004,.box 79 false [.aF 41 []]),(1005,.box 83 false [TB]),(1006,.box 77 false [Tx,Tz,Tx,Tz])]⟩)])
 (tbl:=[nv fu])
 mixed (ai.2 ⟨pB fu,(by intro c h;cases h)⟩) Try.func93 Try.call93 rfl rfl (by kernel_rfl) (mvs:=[]) (ns:=[]) (fun q=>by kernel_rfl)
abbrev sO (fu:Nat):cq S0:=⟨93,[.sub 1000 (.list (.int .i64)),.loc 1001 0],[.box 22 false [.ks 1002 (.int .i64)],.box 116 false [.aF 73 [.loc 1003 0,.loc 1004 0,.loc 1005 0,.loc 1006 0]],.deep 0 false false (.map .i64 3 136) .map,.box 3 false [TA],.box 79 false [.aF 41 []],.box 83 false [TB],.box 77 false [TA,Tz,TA,Tz]],false,[],[(1000,.box 22 false [.any]),(1001,.box 116 false [.aF 73 [.loc 1003 0,.loc 1004 0,.loc 1005 0,.loc 1006 0]]),(1002,.deep 0 false true (.map .i64 3 136) .map),(1003,.box 3 false [Tx]),(1004,.box 79 false [.aF 41 []]),(1005,.box 83 false [TB]),(1006,.box 77 false [Tx,Tz,Tx,Tz])],fun q=>F.CG fu q.1 q.2.1 q.2.2.1 q.2.2.2.1 q.2.2.2.2.1 q.2.2.2.2.2.1 q.2.2.2.2.2.2.1 q.2.2.2.2.2.2.2.1 q.2.2.2.2.2.2.2.2.1 q.2.2.2.2.2.2.2.2.2.1 q.2.2.2.2.2.2.2.2.2.2⟩
theorem xU (fu:Nat):aP Try.prog (sO fu):=aP.of (N:=24) (fu:=fu)
 (H:=[(3,.loop ⟨[(9,Tx)],[(1003,.box 3 false [Tx]),(1004,.box 79 false [.aF 41 []]),(1005,.box 83 false [TB]),(1006,.box 77 false [Tx,Tz,Tx,Tz])]⟩ 0 ⟨[],[(1003,.box 3 false [Tx]),(1004,.box 79 false [.aF 41 []]),(1005,.box 83 false [TB]),(1006,.box 77 false [Tx,Tz,Tx,Tz])]⟩),
  (17,.loop ⟨[(15,Tx)],[(1003,.box 3 false [Tx]),(1004,.box 79 false [.aF 41 []]),(1005,.box 83 false [TB]),(1006,.box 77 false [Tx,Tz,Tx,Tz])]⟩ 2 ⟨[],[(1003,.box 3 false [Tx]),(1004,.box 79 false [.aF 41 []]),(1005,.box 83 false [TB]),(1006,.box 77 false [Tx,Tz,Tx,Tz])]⟩)])
 (tbl:=[nv fu])
 mixed (ai.2 ⟨pB fu,(by intro c h;cases h)⟩) Try.func93 Try.call93 rfl rfl (by kernel_rfl) (mvs:=[]) (ns:=[]) (fun q=>by kernel_rfl)
abbrev vt (fu:Nat):cq S0:=⟨72,[TG,.mp 1000,.ab false (.st 6),.aF 73 [.loc 1001 0,.loc 1002 0,.loc 1003 0,.loc 1004 0]],[.deep 0 false false (.map .i64 3 136) .map,.box 3 false [TA],.box 79 false [.aF 41 []],.box 83 false [TB],.box 77 false [TA,Tz,TA,Tz]],false,[],[(1000,.deep 0 false true (.map .i64 3 136) .map),(1001,.box 3 false [Tx]),(1002,.box 79 false [.aF 41 []]),(1003,.box 83 false [TB]),(1004,.box 77 false [Tx,Tz,Tx,Tz])],fun q=>F.FA fu q.1 q.2.1 q.2.2.1 q.2.2.2.1 q.2.2.2.2.1 q.2.2.2.2.2.1 q.2.2.2.2.2.2.1 q.2.2.2.2.2.2.2.1 q.2.2.2.2.2.2.2.2⟩
theorem zG (fu:Nat):aP Try.prog (vt fu):=aP.of (N:=170) (fu:=fu)
 (H:=[(9,.fO [] ⟨[(12,TC)],[]⟩),
  (15,.join ⟨[],[(1000,.deep 0 false true (.map .i64 3 136) .map),(1001,.box 3 false [Tx]),(1003,.box 83 false [TB]),(1004,.box 77 false [Tx,Tz,Tx,Tz]),(5,.box 114 true [.mp 1000]),(7,.box 116 true [.aF 73 [.loc 1001 0,.loc 1002 0,.loc 1003 0,.loc 1004 0]]),(1002,.box 79 false [.aF 41 []])]⟩),
  (19,.fO [62,7,1000,1001,1002,1003,1004] ⟨[],[(1000,.deep 0 false true (.map .i64 3 136) .map),(1001,.box 3 false [Tx]),(1003,.box 83 false [TB]),(1004,.box 77 false [Tx,Tz,Tx,Tz]),(7,.box 116 true [.aF 73 [.loc 1001 0,.loc 1002 0,.loc 1003 0,.loc 1004 0]]),(1002,.box 79 false [.aF 41 []])]⟩),
  (22,.join ⟨[],[(1000,.deep 0 false true (.map .i64 3 136) .map),(1001,.box 3 false [Tx]),(1003,.box 83 false [TB]),(1004,.box 77 false [Tx,Tz,Tx,Tz]),(7,.box 116 true [.aF 73 [.loc 1001 0,.loc 1002 0,.loc 1003 0,.loc 1004 0]]),(1002,.box 79 false [.aF 41 []])]⟩),
  (32,.loop ⟨[(15,.own 15 (.st 7)),(76,Tx)],[(5,.box 114 true [.mp 1000]),(1000,.deep 0 false true (.map .i64 3 136) .map),(7,.box 116 true [.aF 73 [.loc 1001 0,.loc 1002 0,.loc 1003 0,.loc 1004 0]]),(1001,.box 3 false [Tx]),(1002,.box 79 false [.aF 41 []]),(1003,.box 83 false [TB]),(1004,.box 77 false [Tx,Tz,Tx,Tz]),(15,.aV 132 true true (.st 7))]⟩ 0 ⟨[(15,.own 15 (.st 7))],[(5,.box 114 true [.mp 1000]),(1000,.deep 0 false true (.map .i64 3 136) .map),(7,.box 116 true [.aF 73 [.loc 1001 0,.loc 1002 0,.loc 1003 0,.loc 1004 0]]),(1001,.box 3 false [Tx]),(1002,.box 79 false [.aF 41 []]),(1003,.box 83 false [TB]),(1004,.box 77 false [Tx,Tz,Tx,Tz]),(15,.aV 132 true true (.st 7))]⟩),
  (46,.fO [] ⟨[(92,TC)],[]⟩),
  (47,.join ⟨[(15,.own 15 (.st 7))],[(1000,.deep 0 false true (.map .i64 3 136) .map),(1001,.box 3 false [Tx]),(1003,.box 83 false [TB]),(1004,.box 77 false [Tx,Tz,Tx,Tz]),(15,.aV 132 true true (.st 7)),(5,.box 114 true [.mp 1000]),(7,.box 116 true [.aF 73 [.loc 1001 0,.loc 1002 0,.loc 1003 0,.loc 1004 0]]),(1002,.box 79 false [.aF 41 []])]⟩),
  (49,.fO [5,1000,106,7,1001,1002,1003,1004] ⟨[],[(1000,.deep 0 false true (.map .i64 3 136) .map),(1001,.box 3 false [Tx]),(1003,.box 83 false [TB]),(1004,.box 77 false [Tx,Tz,Tx,Tz]),(5,.box 114 true [.mp 1000]),(7,.box 116 true [.aF 73 [.loc 1001 0,.loc 1002 0,.loc 1003 0,.loc 1004 0]]),(1002,.box 79 false [.aF 41 []])]⟩),
  (55,.fO [] ⟨[(116,TC)],[]⟩),
  (56,.join ⟨[],[(1000,.deep 0 false true (.map .i64 3 136) .map),(5,.box 114 true [.mp 1000])]⟩),
  (57,.fO [5,1000] ⟨[],[(1000,.deep 0 false true (.map .i64 3 136) .map),(5,.box 114 true [.mp 1000])]⟩),
  (60,.join ⟨[],[(1000,.deep 0 false true (.map .i64 3 136) .map),(5,.box 114 true [.mp 1000])]⟩),
  (61,.fO [5,1000] ⟨[],[(1000,.deep 0 false true (.map .i64 3 136) .map),(5,.box 114 true [.mp 1000])]⟩),
  (66,.loop ⟨[(150,Tx)],[(5,.box 114 true [.mp 1000]),(1000,.deep 0 false true (.map .i64 3 136) .map)]⟩ 2 ⟨[],[(5,.box 114 true [.mp 1000]),(1000,.deep 0 false true (.map .i64 3 136) .map)]⟩),
  (77,.fO [5,1000] ⟨[],[(1000,.deep 0 false true (.map .i64 3 136) .map),(5,.box 114 true [.mp 1000])]⟩)])
 (tbl:=[qo fu,sP fu,sO fu,rl fu])
 mixed (ai.2 ⟨sk fu,ai.2 ⟨xV fu,ai.2 ⟨xU fu,ai.2 ⟨sQ fu,(by intro c h;cases h)⟩⟩⟩⟩) Try.func72 Try.call72 rfl rfl (by kernel_rfl) (mvs:=[]) (ns:=[]) (fun q=>by kernel_rfl)
abbrev wC (fu:Nat):cq S0:=⟨40,[TG,TD,.aF 41 []],[],false,[(6,.ab false (.st 8)),(7,Tx)],[],fun q=>F.tR fu q.1 q.2⟩
theorem AA (fu:Nat):aP Try.prog (wC fu):=aP.of (N:=48) (fu:=fu)
 (H:=[(13,.fz [17]),
  (18,.gX ⟨[(27,Tx)],[(24,.deep 0 true true (.map .i64 3 136) .map),(5,.box 79 true [.aF 41 []]),(8,.box 83 true [TB]),(6,.box 42 true [TC,Tx,TH,Tx,TH])]⟩ 0 ⟨[],[(24,.deep 0 true true (.map .i64 3 136) .map),(5,.box 79 true [.aF 41 []]),(8,.box 83 true [TB]),(6,.box 42 true [TC,Tx,TH,Tx,TH])]⟩),
  (37,.mF [6])])
 (tbl:=[oM fu,vt fu])
 mixed (ai.2 ⟨o7 fu,ai.2 ⟨zG fu,(by intro c h;cases h)⟩⟩) Try.func40 Try.call40 rfl rfl (by kernel_rfl) (mvs:=[]) (ns:=[]) (fun q=>by kernel_rfl)
abbrev yu (fu:Nat):cq S0:=⟨17,[TG,TD],[],false,[(4,.ab false (.st 8)),(5,Tx)],[],fun q=>F.rD fu q.1 q.2⟩
theorem B4 (fu:Nat):aP Try.prog (yu fu):=aP.of (N:=11) (fu:=fu)
 (H:=[])
 (tbl:=[wC fu])
 mixed (ai.2 ⟨AA fu,(by intro c h;cases h)⟩) Try.func17 Try.call17 rfl rfl (by kernel_rfl) (mvs:=[]) (ns:=[]) (fun q=>by kernel_rfl)
abbrev wE (fu:Nat):cq S0:=⟨47,[.ab false (.st 6),.ab false (.st 6)],[],false,[(4,TC)],[],fun q=>F.iG fu q.1 q.2⟩
theorem AB (fu:Nat):aP Try.prog (wE fu):=aP.of (N:=10) (fu:=fu)
 (H:=[])
 (tbl:=[re fu])
 mixed (ai.2 ⟨sI fu,(by intro c h;cases h)⟩) Try.func47 Try.call47 rfl rfl (by kernel_rfl) (mvs:=[]) (ns:=[]) (fun q=>by kernel_rfl)
abbrev nu (fu:Nat):cq S0:=⟨73,[TA,.loc 1000 0,.loc 1001 0,.loc 1002 0,.loc 1003 0],[.box 3 false [TA],.box 79 false [.aF 47 []],.box 83 false [TB],.box 77 false [TA,Tz,TA,Tz]],false,[],[(1000,.box 3 false [Tx]),(1001,.box 79 false [.aF 47 []]),(1002,.box 83 false [TB]),(1003,.box 77 false [Tx,Tz,Tx,Tz])],fun q=>F.Bo fu q.1 q.2.1 q.2.2.1 q.2.2.2.1 q.2.2.2.2.1 q.2.2.2.2.2.1 q.2.2.2.2.2.2⟩
theorem pA (fu:Nat):aP Try.prog (nu fu):=aP.of (N:=23) (fu:=fu)
 (H:=[(1,.fO [] ⟨[(21,TC)],[]⟩),
  (2,.join ⟨[],[(1000,.box 3 false [Tx])]⟩)])
 (tbl:=[wE fu])
 mixed (ai.2 ⟨AB fu,(by intro c h;cases h)⟩) Try.func73 Try.call73 rfl rfl (by kernel_rfl) (mvs:=[]) (ns:=[]) (fun q=>by kernel_rfl)
abbrev sN (fu:Nat):cq S0:=⟨93,[.sub 1000 (.list (.int .i64)),.loc 1001 0],[.box 22 false [.ks 1002 (.int .i64),.ks 1002 (.int .i64)],.box 116 false [.aF 73 [.loc 1003 0,.loc 1004 0,.loc 1005 0,.loc 1006 0]],.deep 0 false false (.map .i64 3 136) .map,.box 3 false [TA],.box 79 false [.aF 47 []],.box 83 false [TB],.box 77 false [TA,Tz,TA,Tz]],false,[],[(1000,.box 22 false [.any,.any]),(1001,.box 116 false [.aF 73 [.loc 1003 0,.loc 1004 0,.loc 1005 0,.loc 1006 0]]),(1002,.deep 0 false true (.map .i64 3 136) .map),(1003,.box 3 false [Tx]),(1004,.box 79 false [.aF 47 []]),(1005,.box 83 false [TB]),(1006,.box 77 false [Tx,Tz,Tx,Tz])],fun q=>F.CF fu q.1 q.2.1 q.2.2.1 q.2.2.2.1 q.2.2.2.2.1 q.2.2.2.2.2.1 q.2.2.2.2.2.2.1 q.2.2.2.2.2.2.2.1 q.2.2.2.2.2.2.2.2.1 q.2.2.2.2.2.2.2.2.2.1 q.2.2.2.2.2.2.2.2.2.2.1 q.2.2.2.2.2.2.2.2.2.2.2.1 q.2.2.2.2.2.2.2.2.2.2.2.2⟩
theorem xT (fu:Nat):aP Try.prog (sN fu):=aP.of (N:=24) (fu:=fu)
 (H:=[(3,.loop ⟨[(9,Tx)],[(1003,.box 3 false [Tx]),(1004,.box 79 false [.aF 47 []]),(1005,.box 83 false [TB]),(1006,.box 77 false [Tx,Tz,Tx,Tz])]⟩ 0 ⟨[],[(1003,.box 3 false [Tx]),(1004,.box 79 false [.aF 47 []]),(1005,.box 83 false [TB]),(1006,.box 77 false [Tx,Tz,Tx,Tz])]⟩),
  (17,.loop ⟨[(15,Tx)],[(1003,.box 3 false [Tx]),(1004,.box 79 false [.aF 47 []]),(1005,.box 83 false [TB]),(1006,.box 77 false [Tx,Tz,Tx,Tz])]⟩ 2 ⟨[],[(1003,.box 3 false [Tx]),(1004,.box 79 false [.aF 47 []]),(1005,.box 83 false [TB]),(1006,.box 77 false [Tx,Tz,Tx,Tz])]⟩)])
 (tbl:=[nu fu])
 mixed (ai.2 ⟨pA fu,(by intro c h;cases h)⟩) Try.func93 Try.call93 rfl rfl (by kernel_rfl) (mvs:=[]) (ns:=[]) (fun q=>by kernel_rfl)
abbrev sM (fu:Nat):cq S0:=⟨93,[.sub 1000 (.list (.int .i64)),.loc 1001 0],[.box 22 false [.ks 1002 (.int .i64)],.box 116 false [.aF 73 [.loc 1003 0,.loc 1004 0,.loc 1005 0,.loc 1006 0]],.deep 0 false false (.map .i64 3 136) .map,.box 3 false [TA],.box 79 false [.aF 47 []],.box 83 false [TB],.box 77 false [TA,Tz,TA,Tz]],false,[],[(1000,.box 22 false [.any]),(1001,.box 116 false [.aF 73 [.loc 1003 0,.loc 1004 0,.loc 1005 0,.loc 1006 0]]),(1002,.deep 0 false true (.map .i64 3 136) .map),(1003,.box 3 false [Tx]),(1004,.box 79 false [.aF 47 []]),(1005,.box 83 false [TB]),(1006,.box 77 false [Tx,Tz,Tx,Tz])],fun q=>F.CE fu q.1 q.2.1 q.2.2.1 q.2.2.2.1 q.2.2.2.2.1 q.2.2.2.2.2.1 q.2.2.2.2.2.2.1 q.2.2.2.2.2.2.2.1 q.2.2.2.2.2.2.2.2.1 q.2.2.2.2.2.2.2.2.2.1 q.2.2.2.2.2.2.2.2.2.2⟩
theorem xS (fu:Nat):aP Try.prog (sM fu):=aP.of (N:=24) (fu:=fu)
 (H:=[(3,.loop ⟨[(9,Tx)],[(1003,.box 3 false [Tx]),(1004,.box 79 false [.aF 47 []]),(1005,.box 83 false [TB]),(1006,.box 77 false [Tx,Tz,Tx,Tz])]⟩ 0 ⟨[],[(1003,.box 3 false [Tx]),(1004,.box 79 false [.aF 47 []]),(1005,.box 83 false [TB]),(1006,.box 77 false [Tx,Tz,Tx,Tz])]⟩),
  (17,.loop ⟨[(15,Tx)],[(1003,.box 3 false [Tx]),(1004,.box 79 false [.aF 47 []]),(1005,.box 83 false [TB]),(1006,.box 77 false [Tx,Tz,Tx,Tz])]⟩ 2 ⟨[],[(1003,.box 3 false [Tx]),(1004,.box 79 false [.aF 47 []]),(1005,.box 83 false [TB]),(1006,.box 77 false [Tx,Tz,Tx,Tz])]⟩)])
 (tbl:=[nu fu])
 mixed (ai.2 ⟨pA fu,(by intro c h;cases h)⟩) Try.func93 Try.call93 rfl rfl (by kernel_rfl) (mvs:=[]) (ns:=[]) (fun q=>by kernel_rfl)
abbrev vr (fu:Nat):cq S0:=⟨72,[TG,.mp 1000,.ab false (.st 6),.aF 73 [.loc 1001 0,.loc 1002 0,.loc 1003 0,.loc 1004 0]],[.deep 0 false false (.map .i64 3 136) .map,.box 3 false [TA],.box 79 false [.aF 47 []],.box 83 false [TB],.box 77 false [TA,Tz,TA,Tz]],false,[],[(1000,.deep 0 false true (.map .i64 3 136) .map),(1001,.box 3 false [Tx]),(1002,.box 79 false [.aF 47 []]),(1003,.box 83 false [TB]),(1004,.box 77 false [Tx,Tz,Tx,Tz])],fun q=>F.Fz fu q.1 q.2.1 q.2.2.1 q.2.2.2.1 q.2.2.2.2.1 q.2.2.2.2.2.1 q.2.2.2.2.2.2.1 q.2.2.2.2.2.2.2.1 q.2.2.2.2.2.2.2.2⟩
theorem zF (fu:Nat):aP Try.prog (vr fu):=aP.of (N:=170) (fu:=fu)
 (H:=[(9,.fO [] ⟨[(12,TC)],[]⟩),
  (15,.join ⟨[],[(1000,.deep 0 false true (.map .i64 3 136) .map),(1001,.box 3 false [Tx]),(1003,.box 83 false [TB]),(1004,.box 77 false [Tx,Tz,Tx,Tz]),(5,.box 114 true [.mp 1000]),(7,.box 116 true [.aF 73 [.loc 1001 0,.loc 1002 0,.loc 1003 0,.loc 1004 0]]),(1002,.box 79 false [.aF 47 []])]⟩),
  (19,.fO [62,7,1000,1001,1002,1003,1004] ⟨[],[(1000,.deep 0 false true (.map .i64 3 136) .map),(1001,.box 3 false [Tx]),(1003,.box 83 false [TB]),(1004,.box 77 false [Tx,Tz,Tx,Tz]),(7,.box 116 true [.aF 73 [.loc 1001 0,.loc 1002 0,.loc 1003 0,.loc 1004 0]]),(1002,.box 79 false [.aF 47 []])]⟩),
  (22,.join ⟨[],[(1000,.deep 0 false true (.map .i64 3 136) .map),(1001,.box 3 false [Tx]),(1003,.box 83 false [TB]),(1004,.box 77 false [Tx,Tz,Tx,Tz]),(7,.box 116 true [.aF 73 [.loc 1001 0,.loc 1002 0,.loc 1003 0,.loc 1004 0]]),(1002,.box 79 false [.aF 47 []])]⟩),
  (32,.loop ⟨[(15,.own 15 (.st 7)),(76,Tx)],[(5,.box 114 true [.mp 1000]),(1000,.deep 0 false true (.map .i64 3 136) .map),(7,.box 116 true [.aF 73 [.loc 1001 0,.loc 1002 0,.loc 1003 0,.loc 1004 0]]),(1001,.box 3 false [Tx]),(1002,.box 79 false [.aF 47 []]),(1003,.box 83 false [TB]),(1004,.box 77 false [Tx,Tz,Tx,Tz]),(15,.aV 132 true true (.st 7))]⟩ 0 ⟨[(15,.own 15 (.st 7))],[(5,.box 114 true [.mp 1000]),(1000,.deep 0 false true (.map .i64 3 136) .map),(7,.box 116 true [.aF 73 [.loc 1001 0,.loc 1002 0,.loc 1003 0,.loc 1004 0]]),(1001,.box 3 false [Tx]),(1002,.box 79 false [.aF 47 []]),(1003,.box 83 false [TB]),(1004,.box 77 false [Tx,Tz,Tx,Tz]),(15,.aV 132 true true (.st 7))]⟩),
  (46,.fO [] ⟨[(92,TC)],[]⟩),
  (47,.join ⟨[(15,.own 15 (.st 7))],[(1000,.deep 0 false true (.map .i64 3 136) .map),(1001,.box 3 false [Tx]),(1003,.box 83 false [TB]),(1004,.box 77 false [Tx,Tz,Tx,Tz]),(15,.aV 132 true true (.st 7)),(5,.box 114 true [.mp 1000]),(7,.box 116 true [.aF 73 [.loc 1001 0,.loc 1002 0,.loc 1003 0,.loc 1004 0]]),(1002,.box 79 false [.aF 47 []])]⟩),
  (49,.fO [5,1000,106,7,1001,1002,1003,1004] ⟨[],[(1000,.deep 0 false true (.map .i64 3 136) .map),(1001,.box 3 false [Tx]),(1003,.box 83 false [TB]),(1004,.box 77 false [Tx,Tz,Tx,Tz]),(5,.box 114 true [.mp 1000]),(7,.box 116 true [.aF 73 [.loc 1001 0,.loc 1002 0,.loc 1003 0,.loc 1004 0]]),(1002,.box 79 false [.aF 47 []])]⟩),
  (55,.fO [] ⟨[(116,TC)],[]⟩),
  (56,.join ⟨[],[(1000,.deep 0 false true (.map .i64 3 136) .map),(5,.box 114 true [.mp 1000])]⟩),
  (57,.fO [5,1000] ⟨[],[(1000,.deep 0 false true (.map .i64 3 136) .map),(5,.box 114 true [.mp 1000])]⟩),
  (60,.join ⟨[],[(1000,.deep 0 false true (.map .i64 3 136) .map),(5,.box 114 true [.mp 1000])]⟩),
  (61,.fO [5,1000] ⟨[],[(1000,.deep 0 false true (.map .i64 3 136) .map),(5,.box 114 true [.mp 1000])]⟩),
  (66,.loop ⟨[(150,Tx)],[(5,.box 114 true [.mp 1000]),(1000,.deep 0 false true (.map .i64 3 136) .map)]⟩ 2 ⟨[],[(5,.box 114 true [.mp 1000]),(1000,.deep 0 false true (.map .i64 3 136) .map)]⟩),
  (77,.fO [5,1000] ⟨[],[(1000,.deep 0 false true (.map .i64 3 136) .map),(5,.box 114 true [.mp 1000])]⟩)])
 (tbl:=[qo fu,sN fu,sM fu,rl fu])
 mixed (ai.2 ⟨sk fu,ai.2 ⟨xT fu,ai.2 ⟨xS fu,ai.2 ⟨sQ fu,(by intro c h;cases h)⟩⟩⟩⟩) Try.func72 Try.call72 rfl rfl (by kernel_rfl) (mvs:=[]) (ns:=[]) (fun q=>by kernel_rfl)
abbrev um (fu:Nat):cq S0:=⟨40,[TG,TD,.aF 47 []],[],false,[(6,.ab false (.st 8)),(7,Tx)],[],fun q=>F.qM fu q.1 q.2⟩
theorem yz (fu:Nat):aP Try.prog (um fu):=aP.of (N:=48) (fu:=fu)
 (H:=[(13,.fz [17]),
  (18,.gX ⟨[(27,Tx)],[(24,.deep 0 true true (.map .i64 3 136) .map),(5,.box 79 true [.aF 47 []]),(8,.box 83 true [TB]),(6,.box 42 true [TC,Tx,TH,Tx,TH])]⟩ 0 ⟨[],[(24,.deep 0 true true (.map .i64 3 136) .map),(5,.box 79 true [.aF 47 []]),(8,.box 83 true [TB]),(6,.box 42 true [TC,Tx,TH,Tx,TH])]⟩),
  (37,.mF [6])])
 (tbl:=[oM fu,vr fu])
 mixed (ai.2 ⟨o7 fu,ai.2 ⟨zF fu,(by intro c h;cases h)⟩⟩) Try.func40 Try.call40 rfl rfl (by kernel_rfl) (mvs:=[]) (ns:=[]) (fun q=>by kernel_rfl)
abbrev zJ (fu:Nat):cq S0:=⟨22,[TG,TD],[],false,[(4,.ab false (.st 8)),(5,Tx)],[],fun q=>F.sY fu q.1 q.2⟩
theorem Dn (fu:Nat):aP Try.prog (zJ fu):=aP.of (N:=11) (fu:=fu)
 (H:=[])
 (tbl:=[um fu])
 mixed (ai.2 ⟨yz fu,(by intro c h;cases h)⟩) Try.func22 Try.call22 rfl rfl (by kernel_rfl) (mvs:=[]) (ns:=[]) (fun q=>by kernel_rfl)
abbrev vM (fu:Nat):pe S0:=⟨1,[Tz],[.loc 1000 0,.loc 1001 0],[.box 86 false [.own 1002 (.list (.int .i64))],.box 64 false [Tz,TE,TA,TA,TA,Tz,TA,TI],.deep 104 false false (.dK 2) (.list (.list (.int .i64)))],[(1000,.box 86 false [.own 1002 (.list (.int .i64))]),(1001,.box 64 false [Tz,TE,Tx,Tx,Tx,Tz,Tx,TI]),(1002,.deep 104 false true (.dK 2) (.list (.list (.int .i64))))],false,fun q=>F.pW fu q.1 q.2.1 q.2.2.1 q.2.2.2.1 q.2.2.2.2.1 q.2.2.2.2.2.1 q.2.2.2.2.2.2.1 q.2.2.2.2.2.2.2.1 q.2.2.2.2.2.2.2.2.1 q.2.2.2.2.2.2.2.2.2⟩
theorem Ay (fu:Nat):Dx Try.prog (vM fu):=Dx.of (fu:=fu)
 (H:=[])
 (tbl:=[o8 fu])
 mixed (ai.2 ⟨qC fu,(by intro c h;cases h)⟩) (by kernel_rfl) (by kernel_rfl) (by kernel_rfl) (mvs:=[]) (ns:=[]) (fun q=>by kernel_rfl)
abbrev qj (fu:Nat):cq S0:=⟨88,[.ab false (.st 1),.own 1000 (.int .i64),TA,.ct 1001],[.aV 3 false false (.int .i64),.lp 1 false [.loc 1002 0,.loc 1003 0],.box 86 false [.own 1004 (.list (.int .i64))],.box 64 false [Tz,TE,TA,TA,TA,Tz,TA,TI],.deep 104 false false (.dK 2) (.list (.list (.int .i64)))],false,[(8,TC)],[(1000,.aV 3 false true (.int .i64)),(1001,.lp 1 false [.loc 1002 0,.loc 1003 0]),(1002,.box 86 false [.own 1004 (.list (.int .i64))]),(1003,.box 64 false [Tz,TE,Tx,Tx,Tx,Tz,Tx,TI]),(1004,.deep 104 false true (.dK 2) (.list (.list (.int .i64))))],fun q=>F.jE fu q.1 q.2.1 q.2.2.1 q.2.2.2.1 q.2.2.2.2.1 q.2.2.2.2.2.1 q.2.2.2.2.2.2.1 q.2.2.2.2.2.2.2.1 q.2.2.2.2.2.2.2.2.1 q.2.2.2.2.2.2.2.2.2.1 q.2.2.2.2.2.2.2.2.2.2.1 q.2.2.2.2.2.2.2.2.2.2.2⟩
theorem si:∀fu:Nat,aP Try.prog (qj fu)
 | 0=>⟨Try.call88,fun q r h=>nomatch (show(none:Option _)=some r from h)⟩
 | fu+1=>aP.PB (N:=48) (fu:=fu+1)
   (H:=[(22,.gX ⟨[(1,.own 1000 (.int .i64))],[(1000,.aV 3 false true (.int .i64)),(1001,.lp 1 false [.loc 1002 0,.loc 1003 0]),(1002,.box 86 false [.own 1004 (.list (.int .i64))]),(1003,.box 64 false [Tz,TE,Tx,Tx,Tx,Tz,Tx,TI]),(1004,.deep 104 false true (.dK 2) (.list (.list (.int .i64))))]⟩ 0 ⟨[],[(1000,.aV 3 false true (.int .i64)),(1001,.lp 1 false [.loc 1002 0,.loc 1003 0]),(1002,.box 86 false [.own 1004 (.list (.int .i64))]),(1003,.box 64 false [Tz,TE,Tx,Tx,Tx,Tz,Tx,TI]),(1004,.deep 104 false true (.dK 2) (.list (.list (.int .i64))))]⟩),
    (25,.mF [])])
   (tbl:=[qj fu,ol (fu+1),rh (fu+1)]) (tbr:=[]) (ys:=[vM (fu+1)])
   [] mixed (ai.2 ⟨si fu,ai.2 ⟨ql (fu+1),ai.2 ⟨sK (fu+1),(by intro c h;cases h)⟩⟩⟩) (by intro c h;cases h) (ai.2 ⟨Ay (fu+1),(by intro c h;cases h)⟩) Try.func88 Try.call88 rfl rfl (by kernel_rfl) rfl (by kernel_rfl) (mvs:=[]) (ns:=[]) (fun q=>by kernel_rfl)
abbrev uk (fu:Nat):cq S0:=⟨86,[.ct 1000,.loc 1001 0],[.lp 1 false [.loc 1002 0,.loc 1003 0],.box 59 false [Tz,TE],.box 86 false [.own 1004 (.list (.int .i64))],.box 64 false [Tz,TE,TA,TA,TA,Tz,TA,TI],.deep 104 false false (.dK 2) (.list (.list (.int .i64)))],false,[],[(1000,.lp 1 false [.loc 1002 0,.loc 1003 0]),(1001,.box 59 false [Tz,TE]),(1002,.box 86 false [.own 1004 (.list (.int .i64))]),(1003,.box 64 false [Tz,TE,Tx,Tx,Tx,Tz,Tx,TI]),(1004,.deep 104 false true (.dK 2) (.list (.list (.int .i64))))],fun q=>F.nH fu q.1 q.2.1 q.2.2.1 q.2.2.2.1 q.2.2.2.2.1 q.2.2.2.2.2.1 q.2.2.2.2.2.2.1 q.2.2.2.2.2.2.2.1 q.2.2.2.2.2.2.2.2.1 q.2.2.2.2.2.2.2.2.2.1 q.2.2.2.2.2.2.2.2.2.2⟩
theorem yy (fu:Nat):aP Try.prog (uk fu):=aP.of (N:=13) (fu:=fu)
 (H:=[(2,.join ⟨[],[(1003,.box 64 false [Tz,TE,Tx,Tx,Tx,Tz,Tx,TI]),(1004,.deep 104 false true (.dK 2) (.list (.list (.int .i64)))),(1000,.lp 1 false [.loc 1002 0,.loc 1003 0]),(1002,.box 86 false [.own 1004 (.list (.int .i64))])]⟩),
  (3,.mF [10,1000,1002,1003,1004])])
 (tbl:=[qj fu,nX fu])
 mixed (ai.2 ⟨si fu,ai.2 ⟨om fu,(by intro c h;cases h)⟩⟩) Try.func86 Try.call86 rfl rfl (by kernel_rfl) (mvs:=[]) (ns:=[]) (fun q=>by kernel_rfl)
abbrev Dq (fu:Nat):cq S0:=⟨28,[TG,TF],[],false,[(4,TF),(5,Tx)],[],fun q=>F.nb fu q.1 q.2⟩
theorem FJ (fu:Nat):aP Try.prog (Dq fu):=aP.PB (N:=43) (fu:=fu)
 (H:=[(26,.loop ⟨[(29,Tx)],[(7,.box 86 true [.own 20 (.list (.int .i64))]),(20,.deep 104 true true (.dK 2) (.list (.list (.int .i64))))]⟩ 0 ⟨[],[(7,.box 86 true [.own 20 (.list (.int .i64))]),(20,.deep 104 true true (.dK 2) (.list (.list (.int .i64))))]⟩),
  (40,.My 1 350)])
 (tbl:=[sF fu,ul fu,ur fu]) (tbr:=[uk fu]) (ys:=[])
 [(40,1)] mixed (ai.2 ⟨uu fu,ai.2 ⟨vq fu,ai.2 ⟨vz fu,(by intro c h;cases h)⟩⟩⟩) (ai.2 ⟨yy fu,(by intro c h;cases h)⟩) (by intro c h;cases h) Try.func28 Try.call28 rfl rfl (by kernel_rfl) rfl (by kernel_rfl) (mvs:=[]) (ns:=[]) (fun q=>by kernel_rfl)
abbrev mN (fu:Nat):cq S0:=⟨26,[TF,TF],[],false,[(4,TC)],[],fun q=>F.gA fu q.1 q.2⟩
theorem rp (fu:Nat):aP Try.prog (mN fu):=aP.of (N:=53) (fu:=fu)
 (H:=[(14,.gX ⟨[(14,Tx)],[]⟩ 0 ⟨[],[]⟩),
  (27,.mF []),
  (36,.gX ⟨[(33,Tx)],[]⟩ 2 ⟨[],[]⟩),
  (48,.mF [])])
 (tbl:=[])
 mixed (by intro c h;cases h) Try.func26 Try.call26 rfl rfl (by kernel_rfl) (mvs:=[]) (ns:=[]) (fun q=>by kernel_rfl)
abbrev tj (fu:Nat):cq S0:=⟨9,[TG,TF,Tz],[],false,[(6,TC)],[],fun q=>F.iW fu q.1 q.2.1 q.2.2⟩
theorem rq (fu:Nat):aP Try.prog (tj fu):=aP.of (N:=64) (fu:=fu)
 (H:=[(26,.fO [] ⟨[(41,TC)],[]⟩),
  (37,.fO [] ⟨[(6,TC)],[]⟩)])
 (tbl:=[qp fu,yt fu,yu fu,zJ fu,Dq fu,vI fu,mN fu])
 mixed (ai.2 ⟨uG fu,ai.2 ⟨B3 fu,ai.2 ⟨B4 fu,ai.2 ⟨Dn fu,ai.2 ⟨FJ fu,ai.2 ⟨wD fu,ai.2 ⟨rp fu,(by intro c h;cases h)⟩⟩⟩⟩⟩⟩⟩) Try.func9 Try.call9 rfl rfl (by kernel_rfl) (mvs:=[]) (ns:=[]) (fun q=>by kernel_rfl)
end
end Go.DN
