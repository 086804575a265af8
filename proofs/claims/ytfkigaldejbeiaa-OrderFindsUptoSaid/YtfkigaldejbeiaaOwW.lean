/-
  Each function does what its Lean function says.
-/
import Derived.Test.YtfkigaldejbeiaaOwF
import Derived.Test.YtfkigaldejbeiaaProg
import Derived.KernelRfl
set_option maxRecDepth 20000
set_option linter.unusedVariables false
set_option linter.unusedSectionVars false
set_option linter.unusedSimpArgs false
namespace Go.DN
open Go.AM
open Go.Proofs
noncomputable section
theorem mixed:Try.prog.follows .mixedOrders=true:=by kernel_rfl
abbrev c_nest_Wrong_1 (fu:Nat):Con S0:=⟨67,[.dat false (.int .i64)],[],false,[(2,.dat true .bool)],[],fun q=>F.nest_Wrong_1 fu q⟩
theorem c_nest_Wrong_1_ok (fu:Nat):ConOk Try.prog (c_nest_Wrong_1 fu):=ConOk.of (N:=9) (fu:=fu)
 (H:=[(3,.regJ [] ⟨[(2,.dat true .bool)],[]⟩)])
 (tbl:=[])
 mixed (by intro c h;cases h) Try.func67 Try.call67 rfl rfl (by kernel_rfl) (mvs:=[]) (ns:=[]) (fun q=>by kernel_rfl)
abbrev c_slices_IndexFunc (fu:Nat):Con S0:=⟨89,[.dat false (.list (.int .i64)),.clo 67 []],[],false,[(4,.dat true (.int .i64))],[],fun q=>F.slices_IndexFunc fu q⟩
theorem c_slices_IndexFunc_ok (fu:Nat):ConOk Try.prog (c_slices_IndexFunc fu):=ConOk.of (N:=19) (fu:=fu)
 (H:=[(6,.loopE ⟨[(8,.dat true (.int .i64))],[]⟩ 0 ⟨[],[]⟩)])
 (tbl:=[c_nest_Wrong_1 fu])
 mixed (List.forall_mem_cons.2 ⟨c_nest_Wrong_1_ok fu,(by intro c h;cases h)⟩) Try.func89 Try.call89 rfl rfl (by kernel_rfl) (mvs:=[]) (ns:=[]) (fun q=>by kernel_rfl)
abbrev c_slices_ContainsFunc (fu:Nat):Con S0:=⟨66,[.dat false (.list (.int .i64)),.clo 67 []],[],false,[(4,.dat true .bool)],[],fun q=>F.slices_ContainsFunc fu q⟩
theorem c_slices_ContainsFunc_ok (fu:Nat):ConOk Try.prog (c_slices_ContainsFunc fu):=ConOk.of (N:=9) (fu:=fu)
 (H:=[])
 (tbl:=[c_slices_IndexFunc fu])
 mixed (List.forall_mem_cons.2 ⟨c_slices_IndexFunc_ok fu,(by intro c h;cases h)⟩) Try.func66 Try.call66 rfl rfl (by kernel_rfl) (mvs:=[]) (ns:=[]) (fun q=>by kernel_rfl)
abbrev c_points_Row_1 (fu:Nat):Con S0:=⟨76,[.dat false (.int .i64)],[],false,[(2,.dat true .bool)],[],fun q=>F.points_Row_1 fu q⟩
theorem c_points_Row_1_ok (fu:Nat):ConOk Try.prog (c_points_Row_1 fu):=ConOk.of (N:=9) (fu:=fu)
 (H:=[(3,.regJ [] ⟨[(2,.dat true .bool)],[]⟩)])
 (tbl:=[])
 mixed (by intro c h;cases h) Try.func76 Try.call76 rfl rfl (by kernel_rfl) (mvs:=[]) (ns:=[]) (fun q=>by kernel_rfl)
abbrev c_slices_IndexFunc_2 (fu:Nat):Con S0:=⟨89,[.dat false (.list (.int .i64)),.clo 76 []],[],false,[(4,.dat true (.int .i64))],[],fun q=>F.slices_IndexFunc_2 fu q⟩
theorem c_slices_IndexFunc_2_ok (fu:Nat):ConOk Try.prog (c_slices_IndexFunc_2 fu):=ConOk.of (N:=19) (fu:=fu)
 (H:=[(6,.loopE ⟨[(8,.dat true (.int .i64))],[]⟩ 0 ⟨[],[]⟩)])
 (tbl:=[c_points_Row_1 fu])
 mixed (List.forall_mem_cons.2 ⟨c_points_Row_1_ok fu,(by intro c h;cases h)⟩) Try.func89 Try.call89 rfl rfl (by kernel_rfl) (mvs:=[]) (ns:=[]) (fun q=>by kernel_rfl)
abbrev c_slices_ContainsFunc_2 (fu:Nat):Con S0:=⟨66,[.dat false (.list (.int .i64)),.clo 76 []],[],false,[(4,.dat true .bool)],[],fun q=>F.slices_ContainsFunc_2 fu q⟩
theorem c_slices_ContainsFunc_2_ok (fu:Nat):ConOk Try.prog (c_slices_ContainsFunc_2 fu):=ConOk.of (N:=9) (fu:=fu)
 (H:=[])
 (tbl:=[c_slices_IndexFunc_2 fu])
 mixed (List.forall_mem_cons.2 ⟨c_slices_IndexFunc_2_ok fu,(by intro c h;cases h)⟩) Try.func66 Try.call66 rfl rfl (by kernel_rfl) (mvs:=[]) (ns:=[]) (fun q=>by kernel_rfl)
abbrev c_points_Row (fu:Nat):Con S0:=⟨45,[.dat false (.st 0),.dat false (.int .i64)],[],false,[(4,.dat true (.int .i64))],[],fun q=>F.points_Row fu q.1 q.2⟩
theorem c_points_Row_ok (fu:Nat):ConOk Try.prog (c_points_Row fu):=ConOk.of (N:=21) (fu:=fu)
 (H:=[(14,.regJ [] ⟨[(20,.dat true .bool)],[]⟩)])
 (tbl:=[c_points_Row_1 fu,c_slices_ContainsFunc_2 fu])
 mixed (List.forall_mem_cons.2 ⟨c_points_Row_1_ok fu,List.forall_mem_cons.2 ⟨c_slices_ContainsFunc_2_ok fu,(by intro c h;cases h)⟩⟩) Try.func45 Try.call45 rfl rfl (by kernel_rfl) (mvs:=[]) (ns:=[]) (fun q=>by kernel_rfl)
abbrev c_points_Wrong (fu:Nat):Con S0:=⟨87,[.dat false (.st 1)],[],false,[(2,.dat true (.int .i64))],[],fun q=>F.points_Wrong fu q⟩
theorem c_points_Wrong_ok (fu:Nat):ConOk Try.prog (c_points_Wrong fu):=ConOk.of (N:=62) (fu:=fu)
 (H:=[(16,.loopE ⟨[(18,.dat true (.int .i64))],[]⟩ 0 ⟨[],[]⟩),
  (28,.regJ [] ⟨[(27,.dat true .bool)],[]⟩),
  (39,.loop ⟨[(3,.dat true (.int .i64)),(32,.dat true (.int .i64))],[]⟩ 2 ⟨[(3,.dat true (.int .i64))],[]⟩),
  (72,.loopE ⟨[(49,.dat true (.int .i64))],[]⟩ 4 ⟨[],[]⟩)])
 (tbl:=[c_points_Row fu])
 mixed (List.forall_mem_cons.2 ⟨c_points_Row_ok fu,(by intro c h;cases h)⟩) Try.func87 Try.call87 rfl rfl (by kernel_rfl) (mvs:=[]) (ns:=[]) (fun q=>by kernel_rfl)
abbrev c_nest_gets (fu:Nat):Con S0:=⟨90,[.dat false (.int .i64)],[],false,[(2,.dat true (.int .i64))],[],fun q=>F.nest_gets fu q⟩
theorem c_nest_gets_ok (fu:Nat):ConOk Try.prog (c_nest_gets fu):=ConOk.of (N:=18) (fu:=fu)
 (H:=[(15,.join ⟨[(6,.dat true .bool)],[]⟩),
  (25,.join ⟨[(9,.dat true .bool)],[]⟩),
  (29,.join ⟨[(9,.dat true .bool)],[]⟩),
  (33,.join ⟨[(9,.dat true .bool)],[]⟩),
  (37,.join ⟨[(9,.dat true .bool)],[]⟩),
  (41,.join ⟨[(9,.dat true .bool)],[]⟩)])
 (tbl:=[])
 mixed (by intro c h;cases h) Try.func90 Try.call90 rfl rfl (by kernel_rfl) (mvs:=[]) (ns:=[]) (fun q=>by kernel_rfl)
abbrev c_nest_statement (fu:Nat):Con S0:=⟨68,[.dat false (.st 4),.dat false (.st 3)],[],false,[(4,.dat true (.int .i64))],[],fun q=>F.nest_statement fu q.1 q.2⟩
theorem c_nest_statement_ok (fu:Nat):ConOk Try.prog (c_nest_statement fu):=ConOk.of (N:=59) (fu:=fu)
 (H:=[(34,.loopE ⟨[(33,.dat true (.int .i64))],[]⟩ 0 ⟨[],[]⟩),
  (47,.regJ [] ⟨[(47,.dat true .bool)],[]⟩)])
 (tbl:=[c_points_Wrong fu,c_nest_gets fu,c_points_Row fu])
 mixed (List.forall_mem_cons.2 ⟨c_points_Wrong_ok fu,List.forall_mem_cons.2 ⟨c_nest_gets_ok fu,List.forall_mem_cons.2 ⟨c_points_Row_ok fu,(by intro c h;cases h)⟩⟩⟩) Try.func68 Try.call68 rfl rfl (by kernel_rfl) (mvs:=[]) (ns:=[]) (fun q=>by kernel_rfl)
abbrev c_nest_Wrong (fu:Nat):Con S0:=⟨29,[.dat false (.st 4)],[],false,[(2,.dat true (.int .i64))],[],fun q=>F.nest_Wrong fu q⟩
theorem c_nest_Wrong_ok (fu:Nat):ConOk Try.prog (c_nest_Wrong fu):=ConOk.of (N:=27) (fu:=fu)
 (H:=[(22,.loopE ⟨[(16,.dat true (.int .i64))],[]⟩ 0 ⟨[],[]⟩)])
 (tbl:=[c_slices_ContainsFunc fu,c_nest_statement fu])
 mixed (List.forall_mem_cons.2 ⟨c_slices_ContainsFunc_ok fu,List.forall_mem_cons.2 ⟨c_nest_statement_ok fu,(by intro c h;cases h)⟩⟩) Try.func29 Try.call29 rfl rfl (by kernel_rfl) (mvs:=[]) (ns:=[]) (fun q=>by kernel_rfl)
abbrev c_order_Wrong (fu:Nat):Con S0:=⟨20,[.dat false (.st 4),.dat false (.list (.list (.st 0)))],[],false,[(4,.dat true (.int .i64))],[],fun q=>F.order_Wrong fu q.1 q.2⟩
theorem c_order_Wrong_ok (fu:Nat):ConOk Try.prog (c_order_Wrong fu):=ConOk.of (N:=53) (fu:=fu)
 (H:=[(24,.loopE ⟨[(24,.dat true (.int .i64))],[]⟩ 0 ⟨[],[]⟩),
  (46,.loopE ⟨[(34,.dat true (.int .i64))],[]⟩ 2 ⟨[],[]⟩),
  (58,.reg [])])
 (tbl:=[c_nest_Wrong fu,c_points_Row fu])
 mixed (List.forall_mem_cons.2 ⟨c_nest_Wrong_ok fu,List.forall_mem_cons.2 ⟨c_points_Row_ok fu,(by intro c h;cases h)⟩⟩) Try.func20 Try.call20 rfl rfl (by kernel_rfl) (mvs:=[]) (ns:=[]) (fun q=>by kernel_rfl)
abbrev c_points_All (fu:Nat):Con S0:=⟨65,[.dat false (.st 1)],[],false,[(2,.clo 86 [.loc 1 0])],[(1,.box 59 true [.dat false (.list (.int .i64)),.dat false (.list (.st 0))])],fun q=>F.points_All fu q⟩
theorem c_points_All_ok (fu:Nat):ConOk Try.prog (c_points_All fu):=ConOk.of (N:=4) (fu:=fu)
 (H:=[])
 (tbl:=[])
 mixed (by intro c h;cases h) Try.func65 Try.call65 rfl rfl (by kernel_rfl) (mvs:=[]) (ns:=[]) (fun q=>by kernel_rfl)
abbrev c_points_hopeless (fu:Nat):Con S0:=⟨98,[.dat false (.st 1),.dat false (.list (.int .i64)),.dat false (.int .i64)],[],false,[(6,.dat true .bool)],[],fun q=>F.points_hopeless fu q.1 q.2.1 q.2.2⟩
theorem c_points_hopeless_ok (fu:Nat):ConOk Try.prog (c_points_hopeless fu):=ConOk.of (N:=58) (fu:=fu)
 (H:=[(6,.loopE ⟨[(15,.dat true (.int .i64))],[]⟩ 0 ⟨[],[]⟩),
  (23,.loop ⟨[(9,.dat true (.int .i64)),(24,.dat true (.int .i64))],[]⟩ 2 ⟨[(9,.dat true (.int .i64))],[]⟩),
  (37,.join ⟨[(9,.dat true (.int .i64))],[]⟩),
  (41,.join ⟨[(9,.dat true (.int .i64))],[]⟩)])
 (tbl:=[])
 mixed (by intro c h;cases h) Try.func98 Try.call98 rfl rfl (by kernel_rfl) (mvs:=[]) (ns:=[]) (fun q=>by kernel_rfl)
abbrev c_slices_Clone (fu:Nat):Con S0:=⟨32,[.dat false (.list (.int .i64))],[],false,[(2,.dat true (.list (.int .i64)))],[],fun q=>F.slices_Clone fu q⟩
theorem c_slices_Clone_ok (fu:Nat):ConOk Try.prog (c_slices_Clone fu):=ConOk.of (N:=8) (fu:=fu)
 (H:=[])
 (tbl:=[])
 mixed (by intro c h;cases h) Try.func32 Try.call32 rfl rfl (by kernel_rfl) (mvs:=[]) (ns:=[]) (fun q=>by kernel_rfl)
abbrev c_points_At (fu:Nat):Con S0:=⟨77,[.dat false (.st 0),.dat false (.list (.int .i64))],[],false,[(4,.dat true (.int .i64))],[],fun q=>F.points_At fu q.1 q.2⟩
theorem c_points_At_ok (fu:Nat):ConOk Try.prog (c_points_At fu):=ConOk.of (N:=28) (fu:=fu)
 (H:=[(8,.loop ⟨[(5,.dat true (.int .i64)),(13,.dat true (.int .i64))],[]⟩ 0 ⟨[(5,.dat true (.int .i64))],[]⟩)])
 (tbl:=[])
 mixed (by intro c h;cases h) Try.func77 Try.call77 rfl rfl (by kernel_rfl) (mvs:=[]) (ns:=[]) (fun q=>by kernel_rfl)
abbrev y_order_spots_y_3 (fu:Nat):YCon S0:=⟨0,[.dat false (.list (.int .i64))],[.loc 1000 0,.loc 1001 0,.loc 1002 0,.loc 1003 0,.loc 1004 0,.loc 1005 0],[.box 31 false [.dat false (.list (.list (.st 0)))],.box 83 false [.own 1006 (.st 6)],.box 26 false [.dat false (.int .i64)],.box 3 false [.dat false (.int .i64)],.box 83 false [.own 1007 (.st 6)],.box 3 false [.dat false (.int .i64)],.arr 77 false false (.st 6),.arr 77 false false (.st 6)],[(1000,.box 31 false [.dat false (.list (.list (.st 0)))]),(1001,.box 83 false [.own 486 (.st 6)]),(1002,.box 26 false [.dat true (.int .i64)]),(1003,.box 3 false [.dat true (.int .i64)]),(1004,.box 83 false [.own 487 (.st 6)]),(1005,.box 3 false [.dat true (.int .i64)]),(486,.arr 77 false false (.st 6)),(487,.arr 77 false false (.st 6))],true,fun q=>F.order_spots_y_3 fu q.1 q.2.1 q.2.2.1 q.2.2.2.1 q.2.2.2.2.1 q.2.2.2.2.2.1 q.2.2.2.2.2.2⟩
theorem y_order_spots_y_3_ok (fu:Nat):YOk Try.prog (y_order_spots_y_3 fu):=YOk.of (fu:=fu)
 (H:=[(16,.loop ⟨[(56,.dat true (.int .i64)),(14,.own 50 (.int .i64))],[(50,.arr 3 true true (.int .i64))]⟩ 6 ⟨[(14,.own 50 (.int .i64))],[(50,.arr 3 true true (.int .i64))]⟩)])
 (tbl:=[c_points_At fu])
 mixed (List.forall_mem_cons.2 ⟨c_points_At_ok fu,(by intro c h;cases h)⟩) (by kernel_rfl) (by kernel_rfl) (by kernel_rfl) (mvs:=[1006,1007]) (ns:=[]) (fun q=>by kernel_rfl)
abbrev c_points_walk_4 (fu:Nat):Con S0:=⟨88,[.dat false (.st 1),.own 1000 (.int .i64),.dat false (.int .i64),.yld 1001],[.arr 3 false false (.int .i64),.lp 0 true [.loc 1002 0,.loc 1003 0,.loc 1004 0,.loc 1005 0,.loc 1006 0,.loc 1007 0],.box 31 false [.dat false (.list (.list (.st 0)))],.box 83 false [.own 1008 (.st 6)],.box 26 false [.dat false (.int .i64)],.box 3 false [.dat false (.int .i64)],.box 83 false [.own 1009 (.st 6)],.box 3 false [.dat false (.int .i64)],.arr 77 false false (.st 6),.arr 77 false false (.st 6)],false,[(8,.dat true .bool)],[(1000,.arr 3 false true (.int .i64)),(1001,.lp 0 true [.loc 1002 0,.loc 1003 0,.loc 1004 0,.loc 1005 0,.loc 1006 0,.loc 1007 0]),(1002,.box 31 false [.dat false (.list (.list (.st 0)))]),(1003,.box 83 false [.own 488 (.st 6)]),(1004,.box 26 false [.dat true (.int .i64)]),(1005,.box 3 false [.dat true (.int .i64)]),(1006,.box 83 false [.own 489 (.st 6)]),(1007,.box 3 false [.dat true (.int .i64)]),(488,.arr 77 false false (.st 6)),(489,.arr 77 false false (.st 6))],fun q=>F.points_walk_4 fu q.1 q.2.1 q.2.2.1 q.2.2.2.1 q.2.2.2.2.1 q.2.2.2.2.2.1 q.2.2.2.2.2.2.1 q.2.2.2.2.2.2.2.1 q.2.2.2.2.2.2.2.2.1 q.2.2.2.2.2.2.2.2.2⟩
theorem c_points_walk_4_ok:∀fu:Nat,ConOk Try.prog (c_points_walk_4 fu)
 | 0=>⟨Try.call88,fun q r h=>nomatch (show(none:Option _)=some r from h)⟩
 | fu+1=>ConOk.ofR (N:=48) (fu:=fu+1)
   (H:=[(22,.loopE ⟨[(1,.own 1000 (.int .i64))],[(1000,.arr 3 false true (.int .i64)),(1001,.lp 0 true [.loc 1002 0,.loc 1003 0,.loc 1004 0,.loc 1005 0,.loc 1006 0,.loc 1007 0]),(1002,.box 31 false [.dat false (.list (.list (.st 0)))]),(1003,.box 83 false [.own 488 (.st 6)]),(1004,.box 26 false [.dat true (.int .i64)]),(1005,.box 3 false [.dat true (.int .i64)]),(1006,.box 83 false [.own 489 (.st 6)]),(1007,.box 3 false [.dat true (.int .i64)]),(488,.arr 77 false false (.st 6)),(489,.arr 77 false false (.st 6))]⟩ 0 ⟨[],[(1000,.arr 3 false true (.int .i64)),(1001,.lp 0 true [.loc 1002 0,.loc 1003 0,.loc 1004 0,.loc 1005 0,.loc 1006 0,.loc 1007 0]),(1002,.box 31 false [.dat false (.list (.list (.st 0)))]),(1003,.box 83 false [.own 488 (.st 6)]),(1004,.box 26 false [.dat true (.int .i64)]),(1005,.box 3 false [.dat true (.int .i64)]),(1006,.box 83 false [.own 489 (.st 6)]),(1007,.box 3 false [.dat true (.int .i64)]),(488,.arr 77 false false (.st 6)),(489,.arr 77 false false (.st 6))]⟩),
    (25,.reg [])])
   (tbl:=[c_points_walk_4 fu,c_points_hopeless (fu+1),c_slices_Clone (fu+1)]) (tbr:=[]) (ys:=[y_order_spots_y_3 (fu+1)])
   [] mixed (List.forall_mem_cons.2 ⟨c_points_walk_4_ok fu,List.forall_mem_cons.2 ⟨c_points_hopeless_ok (fu+1),List.forall_mem_cons.2 ⟨c_slices_Clone_ok (fu+1),(by intro c h;cases h)⟩⟩⟩) (by intro c h;cases h) (List.forall_mem_cons.2 ⟨y_order_spots_y_3_ok (fu+1),(by intro c h;cases h)⟩) Try.func88 Try.call88 rfl rfl (by kernel_rfl) rfl (by kernel_rfl) (mvs:=[1008,1009]) (ns:=[]) (fun q=>by kernel_rfl)
abbrev c_points_All_1 (fu:Nat):Con S0:=⟨86,[.yld 1000,.loc 1001 0],[.lp 0 true [.loc 1002 0,.loc 1003 0,.loc 1004 0,.loc 1005 0,.loc 1006 0,.loc 1007 0],.box 59 false [.dat false (.list (.int .i64)),.dat false (.list (.st 0))],.box 31 false [.dat false (.list (.list (.st 0)))],.box 83 false [.own 1008 (.st 6)],.box 26 false [.dat false (.int .i64)],.box 3 false [.dat false (.int .i64)],.box 83 false [.own 1009 (.st 6)],.box 3 false [.dat false (.int .i64)],.arr 77 false false (.st 6),.arr 77 false false (.st 6)],false,[],[(1000,.lp 0 true [.loc 1002 0,.loc 1003 0,.loc 1004 0,.loc 1005 0,.loc 1006 0,.loc 1007 0]),(1001,.box 59 false [.dat false (.list (.int .i64)),.dat false (.list (.st 0))]),(1002,.box 31 false [.dat false (.list (.list (.st 0)))]),(1003,.box 83 false [.own 488 (.st 6)]),(1004,.box 26 false [.dat true (.int .i64)]),(1005,.box 3 false [.dat true (.int .i64)]),(1006,.box 83 false [.own 489 (.st 6)]),(1007,.box 3 false [.dat true (.int .i64)]),(488,.arr 77 false false (.st 6)),(489,.arr 77 false false (.st 6))],fun q=>F.points_All_1 fu q.1 q.2.1 q.2.2.1 q.2.2.2.1 q.2.2.2.2.1 q.2.2.2.2.2.1 q.2.2.2.2.2.2.1 q.2.2.2.2.2.2.2.1 q.2.2.2.2.2.2.2.2⟩
theorem c_points_All_1_ok (fu:Nat):ConOk Try.prog (c_points_All_1 fu):=ConOk.of (N:=13) (fu:=fu)
 (H:=[(2,.join ⟨[],[(1000,.lp 0 true [.loc 1002 0,.loc 1003 0,.loc 1004 0,.loc 1005 0,.loc 1006 0,.loc 1007 0]),(1002,.box 31 false [.dat false (.list (.list (.st 0)))]),(1004,.box 26 false [.dat true (.int .i64)]),(1005,.box 3 false [.dat true (.int .i64)]),(1007,.box 3 false [.dat true (.int .i64)]),(488,.arr 77 false false (.st 6)),(489,.arr 77 false false (.st 6)),(1003,.box 83 false [.own 488 (.st 6)]),(1006,.box 83 false [.own 489 (.st 6)])]⟩),
  (3,.reg [10,1000,1002,1003,1004,1005,1006,1007,1008,1009,488,489])])
 (tbl:=[c_points_walk_4 fu,c_points_Wrong fu])
 mixed (List.forall_mem_cons.2 ⟨c_points_walk_4_ok fu,List.forall_mem_cons.2 ⟨c_points_Wrong_ok fu,(by intro c h;cases h)⟩⟩) Try.func86 Try.call86 rfl rfl (by kernel_rfl) (mvs:=[1008,1009]) (ns:=[]) (fun q=>by kernel_rfl)
abbrev c_order_spots (fu:Nat):Con S0:=⟨49,[.dat false (.st 4),.dat false (.list (.list (.st 0)))],[],false,[(4,.own 420 (.st 6)),(5,.dat true (.int .i64))],[(420,.arr 77 true false (.st 6))],fun q=>F.order_spots fu q.1 q.2⟩
theorem c_order_spots_ok (fu:Nat):ConOk Try.prog (c_order_spots fu):=ConOk.ofR (N:=80) (fu:=fu)
 (H:=[(18,.loop ⟨[(25,.dat true (.int .i64))],[(7,.box 3 true [.dat true (.int .i64)])]⟩ 0 ⟨[],[(7,.box 3 true [.dat true (.int .i64)])]⟩),
  (37,.loopE ⟨[(37,.dat true (.int .i64))],[(4,.box 83 true [.own 420 (.st 6)]),(10,.box 83 true [.own 421 (.st 6)]),(3,.box 31 true [.dat false (.list (.list (.st 0)))]),(5,.box 26 true [.dat true (.int .i64)]),(7,.box 3 true [.dat true (.int .i64)]),(420,.arr 77 true false (.st 6)),(421,.arr 77 true false (.st 6))]⟩ 2 ⟨[],[(4,.box 83 true [.own 420 (.st 6)]),(10,.box 83 true [.own 421 (.st 6)]),(3,.box 31 true [.dat false (.list (.list (.st 0)))]),(5,.box 26 true [.dat true (.int .i64)]),(7,.box 3 true [.dat true (.int .i64)]),(420,.arr 77 true false (.st 6)),(421,.arr 77 true false (.st 6))]⟩),
  (51,.rng 0 350)])
 (tbl:=[c_points_All fu,c_order_Wrong fu]) (tbr:=[c_points_All_1 fu]) (ys:=[])
 [(51,0)] mixed (List.forall_mem_cons.2 ⟨c_points_All_ok fu,List.forall_mem_cons.2 ⟨c_order_Wrong_ok fu,(by intro c h;cases h)⟩⟩) (List.forall_mem_cons.2 ⟨c_points_All_1_ok fu,(by intro c h;cases h)⟩) (by intro c h;cases h) Try.func49 Try.call49 rfl rfl (by kernel_rfl) rfl (by kernel_rfl) (mvs:=[]) (ns:=[]) (fun q=>by kernel_rfl)
abbrev c_order_cellOf (fu:Nat):Con S0:=⟨92,[.dat false (.st 4),.dat false (.st 2),.dat false (.list (.int .i64))],[],false,[(6,.dat true (.st 7)),(7,.dat true .bool)],[],fun q=>F.order_cellOf fu q.1 q.2.1 q.2.2⟩
theorem c_order_cellOf_ok (fu:Nat):ConOk Try.prog (c_order_cellOf fu):=ConOk.of (N:=29) (fu:=fu)
 (H:=[(5,.regJ [6] ⟨[(7,.dat true .bool)],[(6,.box 132 true [.dat true (.int .i64),.dat true (.int .i64)])]⟩)])
 (tbl:=[c_points_At fu])
 mixed (List.forall_mem_cons.2 ⟨c_points_At_ok fu,(by intro c h;cases h)⟩) Try.func92 Try.call92 rfl rfl (by kernel_rfl) (mvs:=[]) (ns:=[]) (fun q=>by kernel_rfl)
abbrev c_order_pairs_1 (fu:Nat):Con S0:=⟨91,[.dat false (.st 7),.loc 1000 0],[.box 114 false [.mp 1001],.deep 0 false false (.map .i64 3 136) .map],false,[(3,.kpo 1001 (.list (.int .i64)))],[(1000,.box 114 false [.mp 1001]),(1001,.deep 0 false true (.map .i64 3 136) .map)],fun q=>F.order_pairs_1 fu q.1 q.2⟩
theorem c_order_pairs_1_ok (fu:Nat):ConOk Try.prog (c_order_pairs_1 fu):=ConOk.of (N:=20) (fu:=fu)
 (H:=[(7,.join ⟨[(4,.kpo 1001 (.list (.int .i64)))],[(1001,.deep 0 false true (.map .i64 3 136) .map)]⟩)])
 (tbl:=[])
 mixed (by intro c h;cases h) Try.func91 Try.call91 rfl rfl (by kernel_rfl) (mvs:=[]) (ns:=[]) (fun q=>by kernel_rfl)
abbrev c_cmp_isNaN (fu:Nat):Con S0:=⟨94,[.dat false (.int .i64)],[],false,[(2,.dat true .bool)],[],fun q=>F.cmp_isNaN fu q⟩
theorem c_cmp_isNaN_ok (fu:Nat):ConOk Try.prog (c_cmp_isNaN fu):=ConOk.of (N:=6) (fu:=fu)
 (H:=[])
 (tbl:=[])
 mixed (by intro c h;cases h) Try.func94 Try.call94 rfl rfl (by kernel_rfl) (mvs:=[]) (ns:=[]) (fun q=>by kernel_rfl)
abbrev c_cmp_Compare (fu:Nat):Con S0:=⟨74,[.dat false (.int .i64),.dat false (.int .i64)],[],false,[(4,.dat true (.int .i64))],[],fun q=>F.cmp_Compare fu q.1 q.2⟩
theorem c_cmp_Compare_ok (fu:Nat):ConOk Try.prog (c_cmp_Compare fu):=ConOk.of (N:=20) (fu:=fu)
 (H:=[])
 (tbl:=[c_cmp_isNaN fu])
 mixed (List.forall_mem_cons.2 ⟨c_cmp_isNaN_ok fu,(by intro c h;cases h)⟩) Try.func74 Try.call74 rfl rfl (by kernel_rfl) (mvs:=[]) (ns:=[]) (fun q=>by kernel_rfl)
abbrev c_slices_Compare (fu:Nat):Con S0:=⟨42,[.dat false (.list (.int .i64)),.dat false (.list (.int .i64))],[],false,[(4,.dat true (.int .i64))],[],fun q=>F.slices_Compare fu q.1 q.2⟩
theorem c_slices_Compare_ok (fu:Nat):ConOk Try.prog (c_slices_Compare fu):=ConOk.of (N:=36) (fu:=fu)
 (H:=[(6,.loopE ⟨[(11,.dat true (.int .i64))],[]⟩ 0 ⟨[],[]⟩)])
 (tbl:=[c_cmp_Compare fu])
 mixed (List.forall_mem_cons.2 ⟨c_cmp_Compare_ok fu,(by intro c h;cases h)⟩) Try.func42 Try.call42 rfl rfl (by kernel_rfl) (mvs:=[]) (ns:=[]) (fun q=>by kernel_rfl)
abbrev c_order_Legal_1 (fu:Nat):Con S0:=⟨41,[.dat false (.st 6),.dat false (.st 6)],[],false,[(4,.dat true .bool)],[],fun q=>F.order_Legal_1 fu q.1 q.2⟩
theorem c_order_Legal_1_ok (fu:Nat):ConOk Try.prog (c_order_Legal_1 fu):=ConOk.of (N:=11) (fu:=fu)
 (H:=[])
 (tbl:=[c_slices_Compare fu])
 mixed (List.forall_mem_cons.2 ⟨c_slices_Compare_ok fu,(by intro c h;cases h)⟩) Try.func41 Try.call41 rfl rfl (by kernel_rfl) (mvs:=[]) (ns:=[]) (fun q=>by kernel_rfl)
abbrev c_order_search_1_2 (fu:Nat):Con S0:=⟨73,[.dat false (.int .i64),.loc 1000 0,.loc 1001 0,.loc 1002 0,.loc 1003 0],[.box 3 false [.dat false (.int .i64)],.box 79 false [.clo 41 []],.box 83 false [.dat false (.list (.st 6))],.box 77 false [.dat false (.int .i64),.dat false (.list (.int .i64)),.dat false (.int .i64),.dat false (.list (.int .i64))]],false,[],[(1000,.box 3 false [.dat true (.int .i64)]),(1001,.box 79 false [.clo 41 []]),(1002,.box 83 false [.dat false (.list (.st 6))]),(1003,.box 77 false [.dat true (.int .i64),.dat false (.list (.int .i64)),.dat true (.int .i64),.dat false (.list (.int .i64))])],fun q=>F.order_search_1_2 fu q.1 q.2.1 q.2.2.1 q.2.2.2.1 q.2.2.2.2.1 q.2.2.2.2.2.1 q.2.2.2.2.2.2⟩
theorem c_order_search_1_2_ok (fu:Nat):ConOk Try.prog (c_order_search_1_2 fu):=ConOk.of (N:=23) (fu:=fu)
 (H:=[(1,.regJ [] ⟨[(21,.dat true .bool)],[]⟩),
  (2,.join ⟨[],[(1000,.box 3 false [.dat true (.int .i64)])]⟩)])
 (tbl:=[c_order_Legal_1 fu])
 mixed (List.forall_mem_cons.2 ⟨c_order_Legal_1_ok fu,(by intro c h;cases h)⟩) Try.func73 Try.call73 rfl rfl (by kernel_rfl) (mvs:=[]) (ns:=[]) (fun q=>by kernel_rfl)
abbrev c_order_pairs_2_3 (fu:Nat):Con S0:=⟨93,[.sub 1000 (.list (.int .i64)),.loc 1001 0],[.box 22 false [.ks 1002 (.int .i64),.ks 1002 (.int .i64)],.box 116 false [.clo 73 [.loc 1003 0,.loc 1004 0,.loc 1005 0,.loc 1006 0]],.deep 0 false false (.map .i64 3 136) .map,.box 3 false [.dat false (.int .i64)],.box 79 false [.clo 41 []],.box 83 false [.dat false (.list (.st 6))],.box 77 false [.dat false (.int .i64),.dat false (.list (.int .i64)),.dat false (.int .i64),.dat false (.list (.int .i64))]],false,[],[(1000,.box 22 false [.any,.any]),(1001,.box 116 false [.clo 73 [.loc 1003 0,.loc 1004 0,.loc 1005 0,.loc 1006 0]]),(1002,.deep 0 false true (.map .i64 3 136) .map),(1003,.box 3 false [.dat true (.int .i64)]),(1004,.box 79 false [.clo 41 []]),(1005,.box 83 false [.dat false (.list (.st 6))]),(1006,.box 77 false [.dat true (.int .i64),.dat false (.list (.int .i64)),.dat true (.int .i64),.dat false (.list (.int .i64))])],fun q=>F.order_pairs_2_3 fu q.1 q.2.1 q.2.2.1 q.2.2.2.1 q.2.2.2.2.1 q.2.2.2.2.2.1 q.2.2.2.2.2.2.1 q.2.2.2.2.2.2.2.1 q.2.2.2.2.2.2.2.2.1 q.2.2.2.2.2.2.2.2.2.1 q.2.2.2.2.2.2.2.2.2.2.1 q.2.2.2.2.2.2.2.2.2.2.2.1 q.2.2.2.2.2.2.2.2.2.2.2.2⟩
theorem c_order_pairs_2_3_ok (fu:Nat):ConOk Try.prog (c_order_pairs_2_3 fu):=ConOk.of (N:=24) (fu:=fu)
 (H:=[(3,.loop ⟨[(9,.dat true (.int .i64))],[(1003,.box 3 false [.dat true (.int .i64)]),(1004,.box 79 false [.clo 41 []]),(1005,.box 83 false [.dat false (.list (.st 6))]),(1006,.box 77 false [.dat true (.int .i64),.dat false (.list (.int .i64)),.dat true (.int .i64),.dat false (.list (.int .i64))])]⟩ 0 ⟨[],[(1003,.box 3 false [.dat true (.int .i64)]),(1004,.box 79 false [.clo 41 []]),(1005,.box 83 false [.dat false (.list (.st 6))]),(1006,.box 77 false [.dat true (.int .i64),.dat false (.list (.int .i64)),.dat true (.int .i64),.dat false (.list (.int .i64))])]⟩),
  (17,.loop ⟨[(15,.dat true (.int .i64))],[(1003,.box 3 false [.dat true (.int .i64)]),(1004,.box 79 false [.clo 41 []]),(1005,.box 83 false [.dat false (.list (.st 6))]),(1006,.box 77 false [.dat true (.int .i64),.dat false (.list (.int .i64)),.dat true (.int .i64),.dat false (.list (.int .i64))])]⟩ 2 ⟨[],[(1003,.box 3 false [.dat true (.int .i64)]),(1004,.box 79 false [.clo 41 []]),(1005,.box 83 false [.dat false (.list (.st 6))]),(1006,.box 77 false [.dat true (.int .i64),.dat false (.list (.int .i64)),.dat true (.int .i64),.dat false (.list (.int .i64))])]⟩)])
 (tbl:=[c_order_search_1_2 fu])
 mixed (List.forall_mem_cons.2 ⟨c_order_search_1_2_ok fu,(by intro c h;cases h)⟩) Try.func93 Try.call93 rfl rfl (by kernel_rfl) (mvs:=[]) (ns:=[]) (fun q=>by kernel_rfl)
abbrev c_order_pairs_2_4 (fu:Nat):Con S0:=⟨93,[.sub 1000 (.list (.int .i64)),.loc 1001 0],[.box 22 false [.ks 1002 (.int .i64)],.box 116 false [.clo 73 [.loc 1003 0,.loc 1004 0,.loc 1005 0,.loc 1006 0]],.deep 0 false false (.map .i64 3 136) .map,.box 3 false [.dat false (.int .i64)],.box 79 false [.clo 41 []],.box 83 false [.dat false (.list (.st 6))],.box 77 false [.dat false (.int .i64),.dat false (.list (.int .i64)),.dat false (.int .i64),.dat false (.list (.int .i64))]],false,[],[(1000,.box 22 false [.any]),(1001,.box 116 false [.clo 73 [.loc 1003 0,.loc 1004 0,.loc 1005 0,.loc 1006 0]]),(1002,.deep 0 false true (.map .i64 3 136) .map),(1003,.box 3 false [.dat true (.int .i64)]),(1004,.box 79 false [.clo 41 []]),(1005,.box 83 false [.dat false (.list (.st 6))]),(1006,.box 77 false [.dat true (.int .i64),.dat false (.list (.int .i64)),.dat true (.int .i64),.dat false (.list (.int .i64))])],fun q=>F.order_pairs_2_4 fu q.1 q.2.1 q.2.2.1 q.2.2.2.1 q.2.2.2.2.1 q.2.2.2.2.2.1 q.2.2.2.2.2.2.1 q.2.2.2.2.2.2.2.1 q.2.2.2.2.2.2.2.2.1 q.2.2.2.2.2.2.2.2.2.1 q.2.2.2.2.2.2.2.2.2.2⟩
theorem c_order_pairs_2_4_ok (fu:Nat):ConOk Try.prog (c_order_pairs_2_4 fu):=ConOk.of (N:=24) (fu:=fu)
 (H:=[(3,.loop ⟨[(9,.dat true (.int .i64))],[(1003,.box 3 false [.dat true (.int .i64)]),(1004,.box 79 false [.clo 41 []]),(1005,.box 83 false [.dat false (.list (.st 6))]),(1006,.box 77 false [.dat true (.int .i64),.dat false (.list (.int .i64)),.dat true (.int .i64),.dat false (.list (.int .i64))])]⟩ 0 ⟨[],[(1003,.box 3 false [.dat true (.int .i64)]),(1004,.box 79 false [.clo 41 []]),(1005,.box 83 false [.dat false (.list (.st 6))]),(1006,.box 77 false [.dat true (.int .i64),.dat false (.list (.int .i64)),.dat true (.int .i64),.dat false (.list (.int .i64))])]⟩),
  (17,.loop ⟨[(15,.dat true (.int .i64))],[(1003,.box 3 false [.dat true (.int .i64)]),(1004,.box 79 false [.clo 41 []]),(1005,.box 83 false [.dat false (.list (.st 6))]),(1006,.box 77 false [.dat true (.int .i64),.dat false (.list (.int .i64)),.dat true (.int .i64),.dat false (.list (.int .i64))])]⟩ 2 ⟨[],[(1003,.box 3 false [.dat true (.int .i64)]),(1004,.box 79 false [.clo 41 []]),(1005,.box 83 false [.dat false (.list (.st 6))]),(1006,.box 77 false [.dat true (.int .i64),.dat false (.list (.int .i64)),.dat true (.int .i64),.dat false (.list (.int .i64))])]⟩)])
 (tbl:=[c_order_search_1_2 fu])
 mixed (List.forall_mem_cons.2 ⟨c_order_search_1_2_ok fu,(by intro c h;cases h)⟩) Try.func93 Try.call93 rfl rfl (by kernel_rfl) (mvs:=[]) (ns:=[]) (fun q=>by kernel_rfl)
abbrev c_order_pairs_3 (fu:Nat):Con S0:=⟨72,[.dat false (.st 4),.mp 1000,.dat false (.st 6),.clo 73 [.loc 1001 0,.loc 1002 0,.loc 1003 0,.loc 1004 0]],[.deep 0 false false (.map .i64 3 136) .map,.box 3 false [.dat false (.int .i64)],.box 79 false [.clo 41 []],.box 83 false [.dat false (.list (.st 6))],.box 77 false [.dat false (.int .i64),.dat false (.list (.int .i64)),.dat false (.int .i64),.dat false (.list (.int .i64))]],false,[],[(1000,.deep 0 false true (.map .i64 3 136) .map),(1001,.box 3 false [.dat true (.int .i64)]),(1002,.box 79 false [.clo 41 []]),(1003,.box 83 false [.dat false (.list (.st 6))]),(1004,.box 77 false [.dat true (.int .i64),.dat false (.list (.int .i64)),.dat true (.int .i64),.dat false (.list (.int .i64))])],fun q=>F.order_pairs_3 fu q.1 q.2.1 q.2.2.1 q.2.2.2.1 q.2.2.2.2.1 q.2.2.2.2.2.1 q.2.2.2.2.2.2.1 q.2.2.2.2.2.2.2.1 q.2.2.2.2.2.2.2.2⟩
theorem c_order_pairs_3_ok (fu:Nat):ConOk Try.prog (c_order_pairs_3 fu):=ConOk.of (N:=170) (fu:=fu)
 (H:=[(9,.regJ [] ⟨[(12,.dat true .bool)],[]⟩),
  (15,.join ⟨[],[(1000,.deep 0 false true (.map .i64 3 136) .map),(1001,.box 3 false [.dat true (.int .i64)]),(1003,.box 83 false [.dat false (.list (.st 6))]),(1004,.box 77 false [.dat true (.int .i64),.dat false (.list (.int .i64)),.dat true (.int .i64),.dat false (.list (.int .i64))]),(5,.box 114 true [.mp 1000]),(7,.box 116 true [.clo 73 [.loc 1001 0,.loc 1002 0,.loc 1003 0,.loc 1004 0]]),(1002,.box 79 false [.clo 41 []])]⟩),
  (19,.regJ [62,7,1000,1001,1002,1003,1004] ⟨[],[(1000,.deep 0 false true (.map .i64 3 136) .map),(1001,.box 3 false [.dat true (.int .i64)]),(1003,.box 83 false [.dat false (.list (.st 6))]),(1004,.box 77 false [.dat true (.int .i64),.dat false (.list (.int .i64)),.dat true (.int .i64),.dat false (.list (.int .i64))]),(7,.box 116 true [.clo 73 [.loc 1001 0,.loc 1002 0,.loc 1003 0,.loc 1004 0]]),(1002,.box 79 false [.clo 41 []])]⟩),
  (22,.join ⟨[],[(1000,.deep 0 false true (.map .i64 3 136) .map),(1001,.box 3 false [.dat true (.int .i64)]),(1003,.box 83 false [.dat false (.list (.st 6))]),(1004,.box 77 false [.dat true (.int .i64),.dat false (.list (.int .i64)),.dat true (.int .i64),.dat false (.list (.int .i64))]),(7,.box 116 true [.clo 73 [.loc 1001 0,.loc 1002 0,.loc 1003 0,.loc 1004 0]]),(1002,.box 79 false [.clo 41 []])]⟩),
  (32,.loop ⟨[(15,.own 15 (.st 7)),(76,.dat true (.int .i64))],[(5,.box 114 true [.mp 1000]),(1000,.deep 0 false true (.map .i64 3 136) .map),(7,.box 116 true [.clo 73 [.loc 1001 0,.loc 1002 0,.loc 1003 0,.loc 1004 0]]),(1001,.box 3 false [.dat true (.int .i64)]),(1002,.box 79 false [.clo 41 []]),(1003,.box 83 false [.dat false (.list (.st 6))]),(1004,.box 77 false [.dat true (.int .i64),.dat false (.list (.int .i64)),.dat true (.int .i64),.dat false (.list (.int .i64))]),(15,.arr 132 true true (.st 7))]⟩ 0 ⟨[(15,.own 15 (.st 7))],[(5,.box 114 true [.mp 1000]),(1000,.deep 0 false true (.map .i64 3 136) .map),(7,.box 116 true [.clo 73 [.loc 1001 0,.loc 1002 0,.loc 1003 0,.loc 1004 0]]),(1001,.box 3 false [.dat true (.int .i64)]),(1002,.box 79 false [.clo 41 []]),(1003,.box 83 false [.dat false (.list (.st 6))]),(1004,.box 77 false [.dat true (.int .i64),.dat false (.list (.int .i64)),.dat true (.int .i64),.dat false (.list (.int .i64))]),(15,.arr 132 true true (.st 7))]⟩),
  (46,.regJ [] ⟨[(92,.dat true .bool)],[]⟩),
  (47,.join ⟨[(15,.own 15 (.st 7))],[(1000,.deep 0 false true (.map .i64 3 136) .map),(1001,.box 3 false [.dat true (.int .i64)]),(1003,.box 83 false [.dat false (.list (.st 6))]),(1004,.box 77 false [.dat true (.int .i64),.dat false (.list (.int .i64)),.dat true (.int .i64),.dat false (.list (.int .i64))]),(15,.arr 132 true true (.st 7)),(5,.box 114 true [.mp 1000]),(7,.box 116 true [.clo 73 [.loc 1001 0,.loc 1002 0,.loc 1003 0,.loc 1004 0]]),(1002,.box 79 false [.clo 41 []])]⟩),
  (49,.regJ [5,1000,106,7,1001,1002,1003,1004] ⟨[],[(1000,.deep 0 false true (.map .i64 3 136) .map),(1001,.box 3 false [.dat true (.int .i64)]),(1003,.box 83 false [.dat false (.list (.st 6))]),(1004,.box 77 false [.dat true (.int .i64),.dat false (.list (.int .i64)),.dat true (.int .i64),.dat false (.list (.int .i64))]),(5,.box 114 true [.mp 1000]),(7,.box 116 true [.clo 73 [.loc 1001 0,.loc 1002 0,.loc 1003 0,.loc 1004 0]]),(1002,.box 79 false [.clo 41 []])]⟩),
  (55,.regJ [] ⟨[(116,.dat true .bool)],[]⟩),
  (56,.join ⟨[],[(1000,.deep 0 false true (.map .i64 3 136) .map),(5,.box 114 true [.mp 1000])]⟩),
  (57,.regJ [5,1000] ⟨[],[(1000,.deep 0 false true (.map .i64 3 136) .map),(5,.box 114 true [.mp 1000])]⟩),
  (60,.join ⟨[],[(1000,.deep 0 false true (.map .i64 3 136) .map),(5,.box 114 true [.mp 1000])]⟩),
  (61,.regJ [5,1000] ⟨[],[(1000,.deep 0 false true (.map .i64 3 136) .map),(5,.box 114 true [.mp 1000])]⟩),
  (66,.loop ⟨[(150,.dat true (.int .i64))],[(5,.box 114 true [.mp 1000]),(1000,.deep 0 false true (.map .i64 3 136) .map)]⟩ 2 ⟨[],[(5,.box 114 true [.mp 1000]),(1000,.deep 0 false true (.map .i64 3 136) .map)]⟩),
  (77,.regJ [5,1000] ⟨[],[(1000,.deep 0 false true (.map .i64 3 136) .map),(5,.box 114 true [.mp 1000])]⟩)])
 (tbl:=[c_order_pairs_1 fu,c_order_pairs_2_3 fu,c_order_pairs_2_4 fu,c_order_cellOf fu])
 mixed (List.forall_mem_cons.2 ⟨c_order_pairs_1_ok fu,List.forall_mem_cons.2 ⟨c_order_pairs_2_3_ok fu,List.forall_mem_cons.2 ⟨c_order_pairs_2_4_ok fu,List.forall_mem_cons.2 ⟨c_order_cellOf_ok fu,(by intro c h;cases h)⟩⟩⟩⟩) Try.func72 Try.call72 rfl rfl (by kernel_rfl) (mvs:=[]) (ns:=[]) (fun q=>by kernel_rfl)
abbrev c_order_search (fu:Nat):Con S0:=⟨40,[.dat false (.st 4),.dat false (.list (.list (.st 0))),.clo 41 []],[],false,[(6,.dat false (.st 8)),(7,.dat true (.int .i64))],[],fun q=>F.order_search fu q.1 q.2⟩
theorem c_order_search_ok (fu:Nat):ConOk Try.prog (c_order_search fu):=ConOk.of (N:=48) (fu:=fu)
 (H:=[(13,.fz [17]),
  (18,.loopE ⟨[(27,.dat true (.int .i64))],[(24,.deep 0 true true (.map .i64 3 136) .map),(5,.box 79 true [.clo 41 []]),(8,.box 83 true [.dat false (.list (.st 6))]),(6,.box 42 true [.dat true .bool,.dat true (.int .i64),.dat true (.list (.int .i64)),.dat true (.int .i64),.dat true (.list (.int .i64))])]⟩ 0 ⟨[],[(24,.deep 0 true true (.map .i64 3 136) .map),(5,.box 79 true [.clo 41 []]),(8,.box 83 true [.dat false (.list (.st 6))]),(6,.box 42 true [.dat true .bool,.dat true (.int .i64),.dat true (.list (.int .i64)),.dat true (.int .i64),.dat true (.list (.int .i64))])]⟩),
  (37,.reg [6])])
 (tbl:=[c_order_spots fu,c_order_pairs_3 fu])
 mixed (List.forall_mem_cons.2 ⟨c_order_spots_ok fu,List.forall_mem_cons.2 ⟨c_order_pairs_3_ok fu,(by intro c h;cases h)⟩⟩) Try.func40 Try.call40 rfl rfl (by kernel_rfl) (mvs:=[]) (ns:=[]) (fun q=>by kernel_rfl)
abbrev c_order_Legal (fu:Nat):Con S0:=⟨17,[.dat false (.st 4),.dat false (.list (.list (.st 0)))],[],false,[(4,.dat false (.st 8)),(5,.dat true (.int .i64))],[],fun q=>F.order_Legal fu q.1 q.2⟩
theorem c_order_Legal_ok (fu:Nat):ConOk Try.prog (c_order_Legal fu):=ConOk.of (N:=11) (fu:=fu)
 (H:=[])
 (tbl:=[c_order_search fu])
 mixed (List.forall_mem_cons.2 ⟨c_order_search_ok fu,(by intro c h;cases h)⟩) Try.func17 Try.call17 rfl rfl (by kernel_rfl) (mvs:=[]) (ns:=[]) (fun q=>by kernel_rfl)
abbrev c_adjointref9_Row (fu:Nat):Con S0:=⟨46,[.dat false (.st 0),.dat false (.int .i64)],[],false,[(4,.dat true (.int .i64))],[],fun q=>F.adjointref9_Row fu q.1 q.2⟩
theorem c_adjointref9_Row_ok (fu:Nat):ConOk Try.prog (c_adjointref9_Row fu):=ConOk.of (N:=30) (fu:=fu)
 (H:=[(14,.loopE ⟨[(19,.dat true (.int .i64))],[]⟩ 0 ⟨[],[]⟩),
  (26,.regJ [] ⟨[(28,.dat true .bool)],[]⟩)])
 (tbl:=[])
 mixed (by intro c h;cases h) Try.func46 Try.call46 rfl rfl (by kernel_rfl) (mvs:=[]) (ns:=[]) (fun q=>by kernel_rfl)
abbrev c_adjointref9_Wrong (fu:Nat):Con S0:=⟨37,[.dat false (.st 1)],[],false,[(2,.dat true (.int .i64))],[],fun q=>F.adjointref9_Wrong fu q⟩
theorem c_adjointref9_Wrong_ok (fu:Nat):ConOk Try.prog (c_adjointref9_Wrong fu):=ConOk.of (N:=52) (fu:=fu)
 (H:=[(16,.loopE ⟨[(3,.dat true (.int .i64)),(16,.dat true (.int .i64))],[]⟩ 0 ⟨[(3,.dat true (.int .i64))],[]⟩),
  (29,.regJ [] ⟨[(25,.dat true .bool)],[]⟩),
  (57,.loopE ⟨[(39,.dat true (.int .i64))],[]⟩ 2 ⟨[],[]⟩)])
 (tbl:=[c_adjointref9_Row fu])
 mixed (List.forall_mem_cons.2 ⟨c_adjointref9_Row_ok fu,(by intro c h;cases h)⟩) Try.func37 Try.call37 rfl rfl (by kernel_rfl) (mvs:=[]) (ns:=[]) (fun q=>by kernel_rfl)
abbrev c_adjointref10_Takes (fu:Nat):Con S0:=⟨38,[.dat false (.int .i64)],[],false,[(2,.dat true (.int .i64))],[],fun q=>F.adjointref10_Takes fu q⟩
theorem c_adjointref10_Takes_ok (fu:Nat):ConOk Try.prog (c_adjointref10_Takes fu):=ConOk.of (N:=18) (fu:=fu)
 (H:=[(15,.join ⟨[(6,.dat true .bool)],[]⟩),
  (25,.join ⟨[(9,.dat true .bool)],[]⟩),
  (29,.join ⟨[(9,.dat true .bool)],[]⟩),
  (33,.join ⟨[(9,.dat true .bool)],[]⟩),
  (37,.join ⟨[(9,.dat true .bool)],[]⟩),
  (41,.join ⟨[(9,.dat true .bool)],[]⟩)])
 (tbl:=[])
 mixed (by intro c h;cases h) Try.func38 Try.call38 rfl rfl (by kernel_rfl) (mvs:=[]) (ns:=[]) (fun q=>by kernel_rfl)
abbrev c_adjointref10_access (fu:Nat):Con S0:=⟨39,[.dat false (.st 4),.dat false (.st 2),.dat false (.int .i64)],[],false,[(6,.dat true (.int .i64))],[],fun q=>F.adjointref10_access fu q.1 q.2.1 q.2.2⟩
theorem c_adjointref10_access_ok (fu:Nat):ConOk Try.prog (c_adjointref10_access fu):=ConOk.of (N:=22) (fu:=fu)
 (H:=[(4,.regJ [] ⟨[(17,.dat true .bool)],[]⟩)])
 (tbl:=[c_adjointref9_Row fu])
 mixed (List.forall_mem_cons.2 ⟨c_adjointref9_Row_ok fu,(by intro c h;cases h)⟩) Try.func39 Try.call39 rfl rfl (by kernel_rfl) (mvs:=[]) (ns:=[]) (fun q=>by kernel_rfl)
abbrev c_adjointref10_Wrong (fu:Nat):Con S0:=⟨15,[.dat false (.st 4)],[],false,[(2,.dat true (.int .i64))],[],fun q=>F.adjointref10_Wrong fu q⟩
theorem c_adjointref10_Wrong_ok (fu:Nat):ConOk Try.prog (c_adjointref10_Wrong fu):=ConOk.of (N:=84) (fu:=fu)
 (H:=[(14,.loopE ⟨[(19,.dat true (.int .i64))],[]⟩ 0 ⟨[],[]⟩),
  (26,.regJ [] ⟨[(28,.dat true .bool)],[]⟩),
  (37,.loopE ⟨[(33,.dat true (.int .i64))],[]⟩ 2 ⟨[],[]⟩),
  (68,.reg []),
  (87,.loopE ⟨[(68,.dat true (.int .i64))],[]⟩ 4 ⟨[],[]⟩)])
 (tbl:=[c_adjointref9_Wrong fu,c_adjointref10_Takes fu,c_adjointref10_access fu])
 mixed (List.forall_mem_cons.2 ⟨c_adjointref9_Wrong_ok fu,List.forall_mem_cons.2 ⟨c_adjointref10_Takes_ok fu,List.forall_mem_cons.2 ⟨c_adjointref10_access_ok fu,(by intro c h;cases h)⟩⟩⟩) Try.func15 Try.call15 rfl rfl (by kernel_rfl) (mvs:=[]) (ns:=[]) (fun q=>by kernel_rfl)
abbrev c_adjointref11_Wrong (fu:Nat):Con S0:=⟨21,[.dat false (.st 4),.dat false (.list (.list (.st 0)))],[],false,[(4,.dat true (.int .i64))],[],fun q=>F.adjointref11_Wrong fu q.1 q.2⟩
theorem c_adjointref11_Wrong_ok (fu:Nat):ConOk Try.prog (c_adjointref11_Wrong fu):=ConOk.of (N:=53) (fu:=fu)
 (H:=[(24,.loopE ⟨[(24,.dat true (.int .i64))],[]⟩ 0 ⟨[],[]⟩),
  (46,.loopE ⟨[(34,.dat true (.int .i64))],[]⟩ 2 ⟨[],[]⟩),
  (58,.reg [])])
 (tbl:=[c_adjointref10_Wrong fu,c_adjointref9_Row fu])
 mixed (List.forall_mem_cons.2 ⟨c_adjointref10_Wrong_ok fu,List.forall_mem_cons.2 ⟨c_adjointref9_Row_ok fu,(by intro c h;cases h)⟩⟩) Try.func21 Try.call21 rfl rfl (by kernel_rfl) (mvs:=[]) (ns:=[]) (fun q=>by kernel_rfl)
abbrev c_adjointref9_Box (fu:Nat):Con S0:=⟨97,[.dat false (.list (.int .i64))],[],false,[(2,.dat true (.list (.list (.int .i64))))],[],fun q=>F.adjointref9_Box fu q⟩
theorem c_adjointref9_Box_ok:∀fu:Nat,ConOk Try.prog (c_adjointref9_Box fu)
 | 0=>⟨Try.call97,fun q r h=>nomatch (show(none:Option _)=some r from h)⟩
 | fu+1=>ConOk.of (N:=44) (fu:=fu+1)
   (H:=[(16,.loop ⟨[(3,.own 3 (.list (.int .i64))),(19,.dat true (.int .i64))],[(3,.arr 22 true true (.list (.int .i64)))]⟩ 0 ⟨[(3,.own 3 (.list (.int .i64)))],[(3,.arr 22 true true (.list (.int .i64)))]⟩),
    (30,.loop ⟨[(3,.own 3 (.list (.int .i64))),(6,.dat true (.int .i64))],[(3,.arr 22 true true (.list (.int .i64)))]⟩ 2 ⟨[(3,.own 3 (.list (.int .i64)))],[(3,.arr 22 true true (.list (.int .i64)))]⟩)])
   (tbl:=[c_adjointref9_Box fu])
   mixed (List.forall_mem_cons.2 ⟨c_adjointref9_Box_ok fu,(by intro c h;cases h)⟩) Try.func97 Try.call97 rfl rfl (by kernel_rfl) (mvs:=[]) (ns:=[]) (fun q=>by kernel_rfl)
abbrev c_adjointref9_At (fu:Nat):Con S0:=⟨83,[.dat false (.st 0),.dat false (.list (.int .i64))],[],false,[(4,.dat true (.int .i64))],[],fun q=>F.adjointref9_At fu q.1 q.2⟩
theorem c_adjointref9_At_ok (fu:Nat):ConOk Try.prog (c_adjointref9_At fu):=ConOk.of (N:=29) (fu:=fu)
 (H:=[(8,.loop ⟨[(5,.dat true (.int .i64)),(12,.dat true (.int .i64))],[]⟩ 0 ⟨[(5,.dat true (.int .i64))],[]⟩),
  (19,.reg [])])
 (tbl:=[])
 mixed (by intro c h;cases h) Try.func83 Try.call83 rfl rfl (by kernel_rfl) (mvs:=[]) (ns:=[]) (fun q=>by kernel_rfl)
abbrev c_adjointref9_All (fu:Nat):Con S0:=⟨82,[.dat false (.st 1)],[],false,[(2,.dat true (.list (.list (.int .i64))))],[],fun q=>F.adjointref9_All fu q⟩
theorem c_adjointref9_All_ok (fu:Nat):ConOk Try.prog (c_adjointref9_All fu):=ConOk.of (N:=39) (fu:=fu)
 (H:=[(8,.loop ⟨[(3,.own 3 (.list (.int .i64))),(13,.dat true (.int .i64))],[(3,.arr 22 true true (.list (.int .i64)))]⟩ 0 ⟨[(3,.own 3 (.list (.int .i64)))],[(3,.arr 22 true true (.list (.int .i64)))]⟩),
  (25,.loop ⟨[(6,.dat true .bool),(20,.dat true (.int .i64))],[]⟩ 2 ⟨[(6,.dat true .bool)],[]⟩),
  (36,.regJ [] ⟨[(6,.dat true .bool)],[]⟩),
  (40,.join ⟨[(3,.own 3 (.list (.int .i64)))],[(3,.arr 22 true true (.list (.int .i64)))]⟩)])
 (tbl:=[c_adjointref9_Box fu,c_adjointref9_At fu])
 mixed (List.forall_mem_cons.2 ⟨c_adjointref9_Box_ok fu,List.forall_mem_cons.2 ⟨c_adjointref9_At_ok fu,(by intro c h;cases h)⟩⟩) Try.func82 Try.call82 rfl rfl (by kernel_rfl) (mvs:=[]) (ns:=[]) (fun q=>by kernel_rfl)
abbrev c_adjointref10_Spots (fu:Nat):Con S0:=⟨61,[.dat false (.st 4)],[],false,[(2,.dat true (.list (.st 5)))],[],fun q=>F.adjointref10_Spots fu q⟩
theorem c_adjointref10_Spots_ok (fu:Nat):ConOk Try.prog (c_adjointref10_Spots fu):=ConOk.of (N:=33) (fu:=fu)
 (H:=[(8,.loop ⟨[(3,.own 3 (.st 5)),(11,.dat true (.int .i64))],[(3,.arr 40 true true (.st 5))]⟩ 0 ⟨[(3,.own 3 (.st 5))],[(3,.arr 40 true true (.st 5))]⟩),
  (22,.loop ⟨[(3,.own 3 (.st 5)),(20,.dat true (.int .i64))],[(3,.arr 40 true true (.st 5))]⟩ 2 ⟨[(3,.own 3 (.st 5))],[(3,.arr 40 true true (.st 5))]⟩)])
 (tbl:=[c_adjointref9_All fu])
 mixed (List.forall_mem_cons.2 ⟨c_adjointref9_All_ok fu,(by intro c h;cases h)⟩) Try.func61 Try.call61 rfl rfl (by kernel_rfl) (mvs:=[]) (ns:=[]) (fun q=>by kernel_rfl)
abbrev c_adjointref11_Right (fu:Nat):Con S0:=⟨58,[.dat false (.st 4),.dat false (.list (.list (.st 0)))],[],false,[(4,.dat true (.int .i64))],[],fun q=>F.adjointref11_Right fu q.1 q.2⟩
theorem c_adjointref11_Right_ok (fu:Nat):ConOk Try.prog (c_adjointref11_Right fu):=ConOk.of (N:=16) (fu:=fu)
 (H:=[])
 (tbl:=[c_adjointref11_Wrong fu,c_adjointref10_Spots fu])
 mixed (List.forall_mem_cons.2 ⟨c_adjointref11_Wrong_ok fu,List.forall_mem_cons.2 ⟨c_adjointref10_Spots_ok fu,(by intro c h;cases h)⟩⟩) Try.func58 Try.call58 rfl rfl (by kernel_rfl) (mvs:=[]) (ns:=[]) (fun q=>by kernel_rfl)
abbrev c_adjointref11_Time (fu:Nat):Con S0:=⟨63,[.dat false (.list (.list (.st 0))),.dat false (.st 5)],[],false,[(4,.dat true (.st 9))],[],fun q=>F.adjointref11_Time fu q.1 q.2⟩
theorem c_adjointref11_Time_ok (fu:Nat):ConOk Try.prog (c_adjointref11_Time fu):=ConOk.of (N:=27) (fu:=fu)
 (H:=[(8,.loop ⟨[(14,.dat true (.int .i64))],[(5,.box 101 true [.dat true (.int .i64),.dat true (.int .i64),.dat true (.int .i64),.dat true (.int .i64),.dat true (.int .i64),.dat true (.int .i64),.dat true (.int .i64),.dat true (.int .i64)])]⟩ 0 ⟨[],[(5,.box 101 true [.dat true (.int .i64),.dat true (.int .i64),.dat true (.int .i64),.dat true (.int .i64),.dat true (.int .i64),.dat true (.int .i64),.dat true (.int .i64),.dat true (.int .i64)])]⟩)])
 (tbl:=[c_adjointref9_At fu])
 mixed (List.forall_mem_cons.2 ⟨c_adjointref9_At_ok fu,(by intro c h;cases h)⟩) Try.func63 Try.call63 rfl rfl (by kernel_rfl) (mvs:=[]) (ns:=[]) (fun q=>by kernel_rfl)
abbrev c_adjointref11_Before (fu:Nat):Con S0:=⟨62,[.dat false (.st 9),.dat false (.st 9)],[],false,[(4,.dat true .bool)],[],fun q=>F.adjointref11_Before fu q.1 q.2⟩
theorem c_adjointref11_Before_ok (fu:Nat):ConOk Try.prog (c_adjointref11_Before fu):=ConOk.of (N:=24) (fu:=fu)
 (H:=[(6,.loopE ⟨[(6,.dat true (.int .i64))],[]⟩ 0 ⟨[],[]⟩),
  (18,.reg []),
  (21,.reg [])])
 (tbl:=[])
 mixed (by intro c h;cases h) Try.func62 Try.call62 rfl rfl (by kernel_rfl) (mvs:=[]) (ns:=[]) (fun q=>by kernel_rfl)
abbrev c_adjointref10_Where (fu:Nat):Con S0:=⟨84,[.dat false (.st 4),.dat false (.st 2),.dat false (.list (.int .i64))],[],false,[(6,.dat true (.int .i64))],[],fun q=>F.adjointref10_Where fu q.1 q.2.1 q.2.2⟩
theorem c_adjointref10_Where_ok (fu:Nat):ConOk Try.prog (c_adjointref10_Where fu):=ConOk.of (N:=25) (fu:=fu)
 (H:=[(6,.regJ [] ⟨[(23,.dat true .bool)],[]⟩)])
 (tbl:=[c_adjointref9_At fu])
 mixed (List.forall_mem_cons.2 ⟨c_adjointref9_At_ok fu,(by intro c h;cases h)⟩) Try.func84 Try.call84 rfl rfl (by kernel_rfl) (mvs:=[]) (ns:=[]) (fun q=>by kernel_rfl)
abbrev c_adjointref11_Clash (fu:Nat):Con S0:=⟨75,[.dat false (.st 4),.dat false (.st 5),.dat false (.st 5)],[],false,[(6,.dat true .bool)],[],fun q=>F.adjointref11_Clash fu q.1 q.2.1 q.2.2⟩
theorem c_adjointref11_Clash_ok (fu:Nat):ConOk Try.prog (c_adjointref11_Clash fu):=ConOk.of (N:=116) (fu:=fu)
 (H:=[(3,.regJ [7,8] ⟨[(7,.loc 7 0),(8,.loc 8 0)],[(7,.box 64 true [.dat false (.list (.int .i64)),.dat false (.list (.st 0)),.dat true (.int .i64),.dat true (.int .i64),.dat true (.int .i64),.dat false (.list (.int .i64)),.dat true (.int .i64),.dat false (.list (.st 2))]),(8,.box 64 true [.dat false (.list (.int .i64)),.dat false (.list (.st 0)),.dat true (.int .i64),.dat true (.int .i64),.dat true (.int .i64),.dat false (.list (.int .i64)),.dat true (.int .i64),.dat false (.list (.st 2))])]⟩),
  (5,.reg []),
  (8,.regJ [] ⟨[(45,.dat true .bool)],[]⟩),
  (15,.regJ [] ⟨[(11,.dat true .bool)],[]⟩),
  (18,.regJ [] ⟨[(69,.dat true .bool)],[]⟩),
  (28,.loopE ⟨[(73,.dat true (.int .i64))],[]⟩ 0 ⟨[],[]⟩),
  (40,.regJ [] ⟨[(91,.dat true .bool)],[]⟩),
  (51,.loopE ⟨[(96,.dat true (.int .i64))],[]⟩ 2 ⟨[],[]⟩),
  (63,.regJ [] ⟨[(114,.dat true .bool)],[]⟩)])
 (tbl:=[c_adjointref10_Where fu])
 mixed (List.forall_mem_cons.2 ⟨c_adjointref10_Where_ok fu,(by intro c h;cases h)⟩) Try.func75 Try.call75 rfl rfl (by kernel_rfl) (mvs:=[]) (ns:=[]) (fun q=>by kernel_rfl)
abbrev c_adjointref11_find (fu:Nat):Con S0:=⟨43,[.dat false (.st 4),.dat false (.list (.list (.st 0))),.dat false .bool],[],false,[(6,.dat true (.st 8)),(7,.dat true (.int .i64))],[],fun q=>F.adjointref11_find fu q.1 q.2.1 q.2.2⟩
theorem c_adjointref11_find_ok (fu:Nat):ConOk Try.prog (c_adjointref11_find fu):=ConOk.of (N:=73) (fu:=fu)
 (H:=[(18,.loopE ⟨[(27,.dat true (.int .i64))],[(6,.box 42 true [.dat true .bool,.dat true (.int .i64),.dat true (.list (.int .i64)),.dat true (.int .i64),.dat true (.list (.int .i64))])]⟩ 0 ⟨[],[(6,.box 42 true [.dat true .bool,.dat true (.int .i64),.dat true (.list (.int .i64)),.dat true (.int .i64),.dat true (.list (.int .i64))])]⟩),
  (32,.loopE ⟨[(36,.dat true (.int .i64))],[(6,.box 42 true [.dat true .bool,.dat true (.int .i64),.dat true (.list (.int .i64)),.dat true (.int .i64),.dat true (.list (.int .i64))])]⟩ 2 ⟨[],[(6,.box 42 true [.dat true .bool,.dat true (.int .i64),.dat true (.list (.int .i64)),.dat true (.int .i64),.dat true (.list (.int .i64))])]⟩),
  (44,.regJ [14,15] ⟨[(14,.loc 14 0),(15,.loc 15 0)],[(14,.box 101 true [.dat true (.int .i64),.dat true (.int .i64),.dat true (.int .i64),.dat true (.int .i64),.dat true (.int .i64),.dat true (.int .i64),.dat true (.int .i64),.dat true (.int .i64)]),(15,.box 101 true [.dat true (.int .i64),.dat true (.int .i64),.dat true (.int .i64),.dat true (.int .i64),.dat true (.int .i64),.dat true (.int .i64),.dat true (.int .i64),.dat true (.int .i64)])]⟩),
  (46,.regJ [] ⟨[(66,.dat true .bool)],[]⟩)])
 (tbl:=[c_adjointref11_Right fu,c_adjointref10_Spots fu,c_adjointref11_Time fu,c_adjointref11_Before fu,c_adjointref11_Clash fu])
 mixed (List.forall_mem_cons.2 ⟨c_adjointref11_Right_ok fu,List.forall_mem_cons.2 ⟨c_adjointref10_Spots_ok fu,List.forall_mem_cons.2 ⟨c_adjointref11_Time_ok fu,List.forall_mem_cons.2 ⟨c_adjointref11_Before_ok fu,List.forall_mem_cons.2 ⟨c_adjointref11_Clash_ok fu,(by intro c h;cases h)⟩⟩⟩⟩⟩) Try.func43 Try.call43 rfl rfl (by kernel_rfl) (mvs:=[]) (ns:=[]) (fun q=>by kernel_rfl)
abbrev c_adjointref11_Legal (fu:Nat):Con S0:=⟨18,[.dat false (.st 4),.dat false (.list (.list (.st 0)))],[],false,[(4,.dat true (.st 8)),(5,.dat true (.int .i64))],[],fun q=>F.adjointref11_Legal fu q.1 q.2⟩
theorem c_adjointref11_Legal_ok (fu:Nat):ConOk Try.prog (c_adjointref11_Legal fu):=ConOk.of (N:=11) (fu:=fu)
 (H:=[])
 (tbl:=[c_adjointref11_find fu])
 mixed (List.forall_mem_cons.2 ⟨c_adjointref11_find_ok fu,(by intro c h;cases h)⟩) Try.func18 Try.call18 rfl rfl (by kernel_rfl) (mvs:=[]) (ns:=[]) (fun q=>by kernel_rfl)
abbrev c_adjointref2_SameList (fu:Nat):Con S0:=⟨35,[.dat false (.list (.int .i64)),.dat false (.list (.int .i64))],[],false,[(4,.dat true .bool)],[],fun q=>F.adjointref2_SameList fu q.1 q.2⟩
theorem c_adjointref2_SameList_ok (fu:Nat):ConOk Try.prog (c_adjointref2_SameList fu):=ConOk.of (N:=26) (fu:=fu)
 (H:=[(14,.loopE ⟨[(13,.dat true (.int .i64))],[]⟩ 0 ⟨[],[]⟩),
  (26,.reg [])])
 (tbl:=[])
 mixed (by intro c h;cases h) Try.func35 Try.call35 rfl rfl (by kernel_rfl) (mvs:=[]) (ns:=[]) (fun q=>by kernel_rfl)
abbrev c_adjointlaw11_sameSpot (fu:Nat):Con S0:=⟨44,[.dat false (.st 5),.dat false (.st 5)],[],false,[(4,.dat true .bool)],[],fun q=>F.adjointlaw11_sameSpot fu q.1 q.2⟩
theorem c_adjointlaw11_sameSpot_ok (fu:Nat):ConOk Try.prog (c_adjointlaw11_sameSpot fu):=ConOk.of (N:=17) (fu:=fu)
 (H:=[(3,.regJ [] ⟨[(4,.dat true .bool)],[]⟩)])
 (tbl:=[c_adjointref2_SameList fu])
 mixed (List.forall_mem_cons.2 ⟨c_adjointref2_SameList_ok fu,(by intro c h;cases h)⟩) Try.func44 Try.call44 rfl rfl (by kernel_rfl) (mvs:=[]) (ns:=[]) (fun q=>by kernel_rfl)
abbrev c_adjointlaw11_sameFound (fu:Nat):Con S0:=⟨19,[.dat false (.st 8),.dat false (.st 8)],[],false,[(4,.dat true .bool)],[],fun q=>F.adjointlaw11_sameFound fu q.1 q.2⟩
theorem c_adjointlaw11_sameFound_ok (fu:Nat):ConOk Try.prog (c_adjointlaw11_sameFound fu):=ConOk.of (N:=24) (fu:=fu)
 (H:=[(3,.regJ [] ⟨[(4,.dat true .bool)],[]⟩)])
 (tbl:=[c_adjointlaw11_sameSpot fu])
 mixed (List.forall_mem_cons.2 ⟨c_adjointlaw11_sameSpot_ok fu,(by intro c h;cases h)⟩) Try.func19 Try.call19 rfl rfl (by kernel_rfl) (mvs:=[]) (ns:=[]) (fun q=>by kernel_rfl)
abbrev c_slices_Equal (fu:Nat):Con S0:=⟨48,[.dat false (.list (.int .i64)),.dat false (.list (.int .i64))],[],false,[(4,.dat true .bool)],[],fun q=>F.slices_Equal fu q.1 q.2⟩
theorem c_slices_Equal_ok (fu:Nat):ConOk Try.prog (c_slices_Equal fu):=ConOk.of (N:=26) (fu:=fu)
 (H:=[(14,.loopE ⟨[(13,.dat true (.int .i64))],[]⟩ 0 ⟨[],[]⟩),
  (26,.reg [])])
 (tbl:=[])
 mixed (by intro c h;cases h) Try.func48 Try.call48 rfl rfl (by kernel_rfl) (mvs:=[]) (ns:=[]) (fun q=>by kernel_rfl)
abbrev c_order_Free_1 (fu:Nat):Con S0:=⟨47,[.dat false (.st 6),.dat false (.st 6)],[],false,[(4,.dat true .bool)],[],fun q=>F.order_Free_1 fu q.1 q.2⟩
theorem c_order_Free_1_ok (fu:Nat):ConOk Try.prog (c_order_Free_1 fu):=ConOk.of (N:=10) (fu:=fu)
 (H:=[])
 (tbl:=[c_slices_Equal fu])
 mixed (List.forall_mem_cons.2 ⟨c_slices_Equal_ok fu,(by intro c h;cases h)⟩) Try.func47 Try.call47 rfl rfl (by kernel_rfl) (mvs:=[]) (ns:=[]) (fun q=>by kernel_rfl)
abbrev c_order_search_1_4 (fu:Nat):Con S0:=⟨73,[.dat false (.int .i64),.loc 1000 0,.loc 1001 0,.loc 1002 0,.loc 1003 0],[.box 3 false [.dat false (.int .i64)],.box 79 false [.clo 47 []],.box 83 false [.dat false (.list (.st 6))],.box 77 false [.dat false (.int .i64),.dat false (.list (.int .i64)),.dat false (.int .i64),.dat false (.list (.int .i64))]],false,[],[(1000,.box 3 false [.dat true (.int .i64)]),(1001,.box 79 false [.clo 47 []]),(1002,.box 83 false [.dat false (.list (.st 6))]),(1003,.box 77 false [.dat true (.int .i64),.dat false (.list (.int .i64)),.dat true (.int .i64),.dat false (.list (.int .i64))])],fun q=>F.order_search_1_4 fu q.1 q.2.1 q.2.2.1 q.2.2.2.1 q.2.2.2.2.1 q.2.2.2.2.2.1 q.2.2.2.2.2.2⟩
theorem c_order_search_1_4_ok (fu:Nat):ConOk Try.prog (c_order_search_1_4 fu):=ConOk.of (N:=23) (fu:=fu)
 (H:=[(1,.regJ [] ⟨[(21,.dat true .bool)],[]⟩),
  (2,.join ⟨[],[(1000,.box 3 false [.dat true (.int .i64)])]⟩)])
 (tbl:=[c_order_Free_1 fu])
 mixed (List.forall_mem_cons.2 ⟨c_order_Free_1_ok fu,(by intro c h;cases h)⟩) Try.func73 Try.call73 rfl rfl (by kernel_rfl) (mvs:=[]) (ns:=[]) (fun q=>by kernel_rfl)
abbrev c_order_pairs_2_7 (fu:Nat):Con S0:=⟨93,[.sub 1000 (.list (.int .i64)),.loc 1001 0],[.box 22 false [.ks 1002 (.int .i64),.ks 1002 (.int .i64)],.box 116 false [.clo 73 [.loc 1003 0,.loc 1004 0,.loc 1005 0,.loc 1006 0]],.deep 0 false false (.map .i64 3 136) .map,.box 3 false [.dat false (.int .i64)],.box 79 false [.clo 47 []],.box 83 false [.dat false (.list (.st 6))],.box 77 false [.dat false (.int .i64),.dat false (.list (.int .i64)),.dat false (.int .i64),.dat false (.list (.int .i64))]],false,[],[(1000,.box 22 false [.any,.any]),(1001,.box 116 false [.clo 73 [.loc 1003 0,.loc 1004 0,.loc 1005 0,.loc 1006 0]]),(1002,.deep 0 false true (.map .i64 3 136) .map),(1003,.box 3 false [.dat true (.int .i64)]),(1004,.box 79 false [.clo 47 []]),(1005,.box 83 false [.dat false (.list (.st 6))]),(1006,.box 77 false [.dat true (.int .i64),.dat false (.list (.int .i64)),.dat true (.int .i64),.dat false (.list (.int .i64))])],fun q=>F.order_pairs_2_7 fu q.1 q.2.1 q.2.2.1 q.2.2.2.1 q.2.2.2.2.1 q.2.2.2.2.2.1 q.2.2.2.2.2.2.1 q.2.2.2.2.2.2.2.1 q.2.2.2.2.2.2.2.2.1 q.2.2.2.2.2.2.2.2.2.1 q.2.2.2.2.2.2.2.2.2.2.1 q.2.2.2.2.2.2.2.2.2.2.2.1 q.2.2.2.2.2.2.2.2.2.2.2.2⟩
theorem c_order_pairs_2_7_ok (fu:Nat):ConOk Try.prog (c_order_pairs_2_7 fu):=ConOk.of (N:=24) (fu:=fu)
 (H:=[(3,.loop ⟨[(9,.dat true (.int .i64))],[(1003,.box 3 false [.dat true (.int .i64)]),(1004,.box 79 false [.clo 47 []]),(1005,.box 83 false [.dat false (.list (.st 6))]),(1006,.box 77 false [.dat true (.int .i64),.dat false (.list (.int .i64)),.dat true (.int .i64),.dat false (.list (.int .i64))])]⟩ 0 ⟨[],[(1003,.box 3 false [.dat true (.int .i64)]),(1004,.box 79 false [.clo 47 []]),(1005,.box 83 false [.dat false (.list (.st 6))]),(1006,.box 77 false [.dat true (.int .i64),.dat false (.list (.int .i64)),.dat true (.int .i64),.dat false (.list (.int .i64))])]⟩),
  (17,.loop ⟨[(15,.dat true (.int .i64))],[(1003,.box 3 false [.dat true (.int .i64)]),(1004,.box 79 false [.clo 47 []]),(1005,.box 83 false [.dat false (.list (.st 6))]),(1006,.box 77 false [.dat true (.int .i64),.dat false (.list (.int .i64)),.dat true (.int .i64),.dat false (.list (.int .i64))])]⟩ 2 ⟨[],[(1003,.box 3 false [.dat true (.int .i64)]),(1004,.box 79 false [.clo 47 []]),(1005,.box 83 false [.dat false (.list (.st 6))]),(1006,.box 77 false [.dat true (.int .i64),.dat false (.list (.int .i64)),.dat true (.int .i64),.dat false (.list (.int .i64))])]⟩)])
 (tbl:=[c_order_search_1_4 fu])
 mixed (List.forall_mem_cons.2 ⟨c_order_search_1_4_ok fu,(by intro c h;cases h)⟩) Try.func93 Try.call93 rfl rfl (by kernel_rfl) (mvs:=[]) (ns:=[]) (fun q=>by kernel_rfl)
abbrev c_order_pairs_2_8 (fu:Nat):Con S0:=⟨93,[.sub 1000 (.list (.int .i64)),.loc 1001 0],[.box 22 false [.ks 1002 (.int .i64)],.box 116 false [.clo 73 [.loc 1003 0,.loc 1004 0,.loc 1005 0,.loc 1006 0]],.deep 0 false false (.map .i64 3 136) .map,.box 3 false [.dat false (.int .i64)],.box 79 false [.clo 47 []],.box 83 false [.dat false (.list (.st 6))],.box 77 false [.dat false (.int .i64),.dat false (.list (.int .i64)),.dat false (.int .i64),.dat false (.list (.int .i64))]],false,[],[(1000,.box 22 false [.any]),(1001,.box 116 false [.clo 73 [.loc 1003 0,.loc 1004 0,.loc 1005 0,.loc 1006 0]]),(1002,.deep 0 false true (.map .i64 3 136) .map),(1003,.box 3 false [.dat true (.int .i64)]),(1004,.box 79 false [.clo 47 []]),(1005,.box 83 false [.dat false (.list (.st 6))]),(1006,.box 77 false [.dat true (.int .i64),.dat false (.list (.int .i64)),.dat true (.int .i64),.dat false (.list (.int .i64))])],fun q=>F.order_pairs_2_8 fu q.1 q.2.1 q.2.2.1 q.2.2.2.1 q.2.2.2.2.1 q.2.2.2.2.2.1 q.2.2.2.2.2.2.1 q.2.2.2.2.2.2.2.1 q.2.2.2.2.2.2.2.2.1 q.2.2.2.2.2.2.2.2.2.1 q.2.2.2.2.2.2.2.2.2.2⟩
theorem c_order_pairs_2_8_ok (fu:Nat):ConOk Try.prog (c_order_pairs_2_8 fu):=ConOk.of (N:=24) (fu:=fu)
 (H:=[(3,.loop ⟨[(9,.dat true (.int .i64))],[(1003,.box 3 false [.dat true (.int .i64)]),(1004,.box 79 false [.clo 47 []]),(1005,.box 83 false [.dat false (.list (.st 6))]),(1006,.box 77 false [.dat true (.int .i64),.dat false (.list (.int .i64)),.dat true (.int .i64),.dat false (.list (.int .i64))])]⟩ 0 ⟨[],[(1003,.box 3 false [.dat true (.int .i64)]),(1004,.box 79 false [.clo 47 []]),(1005,.box 83 false [.dat false (.list (.st 6))]),(1006,.box 77 false [.dat true (.int .i64),.dat false (.list (.int .i64)),.dat true (.int .i64),.dat false (.list (.int .i64))])]⟩),
  (17,.loop ⟨[(15,.dat true (.int .i64))],[(1003,.box 3 false [.dat true (.int .i64)]),(1004,.box 79 false [.clo 47 []]),(1005,.box 83 false [.dat false (.list (.st 6))]),(1006,.box 77 false [.dat true (.int .i64),.dat false (.list (.int .i64)),.dat true (.int .i64),.dat false (.list (.int .i64))])]⟩ 2 ⟨[],[(1003,.box 3 false [.dat true (.int .i64)]),(1004,.box 79 false [.clo 47 []]),(1005,.box 83 false [.dat false (.list (.st 6))]),(1006,.box 77 false [.dat true (.int .i64),.dat false (.list (.int .i64)),.dat true (.int .i64),.dat false (.list (.int .i64))])]⟩)])
 (tbl:=[c_order_search_1_4 fu])
 mixed (List.forall_mem_cons.2 ⟨c_order_search_1_4_ok fu,(by intro c h;cases h)⟩) Try.func93 Try.call93 rfl rfl (by kernel_rfl) (mvs:=[]) (ns:=[]) (fun q=>by kernel_rfl)
abbrev c_order_pairs_5 (fu:Nat):Con S0:=⟨72,[.dat false (.st 4),.mp 1000,.dat false (.st 6),.clo 73 [.loc 1001 0,.loc 1002 0,.loc 1003 0,.loc 1004 0]],[.deep 0 false false (.map .i64 3 136) .map,.box 3 false [.dat false (.int .i64)],.box 79 false [.clo 47 []],.box 83 false [.dat false (.list (.st 6))],.box 77 false [.dat false (.int .i64),.dat false (.list (.int .i64)),.dat false (.int .i64),.dat false (.list (.int .i64))]],false,[],[(1000,.deep 0 false true (.map .i64 3 136) .map),(1001,.box 3 false [.dat true (.int .i64)]),(1002,.box 79 false [.clo 47 []]),(1003,.box 83 false [.dat false (.list (.st 6))]),(1004,.box 77 false [.dat true (.int .i64),.dat false (.list (.int .i64)),.dat true (.int .i64),.dat false (.list (.int .i64))])],fun q=>F.order_pairs_5 fu q.1 q.2.1 q.2.2.1 q.2.2.2.1 q.2.2.2.2.1 q.2.2.2.2.2.1 q.2.2.2.2.2.2.1 q.2.2.2.2.2.2.2.1 q.2.2.2.2.2.2.2.2⟩
theorem c_order_pairs_5_ok (fu:Nat):ConOk Try.prog (c_order_pairs_5 fu):=ConOk.of (N:=170) (fu:=fu)
 (H:=[(9,.regJ [] ⟨[(12,.dat true .bool)],[]⟩),
  (15,.join ⟨[],[(1000,.deep 0 false true (.map .i64 3 136) .map),(1001,.box 3 false [.dat true (.int .i64)]),(1003,.box 83 false [.dat false (.list (.st 6))]),(1004,.box 77 false [.dat true (.int .i64),.dat false (.list (.int .i64)),.dat true (.int .i64),.dat false (.list (.int .i64))]),(5,.box 114 true [.mp 1000]),(7,.box 116 true [.clo 73 [.loc 1001 0,.loc 1002 0,.loc 1003 0,.loc 1004 0]]),(1002,.box 79 false [.clo 47 []])]⟩),
  (19,.regJ [62,7,1000,1001,1002,1003,1004] ⟨[],[(1000,.deep 0 false true (.map .i64 3 136) .map),(1001,.box 3 false [.dat true (.int .i64)]),(1003,.box 83 false [.dat false (.list (.st 6))]),(1004,.box 77 false [.dat true (.int .i64),.dat false (.list (.int .i64)),.dat true (.int .i64),.dat false (.list (.int .i64))]),(7,.box 116 true [.clo 73 [.loc 1001 0,.loc 1002 0,.loc 1003 0,.loc 1004 0]]),(1002,.box 79 false [.clo 47 []])]⟩),
  (22,.join ⟨[],[(1000,.deep 0 false true (.map .i64 3 136) .map),(1001,.box 3 false [.dat true (.int .i64)]),(1003,.box 83 false [.dat false (.list (.st 6))]),(1004,.box 77 false [.dat true (.int .i64),.dat false (.list (.int .i64)),.dat true (.int .i64),.dat false (.list (.int .i64))]),(7,.box 116 true [.clo 73 [.loc 1001 0,.loc 1002 0,.loc 1003 0,.loc 1004 0]]),(1002,.box 79 false [.clo 47 []])]⟩),
  (32,.loop ⟨[(15,.own 15 (.st 7)),(76,.dat true (.int .i64))],[(5,.box 114 true [.mp 1000]),(1000,.deep 0 false true (.map .i64 3 136) .map),(7,.box 116 true [.clo 73 [.loc 1001 0,.loc 1002 0,.loc 1003 0,.loc 1004 0]]),(1001,.box 3 false [.dat true (.int .i64)]),(1002,.box 79 false [.clo 47 []]),(1003,.box 83 false [.dat false (.list (.st 6))]),(1004,.box 77 false [.dat true (.int .i64),.dat false (.list (.int .i64)),.dat true (.int .i64),.dat false (.list (.int .i64))]),(15,.arr 132 true true (.st 7))]⟩ 0 ⟨[(15,.own 15 (.st 7))],[(5,.box 114 true [.mp 1000]),(1000,.deep 0 false true (.map .i64 3 136) .map),(7,.box 116 true [.clo 73 [.loc 1001 0,.loc 1002 0,.loc 1003 0,.loc 1004 0]]),(1001,.box 3 false [.dat true (.int .i64)]),(1002,.box 79 false [.clo 47 []]),(1003,.box 83 false [.dat false (.list (.st 6))]),(1004,.box 77 false [.dat true (.int .i64),.dat false (.list (.int .i64)),.dat true (.int .i64),.dat false (.list (.int .i64))]),(15,.arr 132 true true (.st 7))]⟩),
  (46,.regJ [] ⟨[(92,.dat true .bool)],[]⟩),
  (47,.join ⟨[(15,.own 15 (.st 7))],[(1000,.deep 0 false true (.map .i64 3 136) .map),(1001,.box 3 false [.dat true (.int .i64)]),(1003,.box 83 false [.dat false (.list (.st 6))]),(1004,.box 77 false [.dat true (.int .i64),.dat false (.list (.int .i64)),.dat true (.int .i64),.dat false (.list (.int .i64))]),(15,.arr 132 true true (.st 7)),(5,.box 114 true [.mp 1000]),(7,.box 116 true [.clo 73 [.loc 1001 0,.loc 1002 0,.loc 1003 0,.loc 1004 0]]),(1002,.box 79 false [.clo 47 []])]⟩),
  (49,.regJ [5,1000,106,7,1001,1002,1003,1004] ⟨[],[(1000,.deep 0 false true (.map .i64 3 136) .map),(1001,.box 3 false [.dat true (.int .i64)]),(1003,.box 83 false [.dat false (.list (.st 6))]),(1004,.box 77 false [.dat true (.int .i64),.dat false (.list (.int .i64)),.dat true (.int .i64),.dat false (.list (.int .i64))]),(5,.box 114 true [.mp 1000]),(7,.box 116 true [.clo 73 [.loc 1001 0,.loc 1002 0,.loc 1003 0,.loc 1004 0]]),(1002,.box 79 false [.clo 47 []])]⟩),
  (55,.regJ [] ⟨[(116,.dat true .bool)],[]⟩),
  (56,.join ⟨[],[(1000,.deep 0 false true (.map .i64 3 136) .map),(5,.box 114 true [.mp 1000])]⟩),
  (57,.regJ [5,1000] ⟨[],[(1000,.deep 0 false true (.map .i64 3 136) .map),(5,.box 114 true [.mp 1000])]⟩),
  (60,.join ⟨[],[(1000,.deep 0 false true (.map .i64 3 136) .map),(5,.box 114 true [.mp 1000])]⟩),
  (61,.regJ [5,1000] ⟨[],[(1000,.deep 0 false true (.map .i64 3 136) .map),(5,.box 114 true [.mp 1000])]⟩),
  (66,.loop ⟨[(150,.dat true (.int .i64))],[(5,.box 114 true [.mp 1000]),(1000,.deep 0 false true (.map .i64 3 136) .map)]⟩ 2 ⟨[],[(5,.box 114 true [.mp 1000]),(1000,.deep 0 false true (.map .i64 3 136) .map)]⟩),
  (77,.regJ [5,1000] ⟨[],[(1000,.deep 0 false true (.map .i64 3 136) .map),(5,.box 114 true [.mp 1000])]⟩)])
 (tbl:=[c_order_pairs_1 fu,c_order_pairs_2_7 fu,c_order_pairs_2_8 fu,c_order_cellOf fu])
 mixed (List.forall_mem_cons.2 ⟨c_order_pairs_1_ok fu,List.forall_mem_cons.2 ⟨c_order_pairs_2_7_ok fu,List.forall_mem_cons.2 ⟨c_order_pairs_2_8_ok fu,List.forall_mem_cons.2 ⟨c_order_cellOf_ok fu,(by intro c h;cases h)⟩⟩⟩⟩) Try.func72 Try.call72 rfl rfl (by kernel_rfl) (mvs:=[]) (ns:=[]) (fun q=>by kernel_rfl)
abbrev c_order_search_2 (fu:Nat):Con S0:=⟨40,[.dat false (.st 4),.dat false (.list (.list (.st 0))),.clo 47 []],[],false,[(6,.dat false (.st 8)),(7,.dat true (.int .i64))],[],fun q=>F.order_search_2 fu q.1 q.2⟩
theorem c_order_search_2_ok (fu:Nat):ConOk Try.prog (c_order_search_2 fu):=ConOk.of (N:=48) (fu:=fu)
 (H:=[(13,.fz [17]),
  (18,.loopE ⟨[(27,.dat true (.int .i64))],[(24,.deep 0 true true (.map .i64 3 136) .map),(5,.box 79 true [.clo 47 []]),(8,.box 83 true [.dat false (.list (.st 6))]),(6,.box 42 true [.dat true .bool,.dat true (.int .i64),.dat true (.list (.int .i64)),.dat true (.int .i64),.dat true (.list (.int .i64))])]⟩ 0 ⟨[],[(24,.deep 0 true true (.map .i64 3 136) .map),(5,.box 79 true [.clo 47 []]),(8,.box 83 true [.dat false (.list (.st 6))]),(6,.box 42 true [.dat true .bool,.dat true (.int .i64),.dat true (.list (.int .i64)),.dat true (.int .i64),.dat true (.list (.int .i64))])]⟩),
  (37,.reg [6])])
 (tbl:=[c_order_spots fu,c_order_pairs_5 fu])
 mixed (List.forall_mem_cons.2 ⟨c_order_spots_ok fu,List.forall_mem_cons.2 ⟨c_order_pairs_5_ok fu,(by intro c h;cases h)⟩⟩) Try.func40 Try.call40 rfl rfl (by kernel_rfl) (mvs:=[]) (ns:=[]) (fun q=>by kernel_rfl)
abbrev c_order_Free (fu:Nat):Con S0:=⟨22,[.dat false (.st 4),.dat false (.list (.list (.st 0)))],[],false,[(4,.dat false (.st 8)),(5,.dat true (.int .i64))],[],fun q=>F.order_Free fu q.1 q.2⟩
theorem c_order_Free_ok (fu:Nat):ConOk Try.prog (c_order_Free fu):=ConOk.of (N:=11) (fu:=fu)
 (H:=[])
 (tbl:=[c_order_search_2 fu])
 mixed (List.forall_mem_cons.2 ⟨c_order_search_2_ok fu,(by intro c h;cases h)⟩) Try.func22 Try.call22 rfl rfl (by kernel_rfl) (mvs:=[]) (ns:=[]) (fun q=>by kernel_rfl)
abbrev c_adjointref11_Free (fu:Nat):Con S0:=⟨23,[.dat false (.st 4),.dat false (.list (.list (.st 0)))],[],false,[(4,.dat true (.st 8)),(5,.dat true (.int .i64))],[],fun q=>F.adjointref11_Free fu q.1 q.2⟩
theorem c_adjointref11_Free_ok (fu:Nat):ConOk Try.prog (c_adjointref11_Free fu):=ConOk.of (N:=11) (fu:=fu)
 (H:=[])
 (tbl:=[c_adjointref11_find fu])
 mixed (List.forall_mem_cons.2 ⟨c_adjointref11_find_ok fu,(by intro c h;cases h)⟩) Try.func23 Try.call23 rfl rfl (by kernel_rfl) (mvs:=[]) (ns:=[]) (fun q=>by kernel_rfl)
abbrev c_adjointlaw11_OrderFinds (fu:Nat):Con S0:=⟨4,[.dat false (.st 4),.dat false (.list (.list (.st 0)))],[],false,[(4,.dat true .bool)],[],fun q=>F.adjointlaw11_OrderFinds fu q.1 q.2⟩
theorem c_adjointlaw11_OrderFinds_ok (fu:Nat):ConOk Try.prog (c_adjointlaw11_OrderFinds fu):=ConOk.of (N:=59) (fu:=fu)
 (H:=[(8,.regJ [] ⟨[(38,.dat true .bool)],[]⟩),
  (19,.regJ [] ⟨[(4,.dat true .bool)],[]⟩)])
 (tbl:=[c_order_Legal fu,c_adjointref11_Legal fu,c_adjointlaw11_sameFound fu,c_order_Wrong fu,c_adjointref11_Wrong fu,c_order_Free fu,c_adjointref11_Free fu])
 mixed (List.forall_mem_cons.2 ⟨c_order_Legal_ok fu,List.forall_mem_cons.2 ⟨c_adjointref11_Legal_ok fu,List.forall_mem_cons.2 ⟨c_adjointlaw11_sameFound_ok fu,List.forall_mem_cons.2 ⟨c_order_Wrong_ok fu,List.forall_mem_cons.2 ⟨c_adjointref11_Wrong_ok fu,List.forall_mem_cons.2 ⟨c_order_Free_ok fu,List.forall_mem_cons.2 ⟨c_adjointref11_Free_ok fu,(by intro c h;cases h)⟩⟩⟩⟩⟩⟩⟩) Try.func4 Try.call4 rfl rfl (by kernel_rfl) (mvs:=[]) (ns:=[]) (fun q=>by kernel_rfl)
end
end Go.DN
