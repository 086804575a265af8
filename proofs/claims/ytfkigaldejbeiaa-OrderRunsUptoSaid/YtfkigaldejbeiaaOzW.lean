/-
  Each function does what its Lean function says.
-/
import Derived.Test.YtfkigaldejbeiaaOzF
import Derived.Test.YtfkigaldejbeiaaProg
import Derived.KernelRfl
set_option maxRecDepth 20000
set_option linter.unusedVariables false
set_option linter.unusedSectionVars false
set_option linter.unusedSimpArgs false
namespace Go.DN
open Go.AM
open Go.Proofs
noncomputable section
theorem mixed:Try.prog.follows .mixedOrders=true:=by kernel_rfl
abbrev c_nest_Wrong_1 (fu:Nat):Con S0:=⟨67,[.dat false (.int .i64)],[],false,[(2,.dat true .bool)],[],fun q=>F.nest_Wrong_1 fu q⟩
theorem c_nest_Wrong_1_ok (fu:Nat):ConOk Try.prog (c_nest_Wrong_1 fu):=ConOk.of (N:=9) (fu:=fu)
 (H:=[(3,.regJ [] ⟨[(2,.dat true .bool)],[]⟩)])
 (tbl:=[])
 mixed (by intro c h;cases h) Try.func67 Try.call67 rfl rfl (by kernel_rfl) (mvs:=[]) (ns:=[]) (fun q=>by kernel_rfl)
abbrev c_slices_IndexFunc (fu:Nat):Con S0:=⟨89,[.dat false (.list (.int .i64)),.clo 67 []],[],false,[(4,.dat true (.int .i64))],[],fun q=>F.slices_IndexFunc fu q⟩
theorem c_slices_IndexFunc_ok (fu:Nat):ConOk Try.prog (c_slices_IndexFunc fu):=ConOk.of (N:=19) (fu:=fu)
 (H:=[(6,.loopE ⟨[(8,.dat true (.int .i64))],[]⟩ 0 ⟨[],[]⟩)])
 (tbl:=[c_nest_Wrong_1 fu])
 mixed (List.forall_mem_cons.2 ⟨c_nest_Wrong_1_ok fu,(by intro c h;cases h)⟩) Try.func89 Try.call89 rfl rfl (by kernel_rfl) (mvs:=[]) (ns:=[]) (fun q=>by kernel_rfl)
abbrev c_slices_ContainsFunc (fu:Nat):Con S0:=⟨66,[.dat false (.list (.int .i64)),.clo 67 []],[],false,[(4,.dat true .bool)],[],fun q=>F.slices_ContainsFunc fu q⟩
theorem c_slices_ContainsFunc_ok (fu:Nat):ConOk Try.prog (c_slices_ContainsFunc fu):=ConOk.of (N:=9) (fu:=fu)
 (H:=[])
 (tbl:=[c_slices_IndexFunc fu])
 mixed (List.forall_mem_cons.2 ⟨c_slices_IndexFunc_ok fu,(by intro c h;cases h)⟩) Try.func66 Try.call66 rfl rfl (by kernel_rfl) (mvs:=[]) (ns:=[]) (fun q=>by kernel_rfl)
abbrev c_points_Row_1 (fu:Nat):Con S0:=⟨76,[.dat false (.int .i64)],[],false,[(2,.dat true .bool)],[],fun q=>F.points_Row_1 fu q⟩
theorem c_points_Row_1_ok (fu:Nat):ConOk Try.prog (c_points_Row_1 fu):=ConOk.of (N:=9) (fu:=fu)
 (H:=[(3,.regJ [] ⟨[(2,.dat true .bool)],[]⟩)])
 (tbl:=[])
 mixed (by intro c h;cases h) Try.func76 Try.call76 rfl rfl (by kernel_rfl) (mvs:=[]) (ns:=[]) (fun q=>by kernel_rfl)
abbrev c_slices_IndexFunc_2 (fu:Nat):Con S0:=⟨89,[.dat false (.list (.int .i64)),.clo 76 []],[],false,[(4,.dat true (.int .i64))],[],fun q=>F.slices_IndexFunc_2 fu q⟩
theorem c_slices_IndexFunc_2_ok (fu:Nat):ConOk Try.prog (c_slices_IndexFunc_2 fu):=ConOk.of (N:=19) (fu:=fu)
 (H:=[(6,.loopE ⟨[(8,.dat true (.int .i64))],[]⟩ 0 ⟨[],[]⟩)])
 (tbl:=[c_points_Row_1 fu])
 mixed (List.forall_mem_cons.2 ⟨c_points_Row_1_ok fu,(by intro c h;cases h)⟩) Try.func89 Try.call89 rfl rfl (by kernel_rfl) (mvs:=[]) (ns:=[]) (fun q=>by kernel_rfl)
abbrev c_slices_ContainsFunc_2 (fu:Nat):Con S0:=⟨66,[.dat false (.list (.int .i64)),.clo 76 []],[],false,[(4,.dat true .bool)],[],fun q=>F.slices_ContainsFunc_2 fu q⟩
theorem c_slices_ContainsFunc_2_ok (fu:Nat):ConOk Try.prog (c_slices_ContainsFunc_2 fu):=ConOk.of (N:=9) (fu:=fu)
 (H:=[])
 (tbl:=[c_slices_IndexFunc_2 fu])
 mixed (List.forall_mem_cons.2 ⟨c_slices_IndexFunc_2_ok fu,(by intro c h;cases h)⟩) Try.func66 Try.call66 rfl rfl (by kernel_rfl) (mvs:=[]) (ns:=[]) (fun q=>by kernel_rfl)
abbrev c_points_Row (fu:Nat):Con S0:=⟨45,[.dat false (.st 0),.dat false (.int .i64)],[],false,[(4,.dat true (.int .i64))],[],fun q=>F.points_Row fu q.1 q.2⟩
theorem c_points_Row_ok (fu:Nat):ConOk Try.prog (c_points_Row fu):=ConOk.of (N:=21) (fu:=fu)
 (H:=[(14,.regJ [] ⟨[(20,.dat true .bool)],[]⟩)])
 (tbl:=[c_points_Row_1 fu,c_slices_ContainsFunc_2 fu])
 mixed (List.forall_mem_cons.2 ⟨c_points_Row_1_ok fu,List.forall_mem_cons.2 ⟨c_slices_ContainsFunc_2_ok fu,(by intro c h;cases h)⟩⟩) Try.func45 Try.call45 rfl rfl (by kernel_rfl) (mvs:=[]) (ns:=[]) (fun q=>by kernel_rfl)
abbrev c_points_Wrong (fu:Nat):Con S0:=⟨87,[.dat false (.st 1)],[],false,[(2,.dat true (.int .i64))],[],fun q=>F.points_Wrong fu q⟩
theorem c_points_Wrong_ok (fu:Nat):ConOk Try.prog (c_points_Wrong fu):=ConOk.of (N:=62) (fu:=fu)
 (H:=[(16,.loopE ⟨[(18,.dat true (.int .i64))],[]⟩ 0 ⟨[],[]⟩),
  (28,.regJ [] ⟨[(27,.dat true .bool)],[]⟩),
  (39,.loop ⟨[(3,.dat true (.int .i64)),(32,.dat true (.int .i64))],[]⟩ 2 ⟨[(3,.dat true (.int .i64))],[]⟩),
  (72,.loopE ⟨[(49,.dat true (.int .i64))],[]⟩ 4 ⟨[],[]⟩)])
 (tbl:=[c_points_Row fu])
 mixed (List.forall_mem_cons.2 ⟨c_points_Row_ok fu,(by intro c h;cases h)⟩) Try.func87 Try.call87 rfl rfl (by kernel_rfl) (mvs:=[]) (ns:=[]) (fun q=>by kernel_rfl)
abbrev c_nest_gets (fu:Nat):Con S0:=⟨90,[.dat false (.int .i64)],[],false,[(2,.dat true (.int .i64))],[],fun q=>F.nest_gets fu q⟩
theorem c_nest_gets_ok (fu:Nat):ConOk Try.prog (c_nest_gets fu):=ConOk.of (N:=18) (fu:=fu)
 (H:=[(15,.join ⟨[(6,.dat true .bool)],[]⟩),
  (25,.join ⟨[(9,.dat true .bool)],[]⟩),
  (29,.join ⟨[(9,.dat true .bool)],[]⟩),
  (33,.join ⟨[(9,.dat true .bool)],[]⟩),
  (37,.join ⟨[(9,.dat true .bool)],[]⟩),
  (41,.join ⟨[(9,.dat true .bool)],[]⟩)])
 (tbl:=[])
 mixed (by intro c h;cases h) Try.func90 Try.call90 rfl rfl (by kernel_rfl) (mvs:=[]) (ns:=[]) (fun q=>by kernel_rfl)
abbrev c_nest_statement (fu:Nat):Con S0:=⟨68,[.dat false (.st 4),.dat false (.st 3)],[],false,[(4,.dat true (.int .i64))],[],fun q=>F.nest_statement fu q.1 q.2⟩
theorem c_nest_statement_ok (fu:Nat):ConOk Try.prog (c_nest_statement fu):=ConOk.of (N:=59) (fu:=fu)
 (H:=[(34,.loopE ⟨[(33,.dat true (.int .i64))],[]⟩ 0 ⟨[],[]⟩),
  (47,.regJ [] ⟨[(47,.dat true .bool)],[]⟩)])
 (tbl:=[c_points_Wrong fu,c_nest_gets fu,c_points_Row fu])
 mixed (List.forall_mem_cons.2 ⟨c_points_Wrong_ok fu,List.forall_mem_cons.2 ⟨c_nest_gets_ok fu,List.forall_mem_cons.2 ⟨c_points_Row_ok fu,(by intro c h;cases h)⟩⟩⟩) Try.func68 Try.call68 rfl rfl (by kernel_rfl) (mvs:=[]) (ns:=[]) (fun q=>by kernel_rfl)
abbrev c_nest_Wrong (fu:Nat):Con S0:=⟨29,[.dat false (.st 4)],[],false,[(2,.dat true (.int .i64))],[],fun q=>F.nest_Wrong fu q⟩
theorem c_nest_Wrong_ok (fu:Nat):ConOk Try.prog (c_nest_Wrong fu):=ConOk.of (N:=27) (fu:=fu)
 (H:=[(22,.loopE ⟨[(16,.dat true (.int .i64))],[]⟩ 0 ⟨[],[]⟩)])
 (tbl:=[c_slices_ContainsFunc fu,c_nest_statement fu])
 mixed (List.forall_mem_cons.2 ⟨c_slices_ContainsFunc_ok fu,List.forall_mem_cons.2 ⟨c_nest_statement_ok fu,(by intro c h;cases h)⟩⟩) Try.func29 Try.call29 rfl rfl (by kernel_rfl) (mvs:=[]) (ns:=[]) (fun q=>by kernel_rfl)
abbrev c_order_Wrong (fu:Nat):Con S0:=⟨20,[.dat false (.st 4),.dat false (.list (.list (.st 0)))],[],false,[(4,.dat true (.int .i64))],[],fun q=>F.order_Wrong fu q.1 q.2⟩
theorem c_order_Wrong_ok (fu:Nat):ConOk Try.prog (c_order_Wrong fu):=ConOk.of (N:=53) (fu:=fu)
 (H:=[(24,.loopE ⟨[(24,.dat true (.int .i64))],[]⟩ 0 ⟨[],[]⟩),
  (46,.loopE ⟨[(34,.dat true (.int .i64))],[]⟩ 2 ⟨[],[]⟩),
  (58,.reg [])])
 (tbl:=[c_nest_Wrong fu,c_points_Row fu])
 mixed (List.forall_mem_cons.2 ⟨c_nest_Wrong_ok fu,List.forall_mem_cons.2 ⟨c_points_Row_ok fu,(by intro c h;cases h)⟩⟩) Try.func20 Try.call20 rfl rfl (by kernel_rfl) (mvs:=[]) (ns:=[]) (fun q=>by kernel_rfl)
abbrev c_points_All (fu:Nat):Con S0:=⟨65,[.dat false (.st 1)],[],false,[(2,.clo 86 [.loc 1 0])],[(1,.box 59 true [.dat false (.list (.int .i64)),.dat false (.list (.st 0))])],fun q=>F.points_All fu q⟩
theorem c_points_All_ok (fu:Nat):ConOk Try.prog (c_points_All fu):=ConOk.of (N:=4) (fu:=fu)
 (H:=[])
 (tbl:=[])
 mixed (by intro c h;cases h) Try.func65 Try.call65 rfl rfl (by kernel_rfl) (mvs:=[]) (ns:=[]) (fun q=>by kernel_rfl)
abbrev c_points_hopeless (fu:Nat):Con S0:=⟨98,[.dat false (.st 1),.dat false (.list (.int .i64)),.dat false (.int .i64)],[],false,[(6,.dat true .bool)],[],fun q=>F.points_hopeless fu q.1 q.2.1 q.2.2⟩
theorem c_points_hopeless_ok (fu:Nat):ConOk Try.prog (c_points_hopeless fu):=ConOk.of (N:=58) (fu:=fu)
 (H:=[(6,.loopE ⟨[(15,.dat true (.int .i64))],[]⟩ 0 ⟨[],[]⟩),
  (23,.loop ⟨[(9,.dat true (.int .i64)),(24,.dat true (.int .i64))],[]⟩ 2 ⟨[(9,.dat true (.int .i64))],[]⟩),
  (37,.join ⟨[(9,.dat true (.int .i64))],[]⟩),
  (41,.join ⟨[(9,.dat true (.int .i64))],[]⟩)])
 (tbl:=[])
 mixed (by intro c h;cases h) Try.func98 Try.call98 rfl rfl (by kernel_rfl) (mvs:=[]) (ns:=[]) (fun q=>by kernel_rfl)
abbrev c_slices_Clone (fu:Nat):Con S0:=⟨32,[.dat false (.list (.int .i64))],[],false,[(2,.dat true (.list (.int .i64)))],[],fun q=>F.slices_Clone fu q⟩
theorem c_slices_Clone_ok (fu:Nat):ConOk Try.prog (c_slices_Clone fu):=ConOk.of (N:=8) (fu:=fu)
 (H:=[])
 (tbl:=[])
 mixed (by intro c h;cases h) Try.func32 Try.call32 rfl rfl (by kernel_rfl) (mvs:=[]) (ns:=[]) (fun q=>by kernel_rfl)
abbrev c_points_At (fu:Nat):Con S0:=⟨77,[.dat false (.st 0),.dat false (.list (.int .i64))],[],false,[(4,.dat true (.int .i64))],[],fun q=>F.points_At fu q.1 q.2⟩
theorem c_points_At_ok (fu:Nat):ConOk Try.prog (c_points_At fu):=ConOk.of (N:=28) (fu:=fu)
 (H:=[(8,.loop ⟨[(5,.dat true (.int .i64)),(13,.dat true (.int .i64))],[]⟩ 0 ⟨[(5,.dat true (.int .i64))],[]⟩)])
 (tbl:=[])
 mixed (by intro c h;cases h) Try.func77 Try.call77 rfl rfl (by kernel_rfl) (mvs:=[]) (ns:=[]) (fun q=>by kernel_rfl)
abbrev y_order_spots_y_3 (fu:Nat):YCon S0:=⟨0,[.dat false (.list (.int .i64))],[.loc 1000 0,.loc 1001 0,.loc 1002 0,.loc 1003 0,.loc 1004 0,.loc 1005 0],[.box 31 false [.dat false (.list (.list (.st 0)))],.box 83 false [.own 1006 (.st 6)],.box 26 false [.dat false (.int .i64)],.box 3 false [.dat false (.int .i64)],.box 83 false [.own 1007 (.st 6)],.box 3 false [.dat false (.int .i64)],.arr 77 false false (.st 6),.arr 77 false false (.st 6)],[(1000,.box 31 false [.dat false (.list (.list (.st 0)))]),(1001,.box 83 false [.own 486 (.st 6)]),(1002,.box 26 false [.dat true (.int .i64)]),(1003,.box 3 false [.dat true (.int .i64)]),(1004,.box 83 false [.own 487 (.st 6)]),(1005,.box 3 false [.dat true (.int .i64)]),(486,.arr 77 false false (.st 6)),(487,.arr 77 false false (.st 6))],true,fun q=>F.order_spots_y_3 fu q.1 q.2.1 q.2.2.1 q.2.2.2.1 q.2.2.2.2.1 q.2.2.2.2.2.1 q.2.2.2.2.2.2⟩
theorem y_order_spots_y_3_ok (fu:Nat):YOk Try.prog (y_order_spots_y_3 fu):=YOk.of (fu:=fu)
 (H:=[(16,.loop ⟨[(56,.dat true (.int .i64)),(14,.own 50 (.int .i64))],[(50,.arr 3 true true (.int .i64))]⟩ 6 ⟨[(14,.own 50 (.int .i64))],[(50,.arr 3 true true (.int .i64))]⟩)])
 (tbl:=[c_points_At fu])
 mixed (List.forall_mem_cons.2 ⟨c_points_At_ok fu,(by intro c h;cases h)⟩) (by kernel_rfl) (by kernel_rfl) (by kernel_rfl) (mvs:=[1006,1007]) (ns:=[]) (fun q=>by kernel_rfl)
abbrev c_points_walk_4 (fu:Nat):Con S0:=⟨88,[.dat false (.st 1),.own 1000 (.int .i64),.dat false (.int .i64),.yld 1001],[.arr 3 false false (.int .i64),.lp 0 true [.loc 1002 0,.loc 1003 0,.loc 1004 0,.loc 1005 0,.loc 1006 0,.loc 1007 0],.box 31 false [.dat false (.list (.list (.st 0)))],.box 83 false [.own 1008 (.st 6)],.box 26 false [.dat false (.int .i64)],.box 3 false [.dat false (.int .i64)],.box 83 false [.own 1009 (.st 6)],.box 3 false [.dat false (.int .i64)],.arr 77 false false (.st 6),.arr 77 false false (.st 6)],false,[(8,.dat true .bool)],[(1000,.arr 3 false true (.int .i64)),(1001,.lp 0 true [.loc 1002 0,.loc 1003 0,.loc 1004 0,.loc 1005 0,.loc 1006 0,.loc 1007 0]),(1002,.box 31 false [.dat false (.list (.list (.st 0)))]),(1003,.box 83 false [.own 488 (.st 6)]),(1004,.box 26 false [.dat true (.int .i64)]),(1005,.box 3 false [.dat true (.int .i64)]),(1006,.box 83 false [.own 489 (.st 6)]),(1007,.box 3 false [.dat true (.int .i64)]),(488,.arr 77 false false (.st 6)),(489,.arr 77 false false (.st 6))],fun q=>F.points_walk_4 fu q.1 q.2.1 q.2.2.1 q.2.2.2.1 q.2.2.2.2.1 q.2.2.2.2.2.1 q.2.2.2.2.2.2.1 q.2.2.2.2.2.2.2.1 q.2.2.2.2.2.2.2.2.1 q.2.2.2.2.2.2.2.2.2⟩
theorem c_points_walk_4_ok:∀fu:Nat,ConOk Try.prog (c_points_walk_4 fu)
 | 0=>⟨Try.call88,fun q r h=>nomatch (show(none:Option _)=some r from h)⟩
 | fu+1=>ConOk.ofR (N:=48) (fu:=fu+1)
   (H:=[(22,.loopE ⟨[(1,.own 1000 (.int .i64))],[(1000,.arr 3 false true (.int .i64)),(1001,.lp 0 true [.loc 1002 0,.loc 1003 0,.loc 1004 0,.loc 1005 0,.loc 1006 0,.loc 1007 0]),(1002,.box 31 false [.dat false (.list (.list (.st 0)))]),(1003,.box 83 false [.own 488 (.st 6)]),(1004,.box 26 false [.dat true (.int .i64)]),(1005,.box 3 false [.dat true (.int .i64)]),(1006,.box 83 false [.own 489 (.st 6)]),(1007,.box 3 false [.dat true (.int .i64)]),(488,.arr 77 false false (.st 6)),(489,.arr 77 false false (.st 6))]⟩ 0 ⟨[],[(1000,.arr 3 false true (.int .i64)),(1001,.lp 0 true [.loc 1002 0,.loc 1003 0,.loc 1004 0,.loc 1005 0,.loc 1006 0,.loc 1007 0]),(1002,.box 31 false [.dat false (.list (.list (.st 0)))]),(1003,.box 83 false [.own 488 (.st 6)]),(1004,.box 26 false [.dat true (.int .i64)]),(1005,.box 3 false [.dat true (.int .i64)]),(1006,.box 83 false [.own 489 (.st 6)]),(1007,.box 3 false [.dat true (.int .i64)]),(488,.arr 77 false false (.st 6)),(489,.arr 77 false false (.st 6))]⟩),
    (25,.reg [])])
   (tbl:=[c_points_walk_4 fu,c_points_hopeless (fu+1),c_slices_Clone (fu+1)]) (tbr:=[]) (ys:=[y_order_spots_y_3 (fu+1)])
   [] mixed (List.forall_mem_cons.2 ⟨c_points_walk_4_ok fu,List.forall_mem_cons.2 ⟨c_points_hopeless_ok (fu+1),List.forall_mem_cons.2 ⟨c_slices_Clone_ok (fu+1),(by intro c h;cases h)⟩⟩⟩) (by intro c h;cases h) (List.forall_mem_cons.2 ⟨y_order_spots_y_3_ok (fu+1),(by intro c h;cases h)⟩) Try.func88 Try.call88 rfl rfl (by kernel_rfl) rfl (by kernel_rfl) (mvs:=[1008,1009]) (ns:=[]) (fun q=>by kernel_rfl)
abbrev c_points_All_1 (fu:Nat):Con S0:=⟨86,[.yld 1000,.loc 1001 0],[.lp 0 true [.loc 1002 0,.loc 1003 0,.loc 1004 0,.loc 1005 0,.loc 1006 0,.loc 1007 0],.box 59 false [.dat false (.list (.int .i64)),.dat false (.list (.st 0))],.box 31 false [.dat false (.list (.list (.st 0)))],.box 83 false [.own 1008 (.st 6)],.box 26 false [.dat false (.int .i64)],.box 3 false [.dat false (.int .i64)],.box 83 false [.own 1009 (.st 6)],.box 3 false [.dat false (.int .i64)],.arr 77 false false (.st 6),.arr 77 false false (.st 6)],false,[],[(1000,.lp 0 true [.loc 1002 0,.loc 1003 0,.loc 1004 0,.loc 1005 0,.loc 1006 0,.loc 1007 0]),(1001,.box 59 false [.dat false (.list (.int .i64)),.dat false (.list (.st 0))]),(1002,.box 31 false [.dat false (.list (.list (.st 0)))]),(1003,.box 83 false [.own 488 (.st 6)]),(1004,.box 26 false [.dat true (.int .i64)]),(1005,.box 3 false [.dat true (.int .i64)]),(1006,.box 83 false [.own 489 (.st 6)]),(1007,.box 3 false [.dat true (.int .i64)]),(488,.arr 77 false false (.st 6)),(489,.arr 77 false false (.st 6))],fun q=>F.points_All_1 fu q.1 q.2.1 q.2.2.1 q.2.2.2.1 q.2.2.2.2.1 q.2.2.2.2.2.1 q.2.2.2.2.2.2.1 q.2.2.2.2.2.2.2.1 q.2.2.2.2.2.2.2.2⟩
theorem c_points_All_1_ok (fu:Nat):ConOk Try.prog (c_points_All_1 fu):=ConOk.of (N:=13) (fu:=fu)
 (H:=[(2,.join ⟨[],[(1000,.lp 0 true [.loc 1002 0,.loc 1003 0,.loc 1004 0,.loc 1005 0,.loc 1006 0,.loc 1007 0]),(1002,.box 31 false [.dat false (.list (.list (.st 0)))]),(1004,.box 26 false [.dat true (.int .i64)]),(1005,.box 3 false [.dat true (.int .i64)]),(1007,.box 3 false [.dat true (.int .i64)]),(488,.arr 77 false false (.st 6)),(489,.arr 77 false false (.st 6)),(1003,.box 83 false [.own 488 (.st 6)]),(1006,.box 83 false [.own 489 (.st 6)])]⟩),
  (3,.reg [10,1000,1002,1003,1004,1005,1006,1007,1008,1009,488,489])])
 (tbl:=[c_points_walk_4 fu,c_points_Wrong fu])
 mixed (List.forall_mem_cons.2 ⟨c_points_walk_4_ok fu,List.forall_mem_cons.2 ⟨c_points_Wrong_ok fu,(by intro c h;cases h)⟩⟩) Try.func86 Try.call86 rfl rfl (by kernel_rfl) (mvs:=[1008,1009]) (ns:=[]) (fun q=>by kernel_rfl)
abbrev c_order_spots (fu:Nat):Con S0:=⟨49,[.dat false (.st 4),.dat false (.list (.list (.st 0)))],[],false,[(4,.own 420 (.st 6)),(5,.dat true (.int .i64))],[(420,.arr 77 true false (.st 6))],fun q=>F.order_spots fu q.1 q.2⟩
theorem c_order_spots_ok (fu:Nat):ConOk Try.prog (c_order_spots fu):=ConOk.ofR (N:=80) (fu:=fu)
 (H:=[(18,.loop ⟨[(25,.dat true (.int .i64))],[(7,.box 3 true [.dat true (.int .i64)])]⟩ 0 ⟨[],[(7,.box 3 true [.dat true (.int .i64)])]⟩),
  (37,.loopE ⟨[(37,.dat true (.int .i64))],[(4,.box 83 true [.own 420 (.st 6)]),(10,.box 83 true [.own 421 (.st 6)]),(3,.box 31 true [.dat false (.list (.list (.st 0)))]),(5,.box 26 true [.dat true (.int .i64)]),(7,.box 3 true [.dat true (.int .i64)]),(420,.arr 77 true false (.st 6)),(421,.arr 77 true false (.st 6))]⟩ 2 ⟨[],[(4,.box 83 true [.own 420 (.st 6)]),(10,.box 83 true [.own 421 (.st 6)]),(3,.box 31 true [.dat false (.list (.list (.st 0)))]),(5,.box 26 true [.dat true (.int .i64)]),(7,.box 3 true [.dat true (.int .i64)]),(420,.arr 77 true false (.st 6)),(421,.arr 77 true false (.st 6))]⟩),
  (51,.rng 0 350)])
 (tbl:=[c_points_All fu,c_order_Wrong fu]) (tbr:=[c_points_All_1 fu]) (ys:=[])
 [(51,0)] mixed (List.forall_mem_cons.2 ⟨c_points_All_ok fu,List.forall_mem_cons.2 ⟨c_order_Wrong_ok fu,(by intro c h;cases h)⟩⟩) (List.forall_mem_cons.2 ⟨c_points_All_1_ok fu,(by intro c h;cases h)⟩) (by intro c h;cases h) Try.func49 Try.call49 rfl rfl (by kernel_rfl) rfl (by kernel_rfl) (mvs:=[]) (ns:=[]) (fun q=>by kernel_rfl)
abbrev c_slices_Clone_2 (fu:Nat):Con S0:=⟨78,[.dat false (.list (.int .i64))],[],false,[(2,.own 5 (.int .i64))],[(5,.arr 2 true true (.int .i64))],fun q=>F.slices_Clone_2 fu q⟩
theorem c_slices_Clone_2_ok (fu:Nat):ConOk Try.prog (c_slices_Clone_2 fu):=ConOk.of (N:=8) (fu:=fu)
 (H:=[])
 (tbl:=[])
 mixed (by intro c h;cases h) Try.func78 Try.call78 rfl rfl (by kernel_rfl) (mvs:=[]) (ns:=[]) (fun q=>by kernel_rfl)
abbrev c_nest_Copied (fu:Nat):Con S0:=⟨50,[.dat false (.st 4),.dat false (.list (.list (.int .i64)))],[],false,[(4,.own 17 (.list (.int .i64))),(5,.dat true (.int .i64))],[(17,.deep 104 true true (.fam 2) (.list (.list (.int .i64))))],fun q=>F.nest_Copied fu q.1 q.2⟩
theorem c_nest_Copied_ok (fu:Nat):ConOk Try.prog (c_nest_Copied fu):=ConOk.of (N:=40) (fu:=fu)
 (H:=[(12,.th 17 2),
  (16,.loopE ⟨[(20,.dat true (.int .i64)),(6,.own 17 (.list (.int .i64)))],[(17,.deep 104 true true (.fam 2) (.list (.list (.int .i64))))]⟩ 0 ⟨[(6,.own 17 (.list (.int .i64)))],[(17,.deep 104 true true (.fam 2) (.list (.list (.int .i64))))]⟩)])
 (tbl:=[c_slices_Clone_2 fu])
 mixed (List.forall_mem_cons.2 ⟨c_slices_Clone_2_ok fu,(by intro c h;cases h)⟩) Try.func50 Try.call50 rfl rfl (by kernel_rfl) (mvs:=[]) (ns:=[]) (fun q=>by kernel_rfl)
abbrev c_cmp_isNaN (fu:Nat):Con S0:=⟨94,[.dat false (.int .i64)],[],false,[(2,.dat true .bool)],[],fun q=>F.cmp_isNaN fu q⟩
theorem c_cmp_isNaN_ok (fu:Nat):ConOk Try.prog (c_cmp_isNaN fu):=ConOk.of (N:=6) (fu:=fu)
 (H:=[])
 (tbl:=[])
 mixed (by intro c h;cases h) Try.func94 Try.call94 rfl rfl (by kernel_rfl) (mvs:=[]) (ns:=[]) (fun q=>by kernel_rfl)
abbrev c_cmp_Compare (fu:Nat):Con S0:=⟨74,[.dat false (.int .i64),.dat false (.int .i64)],[],false,[(4,.dat true (.int .i64))],[],fun q=>F.cmp_Compare fu q.1 q.2⟩
theorem c_cmp_Compare_ok (fu:Nat):ConOk Try.prog (c_cmp_Compare fu):=ConOk.of (N:=20) (fu:=fu)
 (H:=[])
 (tbl:=[c_cmp_isNaN fu])
 mixed (List.forall_mem_cons.2 ⟨c_cmp_isNaN_ok fu,(by intro c h;cases h)⟩) Try.func74 Try.call74 rfl rfl (by kernel_rfl) (mvs:=[]) (ns:=[]) (fun q=>by kernel_rfl)
abbrev c_slices_Compare (fu:Nat):Con S0:=⟨42,[.dat false (.list (.int .i64)),.dat false (.list (.int .i64))],[],false,[(4,.dat true (.int .i64))],[],fun q=>F.slices_Compare fu q.1 q.2⟩
theorem c_slices_Compare_ok (fu:Nat):ConOk Try.prog (c_slices_Compare fu):=ConOk.of (N:=36) (fu:=fu)
 (H:=[(6,.loopE ⟨[(11,.dat true (.int .i64))],[]⟩ 0 ⟨[],[]⟩)])
 (tbl:=[c_cmp_Compare fu])
 mixed (List.forall_mem_cons.2 ⟨c_cmp_Compare_ok fu,(by intro c h;cases h)⟩) Try.func42 Try.call42 rfl rfl (by kernel_rfl) (mvs:=[]) (ns:=[]) (fun q=>by kernel_rfl)
abbrev c_order_Run_1 (fu:Nat):Con S0:=⟨52,[.dat false (.st 6),.dat false (.st 6)],[],false,[(4,.dat true (.int .i64))],[],fun q=>F.order_Run_1 fu q.1 q.2⟩
theorem c_order_Run_1_ok (fu:Nat):ConOk Try.prog (c_order_Run_1 fu):=ConOk.of (N:=10) (fu:=fu)
 (H:=[])
 (tbl:=[c_slices_Compare fu])
 mixed (List.forall_mem_cons.2 ⟨c_slices_Compare_ok fu,(by intro c h;cases h)⟩) Try.func52 Try.call52 rfl rfl (by kernel_rfl) (mvs:=[]) (ns:=[]) (fun q=>by kernel_rfl)
abbrev c_slices_insertionSortCmpFunc (fu:Nat):Con S0:=⟨95,[.own 1000 (.st 6),.dat false (.int .i64),.dat false (.int .i64),.clo 52 []],[.arr 77 false false (.st 6)],false,[],[(1000,.arr 77 false false (.st 6))],fun q=>F.slices_insertionSortCmpFunc fu q.1 q.2.1 q.2.2⟩
theorem c_slices_insertionSortCmpFunc_ok (fu:Nat):ConOk Try.prog (c_slices_insertionSortCmpFunc fu):=ConOk.of (N:=53) (fu:=fu)
 (H:=[(3,.loop ⟨[(8,.dat true (.int .i64)),(0,.own 1000 (.st 6))],[(1000,.arr 77 false false (.st 6))]⟩ 0 ⟨[],[(1000,.arr 77 false false (.st 6))]⟩),
  (15,.loop ⟨[(9,.dat true (.int .i64)),(0,.own 1000 (.st 6))],[(1000,.arr 77 false false (.st 6))]⟩ 2 ⟨[(0,.own 1000 (.st 6))],[(1000,.arr 77 false false (.st 6))]⟩),
  (18,.regJ [] ⟨[(34,.dat true .bool)],[]⟩),
  (24,.regJ [1000] ⟨[(0,.own 1000 (.st 6))],[(1000,.arr 77 false false (.st 6))]⟩)])
 (tbl:=[c_order_Run_1 fu])
 mixed (List.forall_mem_cons.2 ⟨c_order_Run_1_ok fu,(by intro c h;cases h)⟩) Try.func95 Try.call95 rfl rfl (by kernel_rfl) (mvs:=[]) (ns:=[]) (fun q=>by kernel_rfl)
abbrev c_slices_swapRangeCmpFunc (fu:Nat):Con S0:=⟨100,[.own 1000 (.st 6),.dat false (.int .i64),.dat false (.int .i64),.dat false (.int .i64),.clo 52 []],[.arr 77 false false (.st 6)],false,[],[(1000,.arr 77 false false (.st 6))],fun q=>F.slices_swapRangeCmpFunc fu q.1 q.2.1 q.2.2.1 q.2.2.2⟩
theorem c_slices_swapRangeCmpFunc_ok (fu:Nat):ConOk Try.prog (c_slices_swapRangeCmpFunc fu):=ConOk.of (N:=38) (fu:=fu)
 (H:=[(3,.loop ⟨[(10,.dat true (.int .i64)),(0,.own 1000 (.st 6))],[(1000,.arr 77 false false (.st 6))]⟩ 0 ⟨[],[(1000,.arr 77 false false (.st 6))]⟩),
  (12,.regJ [1000] ⟨[(0,.own 1000 (.st 6))],[(1000,.arr 77 false false (.st 6))]⟩)])
 (tbl:=[])
 mixed (by intro c h;cases h) Try.func100 Try.call100 rfl rfl (by kernel_rfl) (mvs:=[]) (ns:=[]) (fun q=>by kernel_rfl)
abbrev c_slices_rotateCmpFunc (fu:Nat):Con S0:=⟨99,[.own 1000 (.st 6),.dat false (.int .i64),.dat false (.int .i64),.dat false (.int .i64),.clo 52 []],[.arr 77 false false (.st 6)],false,[],[(1000,.arr 77 false false (.st 6))],fun q=>F.slices_rotateCmpFunc fu q.1 q.2.1 q.2.2.1 q.2.2.2⟩
theorem c_slices_rotateCmpFunc_ok (fu:Nat):ConOk Try.prog (c_slices_rotateCmpFunc fu):=ConOk.of (N:=58) (fu:=fu)
 (H:=[(6,.loop ⟨[(10,.dat true (.int .i64)),(11,.dat true (.int .i64)),(0,.own 1000 (.st 6))],[(1000,.arr 77 false false (.st 6))]⟩ 0 ⟨[(10,.dat true (.int .i64)),(0,.own 1000 (.st 6))],[(1000,.arr 77 false false (.st 6))]⟩),
  (16,.join ⟨[(10,.dat true (.int .i64)),(11,.dat true (.int .i64)),(0,.own 1000 (.st 6))],[(1000,.arr 77 false false (.st 6))]⟩)])
 (tbl:=[c_slices_swapRangeCmpFunc fu])
 mixed (List.forall_mem_cons.2 ⟨c_slices_swapRangeCmpFunc_ok fu,(by intro c h;cases h)⟩) Try.func99 Try.call99 rfl rfl (by kernel_rfl) (mvs:=[]) (ns:=[]) (fun q=>by kernel_rfl)
abbrev c_slices_symMergeCmpFunc (fu:Nat):Con S0:=⟨96,[.own 1000 (.st 6),.dat false (.int .i64),.dat false (.int .i64),.dat false (.int .i64),.clo 52 []],[.arr 77 false false (.st 6)],false,[],[(1000,.arr 77 false false (.st 6))],fun q=>F.slices_symMergeCmpFunc fu q.1 q.2.1 q.2.2.1 q.2.2.2⟩
theorem c_slices_symMergeCmpFunc_ok:∀fu:Nat,ConOk Try.prog (c_slices_symMergeCmpFunc fu)
 | 0=>⟨Try.call96,fun q r h=>nomatch (show(none:Option _)=some r from h)⟩
 | fu+1=>ConOk.of (N:=220) (fu:=fu+1)
   (H:=[(10,.loop ⟨[(10,.dat true (.int .i64)),(11,.dat true (.int .i64))],[]⟩ 0 ⟨[(10,.dat true (.int .i64))],[]⟩),
    (21,.reg []),
    (22,.join ⟨[(10,.dat true (.int .i64)),(11,.dat true (.int .i64))],[]⟩),
    (29,.loop ⟨[(13,.dat true (.int .i64)),(0,.own 1000 (.st 6))],[(1000,.arr 77 false false (.st 6))]⟩ 2 ⟨[],[(1000,.arr 77 false false (.st 6))]⟩),
    (38,.regJ [1000] ⟨[(0,.own 1000 (.st 6))],[(1000,.arr 77 false false (.st 6))]⟩),
    (52,.loop ⟨[(14,.dat true (.int .i64)),(15,.dat true (.int .i64))],[]⟩ 4 ⟨[(14,.dat true (.int .i64))],[]⟩),
    (63,.reg []),
    (64,.join ⟨[(14,.dat true (.int .i64)),(15,.dat true (.int .i64))],[]⟩),
    (71,.loop ⟨[(17,.dat true (.int .i64)),(0,.own 1000 (.st 6))],[(1000,.arr 77 false false (.st 6))]⟩ 6 ⟨[],[(1000,.arr 77 false false (.st 6))]⟩),
    (80,.regJ [1000] ⟨[(0,.own 1000 (.st 6))],[(1000,.arr 77 false false (.st 6))]⟩),
    (93,.join ⟨[(20,.dat true (.int .i64)),(21,.dat true (.int .i64))],[]⟩),
    (104,.loop ⟨[(20,.dat true (.int .i64)),(21,.dat true (.int .i64))],[]⟩ 8 ⟨[(20,.dat true (.int .i64))],[]⟩),
    (115,.reg []),
    (116,.join ⟨[(20,.dat true (.int .i64)),(21,.dat true (.int .i64))],[]⟩),
    (123,.regJ [] ⟨[(185,.dat true .bool)],[]⟩),
    (124,.join ⟨[(0,.own 1000 (.st 6))],[(1000,.arr 77 false false (.st 6))]⟩),
    (129,.regJ [] ⟨[(199,.dat true .bool)],[]⟩),
    (130,.join ⟨[(0,.own 1000 (.st 6))],[(1000,.arr 77 false false (.st 6))]⟩),
    (134,.regJ [] ⟨[(213,.dat true .bool)],[]⟩),
    (135,.join ⟨[],[(1000,.arr 77 false false (.st 6))]⟩)])
   (tbl:=[c_slices_rotateCmpFunc (fu+1),c_slices_symMergeCmpFunc fu,c_order_Run_1 (fu+1)])
   mixed (List.forall_mem_cons.2 ⟨c_slices_rotateCmpFunc_ok (fu+1),List.forall_mem_cons.2 ⟨c_slices_symMergeCmpFunc_ok fu,List.forall_mem_cons.2 ⟨c_order_Run_1_ok (fu+1),(by intro c h;cases h)⟩⟩⟩) Try.func96 Try.call96 rfl rfl (by kernel_rfl) (mvs:=[]) (ns:=[]) (fun q=>by kernel_rfl)
abbrev c_slices_stableCmpFunc (fu:Nat):Con S0:=⟨79,[.own 1000 (.st 6),.dat false (.int .i64),.clo 52 []],[.arr 77 false false (.st 6)],false,[],[(1000,.arr 77 false false (.st 6))],fun q=>F.slices_stableCmpFunc fu q.1 q.2⟩
theorem c_slices_stableCmpFunc_ok (fu:Nat):ConOk Try.prog (c_slices_stableCmpFunc fu):=ConOk.of (N:=63) (fu:=fu)
 (H:=[(6,.loop ⟨[(7,.dat true (.int .i64)),(8,.dat true (.int .i64)),(0,.own 1000 (.st 6))],[(1000,.arr 77 false false (.st 6))]⟩ 0 ⟨[(7,.dat true (.int .i64)),(0,.own 1000 (.st 6))],[(1000,.arr 77 false false (.st 6))]⟩),
  (22,.loop ⟨[(6,.dat true (.int .i64)),(0,.own 1000 (.st 6))],[(1000,.arr 77 false false (.st 6))]⟩ 2 ⟨[],[(1000,.arr 77 false false (.st 6))]⟩),
  (34,.loop ⟨[(7,.dat true (.int .i64)),(8,.dat true (.int .i64)),(0,.own 1000 (.st 6))],[(1000,.arr 77 false false (.st 6))]⟩ 4 ⟨[(7,.dat true (.int .i64)),(0,.own 1000 (.st 6))],[(1000,.arr 77 false false (.st 6))]⟩),
  (52,.join ⟨[(0,.own 1000 (.st 6))],[(1000,.arr 77 false false (.st 6))]⟩)])
 (tbl:=[c_slices_insertionSortCmpFunc fu,c_slices_symMergeCmpFunc fu])
 mixed (List.forall_mem_cons.2 ⟨c_slices_insertionSortCmpFunc_ok fu,List.forall_mem_cons.2 ⟨c_slices_symMergeCmpFunc_ok fu,(by intro c h;cases h)⟩⟩) Try.func79 Try.call79 rfl rfl (by kernel_rfl) (mvs:=[]) (ns:=[]) (fun q=>by kernel_rfl)
abbrev c_slices_SortStableFunc (fu:Nat):Con S0:=⟨51,[.own 1000 (.st 6),.clo 52 []],[.arr 77 false false (.st 6)],false,[],[(1000,.arr 77 false false (.st 6))],fun q=>F.slices_SortStableFunc fu q⟩
theorem c_slices_SortStableFunc_ok (fu:Nat):ConOk Try.prog (c_slices_SortStableFunc fu):=ConOk.of (N:=9) (fu:=fu)
 (H:=[])
 (tbl:=[c_slices_stableCmpFunc fu])
 mixed (List.forall_mem_cons.2 ⟨c_slices_stableCmpFunc_ok fu,(by intro c h;cases h)⟩) Try.func51 Try.call51 rfl rfl (by kernel_rfl) (mvs:=[]) (ns:=[]) (fun q=>by kernel_rfl)
abbrev c_slices_Equal (fu:Nat):Con S0:=⟨48,[.dat false (.list (.int .i64)),.dat false (.list (.int .i64))],[],false,[(4,.dat true .bool)],[],fun q=>F.slices_Equal fu q.1 q.2⟩
theorem c_slices_Equal_ok (fu:Nat):ConOk Try.prog (c_slices_Equal fu):=ConOk.of (N:=26) (fu:=fu)
 (H:=[(14,.loopE ⟨[(13,.dat true (.int .i64))],[]⟩ 0 ⟨[],[]⟩),
  (26,.reg [])])
 (tbl:=[])
 mixed (by intro c h;cases h) Try.func48 Try.call48 rfl rfl (by kernel_rfl) (mvs:=[]) (ns:=[]) (fun q=>by kernel_rfl)
abbrev c_slices_Clone_3 (fu:Nat):Con S0:=⟨55,[.sub 1000 (.st 6)],[.arr 77 false false (.st 6)],false,[(2,.own 5 (.st 6))],[(1000,.arr 77 false false (.st 6)),(5,.arr 77 true false (.st 6))],fun q=>F.slices_Clone_3 fu q.1 q.2.1 q.2.2⟩
theorem c_slices_Clone_3_ok (fu:Nat):ConOk Try.prog (c_slices_Clone_3 fu):=ConOk.of (N:=8) (fu:=fu)
 (H:=[])
 (tbl:=[])
 mixed (by intro c h;cases h) Try.func55 Try.call55 rfl rfl (by kernel_rfl) (mvs:=[]) (ns:=[]) (fun q=>by kernel_rfl)
abbrev c_nest_Memory_Place (fu:Nat):Con S0:=⟨81,[.own 1000 (.list (.int .i64)),.dat false (.st 2),.dat false (.list (.int .i64))],[.deep 104 false false (.fam 2) (.list (.list (.int .i64)))],false,[(6,.kpo 1000 (.int .i64))],[(1000,.deep 104 false true (.fam 2) (.list (.list (.int .i64))))],fun q=>F.nest_Memory_Place fu q.1 q.2.1 q.2.2⟩
theorem c_nest_Memory_Place_ok (fu:Nat):ConOk Try.prog (c_nest_Memory_Place fu):=ConOk.of (N:=31) (fu:=fu)
 (H:=[(6,.regJ [] ⟨[(23,.dat true .bool)],[]⟩)])
 (tbl:=[c_points_At fu])
 mixed (List.forall_mem_cons.2 ⟨c_points_At_ok fu,(by intro c h;cases h)⟩) Try.func81 Try.call81 rfl rfl (by kernel_rfl) (mvs:=[]) (ns:=[]) (fun q=>by kernel_rfl)
abbrev c_nest_Memory_get (fu:Nat):Con S0:=⟨80,[.own 1000 (.list (.int .i64)),.dat false (.st 2),.dat false (.list (.int .i64))],[.deep 104 false false (.fam 2) (.list (.list (.int .i64)))],false,[(6,.dat true (.int .i64))],[(1000,.deep 104 false true (.fam 2) (.list (.list (.int .i64))))],fun q=>F.nest_Memory_get fu q.1 q.2.1 q.2.2⟩
theorem c_nest_Memory_get_ok (fu:Nat):ConOk Try.prog (c_nest_Memory_get fu):=ConOk.of (N:=17) (fu:=fu)
 (H:=[])
 (tbl:=[c_nest_Memory_Place fu])
 mixed (List.forall_mem_cons.2 ⟨c_nest_Memory_Place_ok fu,(by intro c h;cases h)⟩) Try.func80 Try.call80 rfl rfl (by kernel_rfl) (mvs:=[]) (ns:=[]) (fun q=>by kernel_rfl)
abbrev c_nest_Memory_Do (fu:Nat):Con S0:=⟨56,[.own 1000 (.list (.int .i64)),.dat false (.st 3),.dat false (.list (.int .i64))],[.deep 104 false false (.fam 2) (.list (.list (.int .i64)))],false,[],[(1000,.deep 104 false true (.fam 2) (.list (.list (.int .i64))))],fun q=>F.nest_Memory_Do fu q.1 q.2.1 q.2.2⟩
theorem c_nest_Memory_Do_ok (fu:Nat):ConOk Try.prog (c_nest_Memory_Do fu):=ConOk.of (N:=144) (fu:=fu)
 (H:=[(8,.loop ⟨[(14,.dat true (.int .i64)),(6,.own 10 (.int .i64)),(0,.own 1000 (.list (.int .i64)))],[(1000,.deep 104 false true (.fam 2) (.list (.list (.int .i64)))),(10,.arr 2 true true (.int .i64))]⟩ 0 ⟨[(6,.own 10 (.int .i64)),(0,.own 1000 (.list (.int .i64)))],[(1000,.deep 104 false true (.fam 2) (.list (.list (.int .i64)))),(10,.arr 2 true true (.int .i64))]⟩),
  (34,.join ⟨[],[(1000,.deep 104 false true (.fam 2) (.list (.list (.int .i64))))]⟩),
  (38,.join ⟨[],[(1000,.deep 104 false true (.fam 2) (.list (.list (.int .i64))))]⟩),
  (42,.join ⟨[],[(1000,.deep 104 false true (.fam 2) (.list (.list (.int .i64))))]⟩),
  (43,.reg [1000]),
  (46,.join ⟨[],[(1000,.deep 104 false true (.fam 2) (.list (.list (.int .i64))))]⟩),
  (47,.reg [1000]),
  (50,.join ⟨[],[(1000,.deep 104 false true (.fam 2) (.list (.list (.int .i64))))]⟩),
  (51,.reg [1000]),
  (54,.join ⟨[],[(1000,.deep 104 false true (.fam 2) (.list (.list (.int .i64))))]⟩),
  (55,.reg [1000]),
  (58,.join ⟨[],[(1000,.deep 104 false true (.fam 2) (.list (.list (.int .i64))))]⟩),
  (62,.reg []),
  (63,.join ⟨[],[(1000,.deep 104 false true (.fam 2) (.list (.list (.int .i64))))]⟩),
  (68,.join ⟨[],[(1000,.deep 104 false true (.fam 2) (.list (.list (.int .i64))))]⟩),
  (73,.join ⟨[],[(1000,.deep 104 false true (.fam 2) (.list (.list (.int .i64))))]⟩),
  (78,.join ⟨[],[(1000,.deep 104 false true (.fam 2) (.list (.list (.int .i64))))]⟩),
  (79,.reg [1000]),
  (80,.reg [1000])])
 (tbl:=[c_nest_Memory_get fu,c_nest_Memory_Place fu])
 mixed (List.forall_mem_cons.2 ⟨c_nest_Memory_get_ok fu,List.forall_mem_cons.2 ⟨c_nest_Memory_Place_ok fu,(by intro c h;cases h)⟩⟩) Try.func56 Try.call56 rfl rfl (by kernel_rfl) (mvs:=[]) (ns:=[]) (fun q=>by kernel_rfl)
abbrev c_slices_Delete_2 (fu:Nat):Con S0:=⟨57,[.sub 1000 (.st 6),.dat false (.int .i64),.dat false (.int .i64)],[.arr 77 false false (.st 6)],false,[(6,.sub 1000 (.st 6))],[(1000,.arr 77 false false (.st 6))],fun q=>F.slices_Delete_2 fu q.1 q.2.1 q.2.2.1 q.2.2.2.1 q.2.2.2.2⟩
theorem c_slices_Delete_2_ok (fu:Nat):ConOk Try.prog (c_slices_Delete_2 fu):=ConOk.of (N:=33) (fu:=fu)
 (H:=[(15,.reg [1000])])
 (tbl:=[])
 mixed (by intro c h;cases h) Try.func57 Try.call57 rfl rfl (by kernel_rfl) (mvs:=[]) (ns:=[]) (fun q=>by kernel_rfl)
abbrev c_order_Run_2_2 (fu:Nat):Con S0:=⟨54,[.dat false (.st 6),.loc 1000 0],[.box 83 false [.sub 1001 (.st 6)],.arr 77 false false (.st 6)],false,[(3,.dat true .bool)],[(1000,.box 83 false [.sub 1001 (.st 6)]),(1001,.arr 77 false false (.st 6))],fun q=>F.order_Run_2_2 fu q.1 q.2.1 q.2.2.1 q.2.2.2⟩
theorem c_order_Run_2_2_ok (fu:Nat):ConOk Try.prog (c_order_Run_2_2 fu):=ConOk.of (N:=12) (fu:=fu)
 (H:=[(3,.reg [])])
 (tbl:=[c_slices_Equal fu])
 mixed (List.forall_mem_cons.2 ⟨c_slices_Equal_ok fu,(by intro c h;cases h)⟩) Try.func54 Try.call54 rfl rfl (by kernel_rfl) (mvs:=[]) (ns:=[]) (fun q=>by kernel_rfl)
abbrev c_slices_IndexFunc_4 (fu:Nat):Con S0:=⟨53,[.sub 1000 (.st 6),.clo 54 [.loc 1001 0]],[.arr 77 false false (.st 6),.box 83 false [.sub 1000 (.st 6)]],false,[(4,.dat true (.int .i64))],[(1000,.arr 77 false false (.st 6)),(1001,.box 83 false [.sub 1000 (.st 6)])],fun q=>F.slices_IndexFunc_4 fu q.1 q.2.1 q.2.2.1 q.2.2.2.1 q.2.2.2.2⟩
theorem c_slices_IndexFunc_4_ok (fu:Nat):ConOk Try.prog (c_slices_IndexFunc_4 fu):=ConOk.of (N:=19) (fu:=fu)
 (H:=[(6,.loopE ⟨[(8,.dat true (.int .i64)),(0,.sub 1000 (.st 6))],[(1001,.box 83 false [.sub 1000 (.st 6)]),(1000,.arr 77 false false (.st 6))]⟩ 0 ⟨[],[(1001,.box 83 false [.sub 1000 (.st 6)]),(1000,.arr 77 false false (.st 6))]⟩)])
 (tbl:=[c_order_Run_2_2 fu])
 mixed (List.forall_mem_cons.2 ⟨c_order_Run_2_2_ok fu,(by intro c h;cases h)⟩) Try.func53 Try.call53 rfl rfl (by kernel_rfl) (mvs:=[]) (ns:=[]) (fun q=>by kernel_rfl)
abbrev c_order_Run (fu:Nat):Con S0:=⟨24,[.dat false (.st 4),.dat false (.list (.list (.st 0))),.dat false (.list (.list (.int .i64))),.dat false (.list (.int .i64))],[],false,[(8,.dat false (.list (.list (.int .i64)))),(9,.dat true (.int .i64))],[],fun q=>F.order_Run fu q.1 q.2.1 q.2.2.1 q.2.2.2⟩
theorem c_order_Run_ok (fu:Nat):ConOk Try.prog (c_order_Run fu):=ConOk.of (N:=102) (fu:=fu)
 (H:=[(28,.loop ⟨[(13,.dat true (.int .i64)),(12,.own 29 (.list (.int .i64)))],[(20,.arr 77 true false (.st 6)),(29,.deep 104 true true (.fam 2) (.list (.list (.int .i64)))),(10,.box 83 true [.sub 20 (.st 6)])]⟩ 0 ⟨[(12,.own 29 (.list (.int .i64)))],[(20,.arr 77 true false (.st 6)),(29,.deep 104 true true (.fam 2) (.list (.list (.int .i64)))),(10,.box 83 true [.sub 20 (.st 6)])]⟩),
  (41,.join ⟨[(14,.dat true (.int .i64))],[]⟩),
  (48,.loop ⟨[(13,.dat true (.int .i64)),(15,.sub 50 (.st 6)),(12,.own 29 (.list (.int .i64)))],[(29,.deep 104 true true (.fam 2) (.list (.list (.int .i64)))),(50,.arr 77 true false (.st 6))]⟩ 2 ⟨[(13,.dat true (.int .i64)),(12,.own 29 (.list (.int .i64)))],[(29,.deep 104 true true (.fam 2) (.list (.list (.int .i64)))),(50,.arr 77 true false (.st 6))]⟩),
  (61,.join ⟨[(16,.dat true (.int .i64)),(13,.dat true (.int .i64))],[]⟩),
  (67,.reg [29])])
 (tbl:=[c_order_spots fu,c_nest_Copied fu,c_slices_SortStableFunc fu,c_slices_IndexFunc_4 fu,c_slices_Clone_3 fu,c_nest_Memory_Do fu,c_slices_Delete_2 fu])
 mixed (List.forall_mem_cons.2 ⟨c_order_spots_ok fu,List.forall_mem_cons.2 ⟨c_nest_Copied_ok fu,List.forall_mem_cons.2 ⟨c_slices_SortStableFunc_ok fu,List.forall_mem_cons.2 ⟨c_slices_IndexFunc_4_ok fu,List.forall_mem_cons.2 ⟨c_slices_Clone_3_ok fu,List.forall_mem_cons.2 ⟨c_nest_Memory_Do_ok fu,List.forall_mem_cons.2 ⟨c_slices_Delete_2_ok fu,(by intro c h;cases h)⟩⟩⟩⟩⟩⟩⟩) Try.func24 Try.call24 rfl rfl (by kernel_rfl) (mvs:=[]) (ns:=[]) (fun q=>by kernel_rfl)
abbrev c_adjointref9_Row (fu:Nat):Con S0:=⟨46,[.dat false (.st 0),.dat false (.int .i64)],[],false,[(4,.dat true (.int .i64))],[],fun q=>F.adjointref9_Row fu q.1 q.2⟩
theorem c_adjointref9_Row_ok (fu:Nat):ConOk Try.prog (c_adjointref9_Row fu):=ConOk.of (N:=30) (fu:=fu)
 (H:=[(14,.loopE ⟨[(19,.dat true (.int .i64))],[]⟩ 0 ⟨[],[]⟩),
  (26,.regJ [] ⟨[(28,.dat true .bool)],[]⟩)])
 (tbl:=[])
 mixed (by intro c h;cases h) Try.func46 Try.call46 rfl rfl (by kernel_rfl) (mvs:=[]) (ns:=[]) (fun q=>by kernel_rfl)
abbrev c_adjointref9_Wrong (fu:Nat):Con S0:=⟨37,[.dat false (.st 1)],[],false,[(2,.dat true (.int .i64))],[],fun q=>F.adjointref9_Wrong fu q⟩
theorem c_adjointref9_Wrong_ok (fu:Nat):ConOk Try.prog (c_adjointref9_Wrong fu):=ConOk.of (N:=52) (fu:=fu)
 (H:=[(16,.loopE ⟨[(3,.dat true (.int .i64)),(16,.dat true (.int .i64))],[]⟩ 0 ⟨[(3,.dat true (.int .i64))],[]⟩),
  (29,.regJ [] ⟨[(25,.dat true .bool)],[]⟩),
  (57,.loopE ⟨[(39,.dat true (.int .i64))],[]⟩ 2 ⟨[],[]⟩)])
 (tbl:=[c_adjointref9_Row fu])
 mixed (List.forall_mem_cons.2 ⟨c_adjointref9_Row_ok fu,(by intro c h;cases h)⟩) Try.func37 Try.call37 rfl rfl (by kernel_rfl) (mvs:=[]) (ns:=[]) (fun q=>by kernel_rfl)
abbrev c_adjointref10_Takes (fu:Nat):Con S0:=⟨38,[.dat false (.int .i64)],[],false,[(2,.dat true (.int .i64))],[],fun q=>F.adjointref10_Takes fu q⟩
theorem c_adjointref10_Takes_ok (fu:Nat):ConOk Try.prog (c_adjointref10_Takes fu):=ConOk.of (N:=18) (fu:=fu)
 (H:=[(15,.join ⟨[(6,.dat true .bool)],[]⟩),
  (25,.join ⟨[(9,.dat true .bool)],[]⟩),
  (29,.join ⟨[(9,.dat true .bool)],[]⟩),
  (33,.join ⟨[(9,.dat true .bool)],[]⟩),
  (37,.join ⟨[(9,.dat true .bool)],[]⟩),
  (41,.join ⟨[(9,.dat true .bool)],[]⟩)])
 (tbl:=[])
 mixed (by intro c h;cases h) Try.func38 Try.call38 rfl rfl (by kernel_rfl) (mvs:=[]) (ns:=[]) (fun q=>by kernel_rfl)
abbrev c_adjointref10_access (fu:Nat):Con S0:=⟨39,[.dat false (.st 4),.dat false (.st 2),.dat false (.int .i64)],[],false,[(6,.dat true (.int .i64))],[],fun q=>F.adjointref10_access fu q.1 q.2.1 q.2.2⟩
theorem c_adjointref10_access_ok (fu:Nat):ConOk Try.prog (c_adjointref10_access fu):=ConOk.of (N:=22) (fu:=fu)
 (H:=[(4,.regJ [] ⟨[(17,.dat true .bool)],[]⟩)])
 (tbl:=[c_adjointref9_Row fu])
 mixed (List.forall_mem_cons.2 ⟨c_adjointref9_Row_ok fu,(by intro c h;cases h)⟩) Try.func39 Try.call39 rfl rfl (by kernel_rfl) (mvs:=[]) (ns:=[]) (fun q=>by kernel_rfl)
abbrev c_adjointref10_Wrong (fu:Nat):Con S0:=⟨15,[.dat false (.st 4)],[],false,[(2,.dat true (.int .i64))],[],fun q=>F.adjointref10_Wrong fu q⟩
theorem c_adjointref10_Wrong_ok (fu:Nat):ConOk Try.prog (c_adjointref10_Wrong fu):=ConOk.of (N:=84) (fu:=fu)
 (H:=[(14,.loopE ⟨[(19,.dat true (.int .i64))],[]⟩ 0 ⟨[],[]⟩),
  (26,.regJ [] ⟨[(28,.dat true .bool)],[]⟩),
  (37,.loopE ⟨[(33,.dat true (.int .i64))],[]⟩ 2 ⟨[],[]⟩),
  (68,.reg []),
  (87,.loopE ⟨[(68,.dat true (.int .i64))],[]⟩ 4 ⟨[],[]⟩)])
 (tbl:=[c_adjointref9_Wrong fu,c_adjointref10_Takes fu,c_adjointref10_access fu])
 mixed (List.forall_mem_cons.2 ⟨c_adjointref9_Wrong_ok fu,List.forall_mem_cons.2 ⟨c_adjointref10_Takes_ok fu,List.forall_mem_cons.2 ⟨c_adjointref10_access_ok fu,(by intro c h;cases h)⟩⟩⟩) Try.func15 Try.call15 rfl rfl (by kernel_rfl) (mvs:=[]) (ns:=[]) (fun q=>by kernel_rfl)
abbrev c_adjointref11_Wrong (fu:Nat):Con S0:=⟨21,[.dat false (.st 4),.dat false (.list (.list (.st 0)))],[],false,[(4,.dat true (.int .i64))],[],fun q=>F.adjointref11_Wrong fu q.1 q.2⟩
theorem c_adjointref11_Wrong_ok (fu:Nat):ConOk Try.prog (c_adjointref11_Wrong fu):=ConOk.of (N:=53) (fu:=fu)
 (H:=[(24,.loopE ⟨[(24,.dat true (.int .i64))],[]⟩ 0 ⟨[],[]⟩),
  (46,.loopE ⟨[(34,.dat true (.int .i64))],[]⟩ 2 ⟨[],[]⟩),
  (58,.reg [])])
 (tbl:=[c_adjointref10_Wrong fu,c_adjointref9_Row fu])
 mixed (List.forall_mem_cons.2 ⟨c_adjointref10_Wrong_ok fu,List.forall_mem_cons.2 ⟨c_adjointref9_Row_ok fu,(by intro c h;cases h)⟩⟩) Try.func21 Try.call21 rfl rfl (by kernel_rfl) (mvs:=[]) (ns:=[]) (fun q=>by kernel_rfl)
abbrev c_adjointref9_Box (fu:Nat):Con S0:=⟨97,[.dat false (.list (.int .i64))],[],false,[(2,.dat false (.list (.list (.int .i64))))],[],fun q=>F.adjointref9_Box fu q⟩
theorem c_adjointref9_Box_ok:∀fu:Nat,ConOk Try.prog (c_adjointref9_Box fu)
 | 0=>⟨Try.call97,fun q r h=>nomatch (show(none:Option _)=some r from h)⟩
 | fu+1=>ConOk.of (N:=44) (fu:=fu+1)
   (H:=[(16,.loop ⟨[(3,.own 3 (.list (.int .i64))),(19,.dat true (.int .i64))],[(3,.arr 22 true true (.list (.int .i64)))]⟩ 0 ⟨[(3,.own 3 (.list (.int .i64)))],[(3,.arr 22 true true (.list (.int .i64)))]⟩),
    (30,.loop ⟨[(3,.own 3 (.list (.int .i64))),(6,.dat true (.int .i64))],[(3,.arr 22 true true (.list (.int .i64)))]⟩ 2 ⟨[(3,.own 3 (.list (.int .i64)))],[(3,.arr 22 true true (.list (.int .i64)))]⟩)])
   (tbl:=[c_adjointref9_Box fu])
   mixed (List.forall_mem_cons.2 ⟨c_adjointref9_Box_ok fu,(by intro c h;cases h)⟩) Try.func97 Try.call97 rfl rfl (by kernel_rfl) (mvs:=[]) (ns:=[]) (fun q=>by kernel_rfl)
abbrev c_adjointref9_At (fu:Nat):Con S0:=⟨83,[.dat false (.st 0),.dat false (.list (.int .i64))],[],false,[(4,.dat true (.int .i64))],[],fun q=>F.adjointref9_At fu q.1 q.2⟩
theorem c_adjointref9_At_ok (fu:Nat):ConOk Try.prog (c_adjointref9_At fu):=ConOk.of (N:=29) (fu:=fu)
 (H:=[(8,.loop ⟨[(5,.dat true (.int .i64)),(12,.dat true (.int .i64))],[]⟩ 0 ⟨[(5,.dat true (.int .i64))],[]⟩),
  (19,.reg [])])
 (tbl:=[])
 mixed (by intro c h;cases h) Try.func83 Try.call83 rfl rfl (by kernel_rfl) (mvs:=[]) (ns:=[]) (fun q=>by kernel_rfl)
abbrev c_adjointref9_All (fu:Nat):Con S0:=⟨82,[.dat false (.st 1)],[],false,[(2,.dat false (.list (.list (.int .i64))))],[],fun q=>F.adjointref9_All fu q⟩
theorem c_adjointref9_All_ok (fu:Nat):ConOk Try.prog (c_adjointref9_All fu):=ConOk.of (N:=39) (fu:=fu)
 (H:=[(8,.loop ⟨[(3,.own 3 (.list (.int .i64))),(13,.dat true (.int .i64))],[(3,.arr 22 true false (.list (.int .i64)))]⟩ 0 ⟨[(3,.own 3 (.list (.int .i64)))],[(3,.arr 22 true false (.list (.int .i64)))]⟩),
  (25,.loop ⟨[(6,.dat true .bool),(20,.dat true (.int .i64))],[]⟩ 2 ⟨[(6,.dat true .bool)],[]⟩),
  (36,.regJ [] ⟨[(6,.dat true .bool)],[]⟩),
  (40,.join ⟨[(3,.own 3 (.list (.int .i64)))],[(3,.arr 22 true false (.list (.int .i64)))]⟩)])
 (tbl:=[c_adjointref9_Box fu,c_adjointref9_At fu])
 mixed (List.forall_mem_cons.2 ⟨c_adjointref9_Box_ok fu,List.forall_mem_cons.2 ⟨c_adjointref9_At_ok fu,(by intro c h;cases h)⟩⟩) Try.func82 Try.call82 rfl rfl (by kernel_rfl) (mvs:=[]) (ns:=[]) (fun q=>by kernel_rfl)
abbrev c_adjointref10_Spots (fu:Nat):Con S0:=⟨61,[.dat false (.st 4)],[],false,[(2,.dat false (.list (.st 5)))],[],fun q=>F.adjointref10_Spots fu q⟩
theorem c_adjointref10_Spots_ok (fu:Nat):ConOk Try.prog (c_adjointref10_Spots fu):=ConOk.of (N:=33) (fu:=fu)
 (H:=[(8,.loop ⟨[(3,.own 3 (.st 5)),(11,.dat true (.int .i64))],[(3,.arr 40 true false (.st 5))]⟩ 0 ⟨[(3,.own 3 (.st 5))],[(3,.arr 40 true false (.st 5))]⟩),
  (22,.loop ⟨[(3,.own 3 (.st 5)),(20,.dat true (.int .i64))],[(3,.arr 40 true false (.st 5))]⟩ 2 ⟨[(3,.own 3 (.st 5))],[(3,.arr 40 true false (.st 5))]⟩)])
 (tbl:=[c_adjointref9_All fu])
 mixed (List.forall_mem_cons.2 ⟨c_adjointref9_All_ok fu,(by intro c h;cases h)⟩) Try.func61 Try.call61 rfl rfl (by kernel_rfl) (mvs:=[]) (ns:=[]) (fun q=>by kernel_rfl)
abbrev c_adjointref11_Right (fu:Nat):Con S0:=⟨58,[.dat false (.st 4),.dat false (.list (.list (.st 0)))],[],false,[(4,.dat true (.int .i64))],[],fun q=>F.adjointref11_Right fu q.1 q.2⟩
theorem c_adjointref11_Right_ok (fu:Nat):ConOk Try.prog (c_adjointref11_Right fu):=ConOk.of (N:=16) (fu:=fu)
 (H:=[])
 (tbl:=[c_adjointref11_Wrong fu,c_adjointref10_Spots fu])
 mixed (List.forall_mem_cons.2 ⟨c_adjointref11_Wrong_ok fu,List.forall_mem_cons.2 ⟨c_adjointref10_Spots_ok fu,(by intro c h;cases h)⟩⟩) Try.func58 Try.call58 rfl rfl (by kernel_rfl) (mvs:=[]) (ns:=[]) (fun q=>by kernel_rfl)
abbrev c_adjointref10_Fits (fu:Nat):Con S0:=⟨59,[.dat false (.st 4),.dat false (.list (.list (.int .i64)))],[],false,[(4,.dat true (.int .i64))],[],fun q=>F.adjointref10_Fits fu q.1 q.2⟩
theorem c_adjointref10_Fits_ok (fu:Nat):ConOk Try.prog (c_adjointref10_Fits fu):=ConOk.of (N:=29) (fu:=fu)
 (H:=[(14,.loopE ⟨[(15,.dat true (.int .i64))],[]⟩ 0 ⟨[],[]⟩)])
 (tbl:=[])
 mixed (by intro c h;cases h) Try.func59 Try.call59 rfl rfl (by kernel_rfl) (mvs:=[]) (ns:=[]) (fun q=>by kernel_rfl)
abbrev c_adjointref10_Copy (fu:Nat):Con S0:=⟨60,[.dat false (.list (.list (.int .i64)))],[],false,[(2,.own 3 (.list (.int .i64)))],[(3,.deep 104 true true (.fam 2) (.list (.list (.int .i64))))],fun q=>F.adjointref10_Copy fu q⟩
theorem c_adjointref10_Copy_ok (fu:Nat):ConOk Try.prog (c_adjointref10_Copy fu):=ConOk.of (N:=20) (fu:=fu)
 (H:=[(8,.loop ⟨[(3,.own 3 (.list (.int .i64))),(8,.dat true (.int .i64))],[(3,.deep 104 true true (.fam 2) (.list (.list (.int .i64))))]⟩ 0 ⟨[(3,.own 3 (.list (.int .i64)))],[(3,.deep 104 true true (.fam 2) (.list (.list (.int .i64))))]⟩)])
 (tbl:=[])
 mixed (by intro c h;cases h) Try.func60 Try.call60 rfl rfl (by kernel_rfl) (mvs:=[]) (ns:=[]) (fun q=>by kernel_rfl)
abbrev c_adjointref11_Time (fu:Nat):Con S0:=⟨63,[.dat false (.list (.list (.st 0))),.dat false (.st 5)],[],false,[(4,.dat true (.st 7))],[],fun q=>F.adjointref11_Time fu q.1 q.2⟩
theorem c_adjointref11_Time_ok (fu:Nat):ConOk Try.prog (c_adjointref11_Time fu):=ConOk.of (N:=27) (fu:=fu)
 (H:=[(8,.loop ⟨[(14,.dat true (.int .i64))],[(5,.box 101 true [.dat true (.int .i64),.dat true (.int .i64),.dat true (.int .i64),.dat true (.int .i64),.dat true (.int .i64),.dat true (.int .i64),.dat true (.int .i64),.dat true (.int .i64)])]⟩ 0 ⟨[],[(5,.box 101 true [.dat true (.int .i64),.dat true (.int .i64),.dat true (.int .i64),.dat true (.int .i64),.dat true (.int .i64),.dat true (.int .i64),.dat true (.int .i64),.dat true (.int .i64)])]⟩)])
 (tbl:=[c_adjointref9_At fu])
 mixed (List.forall_mem_cons.2 ⟨c_adjointref9_At_ok fu,(by intro c h;cases h)⟩) Try.func63 Try.call63 rfl rfl (by kernel_rfl) (mvs:=[]) (ns:=[]) (fun q=>by kernel_rfl)
abbrev c_adjointref11_Before (fu:Nat):Con S0:=⟨62,[.dat false (.st 7),.dat false (.st 7)],[],false,[(4,.dat true .bool)],[],fun q=>F.adjointref11_Before fu q.1 q.2⟩
theorem c_adjointref11_Before_ok (fu:Nat):ConOk Try.prog (c_adjointref11_Before fu):=ConOk.of (N:=24) (fu:=fu)
 (H:=[(6,.loopE ⟨[(6,.dat true (.int .i64))],[]⟩ 0 ⟨[],[]⟩),
  (18,.reg []),
  (21,.reg [])])
 (tbl:=[])
 mixed (by intro c h;cases h) Try.func62 Try.call62 rfl rfl (by kernel_rfl) (mvs:=[]) (ns:=[]) (fun q=>by kernel_rfl)
abbrev c_adjointref10_Where (fu:Nat):Con S0:=⟨84,[.dat false (.st 4),.dat false (.st 2),.dat false (.list (.int .i64))],[],false,[(6,.dat true (.int .i64))],[],fun q=>F.adjointref10_Where fu q.1 q.2.1 q.2.2⟩
theorem c_adjointref10_Where_ok (fu:Nat):ConOk Try.prog (c_adjointref10_Where fu):=ConOk.of (N:=25) (fu:=fu)
 (H:=[(6,.regJ [] ⟨[(23,.dat true .bool)],[]⟩)])
 (tbl:=[c_adjointref9_At fu])
 mixed (List.forall_mem_cons.2 ⟨c_adjointref9_At_ok fu,(by intro c h;cases h)⟩) Try.func84 Try.call84 rfl rfl (by kernel_rfl) (mvs:=[]) (ns:=[]) (fun q=>by kernel_rfl)
abbrev c_adjointref10_Number (fu:Nat):Con S0:=⟨85,[.dat false (.st 3),.dat false (.list (.int .i64)),.dat false (.int .i64)],[],false,[(6,.dat true (.int .i64))],[],fun q=>F.adjointref10_Number fu q.1 q.2.1 q.2.2⟩
theorem c_adjointref10_Number_ok (fu:Nat):ConOk Try.prog (c_adjointref10_Number fu):=ConOk.of (N:=97) (fu:=fu)
 (H:=[(22,.reg []),
  (28,.reg []),
  (34,.reg []),
  (41,.reg []),
  (55,.reg []),
  (86,.reg [])])
 (tbl:=[])
 mixed (by intro c h;cases h) Try.func85 Try.call85 rfl rfl (by kernel_rfl) (mvs:=[]) (ns:=[]) (fun q=>by kernel_rfl)
abbrev c_adjointref10_Do (fu:Nat):Con S0:=⟨64,[.dat false (.st 4),.dat false (.st 3),.dat false (.list (.int .i64)),.own 1000 (.list (.int .i64))],[.deep 104 false false (.fam 2) (.list (.list (.int .i64)))],false,[],[(1000,.deep 104 false true (.fam 2) (.list (.list (.int .i64))))],fun q=>F.adjointref10_Do fu q.1 q.2.1 q.2.2.1 q.2.2.2⟩
theorem c_adjointref10_Do_ok (fu:Nat):ConOk Try.prog (c_adjointref10_Do fu):=ConOk.of (N:=68) (fu:=fu)
 (H:=[(16,.loop ⟨[(9,.own 9 (.int .i64)),(23,.dat true (.int .i64))],[(9,.arr 2 true true (.int .i64))]⟩ 0 ⟨[(9,.own 9 (.int .i64))],[(9,.arr 2 true true (.int .i64))]⟩),
  (31,.join ⟨[(9,.own 9 (.int .i64))],[(9,.arr 2 true true (.int .i64))]⟩),
  (35,.regJ [1000] ⟨[],[(1000,.deep 104 false true (.fam 2) (.list (.list (.int .i64))))]⟩)])
 (tbl:=[c_adjointref10_Where fu,c_adjointref10_Number fu])
 mixed (List.forall_mem_cons.2 ⟨c_adjointref10_Where_ok fu,List.forall_mem_cons.2 ⟨c_adjointref10_Number_ok fu,(by intro c h;cases h)⟩⟩) Try.func64 Try.call64 rfl rfl (by kernel_rfl) (mvs:=[]) (ns:=[]) (fun q=>by kernel_rfl)
abbrev c_adjointref11_Run (fu:Nat):Con S0:=⟨25,[.dat false (.st 4),.dat false (.list (.list (.st 0))),.dat false (.list (.list (.int .i64))),.dat false (.list (.int .i64))],[],false,[(8,.dat false (.list (.list (.int .i64)))),(9,.dat true (.int .i64))],[],fun q=>F.adjointref11_Run fu q.1 q.2.1 q.2.2.1 q.2.2.2⟩
theorem c_adjointref11_Run_ok (fu:Nat):ConOk Try.prog (c_adjointref11_Run fu):=ConOk.of (N:=138) (fu:=fu)
 (H:=[(30,.loop ⟨[(14,.dat true (.int .i64)),(13,.dat false (.list (.st 5))),(12,.own 33 (.list (.int .i64)))],[(33,.deep 104 true true (.fam 2) (.list (.list (.int .i64))))]⟩ 0 ⟨[(12,.own 33 (.list (.int .i64)))],[(33,.deep 104 true true (.fam 2) (.list (.list (.int .i64))))]⟩),
  (44,.loop ⟨[(15,.own 64 (.int .i64)),(41,.dat true (.int .i64))],[(64,.arr 3 true true (.int .i64))]⟩ 2 ⟨[(15,.own 64 (.int .i64))],[(64,.arr 3 true true (.int .i64))]⟩),
  (56,.regJ [] ⟨[(62,.dat true .bool)],[]⟩),
  (57,.join ⟨[(15,.own 64 (.int .i64))],[(64,.arr 3 true true (.int .i64))]⟩),
  (58,.fz [64]),
  (60,.reg []),
  (61,.join ⟨[(15,.own 64 (.int .i64)),(71,.any)],[(64,.arr 3 true true (.int .i64))]⟩),
  (70,.join ⟨[(18,.dat true (.int .i64)),(14,.dat true (.int .i64))],[]⟩),
  (76,.join ⟨[(19,.dat true (.int .i64))],[]⟩),
  (84,.reg [33]),
  (85,.reg [127])])
 (tbl:=[c_adjointref10_Copy fu,c_adjointref10_Do fu,c_adjointref11_Right fu,c_adjointref10_Fits fu,c_adjointref10_Spots fu,c_adjointref11_Time fu,c_adjointref11_Before fu])
 mixed (List.forall_mem_cons.2 ⟨c_adjointref10_Copy_ok fu,List.forall_mem_cons.2 ⟨c_adjointref10_Do_ok fu,List.forall_mem_cons.2 ⟨c_adjointref11_Right_ok fu,List.forall_mem_cons.2 ⟨c_adjointref10_Fits_ok fu,List.forall_mem_cons.2 ⟨c_adjointref10_Spots_ok fu,List.forall_mem_cons.2 ⟨c_adjointref11_Time_ok fu,List.forall_mem_cons.2 ⟨c_adjointref11_Before_ok fu,(by intro c h;cases h)⟩⟩⟩⟩⟩⟩⟩) Try.func25 Try.call25 rfl rfl (by kernel_rfl) (mvs:=[]) (ns:=[]) (fun q=>by kernel_rfl)
abbrev c_adjointref10_SameMemory (fu:Nat):Con S0:=⟨26,[.dat false (.list (.list (.int .i64))),.dat false (.list (.list (.int .i64)))],[],false,[(4,.dat true .bool)],[],fun q=>F.adjointref10_SameMemory fu q.1 q.2⟩
theorem c_adjointref10_SameMemory_ok (fu:Nat):ConOk Try.prog (c_adjointref10_SameMemory fu):=ConOk.of (N:=53) (fu:=fu)
 (H:=[(14,.loopE ⟨[(14,.dat true (.int .i64))],[]⟩ 0 ⟨[],[]⟩),
  (27,.reg []),
  (36,.loopE ⟨[(33,.dat true (.int .i64))],[]⟩ 2 ⟨[],[]⟩),
  (48,.reg [])])
 (tbl:=[])
 mixed (by intro c h;cases h) Try.func26 Try.call26 rfl rfl (by kernel_rfl) (mvs:=[]) (ns:=[]) (fun q=>by kernel_rfl)
abbrev c_adjointlaw11_OrderRuns (fu:Nat):Con S0:=⟨5,[.dat false (.st 4),.dat false (.list (.list (.st 0))),.dat false (.list (.list (.int .i64))),.dat false (.list (.int .i64))],[],false,[(8,.dat true .bool)],[],fun q=>F.adjointlaw11_OrderRuns fu q.1 q.2.1 q.2.2.1 q.2.2.2⟩
theorem c_adjointlaw11_OrderRuns_ok (fu:Nat):ConOk Try.prog (c_adjointlaw11_OrderRuns fu):=ConOk.of (N:=37) (fu:=fu)
 (H:=[(7,.regJ [] ⟨[(8,.dat true .bool)],[]⟩)])
 (tbl:=[c_order_Run fu,c_adjointref11_Run fu,c_adjointref10_SameMemory fu])
 mixed (List.forall_mem_cons.2 ⟨c_order_Run_ok fu,List.forall_mem_cons.2 ⟨c_adjointref11_Run_ok fu,List.forall_mem_cons.2 ⟨c_adjointref10_SameMemory_ok fu,(by intro c h;cases h)⟩⟩⟩) Try.func5 Try.call5 rfl rfl (by kernel_rfl) (mvs:=[]) (ns:=[]) (fun q=>by kernel_rfl)
end
end Go.DN
