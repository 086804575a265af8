/-
  Each function does what its Lean function says.
-/
import Derived.Test.YtiejhkajpnjnnaaNsF
import Derived.Test.YtiejhkajpnjnnaaProg
import Derived.KernelRfl
set_option maxRecDepth 20000
set_option linter.unusedVariables false
set_option linter.unusedSectionVars false
set_option linter.unusedSimpArgs false
namespace Go.DN
open Go.AM
open Go.Proofs
noncomputable section
theorem mixed : Try.prog.follows .mixedOrders = true := by kernel_rfl
abbrev c_nest_Wrong_1 (fu : Nat) : Con S0 := ⟨17, [.dat false (.int .i64)], [], false, [(2, .dat true .bool)], [], fun q => F.nest_Wrong_1 fu q⟩
theorem c_nest_Wrong_1_ok (fu : Nat) : ConOk Try.prog (c_nest_Wrong_1 fu) := ConOk.of (N := 9) (fu := fu)
 (H := [(3, .regJ [] ⟨[(2, .dat true .bool)], []⟩)])
 (tbl := [])
 mixed (by intro c h; cases h) Try.func17 Try.call17 rfl rfl (by kernel_rfl) (mvs := []) (ns := []) (fun q => by kernel_rfl)
abbrev c_slices_IndexFunc (fu : Nat) : Con S0 := ⟨31, [.dat false (.list (.int .i64)), .clo 17 []], [], false, [(4, .dat true (.int .i64))], [], fun q => F.slices_IndexFunc fu q⟩
theorem c_slices_IndexFunc_ok (fu : Nat) : ConOk Try.prog (c_slices_IndexFunc fu) := ConOk.of (N := 19) (fu := fu)
 (H := [(6, .loopE ⟨[(8, .dat true (.int .i64))], []⟩ 0 ⟨[], []⟩)])
 (tbl := [c_nest_Wrong_1 fu])
 mixed (List.forall_mem_cons.2 ⟨c_nest_Wrong_1_ok fu, (by intro c h; cases h)⟩) Try.func31 Try.call31 rfl rfl (by kernel_rfl) (mvs := []) (ns := []) (fun q => by kernel_rfl)
abbrev c_slices_ContainsFunc (fu : Nat) : Con S0 := ⟨16, [.dat false (.list (.int .i64)), .clo 17 []], [], false, [(4, .dat true .bool)], [], fun q => F.slices_ContainsFunc fu q⟩
theorem c_slices_ContainsFunc_ok (fu : Nat) : ConOk Try.prog (c_slices_ContainsFunc fu) := ConOk.of (N := 9) (fu := fu)
 (H := [])
 (tbl := [c_slices_IndexFunc fu])
 mixed (List.forall_mem_cons.2 ⟨c_slices_IndexFunc_ok fu, (by intro c h; cases h)⟩) Try.func16 Try.call16 rfl rfl (by kernel_rfl) (mvs := []) (ns := []) (fun q => by kernel_rfl)
abbrev c_points_Row_1 (fu : Nat) : Con S0 := ⟨40, [.dat false (.int .i64)], [], false, [(2, .dat true .bool)], [], fun q => F.points_Row_1 fu q⟩
theorem c_points_Row_1_ok (fu : Nat) : ConOk Try.prog (c_points_Row_1 fu) := ConOk.of (N := 9) (fu := fu)
 (H := [(3, .regJ [] ⟨[(2, .dat true .bool)], []⟩)])
 (tbl := [])
 mixed (by intro c h; cases h) Try.func40 Try.call40 rfl rfl (by kernel_rfl) (mvs := []) (ns := []) (fun q => by kernel_rfl)
abbrev c_slices_IndexFunc_2 (fu : Nat) : Con S0 := ⟨31, [.dat false (.list (.int .i64)), .clo 40 []], [], false, [(4, .dat true (.int .i64))], [], fun q => F.slices_IndexFunc_2 fu q⟩
theorem c_slices_IndexFunc_2_ok (fu : Nat) : ConOk Try.prog (c_slices_IndexFunc_2 fu) := ConOk.of (N := 19) (fu := fu)
 (H := [(6, .loopE ⟨[(8, .dat true (.int .i64))], []⟩ 0 ⟨[], []⟩)])
 (tbl := [c_points_Row_1 fu])
 mixed (List.forall_mem_cons.2 ⟨c_points_Row_1_ok fu, (by intro c h; cases h)⟩) Try.func31 Try.call31 rfl rfl (by kernel_rfl) (mvs := []) (ns := []) (fun q => by kernel_rfl)
abbrev c_slices_ContainsFunc_2 (fu : Nat) : Con S0 := ⟨16, [.dat false (.list (.int .i64)), .clo 40 []], [], false, [(4, .dat true .bool)], [], fun q => F.slices_ContainsFunc_2 fu q⟩
theorem c_slices_ContainsFunc_2_ok (fu : Nat) : ConOk Try.prog (c_slices_ContainsFunc_2 fu) := ConOk.of (N := 9) (fu := fu)
 (H := [])
 (tbl := [c_slices_IndexFunc_2 fu])
 mixed (List.forall_mem_cons.2 ⟨c_slices_IndexFunc_2_ok fu, (by intro c h; cases h)⟩) Try.func16 Try.call16 rfl rfl (by kernel_rfl) (mvs := []) (ns := []) (fun q => by kernel_rfl)
abbrev c_points_Row (fu : Nat) : Con S0 := ⟨33, [.dat false (.st 0), .dat false (.int .i64)], [], false, [(4, .dat true (.int .i64))], [], fun q => F.points_Row fu q.1 q.2⟩
theorem c_points_Row_ok (fu : Nat) : ConOk Try.prog (c_points_Row fu) := ConOk.of (N := 21) (fu := fu)
 (H := [(14, .regJ [] ⟨[(20, .dat true .bool)], []⟩)])
 (tbl := [c_points_Row_1 fu, c_slices_ContainsFunc_2 fu])
 mixed (List.forall_mem_cons.2 ⟨c_points_Row_1_ok fu, List.forall_mem_cons.2 ⟨c_slices_ContainsFunc_2_ok fu, (by intro c h; cases h)⟩⟩) Try.func33 Try.call33 rfl rfl (by kernel_rfl) (mvs := []) (ns := []) (fun q => by kernel_rfl)
abbrev c_points_Wrong (fu : Nat) : Con S0 := ⟨24, [.dat false (.st 1)], [], false, [(2, .dat true (.int .i64))], [], fun q => F.points_Wrong fu q⟩
theorem c_points_Wrong_ok (fu : Nat) : ConOk Try.prog (c_points_Wrong fu) := ConOk.of (N := 62) (fu := fu)
 (H := [(16, .loopE ⟨[(18, .dat true (.int .i64))], []⟩ 0 ⟨[], []⟩),
  (28, .regJ [] ⟨[(27, .dat true .bool)], []⟩),
  (39, .loop ⟨[(3, .dat true (.int .i64)), (32, .dat true (.int .i64))], []⟩ 2 ⟨[(3, .dat true (.int .i64))], []⟩),
  (72, .loopE ⟨[(49, .dat true (.int .i64))], []⟩ 4 ⟨[], []⟩)])
 (tbl := [c_points_Row fu])
 mixed (List.forall_mem_cons.2 ⟨c_points_Row_ok fu, (by intro c h; cases h)⟩) Try.func24 Try.call24 rfl rfl (by kernel_rfl) (mvs := []) (ns := []) (fun q => by kernel_rfl)
abbrev c_nest_gets (fu : Nat) : Con S0 := ⟨32, [.dat false (.int .i64)], [], false, [(2, .dat true (.int .i64))], [], fun q => F.nest_gets fu q⟩
theorem c_nest_gets_ok (fu : Nat) : ConOk Try.prog (c_nest_gets fu) := ConOk.of (N := 18) (fu := fu)
 (H := [(15, .join ⟨[(6, .dat true .bool)], []⟩),
  (25, .join ⟨[(9, .dat true .bool)], []⟩),
  (29, .join ⟨[(9, .dat true .bool)], []⟩),
  (33, .join ⟨[(9, .dat true .bool)], []⟩),
  (37, .join ⟨[(9, .dat true .bool)], []⟩),
  (41, .join ⟨[(9, .dat true .bool)], []⟩)])
 (tbl := [])
 mixed (by intro c h; cases h) Try.func32 Try.call32 rfl rfl (by kernel_rfl) (mvs := []) (ns := []) (fun q => by kernel_rfl)
abbrev c_nest_statement (fu : Nat) : Con S0 := ⟨18, [.dat false (.st 4), .dat false (.st 3)], [], false, [(4, .dat true (.int .i64))], [], fun q => F.nest_statement fu q.1 q.2⟩
theorem c_nest_statement_ok (fu : Nat) : ConOk Try.prog (c_nest_statement fu) := ConOk.of (N := 59) (fu := fu)
 (H := [(34, .loopE ⟨[(33, .dat true (.int .i64))], []⟩ 0 ⟨[], []⟩),
  (47, .regJ [] ⟨[(47, .dat true .bool)], []⟩)])
 (tbl := [c_points_Wrong fu, c_nest_gets fu, c_points_Row fu])
 mixed (List.forall_mem_cons.2 ⟨c_points_Wrong_ok fu, List.forall_mem_cons.2 ⟨c_nest_gets_ok fu, List.forall_mem_cons.2 ⟨c_points_Row_ok fu, (by intro c h; cases h)⟩⟩⟩) Try.func18 Try.call18 rfl rfl (by kernel_rfl) (mvs := []) (ns := []) (fun q => by kernel_rfl)
abbrev c_nest_Wrong (fu : Nat) : Con S0 := ⟨7, [.dat false (.st 4)], [], false, [(2, .dat true (.int .i64))], [], fun q => F.nest_Wrong fu q⟩
theorem c_nest_Wrong_ok (fu : Nat) : ConOk Try.prog (c_nest_Wrong fu) := ConOk.of (N := 27) (fu := fu)
 (H := [(22, .loopE ⟨[(16, .dat true (.int .i64))], []⟩ 0 ⟨[], []⟩)])
 (tbl := [c_slices_ContainsFunc fu, c_nest_statement fu])
 mixed (List.forall_mem_cons.2 ⟨c_slices_ContainsFunc_ok fu, List.forall_mem_cons.2 ⟨c_nest_statement_ok fu, (by intro c h; cases h)⟩⟩) Try.func7 Try.call7 rfl rfl (by kernel_rfl) (mvs := []) (ns := []) (fun q => by kernel_rfl)
abbrev c_slices_Clone (fu : Nat) : Con S0 := ⟨22, [.dat false (.list (.int .i64))], [], false, [(2, .own 5 (.int .i64))], [(5, .arr 2 true true (.int .i64))], fun q => F.slices_Clone fu q⟩
theorem c_slices_Clone_ok (fu : Nat) : ConOk Try.prog (c_slices_Clone fu) := ConOk.of (N := 8) (fu := fu)
 (H := [])
 (tbl := [])
 mixed (by intro c h; cases h) Try.func22 Try.call22 rfl rfl (by kernel_rfl) (mvs := []) (ns := []) (fun q => by kernel_rfl)
abbrev c_nest_Copied (fu : Nat) : Con S0 := ⟨9, [.dat false (.st 4), .dat false (.list (.list (.int .i64)))], [], false, [(4, .own 17 (.list (.int .i64))), (5, .dat true (.int .i64))], [(17, .deep 57 true true (.fam 2) (.list (.list (.int .i64))))], fun q => F.nest_Copied fu q.1 q.2⟩
theorem c_nest_Copied_ok (fu : Nat) : ConOk Try.prog (c_nest_Copied fu) := ConOk.of (N := 40) (fu := fu)
 (H := [(12, .th 17 2),
  (16, .loopE ⟨[(20, .dat true (.int .i64)), (6, .own 17 (.list (.int .i64)))], [(17, .deep 57 true true (.fam 2) (.list (.list (.int .i64))))]⟩ 0 ⟨[(6, .own 17 (.list (.int .i64)))], [(17, .deep 57 true true (.fam 2) (.list (.list (.int .i64))))]⟩)])
 (tbl := [c_slices_Clone fu])
 mixed (List.forall_mem_cons.2 ⟨c_slices_Clone_ok fu, (by intro c h; cases h)⟩) Try.func9 Try.call9 rfl rfl (by kernel_rfl) (mvs := []) (ns := []) (fun q => by kernel_rfl)
abbrev c_points_All (fu : Nat) : Con S0 := ⟨10, [.dat false (.st 1)], [], false, [(2, .clo 23 [.loc 1 0])], [(1, .box 38 true [.dat false (.list (.int .i64)), .dat false (.list (.st 0))])], fun q => F.points_All fu q⟩
theorem c_points_All_ok (fu : Nat) : ConOk Try.prog (c_points_All fu) := ConOk.of (N := 4) (fu := fu)
 (H := [])
 (tbl := [])
 mixed (by intro c h; cases h) Try.func10 Try.call10 rfl rfl (by kernel_rfl) (mvs := []) (ns := []) (fun q => by kernel_rfl)
abbrev c_points_hopeless (fu : Nat) : Con S0 := ⟨35, [.dat false (.st 1), .dat false (.list (.int .i64)), .dat false (.int .i64)], [], false, [(6, .dat true .bool)], [], fun q => F.points_hopeless fu q.1 q.2.1 q.2.2⟩
theorem c_points_hopeless_ok (fu : Nat) : ConOk Try.prog (c_points_hopeless fu) := ConOk.of (N := 58) (fu := fu)
 (H := [(6, .loopE ⟨[(15, .dat true (.int .i64))], []⟩ 0 ⟨[], []⟩),
  (23, .loop ⟨[(9, .dat true (.int .i64)), (24, .dat true (.int .i64))], []⟩ 2 ⟨[(9, .dat true (.int .i64))], []⟩),
  (37, .join ⟨[(9, .dat true (.int .i64))], []⟩),
  (41, .join ⟨[(9, .dat true (.int .i64))], []⟩)])
 (tbl := [])
 mixed (by intro c h; cases h) Try.func35 Try.call35 rfl rfl (by kernel_rfl) (mvs := []) (ns := []) (fun q => by kernel_rfl)
abbrev c_slices_Clone_2 (fu : Nat) : Con S0 := ⟨36, [.dat false (.list (.int .i64))], [], false, [(2, .dat true (.list (.int .i64)))], [], fun q => F.slices_Clone_2 fu q⟩
theorem c_slices_Clone_2_ok (fu : Nat) : ConOk Try.prog (c_slices_Clone_2 fu) := ConOk.of (N := 8) (fu := fu)
 (H := [])
 (tbl := [])
 mixed (by intro c h; cases h) Try.func36 Try.call36 rfl rfl (by kernel_rfl) (mvs := []) (ns := []) (fun q => by kernel_rfl)
abbrev c_points_At (fu : Nat) : Con S0 := ⟨37, [.dat false (.st 0), .dat false (.list (.int .i64))], [], false, [(4, .dat true (.int .i64))], [], fun q => F.points_At fu q.1 q.2⟩
theorem c_points_At_ok (fu : Nat) : ConOk Try.prog (c_points_At fu) := ConOk.of (N := 28) (fu := fu)
 (H := [(8, .loop ⟨[(5, .dat true (.int .i64)), (13, .dat true (.int .i64))], []⟩ 0 ⟨[(5, .dat true (.int .i64))], []⟩)])
 (tbl := [])
 mixed (by intro c h; cases h) Try.func37 Try.call37 rfl rfl (by kernel_rfl) (mvs := []) (ns := []) (fun q => by kernel_rfl)
abbrev c_nest_Memory_Place (fu : Nat) : Con S0 := ⟨27, [.own 1000 (.list (.int .i64)), .dat false (.st 2), .dat false (.list (.int .i64))], [.deep 57 false false (.fam 2) (.list (.list (.int .i64)))], false, [(6, .kpo 1000 (.int .i64))], [(1000, .deep 57 false true (.fam 2) (.list (.list (.int .i64))))], fun q => F.nest_Memory_Place fu q.1 q.2.1 q.2.2⟩
theorem c_nest_Memory_Place_ok (fu : Nat) : ConOk Try.prog (c_nest_Memory_Place fu) := ConOk.of (N := 31) (fu := fu)
 (H := [(6, .regJ [] ⟨[(23, .dat true .bool)], []⟩)])
 (tbl := [c_points_At fu])
 mixed (List.forall_mem_cons.2 ⟨c_points_At_ok fu, (by intro c h; cases h)⟩) Try.func27 Try.call27 rfl rfl (by kernel_rfl) (mvs := []) (ns := []) (fun q => by kernel_rfl)
abbrev c_nest_Memory_get (fu : Nat) : Con S0 := ⟨26, [.own 1000 (.list (.int .i64)), .dat false (.st 2), .dat false (.list (.int .i64))], [.deep 57 false false (.fam 2) (.list (.list (.int .i64)))], false, [(6, .dat true (.int .i64))], [(1000, .deep 57 false true (.fam 2) (.list (.list (.int .i64))))], fun q => F.nest_Memory_get fu q.1 q.2.1 q.2.2⟩
theorem c_nest_Memory_get_ok (fu : Nat) : ConOk Try.prog (c_nest_Memory_get fu) := ConOk.of (N := 17) (fu := fu)
 (H := [])
 (tbl := [c_nest_Memory_Place fu])
 mixed (List.forall_mem_cons.2 ⟨c_nest_Memory_Place_ok fu, (by intro c h; cases h)⟩) Try.func26 Try.call26 rfl rfl (by kernel_rfl) (mvs := []) (ns := []) (fun q => by kernel_rfl)
abbrev c_nest_Memory_Do (fu : Nat) : Con S0 := ⟨11, [.own 1000 (.list (.int .i64)), .dat false (.st 3), .dat false (.list (.int .i64))], [.deep 57 false false (.fam 2) (.list (.list (.int .i64)))], false, [], [(1000, .deep 57 false true (.fam 2) (.list (.list (.int .i64))))], fun q => F.nest_Memory_Do fu q.1 q.2.1 q.2.2⟩
theorem c_nest_Memory_Do_ok (fu : Nat) : ConOk Try.prog (c_nest_Memory_Do fu) := ConOk.of (N := 144) (fu := fu)
 (H := [(8, .loop ⟨[(14, .dat true (.int .i64)), (6, .own 10 (.int .i64)), (0, .own 1000 (.list (.int .i64)))], [(1000, .deep 57 false true (.fam 2) (.list (.list (.int .i64)))), (10, .arr 2 true true (.int .i64))]⟩ 0 ⟨[(6, .own 10 (.int .i64)), (0, .own 1000 (.list (.int .i64)))], [(1000, .deep 57 false true (.fam 2) (.list (.list (.int .i64)))), (10, .arr 2 true true (.int .i64))]⟩),
  (34, .join ⟨[], [(1000, .deep 57 false true (.fam 2) (.list (.list (.int .i64))))]⟩),
  (38, .join ⟨[], [(1000, .deep 57 false true (.fam 2) (.list (.list (.int .i64))))]⟩),
  (42, .join ⟨[], [(1000, .deep 57 false true (.fam 2) (.list (.list (.int .i64))))]⟩),
  (43, .reg [1000]),
  (46, .join ⟨[], [(1000, .deep 57 false true (.fam 2) (.list (.list (.int .i64))))]⟩),
  (47, .reg [1000]),
  (50, .join ⟨[], [(1000, .deep 57 false true (.fam 2) (.list (.list (.int .i64))))]⟩),
  (51, .reg [1000]),
  (54, .join ⟨[], [(1000, .deep 57 false true (.fam 2) (.list (.list (.int .i64))))]⟩),
  (55, .reg [1000]),
  (58, .join ⟨[], [(1000, .deep 57 false true (.fam 2) (.list (.list (.int .i64))))]⟩),
  (62, .reg []),
  (63, .join ⟨[], [(1000, .deep 57 false true (.fam 2) (.list (.list (.int .i64))))]⟩),
  (68, .join ⟨[], [(1000, .deep 57 false true (.fam 2) (.list (.list (.int .i64))))]⟩),
  (73, .join ⟨[], [(1000, .deep 57 false true (.fam 2) (.list (.list (.int .i64))))]⟩),
  (78, .join ⟨[], [(1000, .deep 57 false true (.fam 2) (.list (.list (.int .i64))))]⟩),
  (79, .reg [1000]),
  (80, .reg [1000])])
 (tbl := [c_nest_Memory_get fu, c_nest_Memory_Place fu])
 mixed (List.forall_mem_cons.2 ⟨c_nest_Memory_get_ok fu, List.forall_mem_cons.2 ⟨c_nest_Memory_Place_ok fu, (by intro c h; cases h)⟩⟩) Try.func11 Try.call11 rfl rfl (by kernel_rfl) (mvs := []) (ns := []) (fun q => by kernel_rfl)
abbrev y_nest_Run_y_2 (fu : Nat) : YCon S0 := ⟨0, [.dat false (.list (.int .i64))], [.loc 1000 0, .loc 1001 0], [.box 33 false [.own 1002 (.list (.int .i64))], .box 45 false [.dat false (.list (.int .i64)), .dat false (.list (.st 0)), .dat false (.int .i64), .dat false (.int .i64), .dat false (.int .i64), .dat false (.list (.int .i64)), .dat false (.int .i64), .dat false (.list (.st 2))], .deep 57 false false (.fam 2) (.list (.list (.int .i64)))], [(1000, .box 33 false [.own 1002 (.list (.int .i64))]), (1001, .box 45 false [.dat false (.list (.int .i64)), .dat false (.list (.st 0)), .dat true (.int .i64), .dat true (.int .i64), .dat true (.int .i64), .dat false (.list (.int .i64)), .dat true (.int .i64), .dat false (.list (.st 2))]), (1002, .deep 57 false true (.fam 2) (.list (.list (.int .i64))))], false, fun q => F.nest_Run_y_2 fu q.1 q.2.1 q.2.2.1 q.2.2.2.1 q.2.2.2.2.1 q.2.2.2.2.2.1 q.2.2.2.2.2.2.1 q.2.2.2.2.2.2.2.1 q.2.2.2.2.2.2.2.2.1 q.2.2.2.2.2.2.2.2.2⟩
theorem y_nest_Run_y_2_ok (fu : Nat) : YOk Try.prog (y_nest_Run_y_2 fu) := YOk.of (fu := fu)
 (H := [])
 (tbl := [c_nest_Memory_Do fu])
 mixed (List.forall_mem_cons.2 ⟨c_nest_Memory_Do_ok fu, (by intro c h; cases h)⟩) (by kernel_rfl) (by kernel_rfl) (by kernel_rfl) (mvs := []) (ns := []) (fun q => by kernel_rfl)
abbrev c_points_walk_2 (fu : Nat) : Con S0 := ⟨25, [.dat false (.st 1), .own 1000 (.int .i64), .dat false (.int .i64), .yld 1001], [.arr 3 false false (.int .i64), .lp 0 false [.loc 1002 0, .loc 1003 0], .box 33 false [.own 1004 (.list (.int .i64))], .box 45 false [.dat false (.list (.int .i64)), .dat false (.list (.st 0)), .dat false (.int .i64), .dat false (.int .i64), .dat false (.int .i64), .dat false (.list (.int .i64)), .dat false (.int .i64), .dat false (.list (.st 2))], .deep 57 false false (.fam 2) (.list (.list (.int .i64)))], false, [(8, .dat true .bool)], [(1000, .arr 3 false true (.int .i64)), (1001, .lp 0 false [.loc 1002 0, .loc 1003 0]), (1002, .box 33 false [.own 1004 (.list (.int .i64))]), (1003, .box 45 false [.dat false (.list (.int .i64)), .dat false (.list (.st 0)), .dat true (.int .i64), .dat true (.int .i64), .dat true (.int .i64), .dat false (.list (.int .i64)), .dat true (.int .i64), .dat false (.list (.st 2))]), (1004, .deep 57 false true (.fam 2) (.list (.list (.int .i64))))], fun q => F.points_walk_2 fu q.1 q.2.1 q.2.2.1 q.2.2.2.1 q.2.2.2.2.1 q.2.2.2.2.2.1 q.2.2.2.2.2.2.1 q.2.2.2.2.2.2.2.1 q.2.2.2.2.2.2.2.2.1 q.2.2.2.2.2.2.2.2.2.1 q.2.2.2.2.2.2.2.2.2.2.1 q.2.2.2.2.2.2.2.2.2.2.2⟩
theorem c_points_walk_2_ok : ∀ fu : Nat, ConOk Try.prog (c_points_walk_2 fu)
 | 0 => ⟨Try.call25, fun q r h => nomatch (show (none : Option _) = some r from h)⟩
 | fu + 1 => ConOk.ofR (N := 48) (fu := fu + 1)
   (H := [(22, .loopE ⟨[(1, .own 1000 (.int .i64))], [(1000, .arr 3 false true (.int .i64)), (1001, .lp 0 false [.loc 1002 0, .loc 1003 0]), (1002, .box 33 false [.own 1004 (.list (.int .i64))]), (1003, .box 45 false [.dat false (.list (.int .i64)), .dat false (.list (.st 0)), .dat true (.int .i64), .dat true (.int .i64), .dat true (.int .i64), .dat false (.list (.int .i64)), .dat true (.int .i64), .dat false (.list (.st 2))]), (1004, .deep 57 false true (.fam 2) (.list (.list (.int .i64))))]⟩ 0 ⟨[], [(1000, .arr 3 false true (.int .i64)), (1001, .lp 0 false [.loc 1002 0, .loc 1003 0]), (1002, .box 33 false [.own 1004 (.list (.int .i64))]), (1003, .box 45 false [.dat false (.list (.int .i64)), .dat false (.list (.st 0)), .dat true (.int .i64), .dat true (.int .i64), .dat true (.int .i64), .dat false (.list (.int .i64)), .dat true (.int .i64), .dat false (.list (.st 2))]), (1004, .deep 57 false true (.fam 2) (.list (.list (.int .i64))))]⟩),
    (25, .reg [])])
   (tbl := [c_points_walk_2 fu, c_points_hopeless (fu + 1), c_slices_Clone_2 (fu + 1)]) (tbr := []) (ys := [y_nest_Run_y_2 (fu + 1)])
   [] mixed (List.forall_mem_cons.2 ⟨c_points_walk_2_ok fu, List.forall_mem_cons.2 ⟨c_points_hopeless_ok (fu + 1), List.forall_mem_cons.2 ⟨c_slices_Clone_2_ok (fu + 1), (by intro c h; cases h)⟩⟩⟩) (by intro c h; cases h) (List.forall_mem_cons.2 ⟨y_nest_Run_y_2_ok (fu + 1), (by intro c h; cases h)⟩) Try.func25 Try.call25 rfl rfl (by kernel_rfl) rfl (by kernel_rfl) (mvs := []) (ns := []) (fun q => by kernel_rfl)
abbrev c_points_All_1 (fu : Nat) : Con S0 := ⟨23, [.yld 1000, .loc 1001 0], [.lp 0 false [.loc 1002 0, .loc 1003 0], .box 38 false [.dat false (.list (.int .i64)), .dat false (.list (.st 0))], .box 33 false [.own 1004 (.list (.int .i64))], .box 45 false [.dat false (.list (.int .i64)), .dat false (.list (.st 0)), .dat false (.int .i64), .dat false (.int .i64), .dat false (.int .i64), .dat false (.list (.int .i64)), .dat false (.int .i64), .dat false (.list (.st 2))], .deep 57 false false (.fam 2) (.list (.list (.int .i64)))], false, [], [(1000, .lp 0 false [.loc 1002 0, .loc 1003 0]), (1001, .box 38 false [.dat false (.list (.int .i64)), .dat false (.list (.st 0))]), (1002, .box 33 false [.own 1004 (.list (.int .i64))]), (1003, .box 45 false [.dat false (.list (.int .i64)), .dat false (.list (.st 0)), .dat true (.int .i64), .dat true (.int .i64), .dat true (.int .i64), .dat false (.list (.int .i64)), .dat true (.int .i64), .dat false (.list (.st 2))]), (1004, .deep 57 false true (.fam 2) (.list (.list (.int .i64))))], fun q => F.points_All_1 fu q.1 q.2.1 q.2.2.1 q.2.2.2.1 q.2.2.2.2.1 q.2.2.2.2.2.1 q.2.2.2.2.2.2.1 q.2.2.2.2.2.2.2.1 q.2.2.2.2.2.2.2.2.1 q.2.2.2.2.2.2.2.2.2.1 q.2.2.2.2.2.2.2.2.2.2⟩
theorem c_points_All_1_ok (fu : Nat) : ConOk Try.prog (c_points_All_1 fu) := ConOk.of (N := 13) (fu := fu)
 (H := [(2, .join ⟨[], [(1003, .box 45 false [.dat false (.list (.int .i64)), .dat false (.list (.st 0)), .dat true (.int .i64), .dat true (.int .i64), .dat true (.int .i64), .dat false (.list (.int .i64)), .dat true (.int .i64), .dat false (.list (.st 2))]), (1004, .deep 57 false true (.fam 2) (.list (.list (.int .i64)))), (1000, .lp 0 false [.loc 1002 0, .loc 1003 0]), (1002, .box 33 false [.own 1004 (.list (.int .i64))])]⟩),
  (3, .reg [10, 1000, 1002, 1003, 1004])])
 (tbl := [c_points_walk_2 fu, c_points_Wrong fu])
 mixed (List.forall_mem_cons.2 ⟨c_points_walk_2_ok fu, List.forall_mem_cons.2 ⟨c_points_Wrong_ok fu, (by intro c h; cases h)⟩⟩) Try.func23 Try.call23 rfl rfl (by kernel_rfl) (mvs := []) (ns := []) (fun q => by kernel_rfl)
abbrev c_nest_Run (fu : Nat) : Con S0 := ⟨4, [.dat false (.st 4), .dat false (.list (.list (.int .i64)))], [], false, [(4, .dat false (.list (.list (.int .i64)))), (5, .dat true (.int .i64))], [], fun q => F.nest_Run fu q.1 q.2⟩
theorem c_nest_Run_ok (fu : Nat) : ConOk Try.prog (c_nest_Run fu) := ConOk.ofR (N := 43) (fu := fu)
 (H := [(26, .loop ⟨[(29, .dat true (.int .i64))], [(7, .box 33 true [.own 20 (.list (.int .i64))]), (20, .deep 57 true true (.fam 2) (.list (.list (.int .i64))))]⟩ 0 ⟨[], [(7, .box 33 true [.own 20 (.list (.int .i64))]), (20, .deep 57 true true (.fam 2) (.list (.list (.int .i64))))]⟩),
  (40, .rng 0 350)])
 (tbl := [c_nest_Copied fu, c_points_All fu, c_nest_Wrong fu]) (tbr := [c_points_All_1 fu]) (ys := [])
 [(40, 0)] mixed (List.forall_mem_cons.2 ⟨c_nest_Copied_ok fu, List.forall_mem_cons.2 ⟨c_points_All_ok fu, List.forall_mem_cons.2 ⟨c_nest_Wrong_ok fu, (by intro c h; cases h)⟩⟩⟩) (List.forall_mem_cons.2 ⟨c_points_All_1_ok fu, (by intro c h; cases h)⟩) (by intro c h; cases h) Try.func4 Try.call4 rfl rfl (by kernel_rfl) rfl (by kernel_rfl) (mvs := []) (ns := []) (fun q => by kernel_rfl)
abbrev c_adjointref9_Row (fu : Nat) : Con S0 := ⟨34, [.dat false (.st 0), .dat false (.int .i64)], [], false, [(4, .dat true (.int .i64))], [], fun q => F.adjointref9_Row fu q.1 q.2⟩
theorem c_adjointref9_Row_ok (fu : Nat) : ConOk Try.prog (c_adjointref9_Row fu) := ConOk.of (N := 30) (fu := fu)
 (H := [(14, .loopE ⟨[(19, .dat true (.int .i64))], []⟩ 0 ⟨[], []⟩),
  (26, .regJ [] ⟨[(28, .dat true .bool)], []⟩)])
 (tbl := [])
 mixed (by intro c h; cases h) Try.func34 Try.call34 rfl rfl (by kernel_rfl) (mvs := []) (ns := []) (fun q => by kernel_rfl)
abbrev c_adjointref9_Wrong (fu : Nat) : Con S0 := ⟨19, [.dat false (.st 1)], [], false, [(2, .dat true (.int .i64))], [], fun q => F.adjointref9_Wrong fu q⟩
theorem c_adjointref9_Wrong_ok (fu : Nat) : ConOk Try.prog (c_adjointref9_Wrong fu) := ConOk.of (N := 52) (fu := fu)
 (H := [(16, .loopE ⟨[(3, .dat true (.int .i64)), (16, .dat true (.int .i64))], []⟩ 0 ⟨[(3, .dat true (.int .i64))], []⟩),
  (29, .regJ [] ⟨[(25, .dat true .bool)], []⟩),
  (57, .loopE ⟨[(39, .dat true (.int .i64))], []⟩ 2 ⟨[], []⟩)])
 (tbl := [c_adjointref9_Row fu])
 mixed (List.forall_mem_cons.2 ⟨c_adjointref9_Row_ok fu, (by intro c h; cases h)⟩) Try.func19 Try.call19 rfl rfl (by kernel_rfl) (mvs := []) (ns := []) (fun q => by kernel_rfl)
abbrev c_adjointref10_Takes (fu : Nat) : Con S0 := ⟨20, [.dat false (.int .i64)], [], false, [(2, .dat true (.int .i64))], [], fun q => F.adjointref10_Takes fu q⟩
theorem c_adjointref10_Takes_ok (fu : Nat) : ConOk Try.prog (c_adjointref10_Takes fu) := ConOk.of (N := 18) (fu := fu)
 (H := [(15, .join ⟨[(6, .dat true .bool)], []⟩),
  (25, .join ⟨[(9, .dat true .bool)], []⟩),
  (29, .join ⟨[(9, .dat true .bool)], []⟩),
  (33, .join ⟨[(9, .dat true .bool)], []⟩),
  (37, .join ⟨[(9, .dat true .bool)], []⟩),
  (41, .join ⟨[(9, .dat true .bool)], []⟩)])
 (tbl := [])
 mixed (by intro c h; cases h) Try.func20 Try.call20 rfl rfl (by kernel_rfl) (mvs := []) (ns := []) (fun q => by kernel_rfl)
abbrev c_adjointref10_access (fu : Nat) : Con S0 := ⟨21, [.dat false (.st 4), .dat false (.st 2), .dat false (.int .i64)], [], false, [(6, .dat true (.int .i64))], [], fun q => F.adjointref10_access fu q.1 q.2.1 q.2.2⟩
theorem c_adjointref10_access_ok (fu : Nat) : ConOk Try.prog (c_adjointref10_access fu) := ConOk.of (N := 22) (fu := fu)
 (H := [(4, .regJ [] ⟨[(17, .dat true .bool)], []⟩)])
 (tbl := [c_adjointref9_Row fu])
 mixed (List.forall_mem_cons.2 ⟨c_adjointref9_Row_ok fu, (by intro c h; cases h)⟩) Try.func21 Try.call21 rfl rfl (by kernel_rfl) (mvs := []) (ns := []) (fun q => by kernel_rfl)
abbrev c_adjointref10_Wrong (fu : Nat) : Con S0 := ⟨8, [.dat false (.st 4)], [], false, [(2, .dat true (.int .i64))], [], fun q => F.adjointref10_Wrong fu q⟩
theorem c_adjointref10_Wrong_ok (fu : Nat) : ConOk Try.prog (c_adjointref10_Wrong fu) := ConOk.of (N := 84) (fu := fu)
 (H := [(14, .loopE ⟨[(19, .dat true (.int .i64))], []⟩ 0 ⟨[], []⟩),
  (26, .regJ [] ⟨[(28, .dat true .bool)], []⟩),
  (37, .loopE ⟨[(33, .dat true (.int .i64))], []⟩ 2 ⟨[], []⟩),
  (68, .reg []),
  (87, .loopE ⟨[(68, .dat true (.int .i64))], []⟩ 4 ⟨[], []⟩)])
 (tbl := [c_adjointref9_Wrong fu, c_adjointref10_Takes fu, c_adjointref10_access fu])
 mixed (List.forall_mem_cons.2 ⟨c_adjointref9_Wrong_ok fu, List.forall_mem_cons.2 ⟨c_adjointref10_Takes_ok fu, List.forall_mem_cons.2 ⟨c_adjointref10_access_ok fu, (by intro c h; cases h)⟩⟩⟩) Try.func8 Try.call8 rfl rfl (by kernel_rfl) (mvs := []) (ns := []) (fun q => by kernel_rfl)
abbrev c_adjointref10_Fits (fu : Nat) : Con S0 := ⟨12, [.dat false (.st 4), .dat false (.list (.list (.int .i64)))], [], false, [(4, .dat true (.int .i64))], [], fun q => F.adjointref10_Fits fu q.1 q.2⟩
theorem c_adjointref10_Fits_ok (fu : Nat) : ConOk Try.prog (c_adjointref10_Fits fu) := ConOk.of (N := 29) (fu := fu)
 (H := [(14, .loopE ⟨[(15, .dat true (.int .i64))], []⟩ 0 ⟨[], []⟩)])
 (tbl := [])
 mixed (by intro c h; cases h) Try.func12 Try.call12 rfl rfl (by kernel_rfl) (mvs := []) (ns := []) (fun q => by kernel_rfl)
abbrev c_adjointref10_Copy (fu : Nat) : Con S0 := ⟨13, [.dat false (.list (.list (.int .i64)))], [], false, [(2, .own 3 (.list (.int .i64)))], [(3, .deep 57 true true (.fam 2) (.list (.list (.int .i64))))], fun q => F.adjointref10_Copy fu q⟩
theorem c_adjointref10_Copy_ok (fu : Nat) : ConOk Try.prog (c_adjointref10_Copy fu) := ConOk.of (N := 20) (fu := fu)
 (H := [(8, .loop ⟨[(3, .own 3 (.list (.int .i64))), (8, .dat true (.int .i64))], [(3, .deep 57 true true (.fam 2) (.list (.list (.int .i64))))]⟩ 0 ⟨[(3, .own 3 (.list (.int .i64)))], [(3, .deep 57 true true (.fam 2) (.list (.list (.int .i64))))]⟩)])
 (tbl := [])
 mixed (by intro c h; cases h) Try.func13 Try.call13 rfl rfl (by kernel_rfl) (mvs := []) (ns := []) (fun q => by kernel_rfl)
abbrev c_adjointref9_Box (fu : Nat) : Con S0 := ⟨38, [.dat false (.list (.int .i64))], [], false, [(2, .dat false (.list (.list (.int .i64))))], [], fun q => F.adjointref9_Box fu q⟩
theorem c_adjointref9_Box_ok : ∀ fu : Nat, ConOk Try.prog (c_adjointref9_Box fu)
 | 0 => ⟨Try.call38, fun q r h => nomatch (show (none : Option _) = some r from h)⟩
 | fu + 1 => ConOk.of (N := 44) (fu := fu + 1)
   (H := [(16, .loop ⟨[(3, .own 3 (.list (.int .i64))), (19, .dat true (.int .i64))], [(3, .arr 22 true true (.list (.int .i64)))]⟩ 0 ⟨[(3, .own 3 (.list (.int .i64)))], [(3, .arr 22 true true (.list (.int .i64)))]⟩),
    (30, .loop ⟨[(3, .own 3 (.list (.int .i64))), (6, .dat true (.int .i64))], [(3, .arr 22 true true (.list (.int .i64)))]⟩ 2 ⟨[(3, .own 3 (.list (.int .i64)))], [(3, .arr 22 true true (.list (.int .i64)))]⟩)])
   (tbl := [c_adjointref9_Box fu])
   mixed (List.forall_mem_cons.2 ⟨c_adjointref9_Box_ok fu, (by intro c h; cases h)⟩) Try.func38 Try.call38 rfl rfl (by kernel_rfl) (mvs := []) (ns := []) (fun q => by kernel_rfl)
abbrev c_adjointref9_At (fu : Nat) : Con S0 := ⟨39, [.dat false (.st 0), .dat false (.list (.int .i64))], [], false, [(4, .dat true (.int .i64))], [], fun q => F.adjointref9_At fu q.1 q.2⟩
theorem c_adjointref9_At_ok (fu : Nat) : ConOk Try.prog (c_adjointref9_At fu) := ConOk.of (N := 29) (fu := fu)
 (H := [(8, .loop ⟨[(5, .dat true (.int .i64)), (12, .dat true (.int .i64))], []⟩ 0 ⟨[(5, .dat true (.int .i64))], []⟩),
  (19, .reg [])])
 (tbl := [])
 mixed (by intro c h; cases h) Try.func39 Try.call39 rfl rfl (by kernel_rfl) (mvs := []) (ns := []) (fun q => by kernel_rfl)
abbrev c_adjointref9_All (fu : Nat) : Con S0 := ⟨28, [.dat false (.st 1)], [], false, [(2, .dat false (.list (.list (.int .i64))))], [], fun q => F.adjointref9_All fu q⟩
theorem c_adjointref9_All_ok (fu : Nat) : ConOk Try.prog (c_adjointref9_All fu) := ConOk.of (N := 39) (fu := fu)
 (H := [(8, .loop ⟨[(3, .own 3 (.list (.int .i64))), (13, .dat true (.int .i64))], [(3, .arr 22 true false (.list (.int .i64)))]⟩ 0 ⟨[(3, .own 3 (.list (.int .i64)))], [(3, .arr 22 true false (.list (.int .i64)))]⟩),
  (25, .loop ⟨[(6, .dat true .bool), (20, .dat true (.int .i64))], []⟩ 2 ⟨[(6, .dat true .bool)], []⟩),
  (36, .regJ [] ⟨[(6, .dat true .bool)], []⟩),
  (40, .join ⟨[(3, .own 3 (.list (.int .i64)))], [(3, .arr 22 true false (.list (.int .i64)))]⟩)])
 (tbl := [c_adjointref9_Box fu, c_adjointref9_At fu])
 mixed (List.forall_mem_cons.2 ⟨c_adjointref9_Box_ok fu, List.forall_mem_cons.2 ⟨c_adjointref9_At_ok fu, (by intro c h; cases h)⟩⟩) Try.func28 Try.call28 rfl rfl (by kernel_rfl) (mvs := []) (ns := []) (fun q => by kernel_rfl)
abbrev c_adjointref10_Spots (fu : Nat) : Con S0 := ⟨14, [.dat false (.st 4)], [], false, [(2, .dat false (.list (.st 5)))], [], fun q => F.adjointref10_Spots fu q⟩
theorem c_adjointref10_Spots_ok (fu : Nat) : ConOk Try.prog (c_adjointref10_Spots fu) := ConOk.of (N := 33) (fu := fu)
 (H := [(8, .loop ⟨[(3, .own 3 (.st 5)), (11, .dat true (.int .i64))], [(3, .arr 55 true false (.st 5))]⟩ 0 ⟨[(3, .own 3 (.st 5))], [(3, .arr 55 true false (.st 5))]⟩),
  (22, .loop ⟨[(3, .own 3 (.st 5)), (20, .dat true (.int .i64))], [(3, .arr 55 true false (.st 5))]⟩ 2 ⟨[(3, .own 3 (.st 5))], [(3, .arr 55 true false (.st 5))]⟩)])
 (tbl := [c_adjointref9_All fu])
 mixed (List.forall_mem_cons.2 ⟨c_adjointref9_All_ok fu, (by intro c h; cases h)⟩) Try.func14 Try.call14 rfl rfl (by kernel_rfl) (mvs := []) (ns := []) (fun q => by kernel_rfl)
abbrev c_adjointref10_Where (fu : Nat) : Con S0 := ⟨29, [.dat false (.st 4), .dat false (.st 2), .dat false (.list (.int .i64))], [], false, [(6, .dat true (.int .i64))], [], fun q => F.adjointref10_Where fu q.1 q.2.1 q.2.2⟩
theorem c_adjointref10_Where_ok (fu : Nat) : ConOk Try.prog (c_adjointref10_Where fu) := ConOk.of (N := 25) (fu := fu)
 (H := [(6, .regJ [] ⟨[(23, .dat true .bool)], []⟩)])
 (tbl := [c_adjointref9_At fu])
 mixed (List.forall_mem_cons.2 ⟨c_adjointref9_At_ok fu, (by intro c h; cases h)⟩) Try.func29 Try.call29 rfl rfl (by kernel_rfl) (mvs := []) (ns := []) (fun q => by kernel_rfl)
abbrev c_adjointref10_Number (fu : Nat) : Con S0 := ⟨30, [.dat false (.st 3), .dat false (.list (.int .i64)), .dat false (.int .i64)], [], false, [(6, .dat true (.int .i64))], [], fun q => F.adjointref10_Number fu q.1 q.2.1 q.2.2⟩
theorem c_adjointref10_Number_ok (fu : Nat) : ConOk Try.prog (c_adjointref10_Number fu) := ConOk.of (N := 97) (fu := fu)
 (H := [(22, .reg []),
  (28, .reg []),
  (34, .reg []),
  (41, .reg []),
  (55, .reg []),
  (86, .reg [])])
 (tbl := [])
 mixed (by intro c h; cases h) Try.func30 Try.call30 rfl rfl (by kernel_rfl) (mvs := []) (ns := []) (fun q => by kernel_rfl)
abbrev c_adjointref10_Do (fu : Nat) : Con S0 := ⟨15, [.dat false (.st 4), .dat false (.st 3), .dat false (.list (.int .i64)), .own 1000 (.list (.int .i64))], [.deep 57 false false (.fam 2) (.list (.list (.int .i64)))], false, [], [(1000, .deep 57 false true (.fam 2) (.list (.list (.int .i64))))], fun q => F.adjointref10_Do fu q.1 q.2.1 q.2.2.1 q.2.2.2⟩
theorem c_adjointref10_Do_ok (fu : Nat) : ConOk Try.prog (c_adjointref10_Do fu) := ConOk.of (N := 68) (fu := fu)
 (H := [(16, .loop ⟨[(9, .own 9 (.int .i64)), (23, .dat true (.int .i64))], [(9, .arr 2 true true (.int .i64))]⟩ 0 ⟨[(9, .own 9 (.int .i64))], [(9, .arr 2 true true (.int .i64))]⟩),
  (31, .join ⟨[(9, .own 9 (.int .i64))], [(9, .arr 2 true true (.int .i64))]⟩),
  (35, .regJ [1000] ⟨[], [(1000, .deep 57 false true (.fam 2) (.list (.list (.int .i64))))]⟩)])
 (tbl := [c_adjointref10_Where fu, c_adjointref10_Number fu])
 mixed (List.forall_mem_cons.2 ⟨c_adjointref10_Where_ok fu, List.forall_mem_cons.2 ⟨c_adjointref10_Number_ok fu, (by intro c h; cases h)⟩⟩) Try.func15 Try.call15 rfl rfl (by kernel_rfl) (mvs := []) (ns := []) (fun q => by kernel_rfl)
abbrev c_adjointref10_Run (fu : Nat) : Con S0 := ⟨5, [.dat false (.st 4), .dat false (.list (.list (.int .i64)))], [], false, [(4, .dat false (.list (.list (.int .i64)))), (5, .dat true (.int .i64))], [], fun q => F.adjointref10_Run fu q.1 q.2⟩
theorem c_adjointref10_Run_ok (fu : Nat) : ConOk Try.prog (c_adjointref10_Run fu) := ConOk.of (N := 44) (fu := fu)
 (H := [(28, .loop ⟨[(27, .dat true (.int .i64)), (8, .own 23 (.list (.int .i64)))], [(23, .deep 57 true true (.fam 2) (.list (.list (.int .i64))))]⟩ 0 ⟨[(8, .own 23 (.list (.int .i64)))], [(23, .deep 57 true true (.fam 2) (.list (.list (.int .i64))))]⟩),
  (39, .reg [23])])
 (tbl := [c_adjointref10_Copy fu, c_adjointref10_Do fu, c_adjointref10_Wrong fu, c_adjointref10_Fits fu, c_adjointref10_Spots fu])
 mixed (List.forall_mem_cons.2 ⟨c_adjointref10_Copy_ok fu, List.forall_mem_cons.2 ⟨c_adjointref10_Do_ok fu, List.forall_mem_cons.2 ⟨c_adjointref10_Wrong_ok fu, List.forall_mem_cons.2 ⟨c_adjointref10_Fits_ok fu, List.forall_mem_cons.2 ⟨c_adjointref10_Spots_ok fu, (by intro c h; cases h)⟩⟩⟩⟩⟩) Try.func5 Try.call5 rfl rfl (by kernel_rfl) (mvs := []) (ns := []) (fun q => by kernel_rfl)
abbrev c_adjointref10_SameMemory (fu : Nat) : Con S0 := ⟨6, [.dat false (.list (.list (.int .i64))), .dat false (.list (.list (.int .i64)))], [], false, [(4, .dat true .bool)], [], fun q => F.adjointref10_SameMemory fu q.1 q.2⟩
theorem c_adjointref10_SameMemory_ok (fu : Nat) : ConOk Try.prog (c_adjointref10_SameMemory fu) := ConOk.of (N := 53) (fu := fu)
 (H := [(14, .loopE ⟨[(14, .dat true (.int .i64))], []⟩ 0 ⟨[], []⟩),
  (27, .reg []),
  (36, .loopE ⟨[(33, .dat true (.int .i64))], []⟩ 2 ⟨[], []⟩),
  (48, .reg [])])
 (tbl := [])
 mixed (by intro c h; cases h) Try.func6 Try.call6 rfl rfl (by kernel_rfl) (mvs := []) (ns := []) (fun q => by kernel_rfl)
abbrev c_adjointlaw10_NestRuns (fu : Nat) : Con S0 := ⟨3, [.dat false (.st 4), .dat false (.list (.list (.int .i64)))], [], false, [(4, .dat true .bool)], [], fun q => F.adjointlaw10_NestRuns fu q.1 q.2⟩
theorem c_adjointlaw10_NestRuns_ok (fu : Nat) : ConOk Try.prog (c_adjointlaw10_NestRuns fu) := ConOk.of (N := 36) (fu := fu)
 (H := [(7, .regJ [] ⟨[(4, .dat true .bool)], []⟩)])
 (tbl := [c_nest_Run fu, c_adjointref10_Run fu, c_adjointref10_SameMemory fu, c_nest_Wrong fu, c_adjointref10_Wrong fu])
 mixed (List.forall_mem_cons.2 ⟨c_nest_Run_ok fu, List.forall_mem_cons.2 ⟨c_adjointref10_Run_ok fu, List.forall_mem_cons.2 ⟨c_adjointref10_SameMemory_ok fu, List.forall_mem_cons.2 ⟨c_nest_Wrong_ok fu, List.forall_mem_cons.2 ⟨c_adjointref10_Wrong_ok fu, (by intro c h; cases h)⟩⟩⟩⟩⟩) Try.func3 Try.call3 rfl rfl (by kernel_rfl) (mvs := []) (ns := []) (fun q => by kernel_rfl)
end
end Go.DN
