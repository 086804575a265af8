/-
  Each function does what its Lean function says.
-/
import Derived.Test.YtllnemgkfdgljaaPl9F
import Derived.Test.YtllnemgkfdgljaaProg
import Derived.KernelRfl
set_option maxRecDepth 20000
set_option linter.unusedVariables false
set_option linter.unusedSectionVars false
set_option linter.unusedSimpArgs false
namespace Go.DN
open Go.AM
open Go.Proofs
noncomputable section
theorem mixed : Try.prog.follows .mixedOrders = true := by kernel_rfl
abbrev c_points_Row_1 (fu : Nat) : Con S0 := ⟨40, [.dat false (.int .i64)], [], false, [(2, .dat true .bool)], [], fun q => F.points_Row_1 fu q⟩
theorem c_points_Row_1_ok (fu : Nat) : ConOk Try.prog (c_points_Row_1 fu) := ConOk.of (N := 9) (fu := fu)
 (H := [(3, .regJ [] ⟨[(2, .dat true .bool)], []⟩)])
 (tbl := [])
 mixed (by intro c h; cases h) Try.func40 Try.call40 rfl rfl (by kernel_rfl) (mvs := []) (ns := []) (fun q => by kernel_rfl)
abbrev c_slices_IndexFunc (fu : Nat) : Con S0 := ⟨47, [.dat false (.list (.int .i64)), .clo 40 []], [], false, [(4, .dat true (.int .i64))], [], fun q => F.slices_IndexFunc fu q⟩
theorem c_slices_IndexFunc_ok (fu : Nat) : ConOk Try.prog (c_slices_IndexFunc fu) := ConOk.of (N := 19) (fu := fu)
 (H := [(6, .loopE ⟨[(8, .dat true (.int .i64))], []⟩ 0 ⟨[], []⟩)])
 (tbl := [c_points_Row_1 fu])
 mixed (List.forall_mem_cons.2 ⟨c_points_Row_1_ok fu, (by intro c h; cases h)⟩) Try.func47 Try.call47 rfl rfl (by kernel_rfl) (mvs := []) (ns := []) (fun q => by kernel_rfl)
abbrev c_slices_ContainsFunc (fu : Nat) : Con S0 := ⟨41, [.dat false (.list (.int .i64)), .clo 40 []], [], false, [(4, .dat true .bool)], [], fun q => F.slices_ContainsFunc fu q⟩
theorem c_slices_ContainsFunc_ok (fu : Nat) : ConOk Try.prog (c_slices_ContainsFunc fu) := ConOk.of (N := 9) (fu := fu)
 (H := [])
 (tbl := [c_slices_IndexFunc fu])
 mixed (List.forall_mem_cons.2 ⟨c_slices_IndexFunc_ok fu, (by intro c h; cases h)⟩) Try.func41 Try.call41 rfl rfl (by kernel_rfl) (mvs := []) (ns := []) (fun q => by kernel_rfl)
abbrev c_points_Row (fu : Nat) : Con S0 := ⟨33, [.dat false (.st 0), .dat false (.int .i64)], [], false, [(4, .dat true (.int .i64))], [], fun q => F.points_Row fu q.1 q.2⟩
theorem c_points_Row_ok (fu : Nat) : ConOk Try.prog (c_points_Row fu) := ConOk.of (N := 21) (fu := fu)
 (H := [(14, .regJ [] ⟨[(20, .dat true .bool)], []⟩)])
 (tbl := [c_points_Row_1 fu, c_slices_ContainsFunc fu])
 mixed (List.forall_mem_cons.2 ⟨c_points_Row_1_ok fu, List.forall_mem_cons.2 ⟨c_slices_ContainsFunc_ok fu, (by intro c h; cases h)⟩⟩) Try.func33 Try.call33 rfl rfl (by kernel_rfl) (mvs := []) (ns := []) (fun q => by kernel_rfl)
abbrev c_points_Wrong (fu : Nat) : Con S0 := ⟨17, [.dat false (.st 1)], [], false, [(2, .dat true (.int .i64))], [], fun q => F.points_Wrong fu q⟩
theorem c_points_Wrong_ok (fu : Nat) : ConOk Try.prog (c_points_Wrong fu) := ConOk.of (N := 62) (fu := fu)
 (H := [(16, .loopE ⟨[(18, .dat true (.int .i64))], []⟩ 0 ⟨[], []⟩),
  (28, .regJ [] ⟨[(27, .dat true .bool)], []⟩),
  (39, .loop ⟨[(3, .dat true (.int .i64)), (32, .dat true (.int .i64))], []⟩ 2 ⟨[(3, .dat true (.int .i64))], []⟩),
  (72, .loopE ⟨[(49, .dat true (.int .i64))], []⟩ 4 ⟨[], []⟩)])
 (tbl := [c_points_Row fu])
 mixed (List.forall_mem_cons.2 ⟨c_points_Row_ok fu, (by intro c h; cases h)⟩) Try.func17 Try.call17 rfl rfl (by kernel_rfl) (mvs := []) (ns := []) (fun q => by kernel_rfl)
abbrev c_slices_Backward (fu : Nat) : Con S0 := ⟨37, [.dat false (.list (.int .i64))], [], false, [(2, .clo 45 [.loc 1 0])], [(1, .box 22 true [.dat false (.list (.int .i64))])], fun q => F.slices_Backward fu q⟩
theorem c_slices_Backward_ok (fu : Nat) : ConOk Try.prog (c_slices_Backward fu) := ConOk.of (N := 4) (fu := fu)
 (H := [])
 (tbl := [])
 mixed (by intro c h; cases h) Try.func37 Try.call37 rfl rfl (by kernel_rfl) (mvs := []) (ns := []) (fun q => by kernel_rfl)
abbrev y_points_last_y (fu : Nat) : YCon S0 := ⟨0, [.dat false (.int .i64), .dat false (.int .i64)], [.loc 1000 0], [.box 3 false [.dat false (.int .i64)]], [(1000, .box 3 false [.dat true (.int .i64)])], true, fun q => F.points_last_y fu q.1 q.2.1 q.2.2⟩
theorem y_points_last_y_ok (fu : Nat) : YOk Try.prog (y_points_last_y fu) := YOk.of (fu := fu)
 (H := [])
 (tbl := [])
 mixed (by intro c h; cases h) (by kernel_rfl) (by kernel_rfl) (by kernel_rfl) (mvs := []) (ns := []) (fun q => by kernel_rfl)
abbrev c_slices_Backward_1 (fu : Nat) : Con S0 := ⟨45, [.yld 1000, .loc 1001 0], [.lp 0 true [.loc 1002 0], .box 22 false [.dat false (.list (.int .i64))], .box 3 false [.dat false (.int .i64)]], false, [], [(1000, .lp 0 true [.loc 1002 0]), (1001, .box 22 false [.dat false (.list (.int .i64))]), (1002, .box 3 false [.dat true (.int .i64)])], fun q => F.slices_Backward_1 fu q.1 q.2.1 q.2.2⟩
theorem c_slices_Backward_1_ok (fu : Nat) : ConOk Try.prog (c_slices_Backward_1 fu) := ConOk.ofR (N := 19) (fu := fu)
 (H := [(3, .loopE ⟨[(3, .dat true (.int .i64))], [(1000, .lp 0 true [.loc 1002 0]), (1002, .box 3 false [.dat true (.int .i64)])]⟩ 0 ⟨[], [(1000, .lp 0 true [.loc 1002 0]), (1002, .box 3 false [.dat true (.int .i64)])]⟩)])
 (tbl := []) (tbr := []) (ys := [y_points_last_y fu])
 [] mixed (by intro c h; cases h) (by intro c h; cases h) (List.forall_mem_cons.2 ⟨y_points_last_y_ok fu, (by intro c h; cases h)⟩) Try.func45 Try.call45 rfl rfl (by kernel_rfl) rfl (by kernel_rfl) (mvs := []) (ns := []) (fun q => by kernel_rfl)
abbrev c_points_last (fu : Nat) : Con S0 := ⟨25, [.dat false (.st 0)], [], false, [(2, .dat true (.int .i64))], [], fun q => F.points_last fu q⟩
theorem c_points_last_ok (fu : Nat) : ConOk Try.prog (c_points_last fu) := ConOk.ofR (N := 13) (fu := fu)
 (H := [(6, .rng 0 350)])
 (tbl := [c_slices_Backward fu]) (tbr := [c_slices_Backward_1 fu]) (ys := [])
 [(6, 0)] mixed (List.forall_mem_cons.2 ⟨c_slices_Backward_ok fu, (by intro c h; cases h)⟩) (List.forall_mem_cons.2 ⟨c_slices_Backward_1_ok fu, (by intro c h; cases h)⟩) (by intro c h; cases h) Try.func25 Try.call25 rfl rfl (by kernel_rfl) rfl (by kernel_rfl) (mvs := []) (ns := []) (fun q => by kernel_rfl)
abbrev c_slices_Clone (fu : Nat) : Con S0 := ⟨26, [.dat false (.list (.int .i64))], [], false, [(2, .own 5 (.int .i64))], [(5, .arr 3 true true (.int .i64))], fun q => F.slices_Clone fu q⟩
theorem c_slices_Clone_ok (fu : Nat) : ConOk Try.prog (c_slices_Clone fu) := ConOk.of (N := 8) (fu := fu)
 (H := [])
 (tbl := [])
 mixed (by intro c h; cases h) Try.func26 Try.call26 rfl rfl (by kernel_rfl) (mvs := []) (ns := []) (fun q => by kernel_rfl)
abbrev c_points_Loops (fu : Nat) : Con S0 := ⟨8, [.dat false (.st 1)], [], false, [(2, .dat false (.list (.st 3))), (3, .dat true (.int .i64))], [], fun q => F.points_Loops fu q⟩
theorem c_points_Loops_ok (fu : Nat) : ConOk Try.prog (c_points_Loops fu) := ConOk.of (N := 169) (fu := fu)
 (H := [(18, .loop ⟨[(25, .dat true (.int .i64)), (5, .own 21 (.st 3))], [(21, .deep 33 true true (.rows 54 none) (.list (.st 3)))]⟩ 0 ⟨[(5, .own 21 (.st 3))], [(21, .deep 33 true true (.rows 54 none) (.list (.st 3)))]⟩),
  (30, .regJ [21, 36] ⟨[(5, .own 21 (.st 3))], [(21, .deep 33 true true (.rows 54 none) (.list (.st 3)))]⟩),
  (31, .regJ [21, 51] ⟨[(5, .own 21 (.st 3))], [(21, .deep 33 true true (.rows 54 none) (.list (.st 3)))]⟩),
  (37, .loop ⟨[(66, .dat true (.int .i64)), (5, .own 21 (.st 3))], [(21, .deep 33 true true (.rows 54 none) (.list (.st 3)))]⟩ 2 ⟨[(5, .own 21 (.st 3))], [(21, .deep 33 true true (.rows 54 none) (.list (.st 3)))]⟩),
  (45, .join ⟨[(5, .own 21 (.st 3))], [(21, .deep 33 true true (.rows 54 none) (.list (.st 3)))]⟩),
  (56, .regJ [] ⟨[(81, .dat true .bool)], []⟩),
  (57, .join ⟨[(5, .own 21 (.st 3))], [(21, .deep 33 true true (.rows 54 none) (.list (.st 3)))]⟩),
  (63, .regJ [11] ⟨[(11, .loc 11 0)], [(11, .box 54 true [.own 97 (.int .i64), .dat true (.int .i64), .dat true (.int .i64)]), (97, .arr 3 true true (.int .i64))]⟩),
  (70, .fz [97]),
  (71, .regJ [21, 123] ⟨[(5, .own 21 (.st 3))], [(21, .deep 33 true true (.rows 54 none) (.list (.st 3)))]⟩),
  (78, .loop ⟨[(133, .dat true (.int .i64))], [(97, .arr 3 true true (.int .i64)), (11, .box 54 true [.own 97 (.int .i64), .dat true (.int .i64), .dat true (.int .i64)])]⟩ 4 ⟨[], [(97, .arr 3 true true (.int .i64)), (11, .box 54 true [.own 97 (.int .i64), .dat true (.int .i64), .dat true (.int .i64)])]⟩),
  (89, .reg [97]),
  (91, .fz [97]),
  (93, .regJ [21, 161] ⟨[(5, .own 21 (.st 3))], [(21, .deep 33 true true (.rows 54 none) (.list (.st 3)))]⟩)])
 (tbl := [c_slices_Clone fu, c_points_Wrong fu, c_points_last fu])
 mixed (List.forall_mem_cons.2 ⟨c_slices_Clone_ok fu, List.forall_mem_cons.2 ⟨c_points_Wrong_ok fu, List.forall_mem_cons.2 ⟨c_points_last_ok fu, (by intro c h; cases h)⟩⟩⟩) Try.func8 Try.call8 rfl rfl (by kernel_rfl) (mvs := []) (ns := []) (fun q => by kernel_rfl)
abbrev c_adjointref9_Row (fu : Nat) : Con S0 := ⟨27, [.dat false (.st 0), .dat false (.int .i64)], [], false, [(4, .dat true (.int .i64))], [], fun q => F.adjointref9_Row fu q.1 q.2⟩
theorem c_adjointref9_Row_ok (fu : Nat) : ConOk Try.prog (c_adjointref9_Row fu) := ConOk.of (N := 30) (fu := fu)
 (H := [(14, .loopE ⟨[(19, .dat true (.int .i64))], []⟩ 0 ⟨[], []⟩),
  (26, .regJ [] ⟨[(28, .dat true .bool)], []⟩)])
 (tbl := [])
 mixed (by intro c h; cases h) Try.func27 Try.call27 rfl rfl (by kernel_rfl) (mvs := []) (ns := []) (fun q => by kernel_rfl)
abbrev c_adjointref9_Wrong (fu : Nat) : Con S0 := ⟨9, [.dat false (.st 1)], [], false, [(2, .dat true (.int .i64))], [], fun q => F.adjointref9_Wrong fu q⟩
theorem c_adjointref9_Wrong_ok (fu : Nat) : ConOk Try.prog (c_adjointref9_Wrong fu) := ConOk.of (N := 52) (fu := fu)
 (H := [(16, .loopE ⟨[(3, .dat true (.int .i64)), (16, .dat true (.int .i64))], []⟩ 0 ⟨[(3, .dat true (.int .i64))], []⟩),
  (29, .regJ [] ⟨[(25, .dat true .bool)], []⟩),
  (57, .loopE ⟨[(39, .dat true (.int .i64))], []⟩ 2 ⟨[], []⟩)])
 (tbl := [c_adjointref9_Row fu])
 mixed (List.forall_mem_cons.2 ⟨c_adjointref9_Row_ok fu, (by intro c h; cases h)⟩) Try.func9 Try.call9 rfl rfl (by kernel_rfl) (mvs := []) (ns := []) (fun q => by kernel_rfl)
abbrev c_adjointref9_Right (fu : Nat) : Con S0 := ⟨10, [.dat false (.st 3), .dat false (.int .i64)], [], false, [(4, .dat true .bool)], [], fun q => F.adjointref9_Right fu q.1 q.2⟩
theorem c_adjointref9_Right_ok (fu : Nat) : ConOk Try.prog (c_adjointref9_Right fu) := ConOk.of (N := 45) (fu := fu)
 (H := [(4, .reg [7]),
  (6, .loopE ⟨[(15, .dat true (.int .i64))], []⟩ 0 ⟨[], []⟩),
  (18, .regJ [] ⟨[(33, .dat true .bool)], []⟩),
  (26, .regJ [] ⟨[(4, .dat true .bool)], []⟩)])
 (tbl := [c_adjointref9_Row fu])
 mixed (List.forall_mem_cons.2 ⟨c_adjointref9_Row_ok fu, (by intro c h; cases h)⟩) Try.func10 Try.call10 rfl rfl (by kernel_rfl) (mvs := []) (ns := []) (fun q => by kernel_rfl)
abbrev c_adjointref9_At (fu : Nat) : Con S0 := ⟨29, [.dat false (.st 0), .dat false (.list (.int .i64))], [], false, [(4, .dat true (.int .i64))], [], fun q => F.adjointref9_At fu q.1 q.2⟩
theorem c_adjointref9_At_ok (fu : Nat) : ConOk Try.prog (c_adjointref9_At fu) := ConOk.of (N := 29) (fu := fu)
 (H := [(8, .loop ⟨[(5, .dat true (.int .i64)), (12, .dat true (.int .i64))], []⟩ 0 ⟨[(5, .dat true (.int .i64))], []⟩),
  (19, .reg [])])
 (tbl := [])
 mixed (by intro c h; cases h) Try.func29 Try.call29 rfl rfl (by kernel_rfl) (mvs := []) (ns := []) (fun q => by kernel_rfl)
abbrev c_adjointref9_Down (fu : Nat) : Con S0 := ⟨28, [.dat false (.int .i64), .dat false (.int .i64)], [], false, [(4, .dat true (.int .i64))], [], fun q => F.adjointref9_Down fu q.1 q.2⟩
theorem c_adjointref9_Down_ok (fu : Nat) : ConOk Try.prog (c_adjointref9_Down fu) := ConOk.of (N := 16) (fu := fu)
 (H := [(7, .join ⟨[(5, .dat true (.int .i64))], []⟩)])
 (tbl := [])
 mixed (by intro c h; cases h) Try.func28 Try.call28 rfl rfl (by kernel_rfl) (mvs := []) (ns := []) (fun q => by kernel_rfl)
abbrev c_adjointref9_Run (fu : Nat) : Con S0 := ⟨11, [.dat false (.list (.st 3)), .dat false (.list (.int .i64)), .dat false (.list (.int .i64))], [], false, [(6, .dat false (.list (.list (.int .i64)))), (7, .dat true .bool)], [], fun q => F.adjointref9_Run fu q.1 q.2.1 q.2.2⟩
theorem c_adjointref9_Run_ok : ∀ fu : Nat, ConOk Try.prog (c_adjointref9_Run fu)
 | 0 => ⟨Try.call11, fun q r h => nomatch (show (none : Option _) = some r from h)⟩
 | fu + 1 => ConOk.of (N := 123) (fu := fu + 1)
   (H := [(18, .loop ⟨[(9, .dat true (.int .i64)), (36, .dat true (.int .i64))], []⟩ 0 ⟨[(9, .dat true (.int .i64))], []⟩),
    (30, .reg []),
    (32, .regJ [] ⟨[(56, .dat true .bool)], []⟩),
    (33, .join ⟨[(9, .dat true (.int .i64))], []⟩),
    (41, .loop ⟨[(10, .dat true (.int .i64)), (62, .dat true (.int .i64))], []⟩ 2 ⟨[(10, .dat true (.int .i64))], []⟩),
    (53, .reg []),
    (55, .regJ [] ⟨[(80, .dat true .bool)], []⟩),
    (56, .join ⟨[(10, .dat true (.int .i64))], []⟩),
    (64, .regJ [] ⟨[(98, .dat true .bool)], []⟩),
    (74, .loopE ⟨[(17, .own 17 (.list (.int .i64))), (18, .dat true (.int .i64))], [(17, .arr 22 true false (.list (.int .i64)))]⟩ 4 ⟨[(17, .own 17 (.list (.int .i64)))], [(17, .arr 22 true false (.list (.int .i64)))]⟩)])
   (tbl := [c_adjointref9_At (fu + 1), c_adjointref9_Down (fu + 1), c_adjointref9_Run fu])
   mixed (List.forall_mem_cons.2 ⟨c_adjointref9_At_ok (fu + 1), List.forall_mem_cons.2 ⟨c_adjointref9_Down_ok (fu + 1), List.forall_mem_cons.2 ⟨c_adjointref9_Run_ok fu, (by intro c h; cases h)⟩⟩⟩) Try.func11 Try.call11 rfl rfl (by kernel_rfl) (mvs := []) (ns := []) (fun q => by kernel_rfl)
abbrev c_adjointref9_Box (fu : Nat) : Con S0 := ⟨30, [.dat false (.list (.int .i64))], [], false, [(2, .dat true (.list (.list (.int .i64))))], [], fun q => F.adjointref9_Box fu q⟩
theorem c_adjointref9_Box_ok : ∀ fu : Nat, ConOk Try.prog (c_adjointref9_Box fu)
 | 0 => ⟨Try.call30, fun q r h => nomatch (show (none : Option _) = some r from h)⟩
 | fu + 1 => ConOk.of (N := 44) (fu := fu + 1)
   (H := [(16, .loop ⟨[(3, .own 3 (.list (.int .i64))), (19, .dat true (.int .i64))], [(3, .arr 22 true true (.list (.int .i64)))]⟩ 0 ⟨[(3, .own 3 (.list (.int .i64)))], [(3, .arr 22 true true (.list (.int .i64)))]⟩),
    (30, .loop ⟨[(3, .own 3 (.list (.int .i64))), (6, .dat true (.int .i64))], [(3, .arr 22 true true (.list (.int .i64)))]⟩ 2 ⟨[(3, .own 3 (.list (.int .i64)))], [(3, .arr 22 true true (.list (.int .i64)))]⟩)])
   (tbl := [c_adjointref9_Box fu])
   mixed (List.forall_mem_cons.2 ⟨c_adjointref9_Box_ok fu, (by intro c h; cases h)⟩) Try.func30 Try.call30 rfl rfl (by kernel_rfl) (mvs := []) (ns := []) (fun q => by kernel_rfl)
abbrev c_adjointref9_All (fu : Nat) : Con S0 := ⟨13, [.dat false (.st 1)], [], false, [(2, .dat true (.list (.list (.int .i64))))], [], fun q => F.adjointref9_All fu q⟩
theorem c_adjointref9_All_ok (fu : Nat) : ConOk Try.prog (c_adjointref9_All fu) := ConOk.of (N := 39) (fu := fu)
 (H := [(8, .loop ⟨[(3, .own 3 (.list (.int .i64))), (13, .dat true (.int .i64))], [(3, .arr 22 true true (.list (.int .i64)))]⟩ 0 ⟨[(3, .own 3 (.list (.int .i64)))], [(3, .arr 22 true true (.list (.int .i64)))]⟩),
  (25, .loop ⟨[(6, .dat true .bool), (20, .dat true (.int .i64))], []⟩ 2 ⟨[(6, .dat true .bool)], []⟩),
  (36, .regJ [] ⟨[(6, .dat true .bool)], []⟩),
  (40, .join ⟨[(3, .own 3 (.list (.int .i64)))], [(3, .arr 22 true true (.list (.int .i64)))]⟩)])
 (tbl := [c_adjointref9_Box fu, c_adjointref9_At fu])
 mixed (List.forall_mem_cons.2 ⟨c_adjointref9_Box_ok fu, List.forall_mem_cons.2 ⟨c_adjointref9_At_ok fu, (by intro c h; cases h)⟩⟩) Try.func13 Try.call13 rfl rfl (by kernel_rfl) (mvs := []) (ns := []) (fun q => by kernel_rfl)
abbrev c_adjointref2_SameList (fu : Nat) : Con S0 := ⟨20, [.dat false (.list (.int .i64)), .dat false (.list (.int .i64))], [], false, [(4, .dat true .bool)], [], fun q => F.adjointref2_SameList fu q.1 q.2⟩
theorem c_adjointref2_SameList_ok (fu : Nat) : ConOk Try.prog (c_adjointref2_SameList fu) := ConOk.of (N := 26) (fu := fu)
 (H := [(14, .loopE ⟨[(13, .dat true (.int .i64))], []⟩ 0 ⟨[], []⟩),
  (26, .reg [])])
 (tbl := [])
 mixed (by intro c h; cases h) Try.func20 Try.call20 rfl rfl (by kernel_rfl) (mvs := []) (ns := []) (fun q => by kernel_rfl)
abbrev c_adjointlaw9_sameLists (fu : Nat) : Con S0 := ⟨12, [.dat false (.list (.list (.int .i64))), .dat false (.list (.list (.int .i64)))], [], false, [(4, .dat true .bool)], [], fun q => F.adjointlaw9_sameLists fu q.1 q.2⟩
theorem c_adjointlaw9_sameLists_ok (fu : Nat) : ConOk Try.prog (c_adjointlaw9_sameLists fu) := ConOk.of (N := 27) (fu := fu)
 (H := [(14, .loopE ⟨[(13, .dat true (.int .i64))], []⟩ 0 ⟨[], []⟩),
  (26, .reg [])])
 (tbl := [c_adjointref2_SameList fu])
 mixed (List.forall_mem_cons.2 ⟨c_adjointref2_SameList_ok fu, (by intro c h; cases h)⟩) Try.func12 Try.call12 rfl rfl (by kernel_rfl) (mvs := []) (ns := []) (fun q => by kernel_rfl)
abbrev c_adjointlaw9_PointsLoops (fu : Nat) : Con S0 := ⟨3, [.dat false (.st 1)], [], false, [(2, .dat true .bool)], [], fun q => F.adjointlaw9_PointsLoops fu q⟩
theorem c_adjointlaw9_PointsLoops_ok (fu : Nat) : ConOk Try.prog (c_adjointlaw9_PointsLoops fu) := ConOk.of (N := 59) (fu := fu)
 (H := [(32, .loopE ⟨[(31, .dat true (.int .i64))], []⟩ 0 ⟨[], []⟩),
  (62, .regJ [] ⟨[(2, .dat true .bool)], []⟩)])
 (tbl := [c_points_Loops fu, c_adjointref9_Wrong fu, c_adjointref9_Right fu, c_adjointref9_Run fu, c_adjointref9_All fu, c_adjointlaw9_sameLists fu])
 mixed (List.forall_mem_cons.2 ⟨c_points_Loops_ok fu, List.forall_mem_cons.2 ⟨c_adjointref9_Wrong_ok fu, List.forall_mem_cons.2 ⟨c_adjointref9_Right_ok fu, List.forall_mem_cons.2 ⟨c_adjointref9_Run_ok fu, List.forall_mem_cons.2 ⟨c_adjointref9_All_ok fu, List.forall_mem_cons.2 ⟨c_adjointlaw9_sameLists_ok fu, (by intro c h; cases h)⟩⟩⟩⟩⟩⟩) Try.func3 Try.call3 rfl rfl (by kernel_rfl) (mvs := []) (ns := []) (fun q => by kernel_rfl)
end
end Go.DN
