/-
  Each function does what its Lean function says.
-/
import Derived.Test.YtfkigaldejbeiaaOrF
import Derived.Test.YtfkigaldejbeiaaProg
import Derived.Test.YtfkigaldejbeiaaOcW
import Derived.KernelRfl
set_option maxRecDepth 20000
set_option linter.unusedVariables false
set_option linter.unusedSectionVars false
set_option linter.unusedSimpArgs false
namespace Go.DN
open Go.AM
open Go.Proofs
noncomputable section
theorem mixed : Try.prog.follows .mixedOrders = true := by kernel_rfl
abbrev c_nest_Wrong_1 (fu : Nat) : Con S0 := ⟨67, [.dat false (.int .i64)], [], false, [(2, .dat true .bool)], [], fun q => F.nest_Wrong_1 fu q⟩
theorem c_nest_Wrong_1_ok (fu : Nat) : ConOk Try.prog (c_nest_Wrong_1 fu) := ConOk.of (N := 9) (fu := fu)
  (H := [(3, .regJ [] ⟨[(2, .dat true .bool)], []⟩)])
  (tbl := [])
  mixed (by intro c h; cases h) Try.func67 Try.call67 rfl rfl (by kernel_rfl) (mvs := []) (fun q => by kernel_rfl)
abbrev c_slices_IndexFunc (fu : Nat) : Con S0 := ⟨89, [.dat false (.list (.int .i64)), .clo 67 []], [], false, [(4, .dat true (.int .i64))], [], fun q => F.slices_IndexFunc fu q⟩
theorem c_slices_IndexFunc_ok (fu : Nat) : ConOk Try.prog (c_slices_IndexFunc fu) := ConOk.of (N := 19) (fu := fu)
  (H := [(6, .loopE ⟨[(8, .dat true (.int .i64))], []⟩ 0 ⟨[], []⟩)])
  (tbl := [c_nest_Wrong_1 fu])
  mixed (List.forall_mem_cons.2 ⟨c_nest_Wrong_1_ok fu, (by intro c h; cases h)⟩) Try.func89 Try.call89 rfl rfl (by kernel_rfl) (mvs := []) (fun q => by kernel_rfl)
abbrev c_slices_ContainsFunc (fu : Nat) : Con S0 := ⟨66, [.dat false (.list (.int .i64)), .clo 67 []], [], false, [(4, .dat true .bool)], [], fun q => F.slices_ContainsFunc fu q⟩
theorem c_slices_ContainsFunc_ok (fu : Nat) : ConOk Try.prog (c_slices_ContainsFunc fu) := ConOk.of (N := 9) (fu := fu)
  (H := [])
  (tbl := [c_slices_IndexFunc fu])
  mixed (List.forall_mem_cons.2 ⟨c_slices_IndexFunc_ok fu, (by intro c h; cases h)⟩) Try.func66 Try.call66 rfl rfl (by kernel_rfl) (mvs := []) (fun q => by kernel_rfl)
abbrev c_points_Row_1 (fu : Nat) : Con S0 := ⟨76, [.dat false (.int .i64)], [], false, [(2, .dat true .bool)], [], fun q => F.points_Row_1 fu q⟩
theorem c_points_Row_1_ok (fu : Nat) : ConOk Try.prog (c_points_Row_1 fu) := ConOk.of (N := 9) (fu := fu)
  (H := [(3, .regJ [] ⟨[(2, .dat true .bool)], []⟩)])
  (tbl := [])
  mixed (by intro c h; cases h) Try.func76 Try.call76 rfl rfl (by kernel_rfl) (mvs := []) (fun q => by kernel_rfl)
abbrev c_slices_IndexFunc_2 (fu : Nat) : Con S0 := ⟨89, [.dat false (.list (.int .i64)), .clo 76 []], [], false, [(4, .dat true (.int .i64))], [], fun q => F.slices_IndexFunc_2 fu q⟩
theorem c_slices_IndexFunc_2_ok (fu : Nat) : ConOk Try.prog (c_slices_IndexFunc_2 fu) := ConOk.of (N := 19) (fu := fu)
  (H := [(6, .loopE ⟨[(8, .dat true (.int .i64))], []⟩ 0 ⟨[], []⟩)])
  (tbl := [c_points_Row_1 fu])
  mixed (List.forall_mem_cons.2 ⟨c_points_Row_1_ok fu, (by intro c h; cases h)⟩) Try.func89 Try.call89 rfl rfl (by kernel_rfl) (mvs := []) (fun q => by kernel_rfl)
abbrev c_slices_ContainsFunc_2 (fu : Nat) : Con S0 := ⟨66, [.dat false (.list (.int .i64)), .clo 76 []], [], false, [(4, .dat true .bool)], [], fun q => F.slices_ContainsFunc_2 fu q⟩
theorem c_slices_ContainsFunc_2_ok (fu : Nat) : ConOk Try.prog (c_slices_ContainsFunc_2 fu) := ConOk.of (N := 9) (fu := fu)
  (H := [])
  (tbl := [c_slices_IndexFunc_2 fu])
  mixed (List.forall_mem_cons.2 ⟨c_slices_IndexFunc_2_ok fu, (by intro c h; cases h)⟩) Try.func66 Try.call66 rfl rfl (by kernel_rfl) (mvs := []) (fun q => by kernel_rfl)
abbrev c_points_Row (fu : Nat) : Con S0 := ⟨45, [.dat false (.st 0), .dat false (.int .i64)], [], false, [(4, .dat true (.int .i64))], [], fun q => F.points_Row fu q.1 q.2⟩
theorem c_points_Row_ok (fu : Nat) : ConOk Try.prog (c_points_Row fu) := ConOk.of (N := 21) (fu := fu)
  (H := [(14, .regJ [] ⟨[(20, .dat true .bool)], []⟩)])
  (tbl := [c_points_Row_1 fu, c_slices_ContainsFunc_2 fu])
  mixed (List.forall_mem_cons.2 ⟨c_points_Row_1_ok fu, List.forall_mem_cons.2 ⟨c_slices_ContainsFunc_2_ok fu, (by intro c h; cases h)⟩⟩) Try.func45 Try.call45 rfl rfl (by kernel_rfl) (mvs := []) (fun q => by kernel_rfl)
abbrev c_points_Wrong (fu : Nat) : Con S0 := ⟨87, [.dat false (.st 1)], [], false, [(2, .dat true (.int .i64))], [], fun q => F.points_Wrong fu q⟩
theorem c_points_Wrong_ok (fu : Nat) : ConOk Try.prog (c_points_Wrong fu) := ConOk.of (N := 62) (fu := fu)
  (H := [(16, .loopE ⟨[(18, .dat true (.int .i64))], []⟩ 0 ⟨[], []⟩),
    (28, .regJ [] ⟨[(27, .dat true .bool)], []⟩),
    (39, .loop ⟨[(3, .dat true (.int .i64)), (32, .dat true (.int .i64))], []⟩ 2 ⟨[(3, .dat true (.int .i64))], []⟩),
    (72, .loopE ⟨[(49, .dat true (.int .i64))], []⟩ 4 ⟨[], []⟩)])
  (tbl := [c_points_Row fu])
  mixed (List.forall_mem_cons.2 ⟨c_points_Row_ok fu, (by intro c h; cases h)⟩) Try.func87 Try.call87 rfl rfl (by kernel_rfl) (mvs := []) (fun q => by kernel_rfl)
abbrev c_nest_gets (fu : Nat) : Con S0 := ⟨90, [.dat false (.int .i64)], [], false, [(2, .dat true (.int .i64))], [], fun q => F.nest_gets fu q⟩
theorem c_nest_gets_ok (fu : Nat) : ConOk Try.prog (c_nest_gets fu) := ConOk.of (N := 18) (fu := fu)
  (H := [(15, .join ⟨[(6, .dat true .bool)], []⟩),
    (25, .join ⟨[(9, .dat true .bool)], []⟩),
    (29, .join ⟨[(9, .dat true .bool)], []⟩),
    (33, .join ⟨[(9, .dat true .bool)], []⟩),
    (37, .join ⟨[(9, .dat true .bool)], []⟩),
    (41, .join ⟨[(9, .dat true .bool)], []⟩)])
  (tbl := [])
  mixed (by intro c h; cases h) Try.func90 Try.call90 rfl rfl (by kernel_rfl) (mvs := []) (fun q => by kernel_rfl)
abbrev c_nest_statement (fu : Nat) : Con S0 := ⟨68, [.dat false (.st 4), .dat false (.st 3)], [], false, [(4, .dat true (.int .i64))], [], fun q => F.nest_statement fu q.1 q.2⟩
theorem c_nest_statement_ok (fu : Nat) : ConOk Try.prog (c_nest_statement fu) := ConOk.of (N := 59) (fu := fu)
  (H := [(34, .loopE ⟨[(33, .dat true (.int .i64))], []⟩ 0 ⟨[], []⟩),
    (47, .regJ [] ⟨[(47, .dat true .bool)], []⟩)])
  (tbl := [c_points_Wrong fu, c_nest_gets fu, c_points_Row fu])
  mixed (List.forall_mem_cons.2 ⟨c_points_Wrong_ok fu, List.forall_mem_cons.2 ⟨c_nest_gets_ok fu, List.forall_mem_cons.2 ⟨c_points_Row_ok fu, (by intro c h; cases h)⟩⟩⟩) Try.func68 Try.call68 rfl rfl (by kernel_rfl) (mvs := []) (fun q => by kernel_rfl)
abbrev c_nest_Wrong (fu : Nat) : Con S0 := ⟨29, [.dat false (.st 4)], [], false, [(2, .dat true (.int .i64))], [], fun q => F.nest_Wrong fu q⟩
theorem c_nest_Wrong_ok (fu : Nat) : ConOk Try.prog (c_nest_Wrong fu) := ConOk.of (N := 27) (fu := fu)
  (H := [(22, .loopE ⟨[(16, .dat true (.int .i64))], []⟩ 0 ⟨[], []⟩)])
  (tbl := [c_slices_ContainsFunc fu, c_nest_statement fu])
  mixed (List.forall_mem_cons.2 ⟨c_slices_ContainsFunc_ok fu, List.forall_mem_cons.2 ⟨c_nest_statement_ok fu, (by intro c h; cases h)⟩⟩) Try.func29 Try.call29 rfl rfl (by kernel_rfl) (mvs := []) (fun q => by kernel_rfl)
abbrev c_slices_Concat (fu : Nat) : Con S0 := ⟨31, [.dat false (.list (.list (.int .i64)))], [], false, [(0, .dat true (.list (.int .i64)))], [], fun q => Go.Proofs.Ytfkigaldejbeiaa.F.slices_Concat fu q⟩
theorem c_slices_Concat_ok (fu : Nat) : ConOk Try.prog (c_slices_Concat fu) := ⟨Try.call31, fun q r h => Go.Proofs.Ytfkigaldejbeiaa.slices_Concat_ok fu q r h⟩
abbrev c_order_Strip_1 (fu : Nat) : Con S0 := ⟨30, [.dat false (.st 0), .ptr false (.int .i64), .ptr false (.int .i64)], [], false, [(4, .dat true (.st 0))], [], fun q => F.order_Strip_1 fu q.1 q.2.1 q.2.2⟩
theorem c_order_Strip_1_ok (fu : Nat) : ConOk Try.prog (c_order_Strip_1 fu) := ConOk.of (N := 26) (fu := fu)
  (H := [(3, .reg [4])])
  (tbl := [c_slices_Concat fu])
  mixed (List.forall_mem_cons.2 ⟨c_slices_Concat_ok fu, (by intro c h; cases h)⟩) Try.func30 Try.call30 rfl rfl (by kernel_rfl) (mvs := []) (fun q => by kernel_rfl)
abbrev c_slices_Clone (fu : Nat) : Con S0 := ⟨32, [.dat false (.list (.int .i64))], [], false, [(2, .dat false (.list (.int .i64)))], [], fun q => F.slices_Clone fu q⟩
theorem c_slices_Clone_ok (fu : Nat) : ConOk Try.prog (c_slices_Clone fu) := ConOk.of (N := 8) (fu := fu)
  (H := [])
  (tbl := [])
  mixed (by intro c h; cases h) Try.func32 Try.call32 rfl rfl (by kernel_rfl) (mvs := []) (fun q => by kernel_rfl)
abbrev c_order_own_1 (fu : Nat) : Con S0 := ⟨70, [.dat false (.st 0)], [], false, [(2, .dat false (.st 0))], [], fun q => F.order_own_1 fu q⟩
theorem c_order_own_1_ok (fu : Nat) : ConOk Try.prog (c_order_own_1 fu) := ConOk.of (N := 9) (fu := fu)
  (H := [(3, .reg [2])])
  (tbl := [c_slices_Clone fu])
  mixed (List.forall_mem_cons.2 ⟨c_slices_Clone_ok fu, (by intro c h; cases h)⟩) Try.func70 Try.call70 rfl rfl (by kernel_rfl) (mvs := []) (fun q => by kernel_rfl)
abbrev c_order_own (fu : Nat) : Con S0 := ⟨33, [.dat false (.st 3)], [], false, [(2, .dat false (.st 3))], [], fun q => F.order_own fu q⟩
theorem c_order_own_ok (fu : Nat) : ConOk Try.prog (c_order_own fu) := ConOk.of (N := 69) (fu := fu)
  (H := [(5, .regJ [4] ⟨[(4, .loc 4 0)], [(4, .box 64 true [.dat true (.list (.int .i64)), .own 420 (.st 0), .dat true (.int .i64), .dat true (.int .i64), .dat true (.int .i64), .dat false (.list (.int .i64)), .dat true (.int .i64), .own 421 (.st 2)]), (420, .arr 37 true true (.st 0)), (421, .arr 61 true true (.st 2))]⟩),
    (12, .loop ⟨[(33, .dat true (.int .i64))], [(420, .arr 37 true false (.st 0)), (4, .box 64 true [.dat false (.list (.int .i64)), .own 420 (.st 0), .dat true (.int .i64), .dat true (.int .i64), .dat true (.int .i64), .dat false (.list (.int .i64)), .dat true (.int .i64), .own 421 (.st 2)])]⟩ 0 ⟨[], [(420, .arr 37 true false (.st 0)), (4, .box 64 true [.dat false (.list (.int .i64)), .own 420 (.st 0), .dat true (.int .i64), .dat true (.int .i64), .dat true (.int .i64), .dat false (.list (.int .i64)), .dat true (.int .i64), .own 421 (.st 2)])]⟩),
    (23, .regJ [420, 4] ⟨[], [(420, .arr 37 true false (.st 0)), (4, .box 64 true [.dat false (.list (.int .i64)), .own 420 (.st 0), .dat true (.int .i64), .dat true (.int .i64), .dat true (.int .i64), .dat false (.list (.int .i64)), .dat true (.int .i64), .own 421 (.st 2)])]⟩),
    (29, .loop ⟨[(51, .dat true (.int .i64))], [(421, .arr 61 true false (.st 2)), (4, .box 64 true [.dat false (.list (.int .i64)), .own 420 (.st 0), .dat true (.int .i64), .dat true (.int .i64), .dat true (.int .i64), .dat false (.list (.int .i64)), .dat true (.int .i64), .own 421 (.st 2)])]⟩ 2 ⟨[], [(421, .arr 61 true false (.st 2)), (4, .box 64 true [.dat false (.list (.int .i64)), .own 420 (.st 0), .dat true (.int .i64), .dat true (.int .i64), .dat true (.int .i64), .dat false (.list (.int .i64)), .dat true (.int .i64), .own 421 (.st 2)])]⟩),
    (40, .regJ [421, 4] ⟨[], [(421, .arr 61 true false (.st 2)), (4, .box 64 true [.dat false (.list (.int .i64)), .own 420 (.st 0), .dat true (.int .i64), .dat true (.int .i64), .dat true (.int .i64), .dat false (.list (.int .i64)), .dat true (.int .i64), .own 421 (.st 2)])]⟩)])
  (tbl := [c_order_own_1 fu, c_slices_Clone fu])
  mixed (List.forall_mem_cons.2 ⟨c_order_own_1_ok fu, List.forall_mem_cons.2 ⟨c_slices_Clone_ok fu, (by intro c h; cases h)⟩⟩) Try.func33 Try.call33 rfl rfl (by kernel_rfl) (mvs := []) (fun q => by kernel_rfl)
abbrev c_order_Strip (fu : Nat) : Con S0 := ⟨10, [.dat false (.st 4), .dat false (.int .i64), .dat false (.int .i64), .dat false (.int .i64)], [], false, [(8, .dat false (.st 4)), (9, .dat true (.int .i64))], [], fun q => F.order_Strip fu q.1 q.2.1 q.2.2.1 q.2.2.2⟩
theorem c_order_Strip_ok (fu : Nat) : ConOk Try.prog (c_order_Strip fu) := ConOk.of (N := 204) (fu := fu)
  (H := [(14, .regJ [] ⟨[(38, .dat true .bool)], []⟩),
    (24, .regJ [] ⟨[(54, .dat true .bool)], []⟩),
    (32, .regJ [] ⟨[(61, .dat true .bool)], []⟩),
    (43, .regJ [14] ⟨[(14, .loc 14 0)], [(14, .box 64 true [.dat true (.list (.int .i64)), .own 420 (.st 0), .dat true (.int .i64), .dat true (.int .i64), .dat true (.int .i64), .dat true (.list (.int .i64)), .dat true (.int .i64), .own 421 (.st 2)]), (420, .arr 37 true true (.st 0)), (421, .arr 61 true true (.st 2))]⟩),
    (45, .reg [14]),
    (50, .loop ⟨[(111, .dat true (.int .i64))], [(420, .arr 37 true true (.st 0)), (14, .box 64 true [.dat true (.list (.int .i64)), .own 420 (.st 0), .dat true (.int .i64), .dat true (.int .i64), .dat true (.int .i64), .dat true (.list (.int .i64)), .dat true (.int .i64), .own 421 (.st 2)])]⟩ 0 ⟨[], [(420, .arr 37 true true (.st 0)), (14, .box 64 true [.dat true (.list (.int .i64)), .own 420 (.st 0), .dat true (.int .i64), .dat true (.int .i64), .dat true (.int .i64), .dat true (.list (.int .i64)), .dat true (.int .i64), .own 421 (.st 2)])]⟩),
    (61, .regJ [420, 14] ⟨[], [(420, .arr 37 true true (.st 0)), (14, .box 64 true [.dat true (.list (.int .i64)), .own 420 (.st 0), .dat true (.int .i64), .dat true (.int .i64), .dat true (.int .i64), .dat true (.list (.int .i64)), .dat true (.int .i64), .own 421 (.st 2)])]⟩),
    (66, .reg [130]),
    (73, .loop ⟨[(156, .dat true (.int .i64))], [(421, .arr 61 true true (.st 2)), (14, .box 64 true [.dat true (.list (.int .i64)), .own 420 (.st 0), .dat true (.int .i64), .dat true (.int .i64), .dat true (.int .i64), .dat true (.list (.int .i64)), .dat true (.int .i64), .own 421 (.st 2)])]⟩ 2 ⟨[], [(421, .arr 61 true true (.st 2)), (14, .box 64 true [.dat true (.list (.int .i64)), .own 420 (.st 0), .dat true (.int .i64), .dat true (.int .i64), .dat true (.int .i64), .dat true (.list (.int .i64)), .dat true (.int .i64), .own 421 (.st 2)])]⟩),
    (84, .regJ [421, 14] ⟨[], [(421, .arr 61 true true (.st 2)), (14, .box 64 true [.dat true (.list (.int .i64)), .own 420 (.st 0), .dat true (.int .i64), .dat true (.int .i64), .dat true (.int .i64), .dat true (.list (.int .i64)), .dat true (.int .i64), .own 421 (.st 2)])]⟩),
    (92, .loop ⟨[(180, .dat true (.int .i64))], [(20, .box 25 true [.dat false (.list (.int .i64)), .own 422 (.st 3)]), (14, .box 64 true [.dat true (.list (.int .i64)), .dat false (.list (.st 0)), .dat true (.int .i64), .dat true (.int .i64), .dat true (.int .i64), .dat true (.list (.int .i64)), .dat true (.int .i64), .dat false (.list (.st 2))]), (422, .arr 64 true false (.st 3))]⟩ 4 ⟨[], [(20, .box 25 true [.dat false (.list (.int .i64)), .own 422 (.st 3)]), (14, .box 64 true [.dat true (.list (.int .i64)), .dat false (.list (.st 0)), .dat true (.int .i64), .dat true (.int .i64), .dat true (.int .i64), .dat true (.list (.int .i64)), .dat true (.int .i64), .dat false (.list (.st 2))]), (422, .arr 64 true false (.st 3))]⟩),
    (104, .fz [420, 421]),
    (106, .join ⟨[], [(22, .box 64 true [.dat false (.list (.int .i64)), .dat false (.list (.st 0)), .dat true (.int .i64), .dat true (.int .i64), .dat true (.int .i64), .dat false (.list (.int .i64)), .dat true (.int .i64), .dat false (.list (.st 2))])]⟩),
    (109, .regJ [194, 20, 422] ⟨[], [(422, .arr 64 true false (.st 3)), (20, .box 25 true [.dat false (.list (.int .i64)), .own 422 (.st 3)])]⟩)])
  (tbl := [c_nest_Wrong fu, c_order_Strip_1 fu, c_slices_Concat fu, c_slices_Clone fu, c_order_own fu])
  mixed (List.forall_mem_cons.2 ⟨c_nest_Wrong_ok fu, List.forall_mem_cons.2 ⟨c_order_Strip_1_ok fu, List.forall_mem_cons.2 ⟨c_slices_Concat_ok fu, List.forall_mem_cons.2 ⟨c_slices_Clone_ok fu, List.forall_mem_cons.2 ⟨c_order_own_ok fu, (by intro c h; cases h)⟩⟩⟩⟩⟩) Try.func10 Try.call10 rfl rfl (by kernel_rfl) (mvs := []) (fun q => by kernel_rfl)
abbrev c_adjointref9_Row (fu : Nat) : Con S0 := ⟨46, [.dat false (.st 0), .dat false (.int .i64)], [], false, [(4, .dat true (.int .i64))], [], fun q => F.adjointref9_Row fu q.1 q.2⟩
theorem c_adjointref9_Row_ok (fu : Nat) : ConOk Try.prog (c_adjointref9_Row fu) := ConOk.of (N := 30) (fu := fu)
  (H := [(14, .loopE ⟨[(19, .dat true (.int .i64))], []⟩ 0 ⟨[], []⟩),
    (26, .regJ [] ⟨[(28, .dat true .bool)], []⟩)])
  (tbl := [])
  mixed (by intro c h; cases h) Try.func46 Try.call46 rfl rfl (by kernel_rfl) (mvs := []) (fun q => by kernel_rfl)
abbrev c_adjointref9_Wrong (fu : Nat) : Con S0 := ⟨37, [.dat false (.st 1)], [], false, [(2, .dat true (.int .i64))], [], fun q => F.adjointref9_Wrong fu q⟩
theorem c_adjointref9_Wrong_ok (fu : Nat) : ConOk Try.prog (c_adjointref9_Wrong fu) := ConOk.of (N := 52) (fu := fu)
  (H := [(16, .loopE ⟨[(3, .dat true (.int .i64)), (16, .dat true (.int .i64))], []⟩ 0 ⟨[(3, .dat true (.int .i64))], []⟩),
    (29, .regJ [] ⟨[(25, .dat true .bool)], []⟩),
    (57, .loopE ⟨[(39, .dat true (.int .i64))], []⟩ 2 ⟨[], []⟩)])
  (tbl := [c_adjointref9_Row fu])
  mixed (List.forall_mem_cons.2 ⟨c_adjointref9_Row_ok fu, (by intro c h; cases h)⟩) Try.func37 Try.call37 rfl rfl (by kernel_rfl) (mvs := []) (fun q => by kernel_rfl)
abbrev c_adjointref10_Takes (fu : Nat) : Con S0 := ⟨38, [.dat false (.int .i64)], [], false, [(2, .dat true (.int .i64))], [], fun q => F.adjointref10_Takes fu q⟩
theorem c_adjointref10_Takes_ok (fu : Nat) : ConOk Try.prog (c_adjointref10_Takes fu) := ConOk.of (N := 18) (fu := fu)
  (H := [(15, .join ⟨[(6, .dat true .bool)], []⟩),
    (25, .join ⟨[(9, .dat true .bool)], []⟩),
    (29, .join ⟨[(9, .dat true .bool)], []⟩),
    (33, .join ⟨[(9, .dat true .bool)], []⟩),
    (37, .join ⟨[(9, .dat true .bool)], []⟩),
    (41, .join ⟨[(9, .dat true .bool)], []⟩)])
  (tbl := [])
  mixed (by intro c h; cases h) Try.func38 Try.call38 rfl rfl (by kernel_rfl) (mvs := []) (fun q => by kernel_rfl)
abbrev c_adjointref10_access (fu : Nat) : Con S0 := ⟨39, [.dat false (.st 4), .dat false (.st 2), .dat false (.int .i64)], [], false, [(6, .dat true (.int .i64))], [], fun q => F.adjointref10_access fu q.1 q.2.1 q.2.2⟩
theorem c_adjointref10_access_ok (fu : Nat) : ConOk Try.prog (c_adjointref10_access fu) := ConOk.of (N := 22) (fu := fu)
  (H := [(4, .regJ [] ⟨[(17, .dat true .bool)], []⟩)])
  (tbl := [c_adjointref9_Row fu])
  mixed (List.forall_mem_cons.2 ⟨c_adjointref9_Row_ok fu, (by intro c h; cases h)⟩) Try.func39 Try.call39 rfl rfl (by kernel_rfl) (mvs := []) (fun q => by kernel_rfl)
abbrev c_adjointref10_Wrong (fu : Nat) : Con S0 := ⟨15, [.dat false (.st 4)], [], false, [(2, .dat true (.int .i64))], [], fun q => F.adjointref10_Wrong fu q⟩
theorem c_adjointref10_Wrong_ok (fu : Nat) : ConOk Try.prog (c_adjointref10_Wrong fu) := ConOk.of (N := 84) (fu := fu)
  (H := [(14, .loopE ⟨[(19, .dat true (.int .i64))], []⟩ 0 ⟨[], []⟩),
    (26, .regJ [] ⟨[(28, .dat true .bool)], []⟩),
    (37, .loopE ⟨[(33, .dat true (.int .i64))], []⟩ 2 ⟨[], []⟩),
    (68, .reg []),
    (87, .loopE ⟨[(68, .dat true (.int .i64))], []⟩ 4 ⟨[], []⟩)])
  (tbl := [c_adjointref9_Wrong fu, c_adjointref10_Takes fu, c_adjointref10_access fu])
  mixed (List.forall_mem_cons.2 ⟨c_adjointref9_Wrong_ok fu, List.forall_mem_cons.2 ⟨c_adjointref10_Takes_ok fu, List.forall_mem_cons.2 ⟨c_adjointref10_access_ok fu, (by intro c h; cases h)⟩⟩⟩) Try.func15 Try.call15 rfl rfl (by kernel_rfl) (mvs := []) (fun q => by kernel_rfl)
abbrev c_adjointref11_stripped (fu : Nat) : Con S0 := ⟨34, [.dat false (.st 0), .dat false (.int .i64), .dat false (.int .i64)], [], false, [(6, .dat true (.st 0))], [], fun q => F.adjointref11_stripped fu q.1 q.2.1 q.2.2⟩
theorem c_adjointref11_stripped_ok (fu : Nat) : ConOk Try.prog (c_adjointref11_stripped fu) := ConOk.of (N := 40) (fu := fu)
  (H := [(8, .loop ⟨[(16, .dat true (.int .i64))], [(7, .box 37 true [.own 420 (.int .i64), .dat true (.int .i64)]), (420, .arr 3 true true (.int .i64))]⟩ 0 ⟨[], [(7, .box 37 true [.own 420 (.int .i64), .dat true (.int .i64)]), (420, .arr 3 true true (.int .i64))]⟩),
    (22, .join ⟨[], [(420, .arr 3 true true (.int .i64)), (7, .box 37 true [.own 420 (.int .i64), .dat true (.int .i64)])]⟩)])
  (tbl := [])
  mixed (by intro c h; cases h) Try.func34 Try.call34 rfl rfl (by kernel_rfl) (mvs := []) (fun q => by kernel_rfl)
abbrev c_adjointref11_Strip (fu : Nat) : Con S0 := ⟨11, [.dat false (.st 4), .dat false (.int .i64), .dat false (.int .i64), .dat false (.int .i64)], [], false, [(8, .dat false (.st 4)), (9, .dat true (.int .i64))], [], fun q => F.adjointref11_Strip fu q.1 q.2.1 q.2.2.1 q.2.2.2⟩
theorem c_adjointref11_Strip_ok (fu : Nat) : ConOk Try.prog (c_adjointref11_Strip fu) := ConOk.of (N := 202) (fu := fu)
  (H := [(14, .regJ [] ⟨[(37, .dat true .bool)], []⟩),
    (24, .regJ [] ⟨[(53, .dat true .bool)], []⟩),
    (32, .regJ [] ⟨[(60, .dat true .bool)], []⟩),
    (39, .regJ [12] ⟨[(12, .loc 12 0)], [(12, .box 64 true [.own 420 (.int .i64), .own 422 (.st 0), .dat true (.int .i64), .dat true (.int .i64), .dat true (.int .i64), .dat true (.list (.int .i64)), .dat true (.int .i64), .own 423 (.st 2)]), (420, .arr 3 true true (.int .i64)), (422, .arr 37 true true (.st 0)), (423, .arr 61 true true (.st 2))]⟩),
    (46, .loop ⟨[(89, .dat true (.int .i64))], [(420, .arr 3 true true (.int .i64)), (13, .box 37 true [.own 421 (.int .i64), .dat true (.int .i64)]), (12, .box 64 true [.own 420 (.int .i64), .own 422 (.st 0), .dat true (.int .i64), .dat true (.int .i64), .dat true (.int .i64), .dat true (.list (.int .i64)), .dat true (.int .i64), .own 423 (.st 2)]), (421, .arr 3 true true (.int .i64))]⟩ 0 ⟨[], [(420, .arr 3 true true (.int .i64)), (13, .box 37 true [.own 421 (.int .i64), .dat true (.int .i64)]), (12, .box 64 true [.own 420 (.int .i64), .own 422 (.st 0), .dat true (.int .i64), .dat true (.int .i64), .dat true (.int .i64), .dat true (.list (.int .i64)), .dat true (.int .i64), .own 423 (.st 2)]), (421, .arr 3 true true (.int .i64))]⟩),
    (54, .join ⟨[], [(420, .arr 3 true true (.int .i64)), (421, .arr 3 true true (.int .i64)), (13, .box 37 true [.own 421 (.int .i64), .dat true (.int .i64)]), (12, .box 64 true [.own 420 (.int .i64), .own 422 (.st 0), .dat true (.int .i64), .dat true (.int .i64), .dat true (.int .i64), .dat true (.list (.int .i64)), .dat true (.int .i64), .own 423 (.st 2)])]⟩),
    (71, .loop ⟨[(16, .dat true (.int .i64))], []⟩ 2 ⟨[(16, .dat true (.int .i64))], []⟩),
    (88, .loop ⟨[(138, .dat true (.int .i64))], [(422, .arr 37 true true (.st 0)), (12, .box 64 true [.own 420 (.int .i64), .own 422 (.st 0), .dat true (.int .i64), .dat true (.int .i64), .dat true (.int .i64), .dat true (.list (.int .i64)), .dat true (.int .i64), .own 423 (.st 2)])]⟩ 4 ⟨[], [(422, .arr 37 true true (.st 0)), (12, .box 64 true [.own 420 (.int .i64), .own 422 (.st 0), .dat true (.int .i64), .dat true (.int .i64), .dat true (.int .i64), .dat true (.list (.int .i64)), .dat true (.int .i64), .own 423 (.st 2)])]⟩),
    (99, .regJ [422, 12] ⟨[], [(422, .arr 37 true true (.st 0)), (12, .box 64 true [.own 420 (.int .i64), .own 422 (.st 0), .dat true (.int .i64), .dat true (.int .i64), .dat true (.int .i64), .dat true (.list (.int .i64)), .dat true (.int .i64), .own 423 (.st 2)])]⟩),
    (107, .loop ⟨[(165, .dat true (.int .i64))], [(423, .arr 61 true true (.st 2)), (12, .box 64 true [.own 420 (.int .i64), .own 422 (.st 0), .dat true (.int .i64), .dat true (.int .i64), .dat true (.int .i64), .dat true (.list (.int .i64)), .dat true (.int .i64), .own 423 (.st 2)])]⟩ 6 ⟨[], [(423, .arr 61 true true (.st 2)), (12, .box 64 true [.own 420 (.int .i64), .own 422 (.st 0), .dat true (.int .i64), .dat true (.int .i64), .dat true (.int .i64), .dat true (.list (.int .i64)), .dat true (.int .i64), .own 423 (.st 2)])]⟩),
    (118, .regJ [423, 12] ⟨[], [(423, .arr 61 true true (.st 2)), (12, .box 64 true [.own 420 (.int .i64), .own 422 (.st 0), .dat true (.int .i64), .dat true (.int .i64), .dat true (.int .i64), .dat true (.list (.int .i64)), .dat true (.int .i64), .own 423 (.st 2)])]⟩),
    (121, .regJ [185, 21] ⟨[(21, .loc 21 0)], [(21, .box 25 true [.dat false (.list (.int .i64)), .own 185 (.st 3)]), (185, .arr 64 true false (.st 3))]⟩)])
  (tbl := [c_adjointref10_Wrong fu, c_adjointref11_stripped fu])
  mixed (List.forall_mem_cons.2 ⟨c_adjointref10_Wrong_ok fu, List.forall_mem_cons.2 ⟨c_adjointref11_stripped_ok fu, (by intro c h; cases h)⟩⟩) Try.func11 Try.call11 rfl rfl (by kernel_rfl) (mvs := []) (fun q => by kernel_rfl)
abbrev c_adjointref2_SameList (fu : Nat) : Con S0 := ⟨35, [.dat false (.list (.int .i64)), .dat false (.list (.int .i64))], [], false, [(4, .dat true .bool)], [], fun q => F.adjointref2_SameList fu q.1 q.2⟩
theorem c_adjointref2_SameList_ok (fu : Nat) : ConOk Try.prog (c_adjointref2_SameList fu) := ConOk.of (N := 26) (fu := fu)
  (H := [(14, .loopE ⟨[(13, .dat true (.int .i64))], []⟩ 0 ⟨[], []⟩),
    (26, .reg [])])
  (tbl := [])
  mixed (by intro c h; cases h) Try.func35 Try.call35 rfl rfl (by kernel_rfl) (mvs := []) (fun q => by kernel_rfl)
abbrev c_adjointref10_SameRow (fu : Nat) : Con S0 := ⟨16, [.dat false (.st 0), .dat false (.st 0)], [], false, [(4, .dat true .bool)], [], fun q => F.adjointref10_SameRow fu q.1 q.2⟩
theorem c_adjointref10_SameRow_ok (fu : Nat) : ConOk Try.prog (c_adjointref10_SameRow fu) := ConOk.of (N := 17) (fu := fu)
  (H := [(3, .regJ [] ⟨[(4, .dat true .bool)], []⟩)])
  (tbl := [c_adjointref2_SameList fu])
  mixed (List.forall_mem_cons.2 ⟨c_adjointref2_SameList_ok fu, (by intro c h; cases h)⟩) Try.func16 Try.call16 rfl rfl (by kernel_rfl) (mvs := []) (fun q => by kernel_rfl)
abbrev c_adjointref10_sameAccess (fu : Nat) : Con S0 := ⟨71, [.dat false (.st 2), .dat false (.st 2)], [], false, [(4, .dat true .bool)], [], fun q => F.adjointref10_sameAccess fu q.1 q.2⟩
theorem c_adjointref10_sameAccess_ok (fu : Nat) : ConOk Try.prog (c_adjointref10_sameAccess fu) := ConOk.of (N := 17) (fu := fu)
  (H := [(3, .regJ [] ⟨[(4, .dat true .bool)], []⟩)])
  (tbl := [c_adjointref10_SameRow fu])
  mixed (List.forall_mem_cons.2 ⟨c_adjointref10_SameRow_ok fu, (by intro c h; cases h)⟩) Try.func71 Try.call71 rfl rfl (by kernel_rfl) (mvs := []) (fun q => by kernel_rfl)
abbrev c_adjointref10_SameStmt (fu : Nat) : Con S0 := ⟨36, [.dat false (.st 3), .dat false (.st 3)], [], false, [(4, .dat true .bool)], [], fun q => F.adjointref10_SameStmt fu q.1 q.2⟩
theorem c_adjointref10_SameStmt_ok (fu : Nat) : ConOk Try.prog (c_adjointref10_SameStmt fu) := ConOk.of (N := 98) (fu := fu)
  (H := [(4, .regJ [] ⟨[(56, .dat true .bool)], []⟩),
    (14, .loopE ⟨[(61, .dat true (.int .i64))], []⟩ 0 ⟨[], []⟩),
    (26, .reg []),
    (37, .loopE ⟨[(82, .dat true (.int .i64))], []⟩ 2 ⟨[], []⟩),
    (49, .reg [])])
  (tbl := [c_adjointref2_SameList fu, c_adjointref10_sameAccess fu, c_adjointref10_SameRow fu])
  mixed (List.forall_mem_cons.2 ⟨c_adjointref2_SameList_ok fu, List.forall_mem_cons.2 ⟨c_adjointref10_sameAccess_ok fu, List.forall_mem_cons.2 ⟨c_adjointref10_SameRow_ok fu, (by intro c h; cases h)⟩⟩⟩) Try.func36 Try.call36 rfl rfl (by kernel_rfl) (mvs := []) (fun q => by kernel_rfl)
abbrev c_adjointref10_SameNest (fu : Nat) : Con S0 := ⟨12, [.dat false (.st 4), .dat false (.st 4)], [], false, [(4, .dat true .bool)], [], fun q => F.adjointref10_SameNest fu q.1 q.2⟩
theorem c_adjointref10_SameNest_ok (fu : Nat) : ConOk Try.prog (c_adjointref10_SameNest fu) := ConOk.of (N := 40) (fu := fu)
  (H := [(4, .regJ [] ⟨[(20, .dat true .bool)], []⟩),
    (14, .loopE ⟨[(24, .dat true (.int .i64))], []⟩ 0 ⟨[], []⟩),
    (26, .reg [])])
  (tbl := [c_adjointref2_SameList fu, c_adjointref10_SameStmt fu])
  mixed (List.forall_mem_cons.2 ⟨c_adjointref2_SameList_ok fu, List.forall_mem_cons.2 ⟨c_adjointref10_SameStmt_ok fu, (by intro c h; cases h)⟩⟩) Try.func12 Try.call12 rfl rfl (by kernel_rfl) (mvs := []) (fun q => by kernel_rfl)
abbrev c_order_Plain (fu : Nat) : Con S0 := ⟨13, [.dat false (.st 4)], [], false, [(2, .dat true (.list (.list (.st 0))))], [], fun q => F.order_Plain fu q⟩
theorem c_order_Plain_ok (fu : Nat) : ConOk Try.prog (c_order_Plain fu) := ConOk.of (N := 49) (fu := fu)
  (H := [(8, .loop ⟨[(3, .own 3 (.list (.st 0))), (13, .dat true (.int .i64))], [(3, .arr 34 true true (.list (.st 0)))]⟩ 0 ⟨[(3, .own 3 (.list (.st 0)))], [(3, .arr 34 true true (.list (.st 0)))]⟩),
    (27, .loop ⟨[(7, .own 26 (.st 0)), (28, .dat true (.int .i64))], [(26, .arr 37 true true (.st 0))]⟩ 2 ⟨[(7, .own 26 (.st 0))], [(26, .arr 37 true true (.st 0))]⟩)])
  (tbl := [])
  mixed (by intro c h; cases h) Try.func13 Try.call13 rfl rfl (by kernel_rfl) (mvs := []) (fun q => by kernel_rfl)
abbrev c_adjointref11_Plain (fu : Nat) : Con S0 := ⟨14, [.dat false (.st 4)], [], false, [(2, .dat true (.list (.list (.st 0))))], [], fun q => F.adjointref11_Plain fu q⟩
theorem c_adjointref11_Plain_ok (fu : Nat) : ConOk Try.prog (c_adjointref11_Plain fu) := ConOk.of (N := 49) (fu := fu)
  (H := [(8, .loop ⟨[(3, .own 3 (.list (.st 0))), (12, .dat true (.int .i64))], [(3, .arr 34 true true (.list (.st 0)))]⟩ 0 ⟨[(3, .own 3 (.list (.st 0)))], [(3, .arr 34 true true (.list (.st 0)))]⟩),
    (25, .loop ⟨[(6, .own 6 (.st 0)), (7, .dat true (.int .i64))], [(6, .arr 37 true true (.st 0))]⟩ 2 ⟨[(6, .own 6 (.st 0))], [(6, .arr 37 true true (.st 0))]⟩),
    (39, .join ⟨[], [(8, .box 37 true [.own 29 (.int .i64), .dat true (.int .i64)]), (29, .arr 3 true true (.int .i64))]⟩)])
  (tbl := [])
  mixed (by intro c h; cases h) Try.func14 Try.call14 rfl rfl (by kernel_rfl) (mvs := []) (fun q => by kernel_rfl)
abbrev c_adjointlaw11_OrderStrips (fu : Nat) : Con S0 := ⟨3, [.dat false (.st 4), .dat false (.int .i64), .dat false (.int .i64), .dat false (.int .i64)], [], false, [(8, .dat true .bool)], [], fun q => F.adjointlaw11_OrderStrips fu q.1 q.2.1 q.2.2.1 q.2.2.2⟩
theorem c_adjointlaw11_OrderStrips_ok (fu : Nat) : ConOk Try.prog (c_adjointlaw11_OrderStrips fu) := ConOk.of (N := 96) (fu := fu)
  (H := [(8, .regJ [] ⟨[(41, .dat true .bool)], []⟩),
    (15, .reg []),
    (36, .loopE ⟨[(56, .dat true (.int .i64))], []⟩ 0 ⟨[], []⟩),
    (49, .reg []),
    (58, .loopE ⟨[(75, .dat true (.int .i64))], []⟩ 2 ⟨[], []⟩),
    (70, .reg [])])
  (tbl := [c_order_Strip fu, c_adjointref11_Strip fu, c_adjointref10_SameNest fu, c_order_Plain fu, c_adjointref11_Plain fu, c_adjointref10_Wrong fu, c_adjointref10_SameRow fu])
  mixed (List.forall_mem_cons.2 ⟨c_order_Strip_ok fu, List.forall_mem_cons.2 ⟨c_adjointref11_Strip_ok fu, List.forall_mem_cons.2 ⟨c_adjointref10_SameNest_ok fu, List.forall_mem_cons.2 ⟨c_order_Plain_ok fu, List.forall_mem_cons.2 ⟨c_adjointref11_Plain_ok fu, List.forall_mem_cons.2 ⟨c_adjointref10_Wrong_ok fu, List.forall_mem_cons.2 ⟨c_adjointref10_SameRow_ok fu, (by intro c h; cases h)⟩⟩⟩⟩⟩⟩⟩) Try.func3 Try.call3 rfl rfl (by kernel_rfl) (mvs := []) (fun q => by kernel_rfl)
end
end Go.DN
