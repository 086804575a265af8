/-
  Each function does what its Lean function says.
-/
import Derived.Test.YtcbaolgciiieeaaGreatAnF
import Derived.Test.YtcbaolgciiieeaaGreatProg
import Derived.Test.YtcbaolgciiieeaaGreatCcW
import Derived.KernelRfl
set_option maxRecDepth 20000
set_option linter.unusedVariables false
set_option linter.unusedSectionVars false
set_option linter.unusedSimpArgs false
namespace Go.DN
open Go.AM
open Go.Proofs
noncomputable section
theorem mixed : Tryz.prog.follows .mixedOrders = true := by kernel_rfl
abbrev c_array_many (fu : Nat) : Con S0 := ⟨15, [.dat false (.int .i64)], [], false, [(2, .dat true (.int .i64))], [], fun q => F.array_many fu q⟩
theorem c_array_many_ok (fu : Nat) : ConOk Tryz.prog (c_array_many fu) := ConOk.of (N := 27) (fu := fu)
 (H := [(15, .join ⟨[(6, .dat true .bool)], []⟩),
  (19, .join ⟨[(6, .dat true .bool)], []⟩),
  (23, .join ⟨[(6, .dat true .bool)], []⟩),
  (27, .join ⟨[(6, .dat true .bool)], []⟩),
  (31, .join ⟨[(6, .dat true .bool)], []⟩),
  (35, .join ⟨[(6, .dat true .bool)], []⟩),
  (45, .join ⟨[(14, .dat true .bool)], []⟩),
  (49, .join ⟨[(14, .dat true .bool)], []⟩),
  (53, .join ⟨[(14, .dat true .bool)], []⟩),
  (57, .join ⟨[(14, .dat true .bool)], []⟩),
  (61, .join ⟨[(14, .dat true .bool)], []⟩),
  (65, .join ⟨[(14, .dat true .bool)], []⟩),
  (69, .join ⟨[(14, .dat true .bool)], []⟩)])
 (tbl := [])
 mixed (by intro c h; cases h) Tryz.func15 Tryz.call15 rfl rfl (by kernel_rfl) (mvs := []) (ns := []) (fun q => by kernel_rfl)
abbrev c_view_Size_1 (fu : Nat) : Con S0 := ⟨35, [.dat false (.int .i64)], [], false, [(2, .dat true .bool)], [], fun q => F.view_Size_1 fu q⟩
theorem c_view_Size_1_ok (fu : Nat) : ConOk Tryz.prog (c_view_Size_1 fu) := ConOk.of (N := 9) (fu := fu)
 (H := [(3, .regJ [] ⟨[(2, .dat true .bool)], []⟩)])
 (tbl := [])
 mixed (by intro c h; cases h) Tryz.func35 Tryz.call35 rfl rfl (by kernel_rfl) (mvs := []) (ns := []) (fun q => by kernel_rfl)
abbrev c_slices_IndexFunc (fu : Nat) : Con S0 := ⟨71, [.dat false (.list (.int .i64)), .clo 35 []], [], false, [(4, .dat true (.int .i64))], [], fun q => F.slices_IndexFunc fu q⟩
theorem c_slices_IndexFunc_ok (fu : Nat) : ConOk Tryz.prog (c_slices_IndexFunc fu) := ConOk.of (N := 19) (fu := fu)
 (H := [(6, .loopE ⟨[(8, .dat true (.int .i64))], []⟩ 0 ⟨[], []⟩)])
 (tbl := [c_view_Size_1 fu])
 mixed (List.forall_mem_cons.2 ⟨c_view_Size_1_ok fu, (by intro c h; cases h)⟩) Tryz.func71 Tryz.call71 rfl rfl (by kernel_rfl) (mvs := []) (ns := []) (fun q => by kernel_rfl)
abbrev c_slices_ContainsFunc (fu : Nat) : Con S0 := ⟨34, [.dat false (.list (.int .i64)), .clo 35 []], [], false, [(4, .dat true .bool)], [], fun q => F.slices_ContainsFunc fu q⟩
theorem c_slices_ContainsFunc_ok (fu : Nat) : ConOk Tryz.prog (c_slices_ContainsFunc fu) := ConOk.of (N := 9) (fu := fu)
 (H := [])
 (tbl := [c_slices_IndexFunc fu])
 mixed (List.forall_mem_cons.2 ⟨c_slices_IndexFunc_ok fu, (by intro c h; cases h)⟩) Tryz.func34 Tryz.call34 rfl rfl (by kernel_rfl) (mvs := []) (ns := []) (fun q => by kernel_rfl)
abbrev c_slices_Index (fu : Nat) : Con S0 := ⟨72, [.dat false (.list (.int .i64)), .dat false (.int .i64)], [], false, [(4, .dat true (.int .i64))], [], fun q => F.slices_Index fu q.1 q.2⟩
theorem c_slices_Index_ok (fu : Nat) : ConOk Tryz.prog (c_slices_Index fu) := ConOk.of (N := 19) (fu := fu)
 (H := [(6, .loopE ⟨[(8, .dat true (.int .i64))], []⟩ 0 ⟨[], []⟩)])
 (tbl := [])
 mixed (by intro c h; cases h) Tryz.func72 Tryz.call72 rfl rfl (by kernel_rfl) (mvs := []) (ns := []) (fun q => by kernel_rfl)
abbrev c_slices_Contains (fu : Nat) : Con S0 := ⟨36, [.dat false (.list (.int .i64)), .dat false (.int .i64)], [], false, [(4, .dat true .bool)], [], fun q => F.slices_Contains fu q.1 q.2⟩
theorem c_slices_Contains_ok (fu : Nat) : ConOk Tryz.prog (c_slices_Contains fu) := ConOk.of (N := 9) (fu := fu)
 (H := [])
 (tbl := [c_slices_Index fu])
 mixed (List.forall_mem_cons.2 ⟨c_slices_Index_ok fu, (by intro c h; cases h)⟩) Tryz.func36 Tryz.call36 rfl rfl (by kernel_rfl) (mvs := []) (ns := []) (fun q => by kernel_rfl)
abbrev c_view_Size (fu : Nat) : Con S0 := ⟨18, [.dat false (.list (.int .i64))], [], false, [(2, .dat true (.int .i64)), (3, .dat true (.int .i64))], [], fun q => F.view_Size fu q⟩
theorem c_view_Size_ok (fu : Nat) : ConOk Tryz.prog (c_view_Size fu) := ConOk.of (N := 32) (fu := fu)
 (H := [(24, .loopE ⟨[(4, .dat true (.int .i64)), (14, .dat true (.int .i64))], []⟩ 0 ⟨[(4, .dat true (.int .i64))], []⟩),
  (39, .regJ [] ⟨[(27, .dat true .bool)], []⟩)])
 (tbl := [c_slices_ContainsFunc fu, c_slices_Contains fu])
 mixed (List.forall_mem_cons.2 ⟨c_slices_ContainsFunc_ok fu, List.forall_mem_cons.2 ⟨c_slices_Contains_ok fu, (by intro c h; cases h)⟩⟩) Tryz.func18 Tryz.call18 rfl rfl (by kernel_rfl) (mvs := []) (ns := []) (fun q => by kernel_rfl)
abbrev c_array_fits (fu : Nat) : Con S0 := ⟨26, [.dat false (.st 0), .dat false (.list (.list (.int .i64)))], [], false, [(4, .dat true (.int .i64))], [], fun q => F.array_fits fu q.1 q.2⟩
theorem c_array_fits_ok (fu : Nat) : ConOk Tryz.prog (c_array_fits fu) := ConOk.of (N := 47) (fu := fu)
 (H := [(14, .regJ [] ⟨[(31, .dat true .bool)], []⟩),
  (24, .loopE ⟨[(34, .dat true (.int .i64))], []⟩ 0 ⟨[], []⟩)])
 (tbl := [c_array_many fu, c_view_Size fu])
 mixed (List.forall_mem_cons.2 ⟨c_array_many_ok fu, List.forall_mem_cons.2 ⟨c_view_Size_ok fu, (by intro c h; cases h)⟩⟩) Tryz.func26 Tryz.call26 rfl rfl (by kernel_rfl) (mvs := []) (ns := []) (fun q => by kernel_rfl)
abbrev c_slices_Clone (fu : Nat) : Con S0 := ⟨27, [.dat false (.list (.int .i64))], [], false, [(2, .own 5 (.int .i64))], [(5, .arr 3 true true (.int .i64))], fun q => F.slices_Clone fu q⟩
theorem c_slices_Clone_ok (fu : Nat) : ConOk Tryz.prog (c_slices_Clone fu) := ConOk.of (N := 8) (fu := fu)
 (H := [])
 (tbl := [])
 mixed (by intro c h; cases h) Tryz.func27 Tryz.call27 rfl rfl (by kernel_rfl) (mvs := []) (ns := []) (fun q => by kernel_rfl)
abbrev c_slices_Equal (fu : Nat) : Con S0 := ⟨25, [.dat false (.list (.int .i64)), .dat false (.list (.int .i64))], [], false, [(4, .dat true .bool)], [], fun q => F.slices_Equal fu q.1 q.2⟩
theorem c_slices_Equal_ok (fu : Nat) : ConOk Tryz.prog (c_slices_Equal fu) := ConOk.of (N := 26) (fu := fu)
 (H := [(14, .loopE ⟨[(13, .dat true (.int .i64))], []⟩ 0 ⟨[], []⟩),
  (26, .reg [])])
 (tbl := [])
 mixed (by intro c h; cases h) Tryz.func25 Tryz.call25 rfl rfl (by kernel_rfl) (mvs := []) (ns := []) (fun q => by kernel_rfl)
abbrev c_cmp_isNaN (fu : Nat) : Con S0 := ⟨110, [.dat false (.int .i64)], [], false, [(2, .dat true .bool)], [], fun q => F.cmp_isNaN fu q⟩
theorem c_cmp_isNaN_ok (fu : Nat) : ConOk Tryz.prog (c_cmp_isNaN fu) := ConOk.of (N := 6) (fu := fu)
 (H := [])
 (tbl := [])
 mixed (by intro c h; cases h) Tryz.func110 Tryz.call110 rfl rfl (by kernel_rfl) (mvs := []) (ns := []) (fun q => by kernel_rfl)
abbrev c_cmp_Less (fu : Nat) : Con S0 := ⟨102, [.dat false (.int .i64), .dat false (.int .i64)], [], false, [(4, .dat true .bool)], [], fun q => F.cmp_Less fu q.1 q.2⟩
theorem c_cmp_Less_ok (fu : Nat) : ConOk Tryz.prog (c_cmp_Less fu) := ConOk.of (N := 17) (fu := fu)
 (H := [(3, .regJ [] ⟨[(4, .dat true .bool)], []⟩)])
 (tbl := [c_cmp_isNaN fu])
 mixed (List.forall_mem_cons.2 ⟨c_cmp_isNaN_ok fu, (by intro c h; cases h)⟩) Tryz.func102 Tryz.call102 rfl rfl (by kernel_rfl) (mvs := []) (ns := []) (fun q => by kernel_rfl)
abbrev c_slices_IsSorted (fu : Nat) : Con S0 := ⟨87, [.dat false (.list (.int .i64))], [], false, [(2, .dat true .bool)], [], fun q => F.slices_IsSorted fu q⟩
theorem c_slices_IsSorted_ok (fu : Nat) : ConOk Tryz.prog (c_slices_IsSorted fu) := ConOk.of (N := 21) (fu := fu)
 (H := [(6, .loopE ⟨[(3, .dat true (.int .i64))], []⟩ 0 ⟨[], []⟩),
  (16, .reg [])])
 (tbl := [c_cmp_Less fu])
 mixed (List.forall_mem_cons.2 ⟨c_cmp_Less_ok fu, (by intro c h; cases h)⟩) Tryz.func87 Tryz.call87 rfl rfl (by kernel_rfl) (mvs := []) (ns := []) (fun q => by kernel_rfl)
abbrev c_array_distinct (fu : Nat) : Con S0 := ⟨61, [.dat false (.list (.int .i64)), .dat false (.int .i64)], [], false, [(4, .dat true .bool)], [], fun q => F.array_distinct fu q.1 q.2⟩
theorem c_array_distinct_ok (fu : Nat) : ConOk Tryz.prog (c_array_distinct fu) := ConOk.of (N := 33) (fu := fu)
 (H := [(8, .loopE ⟨[(12, .dat true (.int .i64)), (5, .own 9 .bool)], [(9, .arr 4 true true .bool)]⟩ 0 ⟨[], [(9, .arr 4 true true .bool)]⟩),
  (21, .regJ [] ⟨[(28, .dat true .bool)], []⟩)])
 (tbl := [])
 mixed (by intro c h; cases h) Tryz.func61 Tryz.call61 rfl rfl (by kernel_rfl) (mvs := []) (ns := []) (fun q => by kernel_rfl)
abbrev c_array_rising (fu : Nat) : Con S0 := ⟨59, [.dat false (.list (.int .i64)), .dat false (.int .i64)], [], false, [(4, .dat true .bool)], [], fun q => F.array_rising fu q.1 q.2⟩
theorem c_array_rising_ok (fu : Nat) : ConOk Tryz.prog (c_array_rising fu) := ConOk.of (N := 12) (fu := fu)
 (H := [(3, .regJ [] ⟨[(4, .dat true .bool)], []⟩)])
 (tbl := [c_slices_IsSorted fu, c_array_distinct fu])
 mixed (List.forall_mem_cons.2 ⟨c_slices_IsSorted_ok fu, List.forall_mem_cons.2 ⟨c_array_distinct_ok fu, (by intro c h; cases h)⟩⟩) Tryz.func59 Tryz.call59 rfl rfl (by kernel_rfl) (mvs := []) (ns := []) (fun q => by kernel_rfl)
abbrev c_array_summed (fu : Nat) : Con S0 := ⟨28, [.dat false (.list (.int .i64)), .dat false (.list (.int .i64))], [], false, [(4, .dat true (.list (.int .i64))), (5, .dat true (.int .i64))], [], fun q => F.array_summed fu q.1 q.2⟩
theorem c_array_summed_ok (fu : Nat) : ConOk Tryz.prog (c_array_summed fu) := ConOk.of (N := 31) (fu := fu)
 (H := [(16, .loop ⟨[(6, .own 6 (.int .i64)), (16, .dat true (.int .i64))], [(6, .arr 3 true true (.int .i64))]⟩ 0 ⟨[(6, .own 6 (.int .i64))], [(6, .arr 3 true true (.int .i64))]⟩),
  (29, .join ⟨[(6, .own 6 (.int .i64))], [(6, .arr 3 true true (.int .i64))]⟩)])
 (tbl := [c_array_rising fu, c_slices_Contains fu])
 mixed (List.forall_mem_cons.2 ⟨c_array_rising_ok fu, List.forall_mem_cons.2 ⟨c_slices_Contains_ok fu, (by intro c h; cases h)⟩⟩) Tryz.func28 Tryz.call28 rfl rfl (by kernel_rfl) (mvs := []) (ns := []) (fun q => by kernel_rfl)
abbrev c_array_padded_1 (fu : Nat) : Con S0 := ⟨60, [.dat false (.int .i64), .dat false (.int .i64)], [], false, [(4, .dat true .bool)], [], fun q => F.array_padded_1 fu q.1 q.2⟩
theorem c_array_padded_1_ok (fu : Nat) : ConOk Tryz.prog (c_array_padded_1 fu) := ConOk.of (N := 12) (fu := fu)
 (H := [(3, .regJ [] ⟨[(4, .dat true .bool)], []⟩)])
 (tbl := [])
 mixed (by intro c h; cases h) Tryz.func60 Tryz.call60 rfl rfl (by kernel_rfl) (mvs := []) (ns := []) (fun q => by kernel_rfl)
abbrev c_array_padded (fu : Nat) : Con S0 := ⟨29, [.dat false (.st 0), .dat false (.list (.int .i64))], [], false, [(4, .dat true (.list (.int .i64))), (5, .dat true (.int .i64))], [], fun q => F.array_padded fu q.1 q.2⟩
theorem c_array_padded_ok (fu : Nat) : ConOk Tryz.prog (c_array_padded fu) := ConOk.of (N := 102) (fu := fu)
 (H := [(6, .regJ [] ⟨[(30, .dat true .bool)], []⟩),
  (20, .loopE ⟨[(35, .dat true (.int .i64)), (8, .own 32 (.int .i64))], [(32, .arr 3 true true (.int .i64))]⟩ 0 ⟨[(8, .own 32 (.int .i64))], [(32, .arr 3 true true (.int .i64))]⟩),
  (33, .regJ [] ⟨[(62, .dat true .bool)], []⟩),
  (40, .reg [32]),
  (43, .join ⟨[(8, .own 32 (.int .i64))], [(32, .arr 3 true true (.int .i64))]⟩),
  (44, .reg [32])])
 (tbl := [c_array_padded_1 fu])
 mixed (List.forall_mem_cons.2 ⟨c_array_padded_1_ok fu, (by intro c h; cases h)⟩) Tryz.func29 Tryz.call29 rfl rfl (by kernel_rfl) (mvs := []) (ns := []) (fun q => by kernel_rfl)
abbrev c_slices_Concat (fu : Nat) : Con S0 := ⟨32, [.dat false (.list (.list (.int .i64)))], [], false, [(0, .dat true (.list (.int .i64)))], [], fun q => Go.Proofs.YtcbaolgciiieeaaGreat.F.slices_Concat fu q⟩
theorem c_slices_Concat_ok (fu : Nat) : ConOk Tryz.prog (c_slices_Concat fu) := ⟨Tryz.call32, fun q r h => Go.Proofs.YtcbaolgciiieeaaGreat.slices_Concat_ok fu q r h⟩
abbrev c_array_pair_1_3 (fu : Nat) : Con S0 := ⟨62, [.loc 1000 3, .dat false (.int .i64)], [.box 60 false [.dat false (.list (.int .i64)), .dat false (.list (.int .i64)), .own 1001 (.int .i64), .dat false (.int .i64), .dat false (.int .i64), .dat false (.int .i64), .dat false (.int .i64)], .arr 3 false false (.int .i64)], false, [], [(1000, .box 60 false [.dat false (.list (.int .i64)), .dat false (.list (.int .i64)), .own 1001 (.int .i64), .dat true (.int .i64), .dat true (.int .i64), .dat true (.int .i64), .dat true (.int .i64)]), (1001, .arr 3 false true (.int .i64))], fun q => F.array_pair_1_3 fu q.1 q.2.1 q.2.2.1 q.2.2.2.1 q.2.2.2.2.1 q.2.2.2.2.2.1 q.2.2.2.2.2.2.1 q.2.2.2.2.2.2.2⟩
theorem c_array_pair_1_3_ok (fu : Nat) : ConOk Tryz.prog (c_array_pair_1_3 fu) := ConOk.of (N := 12) (fu := fu)
 (H := [])
 (tbl := [])
 mixed (by intro c h; cases h) Tryz.func62 Tryz.call62 rfl rfl (by kernel_rfl) (mvs := []) (ns := []) (fun q => by kernel_rfl)
abbrev c_array_pair_1_6 (fu : Nat) : Con S0 := ⟨62, [.loc 1000 4, .dat false (.int .i64)], [.box 60 false [.dat false (.list (.int .i64)), .dat false (.list (.int .i64)), .own 1001 (.int .i64), .dat false (.int .i64), .dat false (.int .i64), .dat false (.int .i64), .dat false (.int .i64)], .arr 3 false false (.int .i64)], false, [], [(1000, .box 60 false [.dat false (.list (.int .i64)), .dat false (.list (.int .i64)), .own 1001 (.int .i64), .dat true (.int .i64), .dat true (.int .i64), .dat true (.int .i64), .dat true (.int .i64)]), (1001, .arr 3 false true (.int .i64))], fun q => F.array_pair_1_6 fu q.1 q.2.1 q.2.2.1 q.2.2.2.1 q.2.2.2.2.1 q.2.2.2.2.2.1 q.2.2.2.2.2.2.1 q.2.2.2.2.2.2.2⟩
theorem c_array_pair_1_6_ok (fu : Nat) : ConOk Tryz.prog (c_array_pair_1_6 fu) := ConOk.of (N := 12) (fu := fu)
 (H := [])
 (tbl := [])
 mixed (by intro c h; cases h) Tryz.func62 Tryz.call62 rfl rfl (by kernel_rfl) (mvs := []) (ns := []) (fun q => by kernel_rfl)
abbrev c_array_pair_2 (fu : Nat) : Con S0 := ⟨63, [.dat false (.list (.int .i64)), .dat false (.list (.int .i64)), .loc 1000 4, .loc 1000 0, .loc 1001 0], [.box 60 false [.dat false (.list (.int .i64)), .dat false (.list (.int .i64)), .own 1002 (.int .i64), .dat false (.int .i64), .dat false (.int .i64), .dat false (.int .i64), .dat false (.int .i64)], .box 92 false [.clo 62 []], .arr 3 false false (.int .i64)], false, [(8, .dat true (.list (.int .i64)))], [(1000, .box 60 false [.dat false (.list (.int .i64)), .dat false (.list (.int .i64)), .own 482 (.int .i64), .dat true (.int .i64), .dat true (.int .i64), .dat true (.int .i64), .dat true (.int .i64)]), (1001, .box 92 false [.clo 62 []]), (482, .arr 3 false true (.int .i64))], fun q => F.array_pair_2 fu q.1 q.2.1 q.2.2.1 q.2.2.2.1 q.2.2.2.2.1 q.2.2.2.2.2.1 q.2.2.2.2.2.2.1 q.2.2.2.2.2.2.2.1 q.2.2.2.2.2.2.2.2⟩
theorem c_array_pair_2_ok (fu : Nat) : ConOk Tryz.prog (c_array_pair_2 fu) := ConOk.of (N := 39) (fu := fu)
 (H := [(8, .loop ⟨[(9, .own 9 (.int .i64)), (14, .dat true (.int .i64))], [(482, .arr 3 false true (.int .i64)), (1000, .box 60 false [.dat false (.list (.int .i64)), .dat false (.list (.int .i64)), .own 482 (.int .i64), .dat true (.int .i64), .dat true (.int .i64), .dat true (.int .i64), .dat true (.int .i64)]), (9, .arr 3 true true (.int .i64))]⟩ 0 ⟨[(9, .own 9 (.int .i64))], [(482, .arr 3 false true (.int .i64)), (1000, .box 60 false [.dat false (.list (.int .i64)), .dat false (.list (.int .i64)), .own 482 (.int .i64), .dat true (.int .i64), .dat true (.int .i64), .dat true (.int .i64), .dat true (.int .i64)]), (9, .arr 3 true true (.int .i64))]⟩),
  (21, .join ⟨[(9, .own 9 (.int .i64))], [(482, .arr 3 false true (.int .i64)), (1000, .box 60 false [.dat false (.list (.int .i64)), .dat false (.list (.int .i64)), .own 482 (.int .i64), .dat true (.int .i64), .dat true (.int .i64), .dat true (.int .i64), .dat true (.int .i64)]), (9, .arr 3 true true (.int .i64))]⟩)])
 (tbl := [c_array_pair_1_6 fu, c_slices_Contains fu])
 mixed (List.forall_mem_cons.2 ⟨c_array_pair_1_6_ok fu, List.forall_mem_cons.2 ⟨c_slices_Contains_ok fu, (by intro c h; cases h)⟩⟩) Tryz.func63 Tryz.call63 rfl rfl (by kernel_rfl) (mvs := [1002]) (ns := []) (fun q => by kernel_rfl)
abbrev c_array_pair_1_9 (fu : Nat) : Con S0 := ⟨62, [.loc 1000 5, .dat false (.int .i64)], [.box 60 false [.dat false (.list (.int .i64)), .dat false (.list (.int .i64)), .own 1001 (.int .i64), .dat false (.int .i64), .dat false (.int .i64), .dat false (.int .i64), .dat false (.int .i64)], .arr 3 false false (.int .i64)], false, [], [(1000, .box 60 false [.dat false (.list (.int .i64)), .dat false (.list (.int .i64)), .own 1001 (.int .i64), .dat true (.int .i64), .dat true (.int .i64), .dat true (.int .i64), .dat true (.int .i64)]), (1001, .arr 3 false true (.int .i64))], fun q => F.array_pair_1_9 fu q.1 q.2.1 q.2.2.1 q.2.2.2.1 q.2.2.2.2.1 q.2.2.2.2.2.1 q.2.2.2.2.2.2.1 q.2.2.2.2.2.2.2⟩
theorem c_array_pair_1_9_ok (fu : Nat) : ConOk Tryz.prog (c_array_pair_1_9 fu) := ConOk.of (N := 12) (fu := fu)
 (H := [])
 (tbl := [])
 mixed (by intro c h; cases h) Tryz.func62 Tryz.call62 rfl rfl (by kernel_rfl) (mvs := []) (ns := []) (fun q => by kernel_rfl)
abbrev c_array_pair_2_2 (fu : Nat) : Con S0 := ⟨63, [.dat false (.list (.int .i64)), .dat false (.list (.int .i64)), .loc 1000 5, .loc 1000 0, .loc 1001 0], [.box 60 false [.dat false (.list (.int .i64)), .dat false (.list (.int .i64)), .own 1002 (.int .i64), .dat false (.int .i64), .dat false (.int .i64), .dat false (.int .i64), .dat false (.int .i64)], .box 92 false [.clo 62 []], .arr 3 false false (.int .i64)], false, [(8, .dat true (.list (.int .i64)))], [(1000, .box 60 false [.dat false (.list (.int .i64)), .dat false (.list (.int .i64)), .own 482 (.int .i64), .dat true (.int .i64), .dat true (.int .i64), .dat true (.int .i64), .dat true (.int .i64)]), (1001, .box 92 false [.clo 62 []]), (482, .arr 3 false true (.int .i64))], fun q => F.array_pair_2_2 fu q.1 q.2.1 q.2.2.1 q.2.2.2.1 q.2.2.2.2.1 q.2.2.2.2.2.1 q.2.2.2.2.2.2.1 q.2.2.2.2.2.2.2.1 q.2.2.2.2.2.2.2.2⟩
theorem c_array_pair_2_2_ok (fu : Nat) : ConOk Tryz.prog (c_array_pair_2_2 fu) := ConOk.of (N := 39) (fu := fu)
 (H := [(8, .loop ⟨[(9, .own 9 (.int .i64)), (14, .dat true (.int .i64))], [(482, .arr 3 false true (.int .i64)), (1000, .box 60 false [.dat false (.list (.int .i64)), .dat false (.list (.int .i64)), .own 482 (.int .i64), .dat true (.int .i64), .dat true (.int .i64), .dat true (.int .i64), .dat true (.int .i64)]), (9, .arr 3 true true (.int .i64))]⟩ 0 ⟨[(9, .own 9 (.int .i64))], [(482, .arr 3 false true (.int .i64)), (1000, .box 60 false [.dat false (.list (.int .i64)), .dat false (.list (.int .i64)), .own 482 (.int .i64), .dat true (.int .i64), .dat true (.int .i64), .dat true (.int .i64), .dat true (.int .i64)]), (9, .arr 3 true true (.int .i64))]⟩),
  (21, .join ⟨[(9, .own 9 (.int .i64))], [(482, .arr 3 false true (.int .i64)), (1000, .box 60 false [.dat false (.list (.int .i64)), .dat false (.list (.int .i64)), .own 482 (.int .i64), .dat true (.int .i64), .dat true (.int .i64), .dat true (.int .i64), .dat true (.int .i64)]), (9, .arr 3 true true (.int .i64))]⟩)])
 (tbl := [c_array_pair_1_9 fu, c_slices_Contains fu])
 mixed (List.forall_mem_cons.2 ⟨c_array_pair_1_9_ok fu, List.forall_mem_cons.2 ⟨c_slices_Contains_ok fu, (by intro c h; cases h)⟩⟩) Tryz.func63 Tryz.call63 rfl rfl (by kernel_rfl) (mvs := [1002]) (ns := []) (fun q => by kernel_rfl)
abbrev c_array_pair_1_12 (fu : Nat) : Con S0 := ⟨62, [.loc 1000 6, .dat false (.int .i64)], [.box 60 false [.dat false (.list (.int .i64)), .dat false (.list (.int .i64)), .own 1001 (.int .i64), .dat false (.int .i64), .dat false (.int .i64), .dat false (.int .i64), .dat false (.int .i64)], .arr 3 false false (.int .i64)], false, [], [(1000, .box 60 false [.dat false (.list (.int .i64)), .dat false (.list (.int .i64)), .own 1001 (.int .i64), .dat true (.int .i64), .dat true (.int .i64), .dat true (.int .i64), .dat true (.int .i64)]), (1001, .arr 3 false true (.int .i64))], fun q => F.array_pair_1_12 fu q.1 q.2.1 q.2.2.1 q.2.2.2.1 q.2.2.2.2.1 q.2.2.2.2.2.1 q.2.2.2.2.2.2.1 q.2.2.2.2.2.2.2⟩
theorem c_array_pair_1_12_ok (fu : Nat) : ConOk Tryz.prog (c_array_pair_1_12 fu) := ConOk.of (N := 12) (fu := fu)
 (H := [])
 (tbl := [])
 mixed (by intro c h; cases h) Tryz.func62 Tryz.call62 rfl rfl (by kernel_rfl) (mvs := []) (ns := []) (fun q => by kernel_rfl)
abbrev c_array_pair (fu : Nat) : Con S0 := ⟨30, [.dat false (.st 0), .dat false (.list (.int .i64)), .dat false (.list (.int .i64))], [], false, [(6, .dat true (.st 1)), (7, .dat true (.int .i64))], [], fun q => F.array_pair fu q.1 q.2.1 q.2.2⟩
theorem c_array_pair_ok (fu : Nat) : ConOk Tryz.prog (c_array_pair fu) := ConOk.of (N := 153) (fu := fu)
 (H := [(3, .regJ [] ⟨[(8, .dat true (.list (.int .i64))), (9, .dat true (.list (.int .i64)))], []⟩),
  (6, .regJ [] ⟨[(61, .dat true .bool)], []⟩),
  (16, .loopE ⟨[(65, .dat true (.int .i64))], [(6, .box 60 true [.dat true (.list (.int .i64)), .dat true (.list (.int .i64)), .dat true (.list (.int .i64)), .dat true (.int .i64), .dat true (.int .i64), .dat true (.int .i64), .dat true (.int .i64)])]⟩ 0 ⟨[], [(6, .box 60 true [.dat true (.list (.int .i64)), .dat true (.list (.int .i64)), .dat true (.list (.int .i64)), .dat true (.int .i64), .dat true (.int .i64), .dat true (.int .i64), .dat true (.int .i64)])]⟩),
  (28, .reg []),
  (43, .loop ⟨[(89, .dat true (.int .i64))], [(11, .box 60 true [.dat false (.list (.int .i64)), .dat false (.list (.int .i64)), .own 420 (.int .i64), .dat true (.int .i64), .dat true (.int .i64), .dat true (.int .i64), .dat true (.int .i64)]), (420, .arr 3 true true (.int .i64))]⟩ 2 ⟨[], [(11, .box 60 true [.dat false (.list (.int .i64)), .dat false (.list (.int .i64)), .own 420 (.int .i64), .dat true (.int .i64), .dat true (.int .i64), .dat true (.int .i64), .dat true (.int .i64)]), (420, .arr 3 true true (.int .i64))]⟩),
  (55, .regJ [100, 11, 420] ⟨[], [(420, .arr 3 true true (.int .i64)), (11, .box 60 true [.dat false (.list (.int .i64)), .dat false (.list (.int .i64)), .own 420 (.int .i64), .dat true (.int .i64), .dat true (.int .i64), .dat true (.int .i64), .dat true (.int .i64)])]⟩),
  (56, .reg [11, 420]),
  (68, .loop ⟨[(124, .dat true (.int .i64))], [(11, .box 60 true [.dat false (.list (.int .i64)), .dat false (.list (.int .i64)), .own 420 (.int .i64), .dat true (.int .i64), .dat true (.int .i64), .dat true (.int .i64), .dat true (.int .i64)]), (420, .arr 3 true true (.int .i64))]⟩ 4 ⟨[], [(11, .box 60 true [.dat false (.list (.int .i64)), .dat false (.list (.int .i64)), .own 420 (.int .i64), .dat true (.int .i64), .dat true (.int .i64), .dat true (.int .i64), .dat true (.int .i64)]), (420, .arr 3 true true (.int .i64))]⟩),
  (79, .reg [11, 420]),
  (82, .regJ [11] ⟨[], [(11, .box 60 true [.dat true (.list (.int .i64)), .dat true (.list (.int .i64)), .own 420 (.int .i64), .dat true (.int .i64), .dat true (.int .i64), .dat true (.int .i64), .dat true (.int .i64)])]⟩)])
 (tbl := [c_array_pair_1_3 fu, c_array_pair_2 fu, c_array_pair_2_2 fu, c_array_pair_1_12 fu, c_slices_Concat fu, c_array_distinct fu])
 mixed (List.forall_mem_cons.2 ⟨c_array_pair_1_3_ok fu, List.forall_mem_cons.2 ⟨c_array_pair_2_ok fu, List.forall_mem_cons.2 ⟨c_array_pair_2_2_ok fu, List.forall_mem_cons.2 ⟨c_array_pair_1_12_ok fu, List.forall_mem_cons.2 ⟨c_slices_Concat_ok fu, List.forall_mem_cons.2 ⟨c_array_distinct_ok fu, (by intro c h; cases h)⟩⟩⟩⟩⟩⟩) Tryz.func30 Tryz.call30 rfl rfl (by kernel_rfl) (mvs := []) (ns := []) (fun q => by kernel_rfl)
abbrev c_array_joined (fu : Nat) : Con S0 := ⟨31, [.dat false (.list (.int .i64)), .dat false (.list (.list (.int .i64)))], [], false, [(4, .dat true (.list (.int .i64))), (5, .dat true (.int .i64))], [], fun q => F.array_joined fu q.1 q.2⟩
theorem c_array_joined_ok (fu : Nat) : ConOk Tryz.prog (c_array_joined fu) := ConOk.of (N := 83) (fu := fu)
 (H := [(4, .regJ [] ⟨[(28, .dat true .bool)], []⟩),
  (16, .loopE ⟨[(36, .dat true (.int .i64)), (6, .own 32 (.int .i64))], [(32, .arr 3 true true (.int .i64))]⟩ 0 ⟨[(6, .own 32 (.int .i64))], [(32, .arr 3 true true (.int .i64))]⟩),
  (39, .loopE ⟨[(47, .dat true (.int .i64))], []⟩ 2 ⟨[], []⟩),
  (51, .regJ [] ⟨[(65, .dat true .bool)], []⟩),
  (58, .reg [32])])
 (tbl := [c_slices_Clone fu])
 mixed (List.forall_mem_cons.2 ⟨c_slices_Clone_ok fu, (by intro c h; cases h)⟩) Tryz.func31 Tryz.call31 rfl rfl (by kernel_rfl) (mvs := []) (ns := []) (fun q => by kernel_rfl)
abbrev c_slices_Backward (fu : Nat) : Con S0 := ⟨92, [.dat false (.list (.int .i64))], [], false, [(2, .clo 105 [.loc 1 0])], [(1, .box 22 true [.dat false (.list (.int .i64))])], fun q => F.slices_Backward fu q⟩
theorem c_slices_Backward_ok (fu : Nat) : ConOk Tryz.prog (c_slices_Backward fu) := ConOk.of (N := 4) (fu := fu)
 (H := [])
 (tbl := [])
 mixed (by intro c h; cases h) Tryz.func92 Tryz.call92 rfl rfl (by kernel_rfl) (mvs := []) (ns := []) (fun q => by kernel_rfl)
abbrev y_view_rowMajor_y (fu : Nat) : YCon S0 := ⟨0, [.dat false (.int .i64), .dat false (.int .i64)], [.loc 1000 0, .loc 1001 0, .loc 1002 0], [.box 22 false [.dat false (.list (.int .i64))], .box 22 false [.own 1003 (.int .i64)], .box 3 false [.dat false (.int .i64)], .arr 3 false false (.int .i64)], [(1000, .box 22 false [.dat false (.list (.int .i64))]), (1001, .box 22 false [.own 1003 (.int .i64)]), (1002, .box 3 false [.dat true (.int .i64)]), (1003, .arr 3 false true (.int .i64))], false, fun q => F.view_rowMajor_y fu q.1 q.2.1 q.2.2.1 q.2.2.2.1 q.2.2.2.2⟩
theorem y_view_rowMajor_y_ok (fu : Nat) : YOk Tryz.prog (y_view_rowMajor_y fu) := YOk.of (fu := fu)
 (H := [(4, .reg [1002])])
 (tbl := [])
 mixed (by intro c h; cases h) (by kernel_rfl) (by kernel_rfl) (by kernel_rfl) (mvs := []) (ns := []) (fun q => by kernel_rfl)
abbrev c_slices_Backward_1 (fu : Nat) : Con S0 := ⟨105, [.yld 1000, .loc 1001 0], [.lp 0 false [.loc 1002 0, .loc 1003 0, .loc 1004 0], .box 22 false [.dat false (.list (.int .i64))], .box 22 false [.dat false (.list (.int .i64))], .box 22 false [.own 1005 (.int .i64)], .box 3 false [.dat false (.int .i64)], .arr 3 false false (.int .i64)], false, [], [(1000, .lp 0 false [.loc 1002 0, .loc 1003 0, .loc 1004 0]), (1001, .box 22 false [.dat false (.list (.int .i64))]), (1002, .box 22 false [.dat false (.list (.int .i64))]), (1003, .box 22 false [.own 1005 (.int .i64)]), (1004, .box 3 false [.dat true (.int .i64)]), (1005, .arr 3 false true (.int .i64))], fun q => F.slices_Backward_1 fu q.1 q.2.1 q.2.2.1 q.2.2.2⟩
theorem c_slices_Backward_1_ok (fu : Nat) : ConOk Tryz.prog (c_slices_Backward_1 fu) := ConOk.ofR (N := 19) (fu := fu)
 (H := [(3, .loopE ⟨[(3, .dat true (.int .i64))], [(1000, .lp 0 false [.loc 1002 0, .loc 1003 0, .loc 1004 0]), (1002, .box 22 false [.dat false (.list (.int .i64))]), (1003, .box 22 false [.own 1005 (.int .i64)]), (1004, .box 3 false [.dat true (.int .i64)]), (1005, .arr 3 false true (.int .i64))]⟩ 0 ⟨[], [(1000, .lp 0 false [.loc 1002 0, .loc 1003 0, .loc 1004 0]), (1002, .box 22 false [.dat false (.list (.int .i64))]), (1003, .box 22 false [.own 1005 (.int .i64)]), (1004, .box 3 false [.dat true (.int .i64)]), (1005, .arr 3 false true (.int .i64))]⟩)])
 (tbl := []) (tbr := []) (ys := [y_view_rowMajor_y fu])
 [] mixed (by intro c h; cases h) (by intro c h; cases h) (List.forall_mem_cons.2 ⟨y_view_rowMajor_y_ok fu, (by intro c h; cases h)⟩) Tryz.func105 Tryz.call105 rfl rfl (by kernel_rfl) rfl (by kernel_rfl) (mvs := []) (ns := []) (fun q => by kernel_rfl)
abbrev c_view_rowMajor (fu : Nat) : Con S0 := ⟨88, [.dat false (.list (.int .i64))], [], false, [(2, .dat true (.list (.int .i64)))], [], fun q => F.view_rowMajor fu q⟩
theorem c_view_rowMajor_ok (fu : Nat) : ConOk Tryz.prog (c_view_rowMajor fu) := ConOk.ofR (N := 27) (fu := fu)
 (H := [(18, .rng 0 350)])
 (tbl := [c_slices_Backward fu, c_slices_Contains fu]) (tbr := [c_slices_Backward_1 fu]) (ys := [])
 [(18, 0)] mixed (List.forall_mem_cons.2 ⟨c_slices_Backward_ok fu, List.forall_mem_cons.2 ⟨c_slices_Contains_ok fu, (by intro c h; cases h)⟩⟩) (List.forall_mem_cons.2 ⟨c_slices_Backward_1_ok fu, (by intro c h; cases h)⟩) (by intro c h; cases h) Tryz.func88 Tryz.call88 rfl rfl (by kernel_rfl) rfl (by kernel_rfl) (mvs := []) (ns := []) (fun q => by kernel_rfl)
abbrev c_view_Whole (fu : Nat) : Con S0 := ⟨65, [.dat false (.list (.int .i64))], [], false, [(2, .dat true (.st 2)), (3, .dat true (.int .i64))], [], fun q => F.view_Whole fu q⟩
theorem c_view_Whole_ok (fu : Nat) : ConOk Tryz.prog (c_view_Whole fu) := ConOk.of (N := 20) (fu := fu)
 (H := [])
 (tbl := [c_slices_Clone fu, c_view_Size fu, c_view_rowMajor fu])
 mixed (List.forall_mem_cons.2 ⟨c_slices_Clone_ok fu, List.forall_mem_cons.2 ⟨c_view_Size_ok fu, List.forall_mem_cons.2 ⟨c_view_rowMajor_ok fu, (by intro c h; cases h)⟩⟩⟩) Tryz.func65 Tryz.call65 rfl rfl (by kernel_rfl) (mvs := []) (ns := []) (fun q => by kernel_rfl)
abbrev c_view_near (fu : Nat) : Con S0 := ⟨103, [.dat false (.int .i64)], [], false, [(2, .dat true .bool)], [], fun q => F.view_near fu q⟩
theorem c_view_near_ok (fu : Nat) : ConOk Tryz.prog (c_view_near fu) := ConOk.of (N := 9) (fu := fu)
 (H := [(3, .regJ [] ⟨[(2, .dat true .bool)], []⟩)])
 (tbl := [])
 mixed (by intro c h; cases h) Tryz.func103 Tryz.call103 rfl rfl (by kernel_rfl) (mvs := []) (ns := []) (fun q => by kernel_rfl)
abbrev c_view_Wrong_1 (fu : Nat) : Con S0 := ⟨104, [.dat false (.int .i64)], [], false, [(2, .dat true .bool)], [], fun q => F.view_Wrong_1 fu q⟩
theorem c_view_Wrong_1_ok (fu : Nat) : ConOk Tryz.prog (c_view_Wrong_1 fu) := ConOk.of (N := 6) (fu := fu)
 (H := [])
 (tbl := [c_view_near fu])
 mixed (List.forall_mem_cons.2 ⟨c_view_near_ok fu, (by intro c h; cases h)⟩) Tryz.func104 Tryz.call104 rfl rfl (by kernel_rfl) (mvs := []) (ns := []) (fun q => by kernel_rfl)
abbrev c_slices_IndexFunc_2 (fu : Nat) : Con S0 := ⟨71, [.dat false (.list (.int .i64)), .clo 104 []], [], false, [(4, .dat true (.int .i64))], [], fun q => F.slices_IndexFunc_2 fu q⟩
theorem c_slices_IndexFunc_2_ok (fu : Nat) : ConOk Tryz.prog (c_slices_IndexFunc_2 fu) := ConOk.of (N := 19) (fu := fu)
 (H := [(6, .loopE ⟨[(8, .dat true (.int .i64))], []⟩ 0 ⟨[], []⟩)])
 (tbl := [c_view_Wrong_1 fu])
 mixed (List.forall_mem_cons.2 ⟨c_view_Wrong_1_ok fu, (by intro c h; cases h)⟩) Tryz.func71 Tryz.call71 rfl rfl (by kernel_rfl) (mvs := []) (ns := []) (fun q => by kernel_rfl)
abbrev c_slices_ContainsFunc_2 (fu : Nat) : Con S0 := ⟨34, [.dat false (.list (.int .i64)), .clo 104 []], [], false, [(4, .dat true .bool)], [], fun q => F.slices_ContainsFunc_2 fu q⟩
theorem c_slices_ContainsFunc_2_ok (fu : Nat) : ConOk Tryz.prog (c_slices_ContainsFunc_2 fu) := ConOk.of (N := 9) (fu := fu)
 (H := [])
 (tbl := [c_slices_IndexFunc_2 fu])
 mixed (List.forall_mem_cons.2 ⟨c_slices_IndexFunc_2_ok fu, (by intro c h; cases h)⟩) Tryz.func34 Tryz.call34 rfl rfl (by kernel_rfl) (mvs := []) (ns := []) (fun q => by kernel_rfl)
abbrev c_view_Wrong (fu : Nat) : Con S0 := ⟨89, [.dat false (.st 2)], [], false, [(2, .dat true (.int .i64))], [], fun q => F.view_Wrong fu q⟩
theorem c_view_Wrong_ok (fu : Nat) : ConOk Tryz.prog (c_view_Wrong fu) := ConOk.of (N := 30) (fu := fu)
 (H := [(22, .regJ [] ⟨[(29, .dat true .bool)], []⟩)])
 (tbl := [c_view_Size fu, c_view_near fu, c_slices_ContainsFunc_2 fu])
 mixed (List.forall_mem_cons.2 ⟨c_view_Size_ok fu, List.forall_mem_cons.2 ⟨c_view_near_ok fu, List.forall_mem_cons.2 ⟨c_slices_ContainsFunc_2_ok fu, (by intro c h; cases h)⟩⟩⟩) Tryz.func89 Tryz.call89 rfl rfl (by kernel_rfl) (mvs := []) (ns := []) (fun q => by kernel_rfl)
abbrev c_view_rising (fu : Nat) : Con S0 := ⟨90, [.dat false (.list (.int .i64)), .dat false (.int .i64)], [], false, [(4, .dat true .bool)], [], fun q => F.view_rising fu q.1 q.2⟩
theorem c_view_rising_ok (fu : Nat) : ConOk Tryz.prog (c_view_rising fu) := ConOk.of (N := 24) (fu := fu)
 (H := [(8, .loopE ⟨[(5, .dat true (.int .i64)), (10, .dat true (.int .i64))], []⟩ 0 ⟨[], []⟩),
  (21, .regJ [] ⟨[(21, .dat true .bool)], []⟩)])
 (tbl := [])
 mixed (by intro c h; cases h) Tryz.func90 Tryz.call90 rfl rfl (by kernel_rfl) (mvs := []) (ns := []) (fun q => by kernel_rfl)
abbrev c_view_Spread (fu : Nat) : Con S0 := ⟨66, [.dat false (.st 2), .dat false (.list (.int .i64)), .dat false (.list (.int .i64))], [], false, [(6, .dat true (.st 2)), (7, .dat true (.int .i64))], [], fun q => F.view_Spread fu q.1 q.2.1 q.2.2⟩
theorem c_view_Spread_ok (fu : Nat) : ConOk Tryz.prog (c_view_Spread fu) := ConOk.of (N := 80) (fu := fu)
 (H := [(24, .regJ [] ⟨[(41, .dat true .bool)], []⟩),
  (31, .regJ [11] ⟨[(11, .loc 11 0)], [(11, .box 66 true [.dat true (.int .i64), .own 46 (.int .i64), .own 49 (.int .i64)]), (46, .arr 3 true true (.int .i64)), (49, .arr 3 true true (.int .i64))]⟩),
  (36, .loopE ⟨[(53, .dat true (.int .i64))], [(6, .box 66 true [.dat true (.int .i64), .dat true (.list (.int .i64)), .dat true (.list (.int .i64))]), (49, .arr 3 true true (.int .i64)), (11, .box 66 true [.dat true (.int .i64), .own 46 (.int .i64), .own 49 (.int .i64)])]⟩ 0 ⟨[], [(6, .box 66 true [.dat true (.int .i64), .dat true (.list (.int .i64)), .dat true (.list (.int .i64))]), (49, .arr 3 true true (.int .i64)), (11, .box 66 true [.dat true (.int .i64), .own 46 (.int .i64), .own 49 (.int .i64)])]⟩),
  (49, .reg []),
  (55, .reg [49])])
 (tbl := [c_slices_Clone fu, c_view_Wrong fu, c_view_Size fu, c_view_rising fu])
 mixed (List.forall_mem_cons.2 ⟨c_slices_Clone_ok fu, List.forall_mem_cons.2 ⟨c_view_Wrong_ok fu, List.forall_mem_cons.2 ⟨c_view_Size_ok fu, List.forall_mem_cons.2 ⟨c_view_rising_ok fu, (by intro c h; cases h)⟩⟩⟩⟩) Tryz.func66 Tryz.call66 rfl rfl (by kernel_rfl) (mvs := []) (ns := []) (fun q => by kernel_rfl)
abbrev c_view_Turn (fu : Nat) : Con S0 := ⟨67, [.dat false (.st 2), .dat false (.list (.int .i64))], [], false, [(4, .dat true (.st 2)), (5, .dat true (.int .i64))], [], fun q => F.view_Turn fu q.1 q.2⟩
theorem c_view_Turn_ok (fu : Nat) : ConOk Tryz.prog (c_view_Turn fu) := ConOk.of (N := 76) (fu := fu)
 (H := [(20, .loopE ⟨[(26, .dat true (.int .i64)), (7, .own 20 .bool)], [(4, .box 66 true [.dat true (.int .i64), .dat true (.list (.int .i64)), .dat true (.list (.int .i64))]), (20, .arr 4 true true .bool), (8, .box 66 true [.dat true (.int .i64), .own 420 (.int .i64), .own 421 (.int .i64)]), (420, .arr 3 true true (.int .i64)), (421, .arr 3 true true (.int .i64))]⟩ 0 ⟨[(7, .own 20 .bool)], [(4, .box 66 true [.dat true (.int .i64), .dat true (.list (.int .i64)), .dat true (.list (.int .i64))]), (20, .arr 4 true true .bool), (8, .box 66 true [.dat true (.int .i64), .own 420 (.int .i64), .own 421 (.int .i64)]), (420, .arr 3 true true (.int .i64)), (421, .arr 3 true true (.int .i64))]⟩),
  (33, .regJ [] ⟨[(43, .dat true .bool)], []⟩),
  (41, .regJ [56, 65, 8, 420, 421] ⟨[], [(420, .arr 3 true true (.int .i64)), (421, .arr 3 true true (.int .i64)), (8, .box 66 true [.dat true (.int .i64), .own 420 (.int .i64), .own 421 (.int .i64)])]⟩)])
 (tbl := [c_view_Wrong fu])
 mixed (List.forall_mem_cons.2 ⟨c_view_Wrong_ok fu, (by intro c h; cases h)⟩) Tryz.func67 Tryz.call67 rfl rfl (by kernel_rfl) (mvs := []) (ns := []) (fun q => by kernel_rfl)
abbrev c_view_blocks (fu : Nat) : Con S0 := ⟨91, [.dat false (.st 2)], [], false, [(2, .own 3 (.st 3))], [(3, .arr 115 true true (.st 3))], fun q => F.view_blocks fu q⟩
theorem c_view_blocks_ok (fu : Nat) : ConOk Tryz.prog (c_view_blocks fu) := ConOk.of (N := 67) (fu := fu)
 (H := [(8, .loop ⟨[(3, .own 3 (.st 3)), (10, .dat true (.int .i64))], [(3, .arr 115 true true (.st 3))]⟩ 0 ⟨[(3, .own 3 (.st 3))], [(3, .arr 115 true true (.st 3))]⟩),
  (16, .join ⟨[(3, .own 3 (.st 3))], [(3, .arr 115 true true (.st 3))]⟩),
  (28, .regJ [] ⟨[(36, .dat true .bool)], []⟩),
  (29, .join ⟨[(3, .own 3 (.st 3))], [(3, .arr 115 true true (.st 3))]⟩),
  (30, .reg [3])])
 (tbl := [])
 mixed (by intro c h; cases h) Tryz.func91 Tryz.call91 rfl rfl (by kernel_rfl) (mvs := []) (ns := []) (fun q => by kernel_rfl)
abbrev y_view_Reform_y (fu : Nat) : YCon S0 := ⟨1, [.dat false (.int .i64), .dat false (.int .i64)], [.loc 1000 0, .loc 1001 0, .loc 1002 0, .loc 1003 0], [.box 66 false [.dat false (.int .i64), .dat false (.list (.int .i64)), .dat false (.list (.int .i64))], .box 29 false [.dat false (.int .i64)], .box 66 false [.dat false (.int .i64), .own 1004 (.int .i64), .own 1005 (.int .i64)], .box 108 false [.own 1006 (.st 3)], .arr 3 false false (.int .i64), .arr 3 false false (.int .i64), .arr 115 false false (.st 3)], [(1000, .box 66 false [.dat true (.int .i64), .dat false (.list (.int .i64)), .dat false (.list (.int .i64))]), (1001, .box 29 false [.dat true (.int .i64)]), (1002, .box 66 false [.dat true (.int .i64), .own 1004 (.int .i64), .own 1005 (.int .i64)]), (1003, .box 108 false [.own 486 (.st 3)]), (1004, .arr 3 false true (.int .i64)), (1005, .arr 3 false true (.int .i64)), (486, .arr 115 false false (.st 3))], true, fun q => F.view_Reform_y fu q.1 q.2.1 q.2.2.1 q.2.2.2.1 q.2.2.2.2.1 q.2.2.2.2.2.1 q.2.2.2.2.2.2.1 q.2.2.2.2.2.2.2.1 q.2.2.2.2.2.2.2.2.1 q.2.2.2.2.2.2.2.2.2⟩
theorem y_view_Reform_y_ok (fu : Nat) : YOk Tryz.prog (y_view_Reform_y fu) := YOk.of (fu := fu)
 (H := [(3, .joinE ⟨[], [(1005, .arr 3 false true (.int .i64)), (486, .arr 115 false false (.st 3)), (1000, .box 66 false [.dat true (.int .i64), .dat false (.list (.int .i64)), .dat false (.list (.int .i64))]), (1001, .box 29 false [.dat true (.int .i64)]), (1002, .box 66 false [.dat true (.int .i64), .own 1004 (.int .i64), .own 1005 (.int .i64)]), (1003, .box 108 false [.own 486 (.st 3)])]⟩),
  (21, .reg [1005]),
  (23, .regJ [1006, 486] ⟨[], [(486, .arr 115 false false (.st 3)), (1003, .box 108 false [.own 486 (.st 3)])]⟩),
  (26, .join ⟨[(15, .any), (64, .any), (65, .any), (66, .any), (67, .any), (76, .any), (77, .any), (78, .any), (96, .any), (97, .any), (98, .any)], [(486, .arr 115 false false (.st 3)), (1003, .box 108 false [.own 486 (.st 3)])]⟩)])
 (tbl := [])
 mixed (by intro c h; cases h) (by kernel_rfl) (by kernel_rfl) (by kernel_rfl) (mvs := [1006]) (ns := []) (fun q => by kernel_rfl)
abbrev c_slices_Backward_1_2 (fu : Nat) : Con S0 := ⟨105, [.yld 1000, .loc 1001 0], [.lp 1 true [.loc 1002 0, .loc 1003 0, .loc 1004 0, .loc 1005 0], .box 22 false [.dat false (.list (.int .i64))], .box 66 false [.dat false (.int .i64), .dat false (.list (.int .i64)), .dat false (.list (.int .i64))], .box 29 false [.dat false (.int .i64)], .box 66 false [.dat false (.int .i64), .own 1006 (.int .i64), .own 1007 (.int .i64)], .box 108 false [.own 1008 (.st 3)], .arr 3 false false (.int .i64), .arr 3 false false (.int .i64), .arr 115 false false (.st 3)], false, [], [(1000, .lp 1 true [.loc 1002 0, .loc 1003 0, .loc 1004 0, .loc 1005 0]), (1001, .box 22 false [.dat false (.list (.int .i64))]), (1002, .box 66 false [.dat true (.int .i64), .dat false (.list (.int .i64)), .dat false (.list (.int .i64))]), (1003, .box 29 false [.dat true (.int .i64)]), (1004, .box 66 false [.dat true (.int .i64), .own 1006 (.int .i64), .own 1007 (.int .i64)]), (1005, .box 108 false [.own 488 (.st 3)]), (1006, .arr 3 false true (.int .i64)), (1007, .arr 3 false true (.int .i64)), (488, .arr 115 false false (.st 3))], fun q => F.slices_Backward_1_2 fu q.1 q.2.1 q.2.2.1 q.2.2.2.1 q.2.2.2.2.1 q.2.2.2.2.2.1 q.2.2.2.2.2.2.1 q.2.2.2.2.2.2.2.1 q.2.2.2.2.2.2.2.2.1 q.2.2.2.2.2.2.2.2.2⟩
theorem c_slices_Backward_1_2_ok (fu : Nat) : ConOk Tryz.prog (c_slices_Backward_1_2 fu) := ConOk.ofR (N := 19) (fu := fu)
 (H := [(3, .loopE ⟨[(3, .dat true (.int .i64))], [(1000, .lp 1 true [.loc 1002 0, .loc 1003 0, .loc 1004 0, .loc 1005 0]), (1002, .box 66 false [.dat true (.int .i64), .dat false (.list (.int .i64)), .dat false (.list (.int .i64))]), (1003, .box 29 false [.dat true (.int .i64)]), (1004, .box 66 false [.dat true (.int .i64), .own 1006 (.int .i64), .own 1007 (.int .i64)]), (1005, .box 108 false [.own 488 (.st 3)]), (1006, .arr 3 false true (.int .i64)), (1007, .arr 3 false true (.int .i64)), (488, .arr 115 false false (.st 3))]⟩ 0 ⟨[], [(1000, .lp 1 true [.loc 1002 0, .loc 1003 0, .loc 1004 0, .loc 1005 0]), (1002, .box 66 false [.dat true (.int .i64), .dat false (.list (.int .i64)), .dat false (.list (.int .i64))]), (1003, .box 29 false [.dat true (.int .i64)]), (1004, .box 66 false [.dat true (.int .i64), .own 1006 (.int .i64), .own 1007 (.int .i64)]), (1005, .box 108 false [.own 488 (.st 3)]), (1006, .arr 3 false true (.int .i64)), (1007, .arr 3 false true (.int .i64)), (488, .arr 115 false false (.st 3))]⟩)])
 (tbl := []) (tbr := []) (ys := [y_view_Reform_y fu])
 [] mixed (by intro c h; cases h) (by intro c h; cases h) (List.forall_mem_cons.2 ⟨y_view_Reform_y_ok fu, (by intro c h; cases h)⟩) Tryz.func105 Tryz.call105 rfl rfl (by kernel_rfl) rfl (by kernel_rfl) (mvs := [1008]) (ns := []) (fun q => by kernel_rfl)
abbrev c_view_done (fu : Nat) : Con S0 := ⟨93, [.dat false (.st 2)], [], false, [(2, .dat false (.st 2)), (3, .dat true (.int .i64))], [], fun q => F.view_done fu q⟩
theorem c_view_done_ok (fu : Nat) : ConOk Tryz.prog (c_view_done fu) := ConOk.of (N := 9) (fu := fu)
 (H := [])
 (tbl := [c_view_Wrong fu])
 mixed (List.forall_mem_cons.2 ⟨c_view_Wrong_ok fu, (by intro c h; cases h)⟩) Tryz.func93 Tryz.call93 rfl rfl (by kernel_rfl) (mvs := []) (ns := []) (fun q => by kernel_rfl)
abbrev c_view_Reform (fu : Nat) : Con S0 := ⟨68, [.dat false (.st 2), .dat false (.list (.int .i64))], [], false, [(4, .dat false (.st 2)), (5, .dat true (.int .i64))], [], fun q => F.view_Reform fu q.1 q.2⟩
theorem c_view_Reform_ok (fu : Nat) : ConOk Tryz.prog (c_view_Reform fu) := ConOk.ofR (N := 110) (fu := fu)
 (H := [(33, .regJ [11] ⟨[(11, .loc 11 0)], [(11, .box 66 true [.dat true (.int .i64), .own 44 (.int .i64), .own 47 (.int .i64)]), (44, .arr 3 true true (.int .i64)), (47, .arr 3 true true (.int .i64))]⟩),
  (48, .rng 1 350)])
 (tbl := [c_slices_Clone fu, c_view_blocks fu, c_slices_Backward fu, c_view_Wrong fu, c_view_Size fu, c_view_done fu]) (tbr := [c_slices_Backward_1_2 fu]) (ys := [])
 [(48, 1)] mixed (List.forall_mem_cons.2 ⟨c_slices_Clone_ok fu, List.forall_mem_cons.2 ⟨c_view_blocks_ok fu, List.forall_mem_cons.2 ⟨c_slices_Backward_ok fu, List.forall_mem_cons.2 ⟨c_view_Wrong_ok fu, List.forall_mem_cons.2 ⟨c_view_Size_ok fu, List.forall_mem_cons.2 ⟨c_view_done_ok fu, (by intro c h; cases h)⟩⟩⟩⟩⟩⟩) (List.forall_mem_cons.2 ⟨c_slices_Backward_1_2_ok fu, (by intro c h; cases h)⟩) (by intro c h; cases h) Tryz.func68 Tryz.call68 rfl rfl (by kernel_rfl) rfl (by kernel_rfl) (mvs := []) (ns := []) (fun q => by kernel_rfl)
abbrev c_view_Cut (fu : Nat) : Con S0 := ⟨69, [.dat false (.st 2), .dat false (.list (.int .i64)), .dat false (.list (.int .i64)), .dat false (.list (.int .i64))], [], false, [(8, .dat true (.st 2)), (9, .dat true (.int .i64))], [], fun q => F.view_Cut fu q.1 q.2.1 q.2.2.1 q.2.2.2⟩
theorem c_view_Cut_ok (fu : Nat) : ConOk Tryz.prog (c_view_Cut fu) := ConOk.of (N := 150) (fu := fu)
 (H := [(16, .regJ [] ⟨[(39, .dat true .bool)], []⟩),
  (28, .loopE ⟨[(47, .dat true (.int .i64))], [(8, .box 66 true [.dat true (.int .i64), .dat true (.list (.int .i64)), .dat true (.list (.int .i64))]), (12, .box 66 true [.dat true (.int .i64), .own 420 (.int .i64), .own 421 (.int .i64)]), (420, .arr 3 true true (.int .i64)), (421, .arr 3 true true (.int .i64))]⟩ 0 ⟨[], [(8, .box 66 true [.dat true (.int .i64), .dat true (.list (.int .i64)), .dat true (.list (.int .i64))]), (12, .box 66 true [.dat true (.int .i64), .own 420 (.int .i64), .own 421 (.int .i64)]), (420, .arr 3 true true (.int .i64)), (421, .arr 3 true true (.int .i64))]⟩),
  (41, .regJ [] ⟨[(89, .dat true .bool)], []⟩),
  (48, .reg [12]),
  (50, .regJ [420, 12] ⟨[], [(420, .arr 3 true true (.int .i64)), (12, .box 66 true [.dat true (.int .i64), .own 420 (.int .i64), .own 421 (.int .i64)])]⟩),
  (51, .regJ [421, 12] ⟨[], [(421, .arr 3 true true (.int .i64)), (12, .box 66 true [.dat true (.int .i64), .own 420 (.int .i64), .own 421 (.int .i64)])]⟩)])
 (tbl := [c_view_Wrong fu, c_view_done fu])
 mixed (List.forall_mem_cons.2 ⟨c_view_Wrong_ok fu, List.forall_mem_cons.2 ⟨c_view_done_ok fu, (by intro c h; cases h)⟩⟩) Tryz.func69 Tryz.call69 rfl rfl (by kernel_rfl) (mvs := []) (ns := []) (fun q => by kernel_rfl)
abbrev c_view_Flip (fu : Nat) : Con S0 := ⟨70, [.dat false (.st 2), .dat false (.list (.int .i64))], [], false, [(4, .dat true (.st 2)), (5, .dat true (.int .i64))], [], fun q => F.view_Flip fu q.1 q.2⟩
theorem c_view_Flip_ok (fu : Nat) : ConOk Tryz.prog (c_view_Flip fu) := ConOk.of (N := 70) (fu := fu)
 (H := [(21, .regJ [7] ⟨[(7, .loc 7 0)], [(7, .box 66 true [.dat true (.int .i64), .own 27 (.int .i64), .own 30 (.int .i64)]), (27, .arr 3 true true (.int .i64)), (30, .arr 3 true true (.int .i64))]⟩),
  (26, .loop ⟨[(34, .dat true (.int .i64))], [(7, .box 66 true [.dat true (.int .i64), .own 27 (.int .i64), .own 30 (.int .i64)]), (30, .arr 3 true true (.int .i64))]⟩ 0 ⟨[], [(7, .box 66 true [.dat true (.int .i64), .own 27 (.int .i64), .own 30 (.int .i64)]), (30, .arr 3 true true (.int .i64))]⟩),
  (38, .regJ [7] ⟨[], [(7, .box 66 true [.dat true (.int .i64), .own 27 (.int .i64), .own 30 (.int .i64)])]⟩),
  (39, .reg [30])])
 (tbl := [c_slices_Clone fu, c_view_Wrong fu, c_view_rising fu, c_view_done fu])
 mixed (List.forall_mem_cons.2 ⟨c_slices_Clone_ok fu, List.forall_mem_cons.2 ⟨c_view_Wrong_ok fu, List.forall_mem_cons.2 ⟨c_view_rising_ok fu, List.forall_mem_cons.2 ⟨c_view_done_ok fu, (by intro c h; cases h)⟩⟩⟩⟩) Tryz.func70 Tryz.call70 rfl rfl (by kernel_rfl) (mvs := []) (ns := []) (fun q => by kernel_rfl)
abbrev c_array_look (fu : Nat) : Con S0 := ⟨33, [.dat false (.st 0), .dat false (.list (.int .i64))], [], false, [(4, .dat false (.st 2)), (5, .dat true (.int .i64))], [], fun q => F.array_look fu q.1 q.2⟩
theorem c_array_look_ok (fu : Nat) : ConOk Tryz.prog (c_array_look fu) := ConOk.of (N := 63) (fu := fu)
 (H := [])
 (tbl := [c_view_Whole fu, c_view_Spread fu, c_view_Turn fu, c_view_Reform fu, c_view_Cut fu, c_view_Flip fu])
 mixed (List.forall_mem_cons.2 ⟨c_view_Whole_ok fu, List.forall_mem_cons.2 ⟨c_view_Spread_ok fu, List.forall_mem_cons.2 ⟨c_view_Turn_ok fu, List.forall_mem_cons.2 ⟨c_view_Reform_ok fu, List.forall_mem_cons.2 ⟨c_view_Cut_ok fu, List.forall_mem_cons.2 ⟨c_view_Flip_ok fu, (by intro c h; cases h)⟩⟩⟩⟩⟩⟩) Tryz.func33 Tryz.call33 rfl rfl (by kernel_rfl) (mvs := []) (ns := []) (fun q => by kernel_rfl)
abbrev c_array_Dims (fu : Nat) : Con S0 := ⟨17, [.dat false (.st 0), .dat false (.list (.list (.int .i64)))], [], false, [(4, .dat false (.list (.int .i64))), (5, .dat true (.int .i64))], [], fun q => F.array_Dims fu q.1 q.2⟩
theorem c_array_Dims_ok (fu : Nat) : ConOk Tryz.prog (c_array_Dims fu) := ConOk.of (N := 178) (fu := fu)
 (H := [(22, .joinE ⟨[(7, .dat false (.list (.int .i64))), (8, .dat true (.int .i64))], []⟩),
  (27, .join ⟨[(39, .dat true .bool)], []⟩),
  (31, .join ⟨[(39, .dat true .bool)], []⟩),
  (35, .join ⟨[(39, .dat true .bool)], []⟩),
  (39, .join ⟨[(39, .dat true .bool)], []⟩),
  (43, .join ⟨[(39, .dat true .bool)], []⟩),
  (46, .joinE ⟨[(7, .dat false (.list (.int .i64))), (8, .dat true (.int .i64))], []⟩),
  (51, .loopE ⟨[(49, .dat true (.int .i64))], []⟩ 1 ⟨[], []⟩),
  (73, .joinE ⟨[(7, .dat false (.list (.int .i64))), (8, .dat true (.int .i64))], []⟩),
  (74, .reg []),
  (77, .joinE ⟨[(7, .dat false (.list (.int .i64))), (8, .dat true (.int .i64))], []⟩),
  (78, .reg []),
  (81, .joinE ⟨[(8, .dat true (.int .i64)), (7, .dat false (.list (.int .i64)))], []⟩),
  (85, .reg [11]),
  (88, .join ⟨[(7, .dat true (.list (.int .i64)))], []⟩),
  (93, .joinE ⟨[(7, .dat false (.list (.int .i64))), (8, .dat true (.int .i64))], []⟩),
  (97, .joinE ⟨[(7, .dat false (.list (.int .i64))), (8, .dat true (.int .i64))], []⟩),
  (106, .reg []),
  (109, .joinE ⟨[(7, .dat false (.list (.int .i64))), (8, .dat true (.int .i64))], []⟩),
  (114, .regJ [] ⟨[(156, .dat true .bool)], []⟩),
  (120, .reg []),
  (124, .reg [13])])
 (tbl := [c_slices_Clone fu, c_array_fits fu, c_slices_Equal fu, c_array_summed fu, c_array_padded fu, c_array_pair fu, c_array_joined fu, c_slices_Concat fu, c_array_look fu, c_view_Size fu])
 mixed (List.forall_mem_cons.2 ⟨c_slices_Clone_ok fu, List.forall_mem_cons.2 ⟨c_array_fits_ok fu, List.forall_mem_cons.2 ⟨c_slices_Equal_ok fu, List.forall_mem_cons.2 ⟨c_array_summed_ok fu, List.forall_mem_cons.2 ⟨c_array_padded_ok fu, List.forall_mem_cons.2 ⟨c_array_pair_ok fu, List.forall_mem_cons.2 ⟨c_array_joined_ok fu, List.forall_mem_cons.2 ⟨c_slices_Concat_ok fu, List.forall_mem_cons.2 ⟨c_array_look_ok fu, List.forall_mem_cons.2 ⟨c_view_Size_ok fu, (by intro c h; cases h)⟩⟩⟩⟩⟩⟩⟩⟩⟩⟩) Tryz.func17 Tryz.call17 rfl rfl (by kernel_rfl) (mvs := []) (ns := []) (fun q => by kernel_rfl)
abbrev c_adjointref2_Right (fu : Nat) : Con S0 := ⟨20, [.dat false (.st 0), .dat false (.int .i64)], [], false, [(4, .dat true (.int .i64))], [], fun q => F.adjointref2_Right fu q.1 q.2⟩
theorem c_adjointref2_Right_ok (fu : Nat) : ConOk Tryz.prog (c_adjointref2_Right fu) := ConOk.of (N := 40) (fu := fu)
 (H := [(8, .joinE ⟨[], []⟩),
  (19, .join ⟨[(11, .dat true .bool)], []⟩),
  (23, .join ⟨[(11, .dat true .bool)], []⟩),
  (27, .join ⟨[(11, .dat true .bool)], []⟩),
  (31, .join ⟨[(11, .dat true .bool)], []⟩),
  (35, .join ⟨[(11, .dat true .bool)], []⟩),
  (39, .join ⟨[(11, .dat true .bool)], []⟩),
  (43, .join ⟨[(11, .dat true .bool)], []⟩),
  (46, .joinE ⟨[], []⟩),
  (56, .joinE ⟨[], []⟩),
  (67, .join ⟨[(26, .dat true .bool)], []⟩),
  (71, .join ⟨[(26, .dat true .bool)], []⟩),
  (75, .join ⟨[(26, .dat true .bool)], []⟩),
  (79, .join ⟨[(26, .dat true .bool)], []⟩),
  (83, .join ⟨[(26, .dat true .bool)], []⟩),
  (87, .join ⟨[(26, .dat true .bool)], []⟩),
  (90, .joinE ⟨[], []⟩)])
 (tbl := [])
 mixed (by intro c h; cases h) Tryz.func20 Tryz.call20 rfl rfl (by kernel_rfl) (mvs := []) (ns := []) (fun q => by kernel_rfl)
abbrev c_adjointref1_Size (fu : Nat) : Con S0 := ⟨46, [.dat false (.list (.int .i64))], [], false, [(2, .dat true (.int .i64)), (3, .dat true (.int .i64))], [], fun q => F.adjointref1_Size fu q⟩
theorem c_adjointref1_Size_ok (fu : Nat) : ConOk Tryz.prog (c_adjointref1_Size fu) := ConOk.of (N := 42) (fu := fu)
 (H := [(16, .loopE ⟨[(4, .dat true .bool), (15, .dat true (.int .i64))], []⟩ 0 ⟨[(4, .dat true .bool)], []⟩),
  (29, .regJ [] ⟨[(24, .dat true .bool)], []⟩),
  (37, .join ⟨[(4, .dat true .bool)], []⟩),
  (55, .loopE ⟨[(7, .dat true (.int .i64)), (31, .dat true (.int .i64))], []⟩ 2 ⟨[(7, .dat true (.int .i64))], []⟩)])
 (tbl := [])
 mixed (by intro c h; cases h) Tryz.func46 Tryz.call46 rfl rfl (by kernel_rfl) (mvs := []) (ns := []) (fun q => by kernel_rfl)
abbrev c_adjointref2_SameList (fu : Nat) : Con S0 := ⟨13, [.dat false (.list (.int .i64)), .dat false (.list (.int .i64))], [], false, [(4, .dat true .bool)], [], fun q => F.adjointref2_SameList fu q.1 q.2⟩
theorem c_adjointref2_SameList_ok (fu : Nat) : ConOk Tryz.prog (c_adjointref2_SameList fu) := ConOk.of (N := 26) (fu := fu)
 (H := [(14, .loopE ⟨[(13, .dat true (.int .i64))], []⟩ 0 ⟨[], []⟩),
  (26, .reg [])])
 (tbl := [])
 mixed (by intro c h; cases h) Tryz.func13 Tryz.call13 rfl rfl (by kernel_rfl) (mvs := []) (ns := []) (fun q => by kernel_rfl)
abbrev c_adjointref1_Rising (fu : Nat) : Con S0 := ⟨80, [.dat false (.list (.int .i64)), .dat false (.int .i64)], [], false, [(4, .dat true .bool)], [], fun q => F.adjointref1_Rising fu q.1 q.2⟩
theorem c_adjointref1_Rising_ok (fu : Nat) : ConOk Tryz.prog (c_adjointref1_Rising fu) := ConOk.of (N := 35) (fu := fu)
 (H := [(6, .loopE ⟨[(9, .dat true (.int .i64))], []⟩ 0 ⟨[], []⟩),
  (18, .regJ [] ⟨[(33, .dat true .bool)], []⟩)])
 (tbl := [])
 mixed (by intro c h; cases h) Tryz.func80 Tryz.call80 rfl rfl (by kernel_rfl) (mvs := []) (ns := []) (fun q => by kernel_rfl)
abbrev c_adjointref2_has (fu : Nat) : Con S0 := ⟨85, [.dat false (.list (.int .i64)), .dat false (.int .i64)], [], false, [(4, .dat true .bool)], [], fun q => F.adjointref2_has fu q.1 q.2⟩
theorem c_adjointref2_has_ok (fu : Nat) : ConOk Tryz.prog (c_adjointref2_has fu) := ConOk.of (N := 17) (fu := fu)
 (H := [(6, .loopE ⟨[(9, .dat true (.int .i64))], []⟩ 0 ⟨[], []⟩)])
 (tbl := [])
 mixed (by intro c h; cases h) Tryz.func85 Tryz.call85 rfl rfl (by kernel_rfl) (mvs := []) (ns := []) (fun q => by kernel_rfl)
abbrev c_adjointref2_Free (fu : Nat) : Con S0 := ⟨49, [.dat false (.list (.int .i64)), .dat false (.list (.int .i64))], [], false, [(4, .dat true (.list (.int .i64)))], [], fun q => F.adjointref2_Free fu q.1 q.2⟩
theorem c_adjointref2_Free_ok (fu : Nat) : ConOk Tryz.prog (c_adjointref2_Free fu) := ConOk.of (N := 22) (fu := fu)
 (H := [(8, .loop ⟨[(5, .own 5 (.int .i64)), (9, .dat true (.int .i64))], [(5, .arr 3 true true (.int .i64))]⟩ 0 ⟨[(5, .own 5 (.int .i64))], [(5, .arr 3 true true (.int .i64))]⟩),
  (21, .join ⟨[(5, .own 5 (.int .i64))], [(5, .arr 3 true true (.int .i64))]⟩)])
 (tbl := [c_adjointref2_has fu])
 mixed (List.forall_mem_cons.2 ⟨c_adjointref2_has_ok fu, (by intro c h; cases h)⟩) Tryz.func49 Tryz.call49 rfl rfl (by kernel_rfl) (mvs := []) (ns := []) (fun q => by kernel_rfl)
abbrev c_adjointref2_chosen (fu : Nat) : Con S0 := ⟨50, [.dat false (.list (.int .i64)), .dat false (.list (.int .i64))], [], false, [(4, .dat true (.list (.int .i64)))], [], fun q => F.adjointref2_chosen fu q.1 q.2⟩
theorem c_adjointref2_chosen_ok (fu : Nat) : ConOk Tryz.prog (c_adjointref2_chosen fu) := ConOk.of (N := 23) (fu := fu)
 (H := [(8, .loop ⟨[(5, .own 5 (.int .i64)), (10, .dat true (.int .i64))], [(5, .arr 3 true true (.int .i64))]⟩ 0 ⟨[(5, .own 5 (.int .i64))], [(5, .arr 3 true true (.int .i64))]⟩)])
 (tbl := [])
 mixed (by intro c h; cases h) Tryz.func50 Tryz.call50 rfl rfl (by kernel_rfl) (mvs := []) (ns := []) (fun q => by kernel_rfl)
abbrev c_adjointref2_padDims (fu : Nat) : Con S0 := ⟨81, [.dat false (.st 0), .dat false (.list (.int .i64))], [], false, [(4, .dat true (.list (.int .i64))), (5, .dat true (.int .i64))], [], fun q => F.adjointref2_padDims fu q.1 q.2⟩
theorem c_adjointref2_padDims_ok (fu : Nat) : ConOk Tryz.prog (c_adjointref2_padDims fu) := ConOk.of (N := 117) (fu := fu)
 (H := [(4, .regJ [] ⟨[(30, .dat true .bool)], []⟩),
  (16, .loopE ⟨[(6, .own 6 (.int .i64)), (33, .dat true (.int .i64))], [(6, .arr 3 true true (.int .i64))]⟩ 0 ⟨[(6, .own 6 (.int .i64))], [(6, .arr 3 true true (.int .i64))]⟩),
  (29, .regJ [] ⟨[(81, .dat true .bool)], []⟩),
  (40, .join ⟨[(8, .dat true (.int .i64))], []⟩),
  (41, .reg []),
  (43, .reg [6])])
 (tbl := [])
 mixed (by intro c h; cases h) Tryz.func81 Tryz.call81 rfl rfl (by kernel_rfl) (mvs := []) (ns := []) (fun q => by kernel_rfl)
abbrev c_adjointref2_both (fu : Nat) : Con S0 := ⟨56, [.dat false (.list (.int .i64)), .dat false (.list (.int .i64))], [], false, [(4, .dat true (.list (.int .i64)))], [], fun q => F.adjointref2_both fu q.1 q.2⟩
theorem c_adjointref2_both_ok (fu : Nat) : ConOk Tryz.prog (c_adjointref2_both fu) := ConOk.of (N := 10) (fu := fu)
 (H := [])
 (tbl := [])
 mixed (by intro c h; cases h) Tryz.func56 Tryz.call56 rfl rfl (by kernel_rfl) (mvs := []) (ns := []) (fun q => by kernel_rfl)
abbrev c_adjointref2_once (fu : Nat) : Con S0 := ⟨94, [.dat false (.list (.int .i64)), .dat false (.int .i64)], [], false, [(4, .dat true .bool)], [], fun q => F.adjointref2_once fu q.1 q.2⟩
theorem c_adjointref2_once_ok (fu : Nat) : ConOk Tryz.prog (c_adjointref2_once fu) := ConOk.of (N := 29) (fu := fu)
 (H := [(6, .loopE ⟨[(9, .dat true (.int .i64))], []⟩ 0 ⟨[], []⟩),
  (18, .regJ [] ⟨[(27, .dat true .bool)], []⟩)])
 (tbl := [c_adjointref2_has fu])
 mixed (List.forall_mem_cons.2 ⟨c_adjointref2_has_ok fu, (by intro c h; cases h)⟩) Tryz.func94 Tryz.call94 rfl rfl (by kernel_rfl) (mvs := []) (ns := []) (fun q => by kernel_rfl)
abbrev c_adjointref2_dotDims (fu : Nat) : Con S0 := ⟨82, [.dat false (.st 0), .dat false (.list (.int .i64)), .dat false (.list (.int .i64))], [], false, [(6, .dat true (.list (.int .i64))), (7, .dat true (.int .i64))], [], fun q => F.adjointref2_dotDims fu q.1 q.2.1 q.2.2⟩
theorem c_adjointref2_dotDims_ok (fu : Nat) : ConOk Tryz.prog (c_adjointref2_dotDims fu) := ConOk.of (N := 94) (fu := fu)
 (H := [(4, .regJ [] ⟨[(25, .dat true .bool)], []⟩),
  (12, .regJ [] ⟨[(45, .dat true .bool)], []⟩),
  (20, .regJ [] ⟨[(67, .dat true .bool)], []⟩)])
 (tbl := [c_adjointref2_both fu, c_adjointref2_once fu, c_adjointref2_chosen fu, c_adjointref2_SameList fu, c_adjointref2_Free fu])
 mixed (List.forall_mem_cons.2 ⟨c_adjointref2_both_ok fu, List.forall_mem_cons.2 ⟨c_adjointref2_once_ok fu, List.forall_mem_cons.2 ⟨c_adjointref2_chosen_ok fu, List.forall_mem_cons.2 ⟨c_adjointref2_SameList_ok fu, List.forall_mem_cons.2 ⟨c_adjointref2_Free_ok fu, (by intro c h; cases h)⟩⟩⟩⟩⟩) Tryz.func82 Tryz.call82 rfl rfl (by kernel_rfl) (mvs := []) (ns := []) (fun q => by kernel_rfl)
abbrev c_adjointref2_joinDims (fu : Nat) : Con S0 := ⟨83, [.dat false (.st 0), .dat false (.list (.list (.int .i64)))], [], false, [(4, .dat true (.list (.int .i64))), (5, .dat true (.int .i64))], [], fun q => F.adjointref2_joinDims fu q.1 q.2⟩
theorem c_adjointref2_joinDims_ok (fu : Nat) : ConOk Tryz.prog (c_adjointref2_joinDims fu) := ConOk.of (N := 84) (fu := fu)
 (H := [(4, .regJ [] ⟨[(31, .dat true .bool)], []⟩),
  (16, .loopE ⟨[(40, .dat true (.int .i64)), (6, .own 32 (.int .i64))], [(32, .arr 3 true true (.int .i64))]⟩ 0 ⟨[(6, .own 32 (.int .i64))], [(32, .arr 3 true true (.int .i64))]⟩),
  (38, .loopE ⟨[(51, .dat true (.int .i64)), (6, .own 32 (.int .i64))], [(32, .arr 3 true true (.int .i64))]⟩ 2 ⟨[(6, .own 32 (.int .i64))], [(32, .arr 3 true true (.int .i64))]⟩),
  (51, .joinE ⟨[(6, .own 32 (.int .i64))], [(32, .arr 3 true true (.int .i64))]⟩),
  (52, .reg [32]),
  (54, .reg [])])
 (tbl := [])
 mixed (by intro c h; cases h) Tryz.func83 Tryz.call83 rfl rfl (by kernel_rfl) (mvs := []) (ns := []) (fun q => by kernel_rfl)
abbrev c_adjointref1_has (fu : Nat) : Con S0 := ⟨107, [.dat false (.list (.int .i64)), .dat false (.int .i64)], [], false, [(4, .dat true .bool)], [], fun q => F.adjointref1_has fu q.1 q.2⟩
theorem c_adjointref1_has_ok (fu : Nat) : ConOk Tryz.prog (c_adjointref1_has fu) := ConOk.of (N := 17) (fu := fu)
 (H := [(6, .loopE ⟨[(9, .dat true (.int .i64))], []⟩ 0 ⟨[], []⟩)])
 (tbl := [])
 mixed (by intro c h; cases h) Tryz.func107 Tryz.call107 rfl rfl (by kernel_rfl) (mvs := []) (ns := []) (fun q => by kernel_rfl)
abbrev c_adjointref1_Steps (fu : Nat) : Con S0 := ⟨101, [.dat false (.list (.int .i64))], [], false, [(2, .dat true (.list (.int .i64)))], [], fun q => F.adjointref1_Steps fu q⟩
theorem c_adjointref1_Steps_ok (fu : Nat) : ConOk Tryz.prog (c_adjointref1_Steps fu) := ConOk.of (N := 35) (fu := fu)
 (H := [(8, .loop ⟨[(3, .own 8 (.int .i64)), (11, .dat true (.int .i64))], [(8, .arr 3 true true (.int .i64))]⟩ 0 ⟨[(3, .own 8 (.int .i64))], [(8, .arr 3 true true (.int .i64))]⟩),
  (25, .loop ⟨[(5, .dat true (.int .i64)), (19, .dat true (.int .i64))], []⟩ 2 ⟨[(5, .dat true (.int .i64))], []⟩),
  (41, .join ⟨[(5, .dat true (.int .i64))], []⟩)])
 (tbl := [c_adjointref1_has fu])
 mixed (List.forall_mem_cons.2 ⟨c_adjointref1_has_ok fu, (by intro c h; cases h)⟩) Tryz.func101 Tryz.call101 rfl rfl (by kernel_rfl) (mvs := []) (ns := []) (fun q => by kernel_rfl)
abbrev c_adjointref1_Whole (fu : Nat) : Con S0 := ⟨95, [.dat false (.list (.int .i64))], [], false, [(2, .dat false (.st 2)), (3, .dat true (.int .i64))], [], fun q => F.adjointref1_Whole fu q⟩
theorem c_adjointref1_Whole_ok (fu : Nat) : ConOk Tryz.prog (c_adjointref1_Whole fu) := ConOk.of (N := 19) (fu := fu)
 (H := [])
 (tbl := [c_adjointref1_Size fu, c_adjointref1_Steps fu])
 mixed (List.forall_mem_cons.2 ⟨c_adjointref1_Size_ok fu, List.forall_mem_cons.2 ⟨c_adjointref1_Steps_ok fu, (by intro c h; cases h)⟩⟩) Tryz.func95 Tryz.call95 rfl rfl (by kernel_rfl) (mvs := []) (ns := []) (fun q => by kernel_rfl)
abbrev c_adjointref1_far (fu : Nat) : Con S0 := ⟨111, [.dat false (.int .i64)], [], false, [(2, .dat true .bool)], [], fun q => F.adjointref1_far fu q⟩
theorem c_adjointref1_far_ok (fu : Nat) : ConOk Tryz.prog (c_adjointref1_far fu) := ConOk.of (N := 9) (fu := fu)
 (H := [(3, .regJ [] ⟨[(2, .dat true .bool)], []⟩)])
 (tbl := [])
 mixed (by intro c h; cases h) Tryz.func111 Tryz.call111 rfl rfl (by kernel_rfl) (mvs := []) (ns := []) (fun q => by kernel_rfl)
abbrev c_adjointref1_Wrong (fu : Nat) : Con S0 := ⟨106, [.dat false (.st 2)], [], false, [(2, .dat true (.int .i64))], [], fun q => F.adjointref1_Wrong fu q⟩
theorem c_adjointref1_Wrong_ok (fu : Nat) : ConOk Tryz.prog (c_adjointref1_Wrong fu) := ConOk.of (N := 36) (fu := fu)
 (H := [(32, .loopE ⟨[(29, .dat true (.int .i64))], []⟩ 0 ⟨[], []⟩)])
 (tbl := [c_adjointref1_Size fu, c_adjointref1_far fu])
 mixed (List.forall_mem_cons.2 ⟨c_adjointref1_Size_ok fu, List.forall_mem_cons.2 ⟨c_adjointref1_far_ok fu, (by intro c h; cases h)⟩⟩) Tryz.func106 Tryz.call106 rfl rfl (by kernel_rfl) (mvs := []) (ns := []) (fun q => by kernel_rfl)
abbrev c_adjointref1_Spread (fu : Nat) : Con S0 := ⟨96, [.dat false (.st 2), .dat false (.list (.int .i64)), .dat false (.list (.int .i64))], [], false, [(6, .dat false (.st 2)), (7, .dat true (.int .i64))], [], fun q => F.adjointref1_Spread fu q.1 q.2.1 q.2.2⟩
theorem c_adjointref1_Spread_ok (fu : Nat) : ConOk Tryz.prog (c_adjointref1_Spread fu) := ConOk.of (N := 79) (fu := fu)
 (H := [(24, .regJ [] ⟨[(41, .dat true .bool)], []⟩),
  (31, .regJ [11] ⟨[(11, .loc 11 0)], [(11, .box 66 true [.dat true (.int .i64), .dat false (.list (.int .i64)), .own 48 (.int .i64)]), (48, .arr 3 true true (.int .i64))]⟩),
  (36, .loopE ⟨[(52, .dat true (.int .i64))], [(6, .box 66 true [.dat true (.int .i64), .dat true (.list (.int .i64)), .dat true (.list (.int .i64))]), (48, .arr 3 true true (.int .i64)), (11, .box 66 true [.dat true (.int .i64), .dat false (.list (.int .i64)), .own 48 (.int .i64)])]⟩ 0 ⟨[], [(6, .box 66 true [.dat true (.int .i64), .dat true (.list (.int .i64)), .dat true (.list (.int .i64))]), (48, .arr 3 true true (.int .i64)), (11, .box 66 true [.dat true (.int .i64), .dat false (.list (.int .i64)), .own 48 (.int .i64)])]⟩),
  (49, .reg []),
  (55, .reg [48])])
 (tbl := [c_adjointref1_Wrong fu, c_adjointref1_Size fu, c_adjointref1_Rising fu])
 mixed (List.forall_mem_cons.2 ⟨c_adjointref1_Wrong_ok fu, List.forall_mem_cons.2 ⟨c_adjointref1_Size_ok fu, List.forall_mem_cons.2 ⟨c_adjointref1_Rising_ok fu, (by intro c h; cases h)⟩⟩⟩) Tryz.func96 Tryz.call96 rfl rfl (by kernel_rfl) (mvs := []) (ns := []) (fun q => by kernel_rfl)
abbrev c_adjointref1_Turn (fu : Nat) : Con S0 := ⟨97, [.dat false (.st 2), .dat false (.list (.int .i64))], [], false, [(4, .dat true (.st 2)), (5, .dat true (.int .i64))], [], fun q => F.adjointref1_Turn fu q.1 q.2⟩
theorem c_adjointref1_Turn_ok (fu : Nat) : ConOk Tryz.prog (c_adjointref1_Turn fu) := ConOk.of (N := 67) (fu := fu)
 (H := [(24, .loopE ⟨[(27, .dat true (.int .i64))], [(4, .box 66 true [.dat true (.int .i64), .dat true (.list (.int .i64)), .dat true (.list (.int .i64))])]⟩ 0 ⟨[], [(4, .box 66 true [.dat true (.int .i64), .dat true (.list (.int .i64)), .dat true (.list (.int .i64))])]⟩),
  (49, .loop ⟨[(41, .dat true (.int .i64))], [(8, .box 66 true [.dat true (.int .i64), .own 420 (.int .i64), .own 421 (.int .i64)]), (420, .arr 3 true true (.int .i64)), (421, .arr 3 true true (.int .i64))]⟩ 2 ⟨[], [(8, .box 66 true [.dat true (.int .i64), .own 420 (.int .i64), .own 421 (.int .i64)]), (420, .arr 3 true true (.int .i64)), (421, .arr 3 true true (.int .i64))]⟩),
  (61, .regJ [53, 8, 420] ⟨[], [(420, .arr 3 true true (.int .i64)), (8, .box 66 true [.dat true (.int .i64), .own 420 (.int .i64), .own 421 (.int .i64)])]⟩),
  (62, .regJ [421, 8] ⟨[], [(421, .arr 3 true true (.int .i64)), (8, .box 66 true [.dat true (.int .i64), .own 420 (.int .i64), .own 421 (.int .i64)])]⟩)])
 (tbl := [c_adjointref1_Wrong fu, c_adjointref1_has fu])
 mixed (List.forall_mem_cons.2 ⟨c_adjointref1_Wrong_ok fu, List.forall_mem_cons.2 ⟨c_adjointref1_has_ok fu, (by intro c h; cases h)⟩⟩) Tryz.func97 Tryz.call97 rfl rfl (by kernel_rfl) (mvs := []) (ns := []) (fun q => by kernel_rfl)
abbrev c_adjointref1_Kept (fu : Nat) : Con S0 := ⟨108, [.dat false (.int .i64), .dat false (.int .i64), .dat false (.int .i64)], [], false, [(6, .dat true (.int .i64))], [], fun q => F.adjointref1_Kept fu q.1 q.2.1 q.2.2⟩
theorem c_adjointref1_Kept_ok (fu : Nat) : ConOk Tryz.prog (c_adjointref1_Kept fu) := ConOk.of (N := 19) (fu := fu)
 (H := [(8, .loop ⟨[(7, .dat true (.int .i64)), (8, .dat true (.int .i64))], []⟩ 0 ⟨[(7, .dat true (.int .i64))], []⟩)])
 (tbl := [])
 mixed (by intro c h; cases h) Tryz.func108 Tryz.call108 rfl rfl (by kernel_rfl) (mvs := []) (ns := []) (fun q => by kernel_rfl)
abbrev c_adjointref1_made (fu : Nat) : Con S0 := ⟨109, [.dat false (.st 2)], [], false, [(2, .dat false (.st 2)), (3, .dat true (.int .i64))], [], fun q => F.adjointref1_made fu q⟩
theorem c_adjointref1_made_ok (fu : Nat) : ConOk Tryz.prog (c_adjointref1_made fu) := ConOk.of (N := 9) (fu := fu)
 (H := [])
 (tbl := [c_adjointref1_Wrong fu])
 mixed (List.forall_mem_cons.2 ⟨c_adjointref1_Wrong_ok fu, (by intro c h; cases h)⟩) Tryz.func109 Tryz.call109 rfl rfl (by kernel_rfl) (mvs := []) (ns := []) (fun q => by kernel_rfl)
abbrev c_adjointref1_Cut (fu : Nat) : Con S0 := ⟨98, [.dat false (.st 2), .dat false (.list (.int .i64)), .dat false (.list (.int .i64)), .dat false (.list (.int .i64))], [], false, [(8, .dat true (.st 2)), (9, .dat true (.int .i64))], [], fun q => F.adjointref1_Cut fu q.1 q.2.1 q.2.2.1 q.2.2.2⟩
theorem c_adjointref1_Cut_ok (fu : Nat) : ConOk Tryz.prog (c_adjointref1_Cut fu) := ConOk.of (N := 153) (fu := fu)
 (H := [(14, .regJ [] ⟨[(42, .dat true .bool)], []⟩),
  (26, .loopE ⟨[(50, .dat true (.int .i64))], [(8, .box 66 true [.dat true (.int .i64), .dat true (.list (.int .i64)), .dat true (.list (.int .i64))])]⟩ 0 ⟨[], [(8, .box 66 true [.dat true (.int .i64), .dat true (.list (.int .i64)), .dat true (.list (.int .i64))])]⟩),
  (38, .regJ [] ⟨[(92, .dat true .bool)], []⟩),
  (49, .loop ⟨[(98, .dat true (.int .i64))], [(11, .box 66 true [.dat true (.int .i64), .own 420 (.int .i64), .own 421 (.int .i64)]), (420, .arr 3 true true (.int .i64)), (421, .arr 3 true true (.int .i64))]⟩ 2 ⟨[], [(11, .box 66 true [.dat true (.int .i64), .own 420 (.int .i64), .own 421 (.int .i64)]), (420, .arr 3 true true (.int .i64)), (421, .arr 3 true true (.int .i64))]⟩),
  (61, .reg [11]),
  (63, .regJ [420, 11] ⟨[], [(420, .arr 3 true true (.int .i64)), (11, .box 66 true [.dat true (.int .i64), .own 420 (.int .i64), .own 421 (.int .i64)])]⟩),
  (64, .regJ [421, 11] ⟨[], [(421, .arr 3 true true (.int .i64)), (11, .box 66 true [.dat true (.int .i64), .own 420 (.int .i64), .own 421 (.int .i64)])]⟩)])
 (tbl := [c_adjointref1_Wrong fu, c_adjointref1_Kept fu, c_adjointref1_made fu])
 mixed (List.forall_mem_cons.2 ⟨c_adjointref1_Wrong_ok fu, List.forall_mem_cons.2 ⟨c_adjointref1_Kept_ok fu, List.forall_mem_cons.2 ⟨c_adjointref1_made_ok fu, (by intro c h; cases h)⟩⟩⟩) Tryz.func98 Tryz.call98 rfl rfl (by kernel_rfl) (mvs := []) (ns := []) (fun q => by kernel_rfl)
abbrev c_adjointref1_Flip (fu : Nat) : Con S0 := ⟨99, [.dat false (.st 2), .dat false (.list (.int .i64))], [], false, [(4, .dat false (.st 2)), (5, .dat true (.int .i64))], [], fun q => F.adjointref1_Flip fu q.1 q.2⟩
theorem c_adjointref1_Flip_ok (fu : Nat) : ConOk Tryz.prog (c_adjointref1_Flip fu) := ConOk.of (N := 70) (fu := fu)
 (H := [(26, .loop ⟨[(31, .dat true (.int .i64))], [(7, .box 66 true [.dat true (.int .i64), .dat false (.list (.int .i64)), .own 420 (.int .i64)]), (420, .arr 3 true true (.int .i64))]⟩ 0 ⟨[], [(7, .box 66 true [.dat true (.int .i64), .dat false (.list (.int .i64)), .own 420 (.int .i64)]), (420, .arr 3 true true (.int .i64))]⟩),
  (40, .join ⟨[(9, .dat true (.int .i64))], [(7, .box 66 true [.dat true (.int .i64), .dat false (.list (.int .i64)), .own 420 (.int .i64)])]⟩),
  (44, .join ⟨[], [(7, .box 66 true [.dat true (.int .i64), .dat false (.list (.int .i64)), .own 420 (.int .i64)])]⟩),
  (45, .reg [7])])
 (tbl := [c_adjointref1_Wrong fu, c_adjointref1_Rising fu, c_adjointref1_has fu, c_adjointref1_made fu])
 mixed (List.forall_mem_cons.2 ⟨c_adjointref1_Wrong_ok fu, List.forall_mem_cons.2 ⟨c_adjointref1_Rising_ok fu, List.forall_mem_cons.2 ⟨c_adjointref1_has_ok fu, List.forall_mem_cons.2 ⟨c_adjointref1_made_ok fu, (by intro c h; cases h)⟩⟩⟩⟩) Tryz.func99 Tryz.call99 rfl rfl (by kernel_rfl) (mvs := []) (ns := []) (fun q => by kernel_rfl)
abbrev c_adjointref2_viewDims (fu : Nat) : Con S0 := ⟨84, [.dat false (.st 0), .dat false (.list (.int .i64))], [], false, [(4, .dat false (.list (.int .i64))), (5, .dat true (.int .i64))], [], fun q => F.adjointref2_viewDims fu q.1 q.2⟩
theorem c_adjointref2_viewDims_ok (fu : Nat) : ConOk Tryz.prog (c_adjointref2_viewDims fu) := ConOk.of (N := 61) (fu := fu)
 (H := [(18, .join ⟨[(7, .dat true (.int .i64))], [(6, .box 66 true [.dat true (.int .i64), .dat false (.list (.int .i64)), .dat false (.list (.int .i64))])]⟩),
  (22, .join ⟨[(7, .dat true (.int .i64))], [(6, .box 66 true [.dat true (.int .i64), .dat false (.list (.int .i64)), .dat false (.list (.int .i64))])]⟩),
  (26, .join ⟨[(7, .dat true (.int .i64))], [(6, .box 66 true [.dat true (.int .i64), .dat false (.list (.int .i64)), .dat false (.list (.int .i64))])]⟩)])
 (tbl := [c_adjointref1_Whole fu, c_adjointref1_Spread fu, c_adjointref1_Turn fu, c_adjointref1_Cut fu, c_adjointref1_Flip fu])
 mixed (List.forall_mem_cons.2 ⟨c_adjointref1_Whole_ok fu, List.forall_mem_cons.2 ⟨c_adjointref1_Spread_ok fu, List.forall_mem_cons.2 ⟨c_adjointref1_Turn_ok fu, List.forall_mem_cons.2 ⟨c_adjointref1_Cut_ok fu, List.forall_mem_cons.2 ⟨c_adjointref1_Flip_ok fu, (by intro c h; cases h)⟩⟩⟩⟩⟩) Tryz.func84 Tryz.call84 rfl rfl (by kernel_rfl) (mvs := []) (ns := []) (fun q => by kernel_rfl)
abbrev c_adjointref2_ruled (fu : Nat) : Con S0 := ⟨47, [.dat false (.st 0), .dat false (.list (.list (.int .i64)))], [], false, [(4, .dat false (.list (.int .i64))), (5, .dat true (.int .i64))], [], fun q => F.adjointref2_ruled fu q.1 q.2⟩
theorem c_adjointref2_ruled_ok (fu : Nat) : ConOk Tryz.prog (c_adjointref2_ruled fu) := ConOk.of (N := 177) (fu := fu)
 (H := [(15, .join ⟨[(18, .dat true .bool)], []⟩),
  (19, .join ⟨[(18, .dat true .bool)], []⟩),
  (23, .join ⟨[(18, .dat true .bool)], []⟩),
  (27, .join ⟨[(18, .dat true .bool)], []⟩),
  (31, .join ⟨[(18, .dat true .bool)], []⟩),
  (39, .loopE ⟨[(27, .dat true (.int .i64))], []⟩ 1 ⟨[], []⟩),
  (66, .reg []),
  (73, .reg []),
  (105, .reg []),
  (111, .reg []),
  (131, .reg []),
  (138, .regJ [] ⟨[(158, .dat true .bool)], []⟩),
  (145, .reg []),
  (149, .reg [])])
 (tbl := [c_adjointref2_SameList fu, c_adjointref1_Rising fu, c_adjointref2_Free fu, c_adjointref2_chosen fu, c_adjointref1_Size fu, c_adjointref2_padDims fu, c_adjointref2_dotDims fu, c_adjointref2_joinDims fu, c_adjointref2_both fu, c_adjointref2_viewDims fu])
 mixed (List.forall_mem_cons.2 ⟨c_adjointref2_SameList_ok fu, List.forall_mem_cons.2 ⟨c_adjointref1_Rising_ok fu, List.forall_mem_cons.2 ⟨c_adjointref2_Free_ok fu, List.forall_mem_cons.2 ⟨c_adjointref2_chosen_ok fu, List.forall_mem_cons.2 ⟨c_adjointref1_Size_ok fu, List.forall_mem_cons.2 ⟨c_adjointref2_padDims_ok fu, List.forall_mem_cons.2 ⟨c_adjointref2_dotDims_ok fu, List.forall_mem_cons.2 ⟨c_adjointref2_joinDims_ok fu, List.forall_mem_cons.2 ⟨c_adjointref2_both_ok fu, List.forall_mem_cons.2 ⟨c_adjointref2_viewDims_ok fu, (by intro c h; cases h)⟩⟩⟩⟩⟩⟩⟩⟩⟩⟩) Tryz.func47 Tryz.call47 rfl rfl (by kernel_rfl) (mvs := []) (ns := []) (fun q => by kernel_rfl)
abbrev c_adjointref2_Dims (fu : Nat) : Con S0 := ⟨22, [.dat false (.st 0), .dat false (.list (.list (.int .i64)))], [], false, [(4, .dat false (.list (.int .i64))), (5, .dat true (.int .i64))], [], fun q => F.adjointref2_Dims fu q.1 q.2⟩
theorem c_adjointref2_Dims_ok (fu : Nat) : ConOk Tryz.prog (c_adjointref2_Dims fu) := ConOk.of (N := 55) (fu := fu)
 (H := [(16, .loopE ⟨[(24, .dat true (.int .i64))], []⟩ 0 ⟨[], []⟩)])
 (tbl := [c_adjointref2_Right fu, c_adjointref1_Size fu, c_adjointref2_ruled fu])
 mixed (List.forall_mem_cons.2 ⟨c_adjointref2_Right_ok fu, List.forall_mem_cons.2 ⟨c_adjointref1_Size_ok fu, List.forall_mem_cons.2 ⟨c_adjointref2_ruled_ok fu, (by intro c h; cases h)⟩⟩⟩) Tryz.func22 Tryz.call22 rfl rfl (by kernel_rfl) (mvs := []) (ns := []) (fun q => by kernel_rfl)
abbrev c_array_Wrong (fu : Nat) : Con S0 := ⟨16, [.dat false (.st 4)], [], false, [(2, .dat true (.int .i64))], [], fun q => F.array_Wrong fu q⟩
theorem c_array_Wrong_ok (fu : Nat) : ConOk Tryz.prog (c_array_Wrong fu) := ConOk.of (N := 21) (fu := fu)
 (H := [(6, .regJ [] ⟨[(19, .dat true .bool)], []⟩)])
 (tbl := [c_view_Size fu])
 mixed (List.forall_mem_cons.2 ⟨c_view_Size_ok fu, (by intro c h; cases h)⟩) Tryz.func16 Tryz.call16 rfl rfl (by kernel_rfl) (mvs := []) (ns := []) (fun q => by kernel_rfl)
abbrev c_array_pairwise (fu : Nat) : Con S0 := ⟨37, [.dat false (.int .i64)], [], false, [(2, .cloN)], [], fun q => F.array_pairwise fu q⟩
theorem c_array_pairwise_ok (fu : Nat) : ConOk Tryz.prog (c_array_pairwise fu) := ConOk.of (N := 12) (fu := fu)
 (H := [])
 (tbl := [])
 mixed (by intro c h; cases h) Tryz.func37 Tryz.call37 rfl rfl (by kernel_rfl) (mvs := []) (ns := []) (fun q => by kernel_rfl)
abbrev c_array_pairwise_1 (fu : Nat) : Con S0 := ⟨73, [.dat false (.int .i64), .dat false (.int .i64)], [], false, [(4, .dat true (.int .i64))], [], fun q => F.array_pairwise_1 fu q.1 q.2⟩
theorem c_array_pairwise_1_ok (fu : Nat) : ConOk Tryz.prog (c_array_pairwise_1 fu) := ConOk.of (N := 8) (fu := fu)
 (H := [])
 (tbl := [])
 mixed (by intro c h; cases h) Tryz.func73 Tryz.call73 rfl rfl (by kernel_rfl) (mvs := []) (ns := []) (fun q => by kernel_rfl)
abbrev c_array_pairwise_2 (fu : Nat) : Con S0 := ⟨74, [.dat false (.int .i64), .dat false (.int .i64)], [], false, [(4, .dat true (.int .i64))], [], fun q => F.array_pairwise_2 fu q.1 q.2⟩
theorem c_array_pairwise_2_ok (fu : Nat) : ConOk Tryz.prog (c_array_pairwise_2 fu) := ConOk.of (N := 8) (fu := fu)
 (H := [])
 (tbl := [])
 mixed (by intro c h; cases h) Tryz.func74 Tryz.call74 rfl rfl (by kernel_rfl) (mvs := []) (ns := []) (fun q => by kernel_rfl)
abbrev c_array_pairwise_3 (fu : Nat) : Con S0 := ⟨75, [.dat false (.int .i64), .dat false (.int .i64)], [], false, [(4, .dat true (.int .i64))], [], fun q => F.array_pairwise_3 fu q.1 q.2⟩
theorem c_array_pairwise_3_ok (fu : Nat) : ConOk Tryz.prog (c_array_pairwise_3 fu) := ConOk.of (N := 8) (fu := fu)
 (H := [])
 (tbl := [])
 mixed (by intro c h; cases h) Tryz.func75 Tryz.call75 rfl rfl (by kernel_rfl) (mvs := []) (ns := []) (fun q => by kernel_rfl)
abbrev c_array_pairwise_4 (fu : Nat) : Con S0 := ⟨76, [.dat false (.int .i64), .dat false (.int .i64)], [], false, [(4, .dat true (.int .i64))], [], fun q => F.array_pairwise_4 fu q.1 q.2⟩
theorem c_array_pairwise_4_ok (fu : Nat) : ConOk Tryz.prog (c_array_pairwise_4 fu) := ConOk.of (N := 8) (fu := fu)
 (H := [])
 (tbl := [])
 mixed (by intro c h; cases h) Tryz.func76 Tryz.call76 rfl rfl (by kernel_rfl) (mvs := []) (ns := []) (fun q => by kernel_rfl)
abbrev c_array_pairwise_5 (fu : Nat) : Con S0 := ⟨77, [.dat false (.int .i64), .dat false (.int .i64)], [], false, [(4, .dat true (.int .i64))], [], fun q => F.array_pairwise_5 fu q.1 q.2⟩
theorem c_array_pairwise_5_ok (fu : Nat) : ConOk Tryz.prog (c_array_pairwise_5 fu) := ConOk.of (N := 8) (fu := fu)
 (H := [])
 (tbl := [])
 mixed (by intro c h; cases h) Tryz.func77 Tryz.call77 rfl rfl (by kernel_rfl) (mvs := []) (ns := []) (fun q => by kernel_rfl)
abbrev c_view_Reads (fu : Nat) : Con S0 := ⟨79, [.dat false (.st 2)], [], false, [(2, .dat false (.list (.int .i64))), (3, .dat true (.int .i64))], [], fun q => F.view_Reads fu q⟩
theorem c_view_Reads_ok (fu : Nat) : ConOk Tryz.prog (c_view_Reads fu) := ConOk.of (N := 60) (fu := fu)
 (H := [(18, .loop ⟨[(5, .dat false (.list (.int .i64))), (23, .dat true (.int .i64))], []⟩ 0 ⟨[(5, .dat false (.list (.int .i64)))], []⟩),
  (35, .loop ⟨[(8, .own 32 (.int .i64)), (35, .dat true (.int .i64))], [(32, .arr 3 true true (.int .i64))]⟩ 2 ⟨[(8, .own 32 (.int .i64))], [(32, .arr 3 true true (.int .i64))]⟩),
  (49, .loop ⟨[(8, .own 32 (.int .i64)), (40, .dat true (.int .i64))], [(32, .arr 3 true true (.int .i64))]⟩ 4 ⟨[(8, .own 32 (.int .i64))], [(32, .arr 3 true true (.int .i64))]⟩)])
 (tbl := [c_view_Wrong fu])
 mixed (List.forall_mem_cons.2 ⟨c_view_Wrong_ok fu, (by intro c h; cases h)⟩) Tryz.func79 Tryz.call79 rfl rfl (by kernel_rfl) (mvs := []) (ns := []) (fun q => by kernel_rfl)
abbrev c_array_gather (fu : Nat) : Con S0 := ⟨45, [.dat false (.st 2), .dat false (.list (.int .i64)), .own 1000 (.int .i64)], [.arr 2 false false (.int .i64)], false, [], [(1000, .arr 2 false true (.int .i64))], fun q => F.array_gather fu q.1 q.2.1 q.2.2⟩
theorem c_array_gather_ok (fu : Nat) : ConOk Tryz.prog (c_array_gather fu) := ConOk.of (N := 30) (fu := fu)
 (H := [(7, .loop ⟨[(17, .dat true (.int .i64)), (2, .own 1000 (.int .i64))], [(1000, .arr 2 false true (.int .i64))]⟩ 0 ⟨[], [(1000, .arr 2 false true (.int .i64))]⟩)])
 (tbl := [c_view_Reads fu])
 mixed (List.forall_mem_cons.2 ⟨c_view_Reads_ok fu, (by intro c h; cases h)⟩) Tryz.func45 Tryz.call45 rfl rfl (by kernel_rfl) (mvs := []) (ns := []) (fun q => by kernel_rfl)
abbrev c_array_turned (fu : Nat) : Con S0 := ⟨78, [.dat false (.st 4), .dat false (.list (.int .i64))], [], false, [(4, .dat true (.list (.int .i64)))], [], fun q => F.array_turned fu q.1 q.2⟩
theorem c_array_turned_ok (fu : Nat) : ConOk Tryz.prog (c_array_turned fu) := ConOk.of (N := 30) (fu := fu)
 (H := [])
 (tbl := [c_array_gather fu, c_view_Whole fu, c_view_Turn fu])
 mixed (List.forall_mem_cons.2 ⟨c_array_gather_ok fu, List.forall_mem_cons.2 ⟨c_view_Whole_ok fu, List.forall_mem_cons.2 ⟨c_view_Turn_ok fu, (by intro c h; cases h)⟩⟩⟩) Tryz.func78 Tryz.call78 rfl rfl (by kernel_rfl) (mvs := []) (ns := []) (fun q => by kernel_rfl)
abbrev c_array_sum (fu : Nat) : Con S0 := ⟨38, [.dat false (.list (.int .i64)), .dat false (.st 4), .agg [.dat false (.list (.int .i64)), .own 1000 (.int .i64)]], [.arr 2 false false (.int .i64)], false, [], [(1000, .arr 2 false true (.int .i64))], fun q => F.array_sum fu q.1 q.2.1 q.2.2.1 q.2.2.2⟩
theorem c_array_sum_ok (fu : Nat) : ConOk Tryz.prog (c_array_sum fu) := ConOk.of (N := 80) (fu := fu)
 (H := [(8, .loop ⟨[(6, .own 13 (.int .i64)), (17, .dat true (.int .i64))], [(13, .arr 3 true true (.int .i64))]⟩ 0 ⟨[(6, .own 13 (.int .i64))], [(13, .arr 3 true true (.int .i64))]⟩),
  (21, .join ⟨[(6, .own 13 (.int .i64))], [(13, .arr 3 true true (.int .i64))]⟩),
  (26, .reg []),
  (29, .regJ [] ⟨[(43, .dat true .bool)], []⟩),
  (38, .loop ⟨[(53, .dat true (.int .i64))], [(1000, .arr 2 false true (.int .i64)), (5, .box 28 true [.dat false (.list (.int .i64)), .own 1000 (.int .i64)])]⟩ 2 ⟨[], [(1000, .arr 2 false true (.int .i64)), (5, .box 28 true [.dat false (.list (.int .i64)), .own 1000 (.int .i64)])]⟩),
  (52, .loop ⟨[(66, .dat true (.int .i64))], [(1000, .arr 2 false true (.int .i64)), (5, .box 28 true [.dat false (.list (.int .i64)), .own 1000 (.int .i64)])]⟩ 4 ⟨[], [(1000, .arr 2 false true (.int .i64)), (5, .box 28 true [.dat false (.list (.int .i64)), .own 1000 (.int .i64)])]⟩)])
 (tbl := [c_slices_Contains fu, c_slices_Concat fu, c_array_turned fu])
 mixed (List.forall_mem_cons.2 ⟨c_slices_Contains_ok fu, List.forall_mem_cons.2 ⟨c_slices_Concat_ok fu, List.forall_mem_cons.2 ⟨c_array_turned_ok fu, (by intro c h; cases h)⟩⟩⟩) Tryz.func38 Tryz.call38 rfl rfl (by kernel_rfl) (mvs := []) (ns := []) (fun q => by kernel_rfl)
abbrev c_array_pad (fu : Nat) : Con S0 := ⟨39, [.dat false (.st 0), .dat false (.st 4), .agg [.dat false (.list (.int .i64)), .own 1000 (.int .i64)]], [.arr 2 false false (.int .i64)], false, [], [(1000, .arr 2 false true (.int .i64))], fun q => F.array_pad fu q.1 q.2.1 q.2.2.1 q.2.2.2⟩
theorem c_array_pad_ok (fu : Nat) : ConOk Tryz.prog (c_array_pad fu) := ConOk.of (N := 94) (fu := fu)
 (H := [(8, .loop ⟨[(23, .dat true (.int .i64)), (6, .own 19 (.int .i64))], [(19, .arr 3 true true (.int .i64))]⟩ 0 ⟨[(6, .own 19 (.int .i64))], [(19, .arr 3 true true (.int .i64))]⟩),
  (23, .join ⟨[(6, .own 19 (.int .i64))], [(19, .arr 3 true true (.int .i64))]⟩),
  (24, .reg [19]),
  (42, .loop ⟨[(79, .dat true (.int .i64))], [(1000, .arr 2 false true (.int .i64)), (5, .box 28 true [.dat false (.list (.int .i64)), .own 1000 (.int .i64)])]⟩ 2 ⟨[], [(1000, .arr 2 false true (.int .i64)), (5, .box 28 true [.dat false (.list (.int .i64)), .own 1000 (.int .i64)])]⟩),
  (53, .reg [1000])])
 (tbl := [c_view_Whole fu, c_view_Cut fu, c_view_Reads fu])
 mixed (List.forall_mem_cons.2 ⟨c_view_Whole_ok fu, List.forall_mem_cons.2 ⟨c_view_Cut_ok fu, List.forall_mem_cons.2 ⟨c_view_Reads_ok fu, (by intro c h; cases h)⟩⟩⟩) Tryz.func39 Tryz.call39 rfl rfl (by kernel_rfl) (mvs := []) (ns := []) (fun q => by kernel_rfl)
abbrev c_array_dot (fu : Nat) : Con S0 := ⟨40, [.dat false (.st 0), .dat false (.st 4), .dat false (.st 4), .agg [.dat false (.list (.int .i64)), .own 1000 (.int .i64)]], [.arr 2 false false (.int .i64)], false, [], [(1000, .arr 2 false true (.int .i64))], fun q => F.array_dot fu q.1 q.2.1 q.2.2.1 q.2.2.2.1 q.2.2.2.2⟩
theorem c_array_dot_ok (fu : Nat) : ConOk Tryz.prog (c_array_dot fu) := ConOk.of (N := 123) (fu := fu)
 (H := [(5, .reg []),
  (8, .regJ [] ⟨[(44, .dat true .bool)], []⟩),
  (15, .loop ⟨[(47, .dat true (.int .i64))], [(1000, .arr 2 false true (.int .i64)), (7, .box 28 true [.dat false (.list (.int .i64)), .own 1000 (.int .i64)])]⟩ 0 ⟨[], [(1000, .arr 2 false true (.int .i64)), (7, .box 28 true [.dat false (.list (.int .i64)), .own 1000 (.int .i64)])]⟩),
  (29, .loop ⟨[(52, .dat true (.int .i64))], [(1000, .arr 2 false true (.int .i64)), (7, .box 28 true [.dat false (.list (.int .i64)), .own 1000 (.int .i64)])]⟩ 2 ⟨[], [(1000, .arr 2 false true (.int .i64)), (7, .box 28 true [.dat false (.list (.int .i64)), .own 1000 (.int .i64)])]⟩),
  (41, .reg []),
  (45, .loop ⟨[(71, .dat true (.int .i64))], [(1000, .arr 2 false true (.int .i64)), (7, .box 28 true [.dat false (.list (.int .i64)), .own 1000 (.int .i64)])]⟩ 4 ⟨[], [(1000, .arr 2 false true (.int .i64)), (7, .box 28 true [.dat false (.list (.int .i64)), .own 1000 (.int .i64)])]⟩),
  (57, .reg []),
  (64, .loop ⟨[(17, .dat true (.int .i64)), (90, .dat true (.int .i64))], []⟩ 6 ⟨[(17, .dat true (.int .i64))], []⟩),
  (75, .reg [])])
 (tbl := [c_array_pair fu, c_array_turned fu])
 mixed (List.forall_mem_cons.2 ⟨c_array_pair_ok fu, List.forall_mem_cons.2 ⟨c_array_turned_ok fu, (by intro c h; cases h)⟩⟩) Tryz.func40 Tryz.call40 rfl rfl (by kernel_rfl) (mvs := []) (ns := []) (fun q => by kernel_rfl)
abbrev c_array_join (fu : Nat) : Con S0 := ⟨41, [.dat false (.int .i64), .dat false (.list (.st 4)), .agg [.dat false (.list (.int .i64)), .own 1000 (.int .i64)]], [.arr 2 false false (.int .i64)], false, [], [(1000, .arr 2 false true (.int .i64))], fun q => F.array_join fu q.1 q.2.1 q.2.2.1 q.2.2.2⟩
theorem c_array_join_ok (fu : Nat) : ConOk Tryz.prog (c_array_join fu) := ConOk.of (N := 89) (fu := fu)
 (H := [(8, .loop ⟨[(6, .dat true (.int .i64)), (21, .dat true (.int .i64))], []⟩ 0 ⟨[(6, .dat true (.int .i64))], []⟩),
  (34, .loop ⟨[(10, .dat true (.int .i64)), (42, .dat true (.int .i64))], [(1000, .arr 2 false true (.int .i64)), (5, .box 28 true [.dat false (.list (.int .i64)), .own 1000 (.int .i64)])]⟩ 2 ⟨[], [(1000, .arr 2 false true (.int .i64)), (5, .box 28 true [.dat false (.list (.int .i64)), .own 1000 (.int .i64)])]⟩),
  (51, .loop ⟨[(14, .dat true (.int .i64))], [(1000, .arr 2 false true (.int .i64)), (5, .box 28 true [.dat false (.list (.int .i64)), .own 1000 (.int .i64)])]⟩ 4 ⟨[], [(1000, .arr 2 false true (.int .i64)), (5, .box 28 true [.dat false (.list (.int .i64)), .own 1000 (.int .i64)])]⟩),
  (54, .regJ [] ⟨[(63, .dat true .bool)], []⟩),
  (60, .reg [1000])])
 (tbl := [])
 mixed (by intro c h; cases h) Tryz.func41 Tryz.call41 rfl rfl (by kernel_rfl) (mvs := []) (ns := []) (fun q => by kernel_rfl)
abbrev c_array_fill_1 (fu : Nat) : Con S0 := ⟨43, [.sub 1000 (.int .i64), .dat false (.list (.int .i64))], [.arr 2 false false (.int .i64)], false, [], [(1000, .arr 2 false true (.int .i64))], fun q => F.array_fill_1 fu q.1 q.2.1 q.2.2.1 q.2.2.2⟩
theorem c_array_fill_1_ok (fu : Nat) : ConOk Tryz.prog (c_array_fill_1 fu) := ConOk.of (N := 7) (fu := fu)
 (H := [])
 (tbl := [])
 mixed (by intro c h; cases h) Tryz.func43 Tryz.call43 rfl rfl (by kernel_rfl) (mvs := []) (ns := []) (fun q => by kernel_rfl)
abbrev c_array_rows (fu : Nat) : Con S0 := ⟨42, [.dat false (.st 4), .agg [.dat false (.list (.int .i64)), .own 1000 (.int .i64)], .dat false (.st 4), .clo 43 []], [.arr 2 false false (.int .i64)], false, [], [(1000, .arr 2 false true (.int .i64))], fun q => F.array_rows fu q.1 q.2.1 q.2.2.1 q.2.2.2⟩
theorem c_array_rows_ok (fu : Nat) : ConOk Tryz.prog (c_array_rows fu) := ConOk.of (N := 69) (fu := fu)
 (H := [(3, .reg []),
  (6, .regJ [] ⟨[(25, .dat true .bool)], []⟩),
  (15, .loop ⟨[(34, .dat true (.int .i64))], [(1000, .arr 2 false true (.int .i64)), (5, .box 28 true [.dat false (.list (.int .i64)), .own 1000 (.int .i64)])]⟩ 0 ⟨[], [(1000, .arr 2 false true (.int .i64)), (5, .box 28 true [.dat false (.list (.int .i64)), .own 1000 (.int .i64)])]⟩),
  (27, .regJ [] ⟨[(45, .dat true .bool)], []⟩),
  (28, .join ⟨[], [(1000, .arr 2 false true (.int .i64)), (5, .box 28 true [.dat false (.list (.int .i64)), .own 1000 (.int .i64)])]⟩),
  (29, .reg [1000])])
 (tbl := [c_array_fill_1 fu])
 mixed (List.forall_mem_cons.2 ⟨c_array_fill_1_ok fu, (by intro c h; cases h)⟩) Tryz.func42 Tryz.call42 rfl rfl (by kernel_rfl) (mvs := []) (ns := []) (fun q => by kernel_rfl)
abbrev c_array_fill_2 (fu : Nat) : Con S0 := ⟨44, [.dat false (.list (.int .i64)), .sub 1000 (.int .i64)], [.arr 2 false false (.int .i64)], false, [], [(1000, .arr 2 false true (.int .i64))], fun q => F.array_fill_2 fu q.1 q.2.1 q.2.2.1 q.2.2.2⟩
theorem c_array_fill_2_ok (fu : Nat) : ConOk Tryz.prog (c_array_fill_2 fu) := ConOk.of (N := 21) (fu := fu)
 (H := [(3, .loop ⟨[(7, .dat true (.int .i64)), (1, .sub 1000 (.int .i64))], [(1000, .arr 2 false true (.int .i64))]⟩ 0 ⟨[], [(1000, .arr 2 false true (.int .i64))]⟩),
  (14, .reg [1000])])
 (tbl := [])
 mixed (by intro c h; cases h) Tryz.func44 Tryz.call44 rfl rfl (by kernel_rfl) (mvs := []) (ns := []) (fun q => by kernel_rfl)
abbrev c_array_rows_2 (fu : Nat) : Con S0 := ⟨42, [.dat false (.st 4), .dat false (.st 4), .agg [.dat false (.list (.int .i64)), .own 1000 (.int .i64)], .clo 44 []], [.arr 2 false false (.int .i64)], false, [], [(1000, .arr 2 false true (.int .i64))], fun q => F.array_rows_2 fu q.1 q.2.1 q.2.2.1 q.2.2.2⟩
theorem c_array_rows_2_ok (fu : Nat) : ConOk Tryz.prog (c_array_rows_2 fu) := ConOk.of (N := 69) (fu := fu)
 (H := [(3, .reg []),
  (6, .regJ [] ⟨[(25, .dat true .bool)], []⟩),
  (15, .loop ⟨[(34, .dat true (.int .i64))], [(1000, .arr 2 false true (.int .i64)), (6, .box 28 true [.dat false (.list (.int .i64)), .own 1000 (.int .i64)])]⟩ 0 ⟨[], [(1000, .arr 2 false true (.int .i64)), (6, .box 28 true [.dat false (.list (.int .i64)), .own 1000 (.int .i64)])]⟩),
  (27, .regJ [] ⟨[(45, .dat true .bool)], []⟩),
  (28, .join ⟨[], [(1000, .arr 2 false true (.int .i64)), (6, .box 28 true [.dat false (.list (.int .i64)), .own 1000 (.int .i64)])]⟩),
  (29, .reg [1000])])
 (tbl := [c_array_fill_2 fu])
 mixed (List.forall_mem_cons.2 ⟨c_array_fill_2_ok fu, (by intro c h; cases h)⟩) Tryz.func42 Tryz.call42 rfl rfl (by kernel_rfl) (mvs := []) (ns := []) (fun q => by kernel_rfl)
abbrev c_array_fill (fu : Nat) : Con S0 := ⟨19, [.dat false (.st 0), .dat false (.list (.st 4)), .agg [.dat false (.list (.int .i64)), .own 1000 (.int .i64)]], [.arr 2 false false (.int .i64)], false, [], [(1000, .arr 2 false true (.int .i64))], fun q => F.array_fill fu q.1 q.2.1 q.2.2.1 q.2.2.2⟩
theorem c_array_fill_ok (fu : Nat) : ConOk Tryz.prog (c_array_fill fu) := ConOk.of (N := 177) (fu := fu)
 (H := [(7, .join ⟨[], [(5, .box 28 true [.dat false (.list (.int .i64)), .own 1000 (.int .i64)]), (1000, .arr 2 false true (.int .i64))]⟩),
  (11, .loop ⟨[(37, .dat true (.int .i64))], [(1000, .arr 2 false true (.int .i64)), (5, .box 28 true [.dat false (.list (.int .i64)), .own 1000 (.int .i64)])]⟩ 1 ⟨[], [(1000, .arr 2 false true (.int .i64)), (5, .box 28 true [.dat false (.list (.int .i64)), .own 1000 (.int .i64)])]⟩),
  (27, .join ⟨[(47, .dat true .bool)], []⟩),
  (31, .join ⟨[(47, .dat true .bool)], []⟩),
  (35, .join ⟨[(47, .dat true .bool)], []⟩),
  (39, .join ⟨[(47, .dat true .bool)], []⟩),
  (42, .join ⟨[], [(5, .box 28 true [.dat false (.list (.int .i64)), .own 1000 (.int .i64)]), (1000, .arr 2 false true (.int .i64))]⟩),
  (48, .loop ⟨[(59, .dat true (.int .i64))], [(1000, .arr 2 false true (.int .i64)), (5, .box 28 true [.dat false (.list (.int .i64)), .own 1000 (.int .i64)])]⟩ 3 ⟨[], [(1000, .arr 2 false true (.int .i64)), (5, .box 28 true [.dat false (.list (.int .i64)), .own 1000 (.int .i64)])]⟩),
  (59, .regJ [1000] ⟨[], [(1000, .arr 2 false true (.int .i64)), (5, .box 28 true [.dat false (.list (.int .i64)), .own 1000 (.int .i64)])]⟩),
  (63, .join ⟨[], [(5, .box 28 true [.dat false (.list (.int .i64)), .own 1000 (.int .i64)]), (1000, .arr 2 false true (.int .i64))]⟩),
  (67, .loop ⟨[(90, .dat true (.int .i64))], [(1000, .arr 2 false true (.int .i64)), (5, .box 28 true [.dat false (.list (.int .i64)), .own 1000 (.int .i64)])]⟩ 5 ⟨[], [(1000, .arr 2 false true (.int .i64)), (5, .box 28 true [.dat false (.list (.int .i64)), .own 1000 (.int .i64)])]⟩),
  (79, .reg [1000]),
  (82, .join ⟨[], [(1000, .arr 2 false true (.int .i64)), (5, .box 28 true [.dat false (.list (.int .i64)), .own 1000 (.int .i64)])]⟩),
  (83, .reg [1000]),
  (88, .join ⟨[], [(5, .box 28 true [.dat false (.list (.int .i64)), .own 1000 (.int .i64)]), (1000, .arr 2 false true (.int .i64))]⟩),
  (89, .reg [1000]),
  (92, .join ⟨[], [(5, .box 28 true [.dat false (.list (.int .i64)), .own 1000 (.int .i64)]), (1000, .arr 2 false true (.int .i64))]⟩),
  (93, .reg [1000]),
  (96, .join ⟨[], [(5, .box 28 true [.dat false (.list (.int .i64)), .own 1000 (.int .i64)]), (1000, .arr 2 false true (.int .i64))]⟩),
  (97, .reg [1000]),
  (100, .join ⟨[], [(5, .box 28 true [.dat false (.list (.int .i64)), .own 1000 (.int .i64)]), (1000, .arr 2 false true (.int .i64))]⟩),
  (101, .reg [1000]),
  (104, .join ⟨[], [(5, .box 28 true [.dat false (.list (.int .i64)), .own 1000 (.int .i64)]), (1000, .arr 2 false true (.int .i64))]⟩),
  (105, .reg [1000]),
  (108, .join ⟨[], [(1000, .arr 2 false true (.int .i64)), (5, .box 28 true [.dat false (.list (.int .i64)), .own 1000 (.int .i64)])]⟩),
  (109, .reg [1000]),
  (111, .regJ [11] ⟨[(11, .loc 11 0)], [(11, .box 66 true [.dat true (.int .i64), .dat false (.list (.int .i64)), .dat false (.list (.int .i64))])]⟩),
  (112, .reg [1000])])
 (tbl := [c_array_sum fu, c_array_pad fu, c_array_dot fu, c_array_join fu, c_array_rows fu, c_array_rows_2 fu, c_array_gather fu, c_array_pairwise fu, c_array_pairwise_1 fu, c_array_pairwise_2 fu, c_array_pairwise_3 fu, c_array_pairwise_4 fu, c_array_pairwise_5 fu, c_array_look fu])
 mixed (List.forall_mem_cons.2 ⟨c_array_sum_ok fu, List.forall_mem_cons.2 ⟨c_array_pad_ok fu, List.forall_mem_cons.2 ⟨c_array_dot_ok fu, List.forall_mem_cons.2 ⟨c_array_join_ok fu, List.forall_mem_cons.2 ⟨c_array_rows_ok fu, List.forall_mem_cons.2 ⟨c_array_rows_2_ok fu, List.forall_mem_cons.2 ⟨c_array_gather_ok fu, List.forall_mem_cons.2 ⟨c_array_pairwise_ok fu, List.forall_mem_cons.2 ⟨c_array_pairwise_1_ok fu, List.forall_mem_cons.2 ⟨c_array_pairwise_2_ok fu, List.forall_mem_cons.2 ⟨c_array_pairwise_3_ok fu, List.forall_mem_cons.2 ⟨c_array_pairwise_4_ok fu, List.forall_mem_cons.2 ⟨c_array_pairwise_5_ok fu, List.forall_mem_cons.2 ⟨c_array_look_ok fu, (by intro c h; cases h)⟩⟩⟩⟩⟩⟩⟩⟩⟩⟩⟩⟩⟩⟩) Tryz.func19 Tryz.call19 rfl rfl (by kernel_rfl) (mvs := []) (ns := [(80, [73, 74, 75, 76, 77])]) (fun q => by kernel_rfl)
abbrev c_array_Do (fu : Nat) : Con S0 := ⟨7, [.dat false (.st 0), .dat false (.list (.st 4))], [], false, [(4, .dat false (.st 4)), (5, .dat true (.int .i64))], [], fun q => F.array_Do fu q.1 q.2⟩
theorem c_array_Do_ok (fu : Nat) : ConOk Tryz.prog (c_array_Do fu) := ConOk.of (N := 95) (fu := fu)
 (H := [(8, .loop ⟨[(23, .dat true (.int .i64)), (6, .own 20 (.list (.int .i64)))], [(20, .arr 22 true false (.list (.int .i64)))]⟩ 0 ⟨[(6, .own 20 (.list (.int .i64)))], [(20, .arr 22 true false (.list (.int .i64)))]⟩),
  (31, .regJ [] ⟨[(56, .dat true .bool)], []⟩),
  (41, .loopE ⟨[(60, .dat true (.int .i64))], [(4, .box 28 true [.dat true (.list (.int .i64)), .dat true (.list (.int .i64))])]⟩ 2 ⟨[], [(4, .box 28 true [.dat true (.list (.int .i64)), .dat true (.list (.int .i64))])]⟩)])
 (tbl := [c_array_fill fu, c_array_many fu, c_array_Wrong fu, c_array_Dims fu, c_view_Size fu])
 mixed (List.forall_mem_cons.2 ⟨c_array_fill_ok fu, List.forall_mem_cons.2 ⟨c_array_many_ok fu, List.forall_mem_cons.2 ⟨c_array_Wrong_ok fu, List.forall_mem_cons.2 ⟨c_array_Dims_ok fu, List.forall_mem_cons.2 ⟨c_view_Size_ok fu, (by intro c h; cases h)⟩⟩⟩⟩⟩) Tryz.func7 Tryz.call7 rfl rfl (by kernel_rfl) (mvs := []) (ns := []) (fun q => by kernel_rfl)
abbrev c_adjointlaw2_alive (fu : Nat) : Con S0 := ⟨10, [], [], false, [(0, .dat true .bool)], [], fun q => F.adjointlaw2_alive fu⟩
theorem c_adjointlaw2_alive_ok (fu : Nat) : ConOk Tryz.prog (c_adjointlaw2_alive fu) := ConOk.of (N := 28) (fu := fu)
 (H := [(5, .regJ [] ⟨[(0, .dat true .bool)], []⟩)])
 (tbl := [c_array_Do fu])
 mixed (List.forall_mem_cons.2 ⟨c_array_Do_ok fu, (by intro c h; cases h)⟩) Tryz.func10 Tryz.call10 rfl rfl (by kernel_rfl) (mvs := []) (ns := []) (fun q => by kernel_rfl)
abbrev c_adjointref2_Wrong (fu : Nat) : Con S0 := ⟨21, [.dat false (.st 4)], [], false, [(2, .dat true (.int .i64))], [], fun q => F.adjointref2_Wrong fu q⟩
theorem c_adjointref2_Wrong_ok (fu : Nat) : ConOk Tryz.prog (c_adjointref2_Wrong fu) := ConOk.of (N := 19) (fu := fu)
 (H := [])
 (tbl := [c_adjointref1_Size fu])
 mixed (List.forall_mem_cons.2 ⟨c_adjointref1_Size_ok fu, (by intro c h; cases h)⟩) Tryz.func21 Tryz.call21 rfl rfl (by kernel_rfl) (mvs := []) (ns := []) (fun q => by kernel_rfl)
abbrev c_adjointref1_Next (fu : Nat) : Con S0 := ⟨48, [.dat false (.list (.int .i64)), .dat false (.list (.int .i64))], [], false, [(4, .dat true (.list (.int .i64))), (5, .dat true .bool)], [], fun q => F.adjointref1_Next fu q.1 q.2⟩
theorem c_adjointref1_Next_ok (fu : Nat) : ConOk Tryz.prog (c_adjointref1_Next fu) := ConOk.of (N := 38) (fu := fu)
 (H := [(8, .loopE ⟨[(7, .dat true (.int .i64)), (6, .own 8 (.int .i64))], [(8, .arr 3 true true (.int .i64))]⟩ 0 ⟨[(6, .own 8 (.int .i64))], [(8, .arr 3 true true (.int .i64))]⟩),
  (21, .reg [])])
 (tbl := [])
 mixed (by intro c h; cases h) Tryz.func48 Tryz.call48 rfl rfl (by kernel_rfl) (mvs := []) (ns := []) (fun q => by kernel_rfl)
abbrev c_adjointref1_All (fu : Nat) : Con S0 := ⟨23, [.dat false (.list (.int .i64))], [], false, [(2, .dat true (.list (.list (.int .i64))))], [], fun q => F.adjointref1_All fu q⟩
theorem c_adjointref1_All_ok (fu : Nat) : ConOk Tryz.prog (c_adjointref1_All fu) := ConOk.of (N := 33) (fu := fu)
 (H := [(20, .loop ⟨[(5, .dat true (.list (.int .i64))), (7, .dat true .bool), (6, .own 19 (.list (.int .i64)))], [(19, .arr 22 true true (.list (.int .i64)))]⟩ 0 ⟨[(6, .own 19 (.list (.int .i64)))], [(19, .arr 22 true true (.list (.int .i64)))]⟩),
  (32, .join ⟨[(6, .own 19 (.list (.int .i64)))], [(19, .arr 22 true true (.list (.int .i64)))]⟩)])
 (tbl := [c_adjointref1_Size fu, c_adjointref1_Next fu])
 mixed (List.forall_mem_cons.2 ⟨c_adjointref1_Size_ok fu, List.forall_mem_cons.2 ⟨c_adjointref1_Next_ok fu, (by intro c h; cases h)⟩⟩) Tryz.func23 Tryz.call23 rfl rfl (by kernel_rfl) (mvs := []) (ns := []) (fun q => by kernel_rfl)
abbrev c_adjointref2_placed (fu : Nat) : Con S0 := ⟨52, [.dat false (.int .i64), .dat false (.list (.int .i64)), .dat false (.list (.int .i64)), .dat false (.list (.int .i64)), .dat false (.list (.int .i64))], [], false, [(10, .dat true (.list (.int .i64)))], [], fun q => F.adjointref2_placed fu q.1 q.2.1 q.2.2.1 q.2.2.2.1 q.2.2.2.2⟩
theorem c_adjointref2_placed_ok (fu : Nat) : ConOk Tryz.prog (c_adjointref2_placed fu) := ConOk.of (N := 49) (fu := fu)
 (H := [(8, .loop ⟨[(20, .dat true (.int .i64)), (11, .own 17 (.int .i64))], [(17, .arr 3 true true (.int .i64))]⟩ 0 ⟨[(11, .own 17 (.int .i64))], [(17, .arr 3 true true (.int .i64))]⟩),
  (25, .loop ⟨[(35, .dat true (.int .i64)), (11, .own 17 (.int .i64))], [(17, .arr 3 true true (.int .i64))]⟩ 2 ⟨[(11, .own 17 (.int .i64))], [(17, .arr 3 true true (.int .i64))]⟩)])
 (tbl := [])
 mixed (by intro c h; cases h) Tryz.func52 Tryz.call52 rfl rfl (by kernel_rfl) (mvs := []) (ns := []) (fun q => by kernel_rfl)
abbrev c_adjointref1_Lies (fu : Nat) : Con S0 := ⟨100, [.dat false (.st 2), .dat false (.list (.int .i64))], [], false, [(4, .dat true (.int .i64))], [], fun q => F.adjointref1_Lies fu q.1 q.2⟩
theorem c_adjointref1_Lies_ok (fu : Nat) : ConOk Tryz.prog (c_adjointref1_Lies fu) := ConOk.of (N := 28) (fu := fu)
 (H := [(8, .loop ⟨[(5, .dat true (.int .i64)), (12, .dat true (.int .i64))], []⟩ 0 ⟨[(5, .dat true (.int .i64))], []⟩)])
 (tbl := [])
 mixed (by intro c h; cases h) Tryz.func100 Tryz.call100 rfl rfl (by kernel_rfl) (mvs := []) (ns := []) (fun q => by kernel_rfl)
abbrev c_adjointref1_Place (fu : Nat) : Con S0 := ⟨86, [.dat false (.list (.int .i64)), .dat false (.list (.int .i64))], [], false, [(4, .dat true (.int .i64)), (5, .dat true (.int .i64))], [], fun q => F.adjointref1_Place fu q.1 q.2⟩
theorem c_adjointref1_Place_ok (fu : Nat) : ConOk Tryz.prog (c_adjointref1_Place fu) := ConOk.of (N := 50) (fu := fu)
 (H := [(24, .loopE ⟨[(25, .dat true (.int .i64))], []⟩ 0 ⟨[], []⟩),
  (36, .regJ [] ⟨[(42, .dat true .bool)], []⟩)])
 (tbl := [c_adjointref1_Size fu, c_adjointref1_Steps fu, c_adjointref1_Lies fu])
 mixed (List.forall_mem_cons.2 ⟨c_adjointref1_Size_ok fu, List.forall_mem_cons.2 ⟨c_adjointref1_Steps_ok fu, List.forall_mem_cons.2 ⟨c_adjointref1_Lies_ok fu, (by intro c h; cases h)⟩⟩⟩) Tryz.func86 Tryz.call86 rfl rfl (by kernel_rfl) (mvs := []) (ns := []) (fun q => by kernel_rfl)
abbrev c_adjointref2_Get (fu : Nat) : Con S0 := ⟨51, [.dat false (.st 4), .dat false (.list (.int .i64))], [], false, [(4, .dat true (.int .i64))], [], fun q => F.adjointref2_Get fu q.1 q.2⟩
theorem c_adjointref2_Get_ok (fu : Nat) : ConOk Tryz.prog (c_adjointref2_Get fu) := ConOk.of (N := 19) (fu := fu)
 (H := [])
 (tbl := [c_adjointref1_Place fu])
 mixed (List.forall_mem_cons.2 ⟨c_adjointref1_Place_ok fu, (by intro c h; cases h)⟩) Tryz.func51 Tryz.call51 rfl rfl (by kernel_rfl) (mvs := []) (ns := []) (fun q => by kernel_rfl)
abbrev c_adjointref2_padEntry (fu : Nat) : Con S0 := ⟨53, [.dat false (.st 0), .dat false (.st 4), .dat false (.list (.int .i64))], [], false, [(6, .dat true (.int .i64))], [], fun q => F.adjointref2_padEntry fu q.1 q.2.1 q.2.2⟩
theorem c_adjointref2_padEntry_ok (fu : Nat) : ConOk Tryz.prog (c_adjointref2_padEntry fu) := ConOk.of (N := 69) (fu := fu)
 (H := [(8, .loopE ⟨[(16, .dat true (.int .i64)), (7, .own 13 (.int .i64))], [(13, .arr 3 true true (.int .i64))]⟩ 0 ⟨[(7, .own 13 (.int .i64))], [(13, .arr 3 true true (.int .i64))]⟩),
  (23, .regJ [] ⟨[(54, .dat true .bool)], []⟩)])
 (tbl := [c_adjointref2_Get fu])
 mixed (List.forall_mem_cons.2 ⟨c_adjointref2_Get_ok fu, (by intro c h; cases h)⟩) Tryz.func53 Tryz.call53 rfl rfl (by kernel_rfl) (mvs := []) (ns := []) (fun q => by kernel_rfl)
abbrev c_adjointref2_dotEntry (fu : Nat) : Con S0 := ⟨54, [.dat false (.st 0), .dat false (.st 4), .dat false (.st 4), .dat false (.list (.int .i64))], [], false, [(8, .dat true (.int .i64))], [], fun q => F.adjointref2_dotEntry fu q.1 q.2.1 q.2.2.1 q.2.2.2⟩
theorem c_adjointref2_dotEntry_ok (fu : Nat) : ConOk Tryz.prog (c_adjointref2_dotEntry fu) := ConOk.of (N := 101) (fu := fu)
 (H := [(3, .reg []),
  (5, .reg []),
  (18, .loop ⟨[(16, .dat true (.int .i64)), (68, .dat true (.int .i64))], []⟩ 0 ⟨[(16, .dat true (.int .i64))], []⟩),
  (29, .reg [])])
 (tbl := [c_adjointref2_both fu, c_adjointref2_Free fu, c_adjointref2_chosen fu, c_adjointref1_All fu, c_adjointref2_placed fu, c_adjointref2_Get fu])
 mixed (List.forall_mem_cons.2 ⟨c_adjointref2_both_ok fu, List.forall_mem_cons.2 ⟨c_adjointref2_Free_ok fu, List.forall_mem_cons.2 ⟨c_adjointref2_chosen_ok fu, List.forall_mem_cons.2 ⟨c_adjointref1_All_ok fu, List.forall_mem_cons.2 ⟨c_adjointref2_placed_ok fu, List.forall_mem_cons.2 ⟨c_adjointref2_Get_ok fu, (by intro c h; cases h)⟩⟩⟩⟩⟩⟩) Tryz.func54 Tryz.call54 rfl rfl (by kernel_rfl) (mvs := []) (ns := []) (fun q => by kernel_rfl)
abbrev c_adjointref2_joinEntry (fu : Nat) : Con S0 := ⟨55, [.dat false (.st 0), .dat false (.list (.st 4)), .dat false (.list (.int .i64))], [], false, [(6, .dat true (.int .i64))], [], fun q => F.adjointref2_joinEntry fu q.1 q.2.1 q.2.2⟩
theorem c_adjointref2_joinEntry_ok (fu : Nat) : ConOk Tryz.prog (c_adjointref2_joinEntry fu) := ConOk.of (N := 59) (fu := fu)
 (H := [(10, .loopE ⟨[(8, .dat true (.int .i64)), (21, .dat true (.int .i64))], []⟩ 0 ⟨[], []⟩),
  (26, .regJ [] ⟨[(6, .dat true (.int .i64))], []⟩)])
 (tbl := [c_adjointref2_Free fu, c_adjointref2_chosen fu, c_adjointref2_placed fu, c_adjointref2_Get fu])
 mixed (List.forall_mem_cons.2 ⟨c_adjointref2_Free_ok fu, List.forall_mem_cons.2 ⟨c_adjointref2_chosen_ok fu, List.forall_mem_cons.2 ⟨c_adjointref2_placed_ok fu, List.forall_mem_cons.2 ⟨c_adjointref2_Get_ok fu, (by intro c h; cases h)⟩⟩⟩⟩) Tryz.func55 Tryz.call55 rfl rfl (by kernel_rfl) (mvs := []) (ns := []) (fun q => by kernel_rfl)
abbrev c_adjointref2_putEntry (fu : Nat) : Con S0 := ⟨57, [.dat false (.st 4), .dat false (.st 4), .dat false (.list (.int .i64))], [], false, [(6, .dat true (.int .i64))], [], fun q => F.adjointref2_putEntry fu q.1 q.2.1 q.2.2⟩
theorem c_adjointref2_putEntry_ok (fu : Nat) : ConOk Tryz.prog (c_adjointref2_putEntry fu) := ConOk.of (N := 35) (fu := fu)
 (H := [(8, .loop ⟨[(7, .dat true (.int .i64)), (14, .dat true (.int .i64))], []⟩ 0 ⟨[(7, .dat true (.int .i64))], []⟩),
  (20, .reg []),
  (21, .join ⟨[(7, .dat true (.int .i64))], []⟩),
  (22, .reg [])])
 (tbl := [c_adjointref1_All fu, c_adjointref2_Get fu, c_adjointref2_both fu])
 mixed (List.forall_mem_cons.2 ⟨c_adjointref1_All_ok fu, List.forall_mem_cons.2 ⟨c_adjointref2_Get_ok fu, List.forall_mem_cons.2 ⟨c_adjointref2_both_ok fu, (by intro c h; cases h)⟩⟩⟩) Tryz.func57 Tryz.call57 rfl rfl (by kernel_rfl) (mvs := []) (ns := []) (fun q => by kernel_rfl)
abbrev c_adjointref2_viewEntry (fu : Nat) : Con S0 := ⟨58, [.dat false (.st 0), .dat false (.st 4), .dat false (.list (.int .i64))], [], false, [(6, .dat true (.int .i64))], [], fun q => F.adjointref2_viewEntry fu q.1 q.2.1 q.2.2⟩
theorem c_adjointref2_viewEntry_ok (fu : Nat) : ConOk Tryz.prog (c_adjointref2_viewEntry fu) := ConOk.of (N := 117) (fu := fu)
 (H := [(10, .join ⟨[(7, .own 17 (.int .i64))], [(17, .arr 3 true true (.int .i64))]⟩),
  (14, .loop ⟨[(56, .dat true (.int .i64)), (7, .own 17 (.int .i64))], [(17, .arr 3 true true (.int .i64))]⟩ 3 ⟨[(7, .own 17 (.int .i64))], [(17, .arr 3 true true (.int .i64))]⟩),
  (29, .join ⟨[(7, .own 17 (.int .i64))], [(17, .arr 3 true true (.int .i64))]⟩),
  (33, .loop ⟨[(74, .dat true (.int .i64)), (7, .own 17 (.int .i64))], [(17, .arr 3 true true (.int .i64))]⟩ 5 ⟨[(7, .own 17 (.int .i64))], [(17, .arr 3 true true (.int .i64))]⟩),
  (48, .join ⟨[(7, .own 17 (.int .i64))], [(17, .arr 3 true true (.int .i64))]⟩),
  (52, .loop ⟨[(91, .dat true (.int .i64)), (7, .own 17 (.int .i64))], [(17, .arr 3 true true (.int .i64))]⟩ 7 ⟨[(7, .own 17 (.int .i64))], [(17, .arr 3 true true (.int .i64))]⟩),
  (63, .reg [17]),
  (68, .loop ⟨[(22, .dat true (.int .i64)), (7, .own 17 (.int .i64))], [(17, .arr 3 true true (.int .i64))]⟩ 1 ⟨[(7, .own 17 (.int .i64))], [(17, .arr 3 true true (.int .i64))]⟩),
  (83, .join ⟨[(7, .own 17 (.int .i64))], [(17, .arr 3 true true (.int .i64))]⟩),
  (84, .reg [17])])
 (tbl := [c_adjointref2_has fu, c_adjointref2_Get fu])
 mixed (List.forall_mem_cons.2 ⟨c_adjointref2_has_ok fu, List.forall_mem_cons.2 ⟨c_adjointref2_Get_ok fu, (by intro c h; cases h)⟩⟩) Tryz.func58 Tryz.call58 rfl rfl (by kernel_rfl) (mvs := []) (ns := []) (fun q => by kernel_rfl)
abbrev c_adjointref2_entry (fu : Nat) : Con S0 := ⟨24, [.dat false (.st 0), .dat false (.list (.st 4)), .dat false (.list (.int .i64)), .dat false (.int .i64)], [], false, [(8, .dat true (.int .i64))], [], fun q => F.adjointref2_entry fu q.1 q.2.1 q.2.2.1 q.2.2.2⟩
theorem c_adjointref2_entry_ok (fu : Nat) : ConOk Tryz.prog (c_adjointref2_entry fu) := ConOk.of (N := 273) (fu := fu)
 (H := [(16, .reg []),
  (22, .reg []),
  (28, .reg []),
  (35, .reg []),
  (49, .reg []),
  (78, .reg []),
  (81, .reg []),
  (83, .loop ⟨[(9, .dat true (.int .i64)), (161, .dat true (.int .i64))], []⟩ 1 ⟨[(9, .dat true (.int .i64))], []⟩),
  (94, .reg []),
  (109, .reg []),
  (115, .reg []),
  (127, .reg []),
  (130, .regJ [] ⟨[(242, .dat true .bool)], []⟩),
  (137, .reg []),
  (143, .reg []),
  (147, .reg [])])
 (tbl := [c_adjointref2_Free fu, c_adjointref2_chosen fu, c_adjointref1_All fu, c_adjointref2_placed fu, c_adjointref2_Get fu, c_adjointref2_padEntry fu, c_adjointref2_dotEntry fu, c_adjointref2_joinEntry fu, c_adjointref2_both fu, c_adjointref2_putEntry fu, c_adjointref2_viewEntry fu])
 mixed (List.forall_mem_cons.2 ⟨c_adjointref2_Free_ok fu, List.forall_mem_cons.2 ⟨c_adjointref2_chosen_ok fu, List.forall_mem_cons.2 ⟨c_adjointref1_All_ok fu, List.forall_mem_cons.2 ⟨c_adjointref2_placed_ok fu, List.forall_mem_cons.2 ⟨c_adjointref2_Get_ok fu, List.forall_mem_cons.2 ⟨c_adjointref2_padEntry_ok fu, List.forall_mem_cons.2 ⟨c_adjointref2_dotEntry_ok fu, List.forall_mem_cons.2 ⟨c_adjointref2_joinEntry_ok fu, List.forall_mem_cons.2 ⟨c_adjointref2_both_ok fu, List.forall_mem_cons.2 ⟨c_adjointref2_putEntry_ok fu, List.forall_mem_cons.2 ⟨c_adjointref2_viewEntry_ok fu, (by intro c h; cases h)⟩⟩⟩⟩⟩⟩⟩⟩⟩⟩⟩) Tryz.func24 Tryz.call24 rfl rfl (by kernel_rfl) (mvs := []) (ns := []) (fun q => by kernel_rfl)
abbrev c_adjointref2_Do (fu : Nat) : Con S0 := ⟨8, [.dat false (.st 0), .dat false (.list (.st 4))], [], false, [(4, .dat false (.st 4)), (5, .dat true (.int .i64))], [], fun q => F.adjointref2_Do fu q.1 q.2⟩
theorem c_adjointref2_Do_ok (fu : Nat) : ConOk Tryz.prog (c_adjointref2_Do fu) := ConOk.of (N := 74) (fu := fu)
 (H := [(18, .loopE ⟨[(7, .own 7 (.list (.int .i64))), (26, .dat true (.int .i64))], [(4, .box 28 true [.dat true (.list (.int .i64)), .dat true (.list (.int .i64))]), (7, .arr 22 true false (.list (.int .i64)))]⟩ 0 ⟨[(7, .own 7 (.list (.int .i64)))], [(4, .box 28 true [.dat true (.list (.int .i64)), .dat true (.list (.int .i64))]), (7, .arr 22 true false (.list (.int .i64)))]⟩),
  (57, .loop ⟨[(57, .dat true (.int .i64))], [(13, .box 28 true [.dat false (.list (.int .i64)), .own 420 (.int .i64)]), (420, .arr 2 true true (.int .i64))]⟩ 2 ⟨[], [(13, .box 28 true [.dat false (.list (.int .i64)), .own 420 (.int .i64)]), (420, .arr 2 true true (.int .i64))]⟩),
  (68, .regJ [70, 13, 420] ⟨[], [(420, .arr 2 true true (.int .i64)), (13, .box 28 true [.dat false (.list (.int .i64)), .own 420 (.int .i64)])]⟩)])
 (tbl := [c_adjointref2_Right fu, c_adjointref2_Wrong fu, c_adjointref2_Dims fu, c_adjointref1_All fu, c_adjointref2_entry fu])
 mixed (List.forall_mem_cons.2 ⟨c_adjointref2_Right_ok fu, List.forall_mem_cons.2 ⟨c_adjointref2_Wrong_ok fu, List.forall_mem_cons.2 ⟨c_adjointref2_Dims_ok fu, List.forall_mem_cons.2 ⟨c_adjointref1_All_ok fu, List.forall_mem_cons.2 ⟨c_adjointref2_entry_ok fu, (by intro c h; cases h)⟩⟩⟩⟩⟩) Tryz.func8 Tryz.call8 rfl rfl (by kernel_rfl) (mvs := []) (ns := []) (fun q => by kernel_rfl)
abbrev c_array_Inner (fu : Nat) : Con S0 := ⟨14, [.dat false (.st 4), .dat false (.st 4)], [], false, [(4, .dat true (.int .i64)), (5, .dat true (.int .i64))], [], fun q => F.array_Inner fu q.1 q.2⟩
theorem c_array_Inner_ok (fu : Nat) : ConOk Tryz.prog (c_array_Inner fu) := ConOk.of (N := 46) (fu := fu)
 (H := [(36, .loop ⟨[(8, .dat true (.int .i64)), (30, .dat true (.int .i64))], []⟩ 0 ⟨[(8, .dat true (.int .i64))], []⟩)])
 (tbl := [c_array_Wrong fu, c_slices_Equal fu])
 mixed (List.forall_mem_cons.2 ⟨c_array_Wrong_ok fu, List.forall_mem_cons.2 ⟨c_slices_Equal_ok fu, (by intro c h; cases h)⟩⟩) Tryz.func14 Tryz.call14 rfl rfl (by kernel_rfl) (mvs := []) (ns := []) (fun q => by kernel_rfl)
abbrev c_adjointlaw2_ArrayRows (fu : Nat) : Con S0 := ⟨6, [.dat false (.st 4), .dat false (.st 4), .dat false (.list (.int .i64))], [], false, [(6, .dat true .bool)], [], fun q => F.adjointlaw2_ArrayRows fu q.1 q.2.1 q.2.2⟩
theorem c_adjointlaw2_ArrayRows_ok (fu : Nat) : ConOk Tryz.prog (c_adjointlaw2_ArrayRows fu) := ConOk.of (N := 93) (fu := fu)
 (H := [(31, .regJ [11] ⟨[(11, .loc 11 0)], [(11, .box 28 true [.dat false (.list (.int .i64)), .own 43 (.int .i64)]), (43, .arr 2 true true (.int .i64))]⟩),
  (34, .fz [43]),
  (35, .regJ [12] ⟨[(12, .loc 12 0), (10, .dat true (.int .i64))], [(12, .box 28 true [.dat false (.list (.int .i64)), .dat false (.list (.int .i64))])]⟩),
  (38, .regJ [] ⟨[(69, .dat true .bool)], []⟩),
  (49, .regJ [] ⟨[(6, .dat true .bool)], []⟩)])
 (tbl := [c_adjointlaw2_alive fu, c_adjointref2_Do fu, c_array_Do fu, c_adjointref2_SameList fu, c_array_Inner fu])
 mixed (List.forall_mem_cons.2 ⟨c_adjointlaw2_alive_ok fu, List.forall_mem_cons.2 ⟨c_adjointref2_Do_ok fu, List.forall_mem_cons.2 ⟨c_array_Do_ok fu, List.forall_mem_cons.2 ⟨c_adjointref2_SameList_ok fu, List.forall_mem_cons.2 ⟨c_array_Inner_ok fu, (by intro c h; cases h)⟩⟩⟩⟩⟩) Tryz.func6 Tryz.call6 rfl rfl (by kernel_rfl) (mvs := []) (ns := []) (fun q => by kernel_rfl)
end
end Go.DN
