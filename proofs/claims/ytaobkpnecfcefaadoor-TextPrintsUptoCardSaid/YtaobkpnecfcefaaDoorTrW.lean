/-
  Each function does what its Lean function says.
-/
import Derived.Test.YtaobkpnecfcefaaDoorTrF
import Derived.Test.YtaobkpnecfcefaaDoorProg
import Derived.Test.YtaobkpnecfcefaaDoorTfA
import Derived.Test.YtaobkpnecfcefaaDoorTgG
import Derived.Test.YtaobkpnecfcefaaDoorTgD
import Derived.Test.YtaobkpnecfcefaaDoorTgE
import Derived.KernelRfl
set_option maxRecDepth 20000
set_option linter.unusedVariables false
set_option linter.unusedSimpArgs false
namespace Go.DN
open Go.AM
open Go.Proofs
noncomputable section
theorem mixed:Tryd.prog.follows .mixedOrders=true:=by kernel_rfl
abbrev c_copyF (fu:Nat):Con S0:=c_copyChk S0
theorem c_copyF_ok (fu:Nat):ConOk Tryd.prog (c_copyF fu):=c_copyChk_ok
abbrev c_strings_Builder_WriteString (fu:Nat):Con S0:=⟨90,[.loc 1000 0,.dat false .str],[.box 47 false [.lpo 1000 0,.own 1001 (.int .u8),.dat false (.int .i64),.dat false .bool],.arr 5 false false (.int .u8)],false,[(4,.dat true (.int .i64)),(5,.any)],[(1000,.box 47 false [.loc 1000 0,.own 481 (.int .u8),.dat true (.int .i64),.dat true .bool]),(481,.arr 5 false true (.int .u8))],fun q=>F.strings_Builder_WriteString fu q.1 q.2.1 q.2.2.1 q.2.2.2.1 q.2.2.2.2⟩
theorem c_strings_Builder_WriteString_ok (fu:Nat):ConOk Tryd.prog (c_strings_Builder_WriteString fu):=ConOk.of (N:=19) (fu:=fu)
 (H:=[])
 (tbl:=[c_copyF fu])
 mixed (List.forall_mem_cons.2 ⟨c_copyF_ok fu,(by intro c h;cases h)⟩) Tryd.func90 Tryd.call90 rfl rfl (by kernel_rfl) (mvs:=[1001]) (ns:=[]) (fun q=>by kernel_rfl)
abbrev c_text_writer_put (fu:Nat):Con S0:=⟨68,[.loc 1000 0,.dat false (.list .str)],[.box 47 false [.lpo 1000 0,.own 1001 (.int .u8),.dat false (.int .i64),.dat false .bool],.arr 5 false false (.int .u8)],true,[],[(1000,.box 47 false [.lpo 1000 0,.own 481 (.int .u8),.dat true (.int .i64),.dat true .bool]),(481,.arr 5 false true (.int .u8))],fun q=>F.text_writer_put fu q.1 q.2.1 q.2.2.1 q.2.2.2.1 q.2.2.2.2⟩
theorem c_text_writer_put_ok (fu:Nat):ConOk Tryd.prog (c_text_writer_put fu):=ConOk.of (N:=18) (fu:=fu)
 (H:=[(3,.loop ⟨[(8,.dat true (.int .i64))],[(1000,.box 47 false [.lpo 1000 0,.own 481 (.int .u8),.dat true (.int .i64),.dat true .bool]),(481,.arr 5 false true (.int .u8))]⟩ 0 ⟨[],[(1000,.box 47 false [.lpo 1000 0,.own 481 (.int .u8),.dat true (.int .i64),.dat true .bool]),(481,.arr 5 false true (.int .u8))]⟩)])
 (tbl:=[c_strings_Builder_WriteString fu])
 mixed (List.forall_mem_cons.2 ⟨c_strings_Builder_WriteString_ok fu,(by intro c h;cases h)⟩) Tryd.func68 Tryd.call68 rfl rfl (by kernel_rfl) (mvs:=[1001]) (ns:=[]) (fun q=>by kernel_rfl)
abbrev c_text_letter (fu:Nat):Con S0:=⟨52,[.dat false (.int .u8)],[],false,[(2,.dat true .bool)],[],fun q=>F.text_letter fu q⟩
theorem c_text_letter_ok (fu:Nat):ConOk Tryd.prog (c_text_letter fu):=ConOk.of (N:=21) (fu:=fu)
 (H:=[(3,.regJ [] ⟨[(2,.dat true .bool)],[]⟩)])
 (tbl:=[])
 mixed (by intro c h;cases h) Tryd.func52 Tryd.call52 rfl rfl (by kernel_rfl) (mvs:=[]) (ns:=[]) (fun q=>by kernel_rfl)
abbrev c_text_keyword (fu:Nat):Con S0:=⟨100,[.dat false .str],[],false,[(2,.dat true .bool)],[],fun q=>F.text_keyword fu q⟩
theorem c_text_keyword_ok (fu:Nat):ConOk Tryd.prog (c_text_keyword fu):=ConOk.of (N:=10) (fu:=fu)
 (H:=[(9,.join ⟨[(4,.dat true .bool)],[]⟩),
  (13,.join ⟨[(4,.dat true .bool)],[]⟩),
  (17,.join ⟨[(4,.dat true .bool)],[]⟩),
  (21,.join ⟨[(4,.dat true .bool)],[]⟩)])
 (tbl:=[])
 mixed (by intro c h;cases h) Tryd.func100 Tryd.call100 rfl rfl (by kernel_rfl) (mvs:=[]) (ns:=[]) (fun q=>by kernel_rfl)
abbrev c_text_digit (fu:Nat):Con S0:=⟨54,[.dat false (.int .u8)],[],false,[(2,.dat true .bool)],[],fun q=>F.text_digit fu q⟩
theorem c_text_digit_ok (fu:Nat):ConOk Tryd.prog (c_text_digit fu):=ConOk.of (N:=9) (fu:=fu)
 (H:=[(3,.regJ [] ⟨[(2,.dat true .bool)],[]⟩)])
 (tbl:=[])
 mixed (by intro c h;cases h) Tryd.func54 Tryd.call54 rfl rfl (by kernel_rfl) (mvs:=[]) (ns:=[]) (fun q=>by kernel_rfl)
abbrev c_text_plainName (fu:Nat):Con S0:=⟨77,[.dat false .str],[],false,[(2,.dat true .bool)],[],fun q=>F.text_plainName fu q⟩
theorem c_text_plainName_ok (fu:Nat):ConOk Tryd.prog (c_text_plainName fu):=ConOk.of (N:=34) (fu:=fu)
 (H:=[(4,.regJ [] ⟨[(15,.dat true .bool)],[]⟩),
  (14,.loopE ⟨[(2,.dat true .bool),(18,.dat true (.int .i64))],[]⟩ 0 ⟨[],[]⟩),
  (26,.regJ [] ⟨[(32,.dat true .bool)],[]⟩)])
 (tbl:=[c_text_letter fu,c_text_keyword fu,c_text_digit fu])
 mixed (List.forall_mem_cons.2 ⟨c_text_letter_ok fu,List.forall_mem_cons.2 ⟨c_text_keyword_ok fu,List.forall_mem_cons.2 ⟨c_text_digit_ok fu,(by intro c h;cases h)⟩⟩⟩) Tryd.func77 Tryd.call77 rfl rfl (by kernel_rfl) (mvs:=[]) (ns:=[]) (fun q=>by kernel_rfl)
abbrev c_fail_ (fu:Nat):ConP S0:=c_fail S0
theorem c_fail__ok (fu:Nat):ConPOk Tryd.prog (c_fail_ fu):=c_fail_ok
abbrev c_text_writer_name (fu:Nat):ConP S0:=⟨69,[.loc 1000 0,.dat false .str],[.box 47 false [.lpo 1000 0,.own 1001 (.int .u8),.dat false (.int .i64),.dat false .bool],.arr 5 false false (.int .u8)],false,[],[(1000,.box 47 false [.lpo 1000 0,.own 481 (.int .u8),.dat true (.int .i64),.dat true .bool]),(481,.arr 5 false true (.int .u8))],[(1000,.box 47 false [.lpo 1000 0,.own 481 (.int .u8),.dat true (.int .i64),.dat true .bool]),(481,.arr 5 false true (.int .u8))],92,fun q=>F.text_writer_name fu q.1 q.2.1 q.2.2.1 q.2.2.2.1 q.2.2.2.2⟩
theorem c_text_writer_name_ok (fu:Nat):ConPOk Tryd.prog (c_text_writer_name fu):=ConPOk.of (N:=12) (fu:=fu)
 (H:=[])
 (cl:=(clT (clP [c_text_writer_put fu,c_text_plainName fu] []) [c_fail_ fu])) (tblD:=[])
 mixed (clT_ok (clP_ok (List.forall_mem_cons.2 ⟨c_text_writer_put_ok fu,List.forall_mem_cons.2 ⟨c_text_plainName_ok fu,(by intro c h;cases h)⟩⟩)) (List.forall_mem_cons.2 ⟨c_fail__ok fu,(by intro c h;cases h)⟩)) (by intro c h;cases h) Tryd.func69 Tryd.call69 rfl rfl (by kernel_rfl) (by kernel_rfl) (mvs:=[1001]) (fun q=>by kernel_rfl)
abbrev c_fmtI (fu:Nat):Con S0:=c_fmt S0
theorem c_fmtI_ok (fu:Nat):ConOk Tryd.prog (c_fmtI fu):=c_fmt_ok
abbrev c_text_writer_number (fu:Nat):ConP S0:=⟨91,[.loc 1000 0,.dat false (.int .i64)],[.box 47 false [.lpo 1000 0,.own 1001 (.int .u8),.dat false (.int .i64),.dat false .bool],.arr 5 false false (.int .u8)],false,[],[(1000,.box 47 false [.lpo 1000 0,.own 481 (.int .u8),.dat true (.int .i64),.dat true .bool]),(481,.arr 5 false true (.int .u8))],[(1000,.box 47 false [.lpo 1000 0,.own 481 (.int .u8),.dat true (.int .i64),.dat true .bool]),(481,.arr 5 false true (.int .u8))],92,fun q=>F.text_writer_number fu q.1 q.2.1 q.2.2.1 q.2.2.2.1 q.2.2.2.2⟩
theorem c_text_writer_number_ok (fu:Nat):ConPOk Tryd.prog (c_text_writer_number fu):=ConPOk.of (N:=12) (fu:=fu)
 (H:=[])
 (cl:=(clT (clP [c_text_writer_put fu,c_fmtI fu] []) [c_fail_ fu])) (tblD:=[])
 mixed (clT_ok (clP_ok (List.forall_mem_cons.2 ⟨c_text_writer_put_ok fu,List.forall_mem_cons.2 ⟨c_fmtI_ok fu,(by intro c h;cases h)⟩⟩)) (List.forall_mem_cons.2 ⟨c_fail__ok fu,(by intro c h;cases h)⟩)) (by intro c h;cases h) Tryd.func91 Tryd.call91 rfl rfl (by kernel_rfl) (by kernel_rfl) (mvs:=[1001]) (fun q=>by kernel_rfl)
abbrev c_text_writer_shape (fu:Nat):ConP S0:=⟨70,[.loc 1000 0,.dat false (.list (.st 0))],[.box 47 false [.lpo 1000 0,.own 1001 (.int .u8),.dat false (.int .i64),.dat false .bool],.arr 5 false false (.int .u8)],false,[],[(1000,.box 47 false [.lpo 1000 0,.own 481 (.int .u8),.dat true (.int .i64),.dat true .bool]),(481,.arr 5 false true (.int .u8))],[(1000,.box 47 false [.lpo 1000 0,.own 481 (.int .u8),.dat true (.int .i64),.dat true .bool]),(481,.arr 5 false true (.int .u8))],92,fun q=>F.text_writer_shape fu q.1 q.2.1 q.2.2.1 q.2.2.2.1 q.2.2.2.2⟩
theorem c_text_writer_shape_ok (fu:Nat):ConPOk Tryd.prog (c_text_writer_shape fu):=ConPOk.of (N:=42) (fu:=fu)
 (H:=[(6,.loopE ⟨[(11,.dat true (.int .i64))],[(1000,.box 47 false [.lpo 1000 0,.own 481 (.int .u8),.dat true (.int .i64),.dat true .bool]),(481,.arr 5 false true (.int .u8))]⟩ 0 ⟨[],[(1000,.box 47 false [.lpo 1000 0,.own 481 (.int .u8),.dat true (.int .i64),.dat true .bool]),(481,.arr 5 false true (.int .u8))]⟩),
  (20,.join ⟨[],[(1000,.box 47 false [.lpo 1000 0,.own 481 (.int .u8),.dat true (.int .i64),.dat true .bool]),(481,.arr 5 false true (.int .u8))]⟩),
  (26,.joinE ⟨[],[(1000,.box 47 false [.lpo 1000 0,.own 481 (.int .u8),.dat true (.int .i64),.dat true .bool]),(481,.arr 5 false true (.int .u8))]⟩)])
 (cl:=(clT (clP [c_text_writer_put fu] []) [c_text_writer_number fu,c_text_writer_name fu,c_fail_ fu])) (tblD:=[])
 mixed (clT_ok (clP_ok (List.forall_mem_cons.2 ⟨c_text_writer_put_ok fu,(by intro c h;cases h)⟩)) (List.forall_mem_cons.2 ⟨c_text_writer_number_ok fu,List.forall_mem_cons.2 ⟨c_text_writer_name_ok fu,List.forall_mem_cons.2 ⟨c_fail__ok fu,(by intro c h;cases h)⟩⟩⟩)) (by intro c h;cases h) Tryd.func70 Tryd.call70 rfl rfl (by kernel_rfl) (by kernel_rfl) (mvs:=[1001]) (fun q=>by kernel_rfl)
abbrev c_text_clean (fu:Nat):Con S0:=⟨93,[.dat false (.st 2)],[],false,[(2,.dat true .bool)],[],fun q=>F.text_clean fu q⟩
theorem c_text_clean_ok (fu:Nat):ConOk Tryd.prog (c_text_clean fu):=ConOk.of (N:=71) (fu:=fu)
 (H:=[(8,.regJ [] ⟨[(7,.dat true .bool)],[]⟩),
  (9,.join ⟨[(7,.dat true .bool)],[]⟩),
  (12,.regJ [] ⟨[(7,.dat true .bool)],[]⟩),
  (13,.join ⟨[(7,.dat true .bool)],[]⟩),
  (15,.regJ [] ⟨[(7,.dat true .bool)],[]⟩),
  (22,.regJ [] ⟨[(31,.dat true .bool)],[]⟩),
  (23,.join ⟨[(31,.dat true .bool)],[]⟩),
  (25,.regJ [] ⟨[(31,.dat true .bool)],[]⟩),
  (38,.join ⟨[(55,.dat true .bool)],[]⟩),
  (48,.join ⟨[(62,.dat true .bool)],[]⟩),
  (52,.join ⟨[(62,.dat true .bool)],[]⟩)])
 (tbl:=[])
 mixed (by intro c h;cases h) Tryd.func93 Tryd.call93 rfl rfl (by kernel_rfl) (mvs:=[]) (ns:=[]) (fun q=>by kernel_rfl)
abbrev c_text_writer_expr_1 (fu:Nat):ConD S0:=⟨92,[.loc 1000 0],[.box 84 false [.loc 1001 0],.box 47 false [.lpo 1001 0,.own 1002 (.int .u8),.dat false (.int .i64),.dat false .bool],.arr 5 false false (.int .u8)],false,[(1000,.box 84 false [.loc 1001 0]),(1001,.box 47 false [.lpo 1001 0,.own 1002 (.int .u8),.dat true (.int .i64),.dat true .bool]),(1002,.arr 5 false true (.int .u8))],false,fun m q=>F.text_writer_expr_1 fu q.1 q.2.1 q.2.2.1 q.2.2.2⟩
theorem c_text_writer_expr_1_ok (fu:Nat):ConDOk Tryd.prog 92 (c_text_writer_expr_1 fu):=ConDOk.of (N:=8) (fu:=fu)
 (H:=[])
 (cl:=(clP [] []))
 mixed (clP_ok (by intro c h;cases h)) Tryd.func92 Tryd.call92 rfl rfl (by kernel_rfl) (mvs:=[]) (fun m q=>by kernel_rfl)
abbrev c_text_strength (fu:Nat):Con S0:=⟨105,[.dat false (.st 2)],[],false,[(2,.dat true (.int .i64))],[],fun q=>F.text_strength fu q⟩
theorem c_text_strength_ok (fu:Nat):ConOk Tryd.prog (c_text_strength fu):=ConOk.of (N:=20) (fu:=fu)
 (H:=[(5,.regJ [] ⟨[(3,.dat true .bool)],[]⟩)])
 (tbl:=[])
 mixed (by intro c h;cases h) Tryd.func105 Tryd.call105 rfl rfl (by kernel_rfl) (mvs:=[]) (ns:=[]) (fun q=>by kernel_rfl)
abbrev cs_text_writer_expr (self:STree→Bool→Int→Bool→(List Int)→Option ((Bool×Int×Bool×(List Int))⊕((Int×Int)×(Bool×Int×Bool×(List Int))))):ConP S0:=⟨71,[.loc 1000 0,.dat false (.st 2)],[.box 47 false [.lpo 1000 0,.own 1001 (.int .u8),.dat false (.int .i64),.dat false .bool],.arr 5 false false (.int .u8)],false,[],[(1000,.box 47 false [.lpo 1000 0,.own 481 (.int .u8),.dat true (.int .i64),.dat true .bool]),(481,.arr 5 false true (.int .u8))],[(1000,.box 47 false [.lpo 1000 0,.own 481 (.int .u8),.dat true (.int .i64),.dat true .bool]),(481,.arr 5 false true (.int .u8))],92,fun q=>self q.1 q.2.1 q.2.2.1 q.2.2.2.1 q.2.2.2.2⟩
abbrev c_text_writer_call (self:STree→Bool→Int→Bool→(List Int)→Option ((Bool×Int×Bool×(List Int))⊕((Int×Int)×(Bool×Int×Bool×(List Int))))) (fu:Nat):ConP S0:=⟨107,[.loc 1000 0,.dat false (.st 2)],[.box 47 false [.lpo 1000 0,.own 1001 (.int .u8),.dat false (.int .i64),.dat false .bool],.arr 5 false false (.int .u8)],false,[],[(1000,.box 47 false [.lpo 1000 0,.own 481 (.int .u8),.dat true (.int .i64),.dat true .bool]),(481,.arr 5 false true (.int .u8))],[(1000,.box 47 false [.lpo 1000 0,.own 481 (.int .u8),.dat true (.int .i64),.dat true .bool]),(481,.arr 5 false true (.int .u8))],92,fun q=>F.text_writer_call self fu q.1 q.2.1 q.2.2.1 q.2.2.2.1 q.2.2.2.2⟩
theorem c_text_writer_call_ok (self:STree→Bool→Int→Bool→(List Int)→Option ((Bool×Int×Bool×(List Int))⊕((Int×Int)×(Bool×Int×Bool×(List Int))))) (hs:ConPOk Tryd.prog (cs_text_writer_expr self)) (fu:Nat):ConPOk Tryd.prog (c_text_writer_call self fu):=ConPOk.of (N:=73) (fu:=fu)
 (H:=[(7,.joinE ⟨[],[(1000,.box 47 false [.lpo 1000 0,.own 481 (.int .u8),.dat true (.int .i64),.dat true .bool]),(481,.arr 5 false true (.int .u8))]⟩),
  (14,.loopE ⟨[(23,.dat true (.int .i64))],[(1000,.box 47 false [.lpo 1000 0,.own 481 (.int .u8),.dat true (.int .i64),.dat true .bool]),(481,.arr 5 false true (.int .u8))]⟩ 0 ⟨[],[(1000,.box 47 false [.lpo 1000 0,.own 481 (.int .u8),.dat true (.int .i64),.dat true .bool]),(481,.arr 5 false true (.int .u8))]⟩),
  (31,.loopE ⟨[(32,.dat true (.int .i64))],[(1000,.box 47 false [.lpo 1000 0,.own 481 (.int .u8),.dat true (.int .i64),.dat true .bool]),(481,.arr 5 false true (.int .u8))]⟩ 2 ⟨[],[(1000,.box 47 false [.lpo 1000 0,.own 481 (.int .u8),.dat true (.int .i64),.dat true .bool]),(481,.arr 5 false true (.int .u8))]⟩),
  (45,.join ⟨[],[(1000,.box 47 false [.lpo 1000 0,.own 481 (.int .u8),.dat true (.int .i64),.dat true .bool]),(481,.arr 5 false true (.int .u8))]⟩),
  (58,.loopE ⟨[(56,.dat true (.int .i64))],[(1000,.box 47 false [.lpo 1000 0,.own 481 (.int .u8),.dat true (.int .i64),.dat true .bool]),(481,.arr 5 false true (.int .u8))]⟩ 4 ⟨[],[(1000,.box 47 false [.lpo 1000 0,.own 481 (.int .u8),.dat true (.int .i64),.dat true .bool]),(481,.arr 5 false true (.int .u8))]⟩),
  (72,.join ⟨[],[(1000,.box 47 false [.lpo 1000 0,.own 481 (.int .u8),.dat true (.int .i64),.dat true .bool]),(481,.arr 5 false true (.int .u8))]⟩)])
 (cl:=(clT (clP [c_text_writer_put fu] []) [c_text_writer_name fu,c_text_writer_shape fu,c_text_writer_number fu,cs_text_writer_expr self])) (tblD:=[])
 mixed (clT_ok (clP_ok (List.forall_mem_cons.2 ⟨c_text_writer_put_ok fu,(by intro c h;cases h)⟩)) (List.forall_mem_cons.2 ⟨c_text_writer_name_ok fu,List.forall_mem_cons.2 ⟨c_text_writer_shape_ok fu,List.forall_mem_cons.2 ⟨c_text_writer_number_ok fu,List.forall_mem_cons.2 ⟨hs,(by intro c h;cases h)⟩⟩⟩⟩)) (by intro c h;cases h) Tryd.func107 Tryd.call107 rfl rfl (by kernel_rfl) (by kernel_rfl) (mvs:=[1001]) (fun q=>by kernel_rfl)
abbrev cs_text_writer_part (self:STree→Int→Int→Bool→Int→Bool→(List Int)→Option ((Bool×Int×Bool×(List Int))⊕((Int×Int)×(Bool×Int×Bool×(List Int))))):ConP S0:=⟨94,[.loc 1000 0,.dat false (.st 2),.dat false (.int .i64),.dat false (.int .i64)],[.box 47 false [.lpo 1000 0,.own 1001 (.int .u8),.dat false (.int .i64),.dat false .bool],.arr 5 false false (.int .u8)],false,[],[(1000,.box 47 false [.lpo 1000 0,.own 481 (.int .u8),.dat true (.int .i64),.dat true .bool]),(481,.arr 5 false true (.int .u8))],[(1000,.box 47 false [.lpo 1000 0,.own 481 (.int .u8),.dat true (.int .i64),.dat true .bool]),(481,.arr 5 false true (.int .u8))],92,fun q=>self q.1 q.2.1 q.2.2.1 q.2.2.2.1 q.2.2.2.2.1 q.2.2.2.2.2.1 q.2.2.2.2.2.2⟩
abbrev c_text_writer_two (self:STree→Int→Int→Bool→Int→Bool→(List Int)→Option ((Bool×Int×Bool×(List Int))⊕((Int×Int)×(Bool×Int×Bool×(List Int))))) (fu:Nat):ConP S0:=⟨106,[.loc 1000 0,.dat false (.st 2),.dat false (.int .i64),.dat false (.int .i64)],[.box 47 false [.lpo 1000 0,.own 1001 (.int .u8),.dat false (.int .i64),.dat false .bool],.arr 5 false false (.int .u8)],false,[],[(1000,.box 47 false [.lpo 1000 0,.own 481 (.int .u8),.dat true (.int .i64),.dat true .bool]),(481,.arr 5 false true (.int .u8))],[(1000,.box 47 false [.lpo 1000 0,.own 481 (.int .u8),.dat true (.int .i64),.dat true .bool]),(481,.arr 5 false true (.int .u8))],92,fun q=>F.text_writer_two self fu q.1 q.2.1 q.2.2.1 q.2.2.2.1 q.2.2.2.2.1 q.2.2.2.2.2.1 q.2.2.2.2.2.2⟩
theorem c_text_writer_two_ok (self:STree→Int→Int→Bool→Int→Bool→(List Int)→Option ((Bool×Int×Bool×(List Int))⊕((Int×Int)×(Bool×Int×Bool×(List Int))))) (hs:ConPOk Tryd.prog (cs_text_writer_part self)) (fu:Nat):ConPOk Tryd.prog (c_text_writer_two self fu):=ConPOk.of (N:=64) (fu:=fu)
 (H:=[(4,.regJ [] ⟨[(21,.dat true .bool)],[]⟩),
  (9,.regJ [] ⟨[],[(1000,.box 47 false [.lpo 1000 0,.own 481 (.int .u8),.dat true (.int .i64),.dat true .bool])]⟩),
  (15,.join ⟨[(8,.dat true (.int .i64))],[]⟩)])
 (cl:=(clT (clP [c_text_writer_put fu,c_text_strength fu] []) [cs_text_writer_part self,c_fail_ fu])) (tblD:=[])
 mixed (clT_ok (clP_ok (List.forall_mem_cons.2 ⟨c_text_writer_put_ok fu,List.forall_mem_cons.2 ⟨c_text_strength_ok fu,(by intro c h;cases h)⟩⟩)) (List.forall_mem_cons.2 ⟨hs,List.forall_mem_cons.2 ⟨c_fail__ok fu,(by intro c h;cases h)⟩⟩)) (by intro c h;cases h) Tryd.func106 Tryd.call106 rfl rfl (by kernel_rfl) (by kernel_rfl) (mvs:=[1001]) (fun q=>by kernel_rfl)
abbrev c_text_writer_part (self:STree→Bool→Int→Bool→(List Int)→Option ((Bool×Int×Bool×(List Int))⊕((Int×Int)×(Bool×Int×Bool×(List Int))))) (fu:Nat):ConP S0:=cs_text_writer_part (F.text_writer_part self fu)
theorem c_text_writer_part_ok (self:STree→Bool→Int→Bool→(List Int)→Option ((Bool×Int×Bool×(List Int))⊕((Int×Int)×(Bool×Int×Bool×(List Int))))) (hs:ConPOk Tryd.prog (cs_text_writer_expr self)):∀fu:Nat,ConPOk Tryd.prog (c_text_writer_part self fu)
 | 0=>⟨Tryd.call94,fun q r h=>nomatch (show(none:Option _)=some r from h)⟩
 | fu+1=>ConPOk.of (N:=51) (fu:=fu+1)
   (H:=[(27,.joinE ⟨[],[(1000,.box 47 false [.lpo 1000 0,.own 481 (.int .u8),.dat true (.int .i64),.dat true .bool]),(481,.arr 5 false true (.int .u8))]⟩),
    (31,.joinE ⟨[],[(1000,.box 47 false [.lpo 1000 0,.own 481 (.int .u8),.dat true (.int .i64),.dat true .bool]),(481,.arr 5 false true (.int .u8))]⟩),
    (35,.joinE ⟨[],[(1000,.box 47 false [.lpo 1000 0,.own 481 (.int .u8),.dat true (.int .i64),.dat true .bool]),(481,.arr 5 false true (.int .u8))]⟩)])
   (cl:=(clT (clP [c_text_writer_put (fu+1),c_text_clean (fu+1),c_text_strength (fu+1)] []) [cs_text_writer_expr self,c_text_writer_number (fu+1),c_text_writer_name (fu+1),c_text_writer_two (F.text_writer_part self fu) (fu+1),c_text_writer_call self (fu+1),c_fail_ (fu+1)])) (tblD:=[])
   mixed (clT_ok (clP_ok (List.forall_mem_cons.2 ⟨c_text_writer_put_ok (fu+1),List.forall_mem_cons.2 ⟨c_text_clean_ok (fu+1),List.forall_mem_cons.2 ⟨c_text_strength_ok (fu+1),(by intro c h;cases h)⟩⟩⟩)) (List.forall_mem_cons.2 ⟨hs,List.forall_mem_cons.2 ⟨c_text_writer_number_ok (fu+1),List.forall_mem_cons.2 ⟨c_text_writer_name_ok (fu+1),List.forall_mem_cons.2 ⟨c_text_writer_two_ok (F.text_writer_part self fu) (c_text_writer_part_ok self hs fu) (fu+1),List.forall_mem_cons.2 ⟨c_text_writer_call_ok self hs (fu+1),List.forall_mem_cons.2 ⟨c_fail__ok (fu+1),(by intro c h;cases h)⟩⟩⟩⟩⟩⟩)) (by intro c h;cases h) Tryd.func94 Tryd.call94 rfl rfl (by kernel_rfl) (by kernel_rfl) (mvs:=[1001]) (fun q=>by kernel_rfl)
abbrev c_text_writer_expr (fu:Nat):ConP S0:=cs_text_writer_expr (F.text_writer_expr fu)
theorem c_text_writer_expr_ok:∀fu:Nat,ConPOk Tryd.prog (c_text_writer_expr fu)
 | 0=>⟨Tryd.call71,fun q r h=>nomatch (show(none:Option _)=some r from h)⟩
 | fu+1=>ConPOk.of (N:=96) (fu:=fu+1)
   (H:=[(13,.regJ [1000] ⟨[],[(1000,.box 47 false [.lpo 1000 0,.own 481 (.int .u8),.dat true (.int .i64),.dat true .bool])]⟩),
    (19,.joinE ⟨[],[(1000,.box 47 false [.lpo 1000 0,.own 481 (.int .u8),.dat true (.int .i64),.dat true .bool]),(481,.arr 5 false true (.int .u8))]⟩),
    (27,.reg [1000,481]),
    (30,.reg [1000,481]),
    (33,.joinE ⟨[],[(1000,.box 47 false [.lpo 1000 0,.own 481 (.int .u8),.dat true (.int .i64),.dat true .bool]),(481,.arr 5 false true (.int .u8))]⟩),
    (45,.reg [1000,481]),
    (48,.reg [1000,481])])
   (cl:=(clT (clP [c_text_writer_put (fu+1),c_text_clean (fu+1)] []) [c_text_writer_name (fu+1),c_text_writer_expr fu,c_text_writer_number (fu+1),c_text_writer_part (F.text_writer_expr fu) (fu+1),c_fail_ (fu+1)])) (tblD:=[c_text_writer_expr_1 (fu+1)])
   mixed (clT_ok (clP_ok (List.forall_mem_cons.2 ⟨c_text_writer_put_ok (fu+1),List.forall_mem_cons.2 ⟨c_text_clean_ok (fu+1),(by intro c h;cases h)⟩⟩)) (List.forall_mem_cons.2 ⟨c_text_writer_name_ok (fu+1),List.forall_mem_cons.2 ⟨c_text_writer_expr_ok fu,List.forall_mem_cons.2 ⟨c_text_writer_number_ok (fu+1),List.forall_mem_cons.2 ⟨c_text_writer_part_ok (F.text_writer_expr fu) (c_text_writer_expr_ok fu) (fu+1),List.forall_mem_cons.2 ⟨c_fail__ok (fu+1),(by intro c h;cases h)⟩⟩⟩⟩⟩)) (List.forall_mem_cons.2 ⟨c_text_writer_expr_1_ok (fu+1),(by intro c h;cases h)⟩) Tryd.func71 Tryd.call71 rfl rfl (by kernel_rfl) (by kernel_rfl) (mvs:=[1001]) (fun q=>by kernel_rfl)
abbrev c_text_writer_function (fu:Nat):ConP S0:=⟨46,[.loc 1000 0,.dat false (.st 3)],[.box 47 false [.lpo 1000 0,.own 1001 (.int .u8),.dat false (.int .i64),.dat false .bool],.arr 5 false false (.int .u8)],false,[],[(1000,.box 47 false [.lpo 1000 0,.own 481 (.int .u8),.dat true (.int .i64),.dat true .bool]),(481,.arr 5 false true (.int .u8))],[(1000,.box 47 false [.lpo 1000 0,.own 481 (.int .u8),.dat true (.int .i64),.dat true .bool]),(481,.arr 5 false true (.int .u8))],92,fun q=>F.text_writer_function fu q.1 q.2.1 q.2.2.1 q.2.2.2.1 q.2.2.2.2⟩
theorem c_text_writer_function_ok (fu:Nat):ConPOk Tryd.prog (c_text_writer_function fu):=ConPOk.of (N:=51) (fu:=fu)
 (H:=[(12,.loopE ⟨[(19,.dat true (.int .i64))],[(1000,.box 47 false [.lpo 1000 0,.own 481 (.int .u8),.dat true (.int .i64),.dat true .bool]),(481,.arr 5 false true (.int .u8))]⟩ 0 ⟨[],[(1000,.box 47 false [.lpo 1000 0,.own 481 (.int .u8),.dat true (.int .i64),.dat true .bool]),(481,.arr 5 false true (.int .u8))]⟩),
  (26,.join ⟨[],[(1000,.box 47 false [.lpo 1000 0,.own 481 (.int .u8),.dat true (.int .i64),.dat true .bool]),(481,.arr 5 false true (.int .u8))]⟩)])
 (cl:=(clT (clP [c_text_writer_put fu] []) [c_text_writer_name fu,c_text_writer_shape fu,c_text_writer_expr fu])) (tblD:=[])
 mixed (clT_ok (clP_ok (List.forall_mem_cons.2 ⟨c_text_writer_put_ok fu,(by intro c h;cases h)⟩)) (List.forall_mem_cons.2 ⟨c_text_writer_name_ok fu,List.forall_mem_cons.2 ⟨c_text_writer_shape_ok fu,List.forall_mem_cons.2 ⟨c_text_writer_expr_ok fu,(by intro c h;cases h)⟩⟩⟩)) (by intro c h;cases h) Tryd.func46 Tryd.call46 rfl rfl (by kernel_rfl) (by kernel_rfl) (mvs:=[1001]) (fun q=>by kernel_rfl)
abbrev c_caught_ (fu:Nat):ConD S0:=c_caught45 S0
theorem c_caught__ok (fu:Nat):ConDOk Tryd.prog 92 (c_caught_ fu):=c_caught45_ok
abbrev c_text_writer_program_p (fu:Nat):ConP S0:=⟨18,[.loc 1000 0,.dat false (.list (.st 3))],[.box 47 false [.lpo 1000 0,.own 1001 (.int .u8),.dat false (.int .i64),.dat false .bool],.arr 5 false false (.int .u8)],false,[(4,.dat true (.st 4))],[(1000,.box 47 false [.lpo 1000 0,.own 481 (.int .u8),.dat true (.int .i64),.dat true .bool]),(481,.arr 5 false true (.int .u8))],[],92,fun q=>F.text_writer_program_p fu q.1 q.2.1 q.2.2.1 q.2.2.2.1 q.2.2.2.2⟩
theorem c_text_writer_program_p_ok (fu:Nat):ConPOk Tryd.prog (c_text_writer_program_p fu):=ConPOk.of (N:=19) (fu:=fu)
 (H:=[(8,.loopE ⟨[(10,.dat true (.int .i64))],[(1000,.box 47 false [.lpo 1000 0,.own 481 (.int .u8),.dat true (.int .i64),.dat true .bool]),(481,.arr 5 false true (.int .u8))]⟩ 0 ⟨[],[(1000,.box 47 false [.lpo 1000 0,.own 481 (.int .u8),.dat true (.int .i64),.dat true .bool]),(481,.arr 5 false true (.int .u8))]⟩)])
 (cl:=(clT (clP [] []) [c_text_writer_function fu])) (tblD:=[c_caught_ fu])
 mixed (clT_ok (clP_ok (by intro c h;cases h)) (List.forall_mem_cons.2 ⟨c_text_writer_function_ok fu,(by intro c h;cases h)⟩)) (List.forall_mem_cons.2 ⟨c_caught__ok fu,(by intro c h;cases h)⟩) Tryd.func18 Tryd.call18 rfl rfl (by kernel_rfl) (by kernel_rfl) (mvs:=[1001]) (fun q=>by kernel_rfl)
abbrev c_text_writer_program (fu:Nat):Con S0:=⟨18,[.loc 1000 0,.dat false (.list (.st 3))],[.box 47 false [.lpo 1000 0,.own 1001 (.int .u8),.dat false (.int .i64),.dat false .bool],.arr 5 false false (.int .u8)],false,[(4,.dat true (.st 4))],[(1000,.box 47 false [.lpo 1000 0,.own 481 (.int .u8),.dat true (.int .i64),.dat true .bool]),(481,.arr 5 false true (.int .u8))],fun q=>F.text_writer_program fu q.1 q.2.1 q.2.2.1 q.2.2.2.1 q.2.2.2.2⟩
theorem c_text_writer_program_ok (fu:Nat):ConOk Tryd.prog (c_text_writer_program fu):=ConPOk.caught (c_text_writer_program_p_ok fu) fun q r h=>unP_some h
abbrev c_strings_Builder_Len (fu:Nat):Con S0:=⟨19,[.loc 1000 0],[.box 47 false [.lpo 1000 0,.own 1001 (.int .u8),.dat false (.int .i64),.dat false .bool],.arr 5 false false (.int .u8)],false,[(2,.dat true (.int .i64))],[(1000,.box 47 false [.lpo 1000 0,.own 1001 (.int .u8),.dat true (.int .i64),.dat true .bool]),(1001,.arr 5 false true (.int .u8))],fun q=>F.strings_Builder_Len fu q.1 q.2.1 q.2.2.1 q.2.2.2⟩
theorem c_strings_Builder_Len_ok (fu:Nat):ConOk Tryd.prog (c_strings_Builder_Len fu):=ConOk.of (N:=8) (fu:=fu)
 (H:=[])
 (tbl:=[])
 mixed (by intro c h;cases h) Tryd.func19 Tryd.call19 rfl rfl (by kernel_rfl) (mvs:=[]) (ns:=[]) (fun q=>by kernel_rfl)
abbrev c_bstrF (fu:Nat):Con S0:=c_bstr S0
theorem c_bstrF_ok (fu:Nat):ConOk Tryd.prog (c_bstrF fu):=c_bstr_ok
abbrev c_text_Print (fu:Nat):Con S0:=⟨9,[.dat false (.list (.st 3))],[],false,[(2,.dat true .str),(3,.dat true (.int .i64))],[],fun q=>F.text_Print fu q⟩
theorem c_text_Print_ok (fu:Nat):ConOk Tryd.prog (c_text_Print fu):=ConOk.of (N:=22) (fu:=fu)
 (H:=[(3,.regJ [] ⟨[(4,.loc 4 0)],[(4,.box 47 true [.lpo 4 0,.own 420 (.int .u8),.dat true (.int .i64),.dat true .bool]),(420,.arr 5 true true (.int .u8))]⟩),
  (11,.reg []),
  (16,.regJ [] ⟨[(19,.dat true .bool)],[(4,.box 47 true [.lpo 4 0,.own 420 (.int .u8),.dat true (.int .i64),.dat true .bool]),(420,.arr 5 true true (.int .u8))]⟩)])
 (tbl:=[c_text_writer_program fu,c_strings_Builder_Len fu,c_bstrF fu])
 mixed (List.forall_mem_cons.2 ⟨c_text_writer_program_ok fu,List.forall_mem_cons.2 ⟨c_strings_Builder_Len_ok fu,List.forall_mem_cons.2 ⟨c_bstrF_ok fu,(by intro c h;cases h)⟩⟩⟩) Tryd.func9 Tryd.call9 rfl rfl (by kernel_rfl) (mvs:=[]) (ns:=[]) (fun q=>by kernel_rfl)
abbrev c_adjointref3_isLetter (fu:Nat):Con S0:=⟨34,[.dat false (.int .u8)],[],false,[(2,.dat true .bool)],[],fun q=>F.adjointref3_isLetter fu q⟩
theorem c_adjointref3_isLetter_ok (fu:Nat):ConOk Tryd.prog (c_adjointref3_isLetter fu):=ConOk.of (N:=21) (fu:=fu)
 (H:=[(3,.regJ [] ⟨[(2,.dat true .bool)],[]⟩)])
 (tbl:=[])
 mixed (by intro c h;cases h) Tryd.func34 Tryd.call34 rfl rfl (by kernel_rfl) (mvs:=[]) (ns:=[]) (fun q=>by kernel_rfl)
abbrev c_adjointref3_isDigit (fu:Nat):Con S0:=⟨35,[.dat false (.int .u8)],[],false,[(2,.dat true .bool)],[],fun q=>F.adjointref3_isDigit fu q⟩
theorem c_adjointref3_isDigit_ok (fu:Nat):ConOk Tryd.prog (c_adjointref3_isDigit fu):=ConOk.of (N:=9) (fu:=fu)
 (H:=[(3,.regJ [] ⟨[(2,.dat true .bool)],[]⟩)])
 (tbl:=[])
 mixed (by intro c h;cases h) Tryd.func35 Tryd.call35 rfl rfl (by kernel_rfl) (mvs:=[]) (ns:=[]) (fun q=>by kernel_rfl)
abbrev c_adjointref3_IsName (fu:Nat):Con S0:=⟨21,[.dat false .str],[],false,[(2,.dat true .bool)],[],fun q=>F.adjointref3_IsName fu q⟩
theorem c_adjointref3_IsName_ok (fu:Nat):ConOk Tryd.prog (c_adjointref3_IsName fu):=ConOk.of (N:=50) (fu:=fu)
 (H:=[(4,.regJ [] ⟨[(31,.dat true .bool)],[]⟩),
  (14,.loopE ⟨[(2,.dat true .bool),(3,.dat true (.int .i64))],[]⟩ 0 ⟨[],[]⟩),
  (24,.regJ [] ⟨[(49,.dat true .bool)],[]⟩)])
 (tbl:=[c_adjointref3_isLetter fu,c_adjointref3_isDigit fu])
 mixed (List.forall_mem_cons.2 ⟨c_adjointref3_isLetter_ok fu,List.forall_mem_cons.2 ⟨c_adjointref3_isDigit_ok fu,(by intro c h;cases h)⟩⟩) Tryd.func21 Tryd.call21 rfl rfl (by kernel_rfl) (mvs:=[]) (ns:=[]) (fun q=>by kernel_rfl)
abbrev c_adjointref3_writable (fu:Nat):Con S0:=⟨23,[.dat false (.list (.st 0))],[],false,[(2,.dat true .bool)],[],fun q=>F.adjointref3_writable fu q⟩
theorem c_adjointref3_writable_ok (fu:Nat):ConOk Tryd.prog (c_adjointref3_writable fu):=ConOk.of (N:=36) (fu:=fu)
 (H:=[(6,.loopE ⟨[(2,.dat true .bool),(7,.dat true (.int .i64))],[]⟩ 0 ⟨[],[]⟩),
  (18,.regJ [] ⟨[(34,.dat true .bool)],[]⟩)])
 (tbl:=[c_adjointref3_IsName fu])
 mixed (List.forall_mem_cons.2 ⟨c_adjointref3_IsName_ok fu,(by intro c h;cases h)⟩) Tryd.func23 Tryd.call23 rfl rfl (by kernel_rfl) (mvs:=[]) (ns:=[]) (fun q=>by kernel_rfl)
abbrev c_adjointref3_Right (fu:Nat):Con S0:=⟨22,[.dat false (.st 2)],[],false,[(2,.dat true .bool)],[],fun q=>F.adjointref3_Right fu q⟩
theorem c_adjointref3_Right_ok:∀fu:Nat,ConOk Tryd.prog (c_adjointref3_Right fu)
 | 0=>⟨Tryd.call22,fun q r h=>nomatch (show(none:Option _)=some r from h)⟩
 | fu+1=>ConOk.of (N:=185) (fu:=fu+1)
   (H:=[(6,.loopE ⟨[(2,.dat true .bool),(13,.dat true (.int .i64))],[]⟩ 0 ⟨[(2,.dat true .bool)],[]⟩),
    (26,.regJ [] ⟨[(5,.dat true .bool)],[]⟩),
    (35,.regJ [] ⟨[(2,.dat true .bool)],[]⟩),
    (41,.regJ [] ⟨[(2,.dat true .bool)],[]⟩),
    (47,.regJ [] ⟨[(2,.dat true .bool)],[]⟩),
    (53,.regJ [] ⟨[(2,.dat true .bool)],[]⟩),
    (59,.regJ [] ⟨[(2,.dat true .bool)],[]⟩),
    (68,.loopE ⟨[(2,.dat true .bool),(148,.dat true (.int .i64))],[]⟩ 3 ⟨[],[]⟩),
    (82,.loopE ⟨[(2,.dat true .bool),(154,.dat true (.int .i64))],[]⟩ 5 ⟨[(2,.dat true .bool)],[]⟩),
    (103,.regJ [] ⟨[(2,.dat true .bool)],[]⟩)])
   (tbl:=[c_adjointref3_Right fu,c_adjointref3_IsName (fu+1),c_adjointref3_writable (fu+1)])
   mixed (List.forall_mem_cons.2 ⟨c_adjointref3_Right_ok fu,List.forall_mem_cons.2 ⟨c_adjointref3_IsName_ok (fu+1),List.forall_mem_cons.2 ⟨c_adjointref3_writable_ok (fu+1),(by intro c h;cases h)⟩⟩⟩) Tryd.func22 Tryd.call22 rfl rfl (by kernel_rfl) (mvs:=[]) (ns:=[]) (fun q=>by kernel_rfl)
abbrev c_adjointref3_Digits (fu:Nat):Con S0:=⟨47,[.dat false (.int .i64)],[],false,[(2,.dat true .str)],[],fun q=>F.adjointref3_Digits fu q⟩
theorem c_adjointref3_Digits_ok:∀fu:Nat,ConOk Tryd.prog (c_adjointref3_Digits fu)
 | 0=>⟨Tryd.call47,fun q r h=>nomatch (show(none:Option _)=some r from h)⟩
 | fu+1=>ConOk.of (N:=20) (fu:=fu+1)
   (H:=[(11,.regJ [] ⟨[(2,.dat true .str)],[]⟩)])
   (tbl:=[c_adjointref3_Digits fu])
   mixed (List.forall_mem_cons.2 ⟨c_adjointref3_Digits_ok fu,(by intro c h;cases h)⟩) Tryd.func47 Tryd.call47 rfl rfl (by kernel_rfl) (mvs:=[]) (ns:=[]) (fun q=>by kernel_rfl)
abbrev c_adjointref3_shapeText (fu:Nat):Con S0:=⟨24,[.dat false (.list (.st 0))],[],false,[(2,.dat true .str)],[],fun q=>F.adjointref3_shapeText fu q⟩
theorem c_adjointref3_shapeText_ok (fu:Nat):ConOk Tryd.prog (c_adjointref3_shapeText fu):=ConOk.of (N:=32) (fu:=fu)
 (H:=[(8,.loop ⟨[(3,.dat true .str),(8,.dat true (.int .i64))],[]⟩ 0 ⟨[(3,.dat true .str)],[]⟩),
  (22,.join ⟨[(3,.dat true .str)],[]⟩),
  (27,.join ⟨[(3,.dat true .str)],[]⟩)])
 (tbl:=[c_adjointref3_Digits fu])
 mixed (List.forall_mem_cons.2 ⟨c_adjointref3_Digits_ok fu,(by intro c h;cases h)⟩) Tryd.func24 Tryd.call24 rfl rfl (by kernel_rfl) (mvs:=[]) (ns:=[]) (fun q=>by kernel_rfl)
abbrev c_adjointref3_Power (fu:Nat):Con S0:=⟨72,[.dat false (.st 2)],[],false,[(2,.dat true (.int .i64))],[],fun q=>F.adjointref3_Power fu q⟩
theorem c_adjointref3_Power_ok (fu:Nat):ConOk Tryd.prog (c_adjointref3_Power fu):=ConOk.of (N:=22) (fu:=fu)
 (H:=[(4,.regJ [] ⟨[(10,.dat true .bool)],[]⟩),
  (12,.regJ [] ⟨[(18,.dat true .bool)],[]⟩)])
 (tbl:=[])
 mixed (by intro c h;cases h) Tryd.func72 Tryd.call72 rfl rfl (by kernel_rfl) (mvs:=[]) (ns:=[]) (fun q=>by kernel_rfl)
abbrev c_adjointref3_weak (fu:Nat):Con S0:=⟨48,[.dat false (.st 2),.dat false (.int .i64)],[],false,[(4,.dat true .bool)],[],fun q=>F.adjointref3_weak fu q.1 q.2⟩
theorem c_adjointref3_weak_ok (fu:Nat):ConOk Tryd.prog (c_adjointref3_weak fu):=ConOk.of (N:=16) (fu:=fu)
 (H:=[(3,.reg [])])
 (tbl:=[c_adjointref3_Power fu])
 mixed (List.forall_mem_cons.2 ⟨c_adjointref3_Power_ok fu,(by intro c h;cases h)⟩) Tryd.func48 Tryd.call48 rfl rfl (by kernel_rfl) (mvs:=[]) (ns:=[]) (fun q=>by kernel_rfl)
abbrev c_adjointref3_Text (fu:Nat):Con S0:=⟨25,[.dat false (.st 2)],[],false,[(2,.dat true .str)],[],fun q=>F.adjointref3_Text fu q⟩
theorem c_adjointref3_Text_ok:∀fu:Nat,ConOk Tryd.prog (c_adjointref3_Text fu)
 | 0=>⟨Tryd.call25,fun q r h=>nomatch (show(none:Option _)=some r from h)⟩
 | fu+1=>ConOk.of (N:=157) (fu:=fu+1)
   (H:=[(27,.loop ⟨[(3,.dat true .str),(30,.dat true (.int .i64))],[]⟩ 1 ⟨[(3,.dat true .str)],[]⟩),
    (43,.join ⟨[(6,.dat true .str)],[]⟩),
    (49,.join ⟨[(3,.dat true .str)],[]⟩),
    (61,.reg []),
    (67,.reg []),
    (75,.join ⟨[(7,.dat true .str)],[]⟩),
    (82,.loop ⟨[(7,.dat true .str),(111,.dat true (.int .i64))],[]⟩ 3 ⟨[(7,.dat true .str)],[]⟩),
    (99,.loop ⟨[(7,.dat true .str),(119,.dat true (.int .i64))],[]⟩ 5 ⟨[(7,.dat true .str)],[]⟩),
    (113,.join ⟨[(7,.dat true .str)],[]⟩),
    (126,.loop ⟨[(7,.dat true .str),(141,.dat true (.int .i64))],[]⟩ 7 ⟨[(7,.dat true .str)],[]⟩),
    (140,.join ⟨[(7,.dat true .str)],[]⟩)])
   (tbl:=[c_adjointref3_Digits (fu+1),c_adjointref3_Text fu,c_adjointref3_weak (fu+1),c_adjointref3_shapeText (fu+1)])
   mixed (List.forall_mem_cons.2 ⟨c_adjointref3_Digits_ok (fu+1),List.forall_mem_cons.2 ⟨c_adjointref3_Text_ok fu,List.forall_mem_cons.2 ⟨c_adjointref3_weak_ok (fu+1),List.forall_mem_cons.2 ⟨c_adjointref3_shapeText_ok (fu+1),(by intro c h;cases h)⟩⟩⟩⟩) Tryd.func25 Tryd.call25 rfl rfl (by kernel_rfl) (mvs:=[]) (ns:=[]) (fun q=>by kernel_rfl)
abbrev c_adjointref3_Levels (fu:Nat):Con S0:=⟨26,[.dat false (.st 2)],[],false,[(2,.dat true (.int .i64))],[],fun q=>F.adjointref3_Levels fu q⟩
theorem c_adjointref3_Levels_ok:∀fu:Nat,ConOk Tryd.prog (c_adjointref3_Levels fu)
 | 0=>⟨Tryd.call26,fun q r h=>nomatch (show(none:Option _)=some r from h)⟩
 | fu+1=>ConOk.of (N:=35) (fu:=fu+1)
   (H:=[(8,.loop ⟨[(3,.dat true (.int .i64)),(10,.dat true (.int .i64))],[]⟩ 0 ⟨[(3,.dat true (.int .i64))],[]⟩),
    (23,.regJ [] ⟨[(25,.dat true .bool)],[]⟩),
    (24,.join ⟨[(6,.dat true (.int .i64))],[]⟩),
    (29,.join ⟨[(3,.dat true (.int .i64))],[]⟩)])
   (tbl:=[c_adjointref3_Levels fu,c_adjointref3_weak (fu+1)])
   mixed (List.forall_mem_cons.2 ⟨c_adjointref3_Levels_ok fu,List.forall_mem_cons.2 ⟨c_adjointref3_weak_ok (fu+1),(by intro c h;cases h)⟩⟩) Tryd.func26 Tryd.call26 rfl rfl (by kernel_rfl) (mvs:=[]) (ns:=[]) (fun q=>by kernel_rfl)
abbrev c_adjointref3_Chain (fu:Nat):Con S0:=⟨49,[.dat false (.st 2)],[],false,[(2,.dat true (.int .i64))],[],fun q=>F.adjointref3_Chain fu q⟩
theorem c_adjointref3_Chain_ok:∀fu:Nat,ConOk Tryd.prog (c_adjointref3_Chain fu)
 | 0=>⟨Tryd.call49,fun q r h=>nomatch (show(none:Option _)=some r from h)⟩
 | fu+1=>ConOk.of (N:=20) (fu:=fu+1)
   (H:=[(12,.reg [])])
   (tbl:=[c_adjointref3_Power (fu+1),c_adjointref3_Chain fu])
   mixed (List.forall_mem_cons.2 ⟨c_adjointref3_Power_ok (fu+1),List.forall_mem_cons.2 ⟨c_adjointref3_Chain_ok fu,(by intro c h;cases h)⟩⟩) Tryd.func49 Tryd.call49 rfl rfl (by kernel_rfl) (mvs:=[]) (ns:=[]) (fun q=>by kernel_rfl)
abbrev c_adjointref3_longest (fu:Nat):Con S0:=⟨27,[.dat false (.st 2)],[],false,[(2,.dat true (.int .i64))],[],fun q=>F.adjointref3_longest fu q⟩
theorem c_adjointref3_longest_ok:∀fu:Nat,ConOk Tryd.prog (c_adjointref3_longest fu)
 | 0=>⟨Tryd.call27,fun q r h=>nomatch (show(none:Option _)=some r from h)⟩
 | fu+1=>ConOk.of (N:=24) (fu:=fu+1)
   (H:=[(8,.loop ⟨[(3,.dat true (.int .i64)),(12,.dat true (.int .i64))],[]⟩ 0 ⟨[(3,.dat true (.int .i64))],[]⟩),
    (23,.join ⟨[(3,.dat true (.int .i64))],[]⟩)])
   (tbl:=[c_adjointref3_Chain (fu+1),c_adjointref3_longest fu])
   mixed (List.forall_mem_cons.2 ⟨c_adjointref3_Chain_ok (fu+1),List.forall_mem_cons.2 ⟨c_adjointref3_longest_ok fu,(by intro c h;cases h)⟩⟩) Tryd.func27 Tryd.call27 rfl rfl (by kernel_rfl) (mvs:=[]) (ns:=[]) (fun q=>by kernel_rfl)
abbrev c_adjointref3_Print (fu:Nat):Con S0:=⟨10,[.dat false (.list (.st 3))],[],false,[(2,.dat true .str),(3,.dat true (.int .i64))],[],fun q=>F.adjointref3_Print fu q⟩
theorem c_adjointref3_Print_ok (fu:Nat):ConOk Tryd.prog (c_adjointref3_Print fu):=ConOk.of (N:=92) (fu:=fu)
 (H:=[(10,.loopE ⟨[(2,.dat true .str),(3,.dat true (.int .i64)),(4,.dat true .str),(5,.dat true .bool),(12,.dat true (.int .i64))],[]⟩ 0 ⟨[(2,.dat true .str),(3,.dat true (.int .i64)),(4,.dat true .str),(5,.dat true .bool)],[]⟩),
  (23,.regJ [] ⟨[(25,.dat true .bool)],[]⟩),
  (35,.loopE ⟨[(2,.dat true .str),(3,.dat true (.int .i64)),(4,.dat true .str),(35,.dat true (.int .i64))],[]⟩ 2 ⟨[(2,.dat true .str),(3,.dat true (.int .i64)),(4,.dat true .str)],[]⟩),
  (48,.regJ [] ⟨[(49,.dat true .bool)],[]⟩),
  (57,.join ⟨[(4,.dat true .str)],[]⟩),
  (60,.reg []),
  (64,.regJ [] ⟨[(5,.dat true .bool)],[]⟩),
  (68,.regJ [] ⟨[(90,.dat true .bool)],[]⟩)])
 (tbl:=[c_adjointref3_IsName fu,c_adjointref3_Right fu,c_adjointref3_writable fu,c_adjointref3_shapeText fu,c_adjointref3_Text fu,c_adjointref3_Levels fu,c_adjointref3_longest fu])
 mixed (List.forall_mem_cons.2 ⟨c_adjointref3_IsName_ok fu,List.forall_mem_cons.2 ⟨c_adjointref3_Right_ok fu,List.forall_mem_cons.2 ⟨c_adjointref3_writable_ok fu,List.forall_mem_cons.2 ⟨c_adjointref3_shapeText_ok fu,List.forall_mem_cons.2 ⟨c_adjointref3_Text_ok fu,List.forall_mem_cons.2 ⟨c_adjointref3_Levels_ok fu,List.forall_mem_cons.2 ⟨c_adjointref3_longest_ok fu,(by intro c h;cases h)⟩⟩⟩⟩⟩⟩⟩) Tryd.func10 Tryd.call10 rfl rfl (by kernel_rfl) (mvs:=[]) (ns:=[]) (fun q=>by kernel_rfl)
abbrev c_adjointlaw3_TextPrints (fu:Nat):Con S0:=⟨3,[.dat false (.list (.st 3))],[],false,[(2,.dat true .bool)],[],fun q=>F.adjointlaw3_TextPrints fu q⟩
theorem c_adjointlaw3_TextPrints_ok (fu:Nat):ConOk Tryd.prog (c_adjointlaw3_TextPrints fu):=ConOk.of (N:=25) (fu:=fu)
 (H:=[(7,.regJ [] ⟨[(2,.dat true .bool)],[]⟩)])
 (tbl:=[c_text_Print fu,c_adjointref3_Print fu])
 mixed (List.forall_mem_cons.2 ⟨c_text_Print_ok fu,List.forall_mem_cons.2 ⟨c_adjointref3_Print_ok fu,(by intro c h;cases h)⟩⟩) Tryd.func3 Tryd.call3 rfl rfl (by kernel_rfl) (mvs:=[]) (ns:=[]) (fun q=>by kernel_rfl)
end
end Go.DN
