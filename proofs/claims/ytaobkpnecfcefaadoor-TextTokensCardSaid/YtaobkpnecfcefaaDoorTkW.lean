/-
  Each function does what its Lean function says.
-/
import Derived.Test.YtaobkpnecfcefaaDoorTkF
import Derived.Test.YtaobkpnecfcefaaDoorProg
import Derived.Test.YtaobkpnecfcefaaDoorTfA
import Derived.Test.YtaobkpnecfcefaaDoorTfB
import Derived.KernelRfl
set_option maxRecDepth 20000
set_option linter.unusedVariables false
set_option linter.unusedSimpArgs false
namespace Go.DN
open Go.AM
open Go.Proofs
noncomputable section
theorem mixed:Tryd.prog.follows .mixedOrders=true:=by kernel_rfl
abbrev c_text_lexer_blanks_1 (fu:Nat):Con S0:=⟨51,[.dat false (.int .u8)],[],false,[(2,.dat true .bool)],[],fun q=>F.text_lexer_blanks_1 fu q⟩
theorem c_text_lexer_blanks_1_ok (fu:Nat):ConOk Tryd.prog (c_text_lexer_blanks_1 fu):=ConOk.of (N:=5) (fu:=fu)
 (H:=[])
 (tbl:=[])
 mixed (by intro c h;cases h) Tryd.func51 Tryd.call51 rfl rfl (by kernel_rfl) (mvs:=[]) (ns:=[]) (fun q=>by kernel_rfl)
abbrev c_text_lexer_while (fu:Nat):Con S0:=⟨50,[.loc 1000 0,.clo 51 []],[.box 69 false [.dat false .str,.dat false (.int .i64)]],false,[(4,.dat true .str)],[(1000,.box 69 false [.dat true .str,.dat true (.int .i64)])],fun q=>F.text_lexer_while fu q.1 q.2⟩
theorem c_text_lexer_while_ok (fu:Nat):ConOk Tryd.prog (c_text_lexer_while fu):=ConOk.of (N:=50) (fu:=fu)
 (H:=[(6,.loop ⟨[],[(1000,.box 69 false [.dat true .str,.dat true (.int .i64)])]⟩ 0 ⟨[],[(1000,.box 69 false [.dat true .str,.dat true (.int .i64)])]⟩),
  (9,.regJ [] ⟨[(32,.dat true .bool)],[]⟩),
  (16,.reg [])])
 (tbl:=[c_text_lexer_blanks_1 fu])
 mixed (List.forall_mem_cons.2 ⟨c_text_lexer_blanks_1_ok fu,(by intro c h;cases h)⟩) Tryd.func50 Tryd.call50 rfl rfl (by kernel_rfl) (mvs:=[]) (ns:=[]) (fun q=>by kernel_rfl)
abbrev c_text_lexer_blanks (fu:Nat):Con S0:=⟨31,[.loc 1000 0],[.box 69 false [.dat false .str,.dat false (.int .i64)]],false,[],[(1000,.box 69 false [.dat true .str,.dat true (.int .i64)])],fun q=>F.text_lexer_blanks fu q.1 q.2⟩
theorem c_text_lexer_blanks_ok (fu:Nat):ConOk Tryd.prog (c_text_lexer_blanks fu):=ConOk.of (N:=37) (fu:=fu)
 (H:=[(1,.loopE ⟨[],[(1000,.box 69 false [.dat true .str,.dat true (.int .i64)])]⟩ 0 ⟨[],[(1000,.box 69 false [.dat true .str,.dat true (.int .i64)])]⟩),
  (4,.reg []),
  (10,.reg []),
  (15,.join ⟨[(21,.dat true .bool)],[]⟩),
  (19,.join ⟨[(21,.dat true .bool)],[]⟩),
  (23,.join ⟨[(21,.dat true .bool)],[]⟩),
  (26,.joinE ⟨[],[(1000,.box 69 false [.dat true .str,.dat true (.int .i64)])]⟩)])
 (tbl:=[c_text_lexer_while fu])
 mixed (List.forall_mem_cons.2 ⟨c_text_lexer_while_ok fu,(by intro c h;cases h)⟩) Tryd.func31 Tryd.call31 rfl rfl (by kernel_rfl) (mvs:=[]) (ns:=[]) (fun q=>by kernel_rfl)
abbrev c_text_letter (fu:Nat):Con S0:=⟨52,[.dat false (.int .u8)],[],false,[(2,.dat true .bool)],[],fun q=>F.text_letter fu q⟩
theorem c_text_letter_ok (fu:Nat):ConOk Tryd.prog (c_text_letter fu):=ConOk.of (N:=21) (fu:=fu)
 (H:=[(3,.regJ [] ⟨[(2,.dat true .bool)],[]⟩)])
 (tbl:=[])
 mixed (by intro c h;cases h) Tryd.func52 Tryd.call52 rfl rfl (by kernel_rfl) (mvs:=[]) (ns:=[]) (fun q=>by kernel_rfl)
abbrev c_text_digit (fu:Nat):Con S0:=⟨54,[.dat false (.int .u8)],[],false,[(2,.dat true .bool)],[],fun q=>F.text_digit fu q⟩
theorem c_text_digit_ok (fu:Nat):ConOk Tryd.prog (c_text_digit fu):=ConOk.of (N:=9) (fu:=fu)
 (H:=[(3,.regJ [] ⟨[(2,.dat true .bool)],[]⟩)])
 (tbl:=[])
 mixed (by intro c h;cases h) Tryd.func54 Tryd.call54 rfl rfl (by kernel_rfl) (mvs:=[]) (ns:=[]) (fun q=>by kernel_rfl)
abbrev c_text_lexer_next_1 (fu:Nat):Con S0:=⟨53,[.dat false (.int .u8)],[],false,[(2,.dat true .bool)],[],fun q=>F.text_lexer_next_1 fu q⟩
theorem c_text_lexer_next_1_ok (fu:Nat):ConOk Tryd.prog (c_text_lexer_next_1 fu):=ConOk.of (N:=9) (fu:=fu)
 (H:=[(3,.regJ [] ⟨[(2,.dat true .bool)],[]⟩)])
 (tbl:=[c_text_letter fu,c_text_digit fu])
 mixed (List.forall_mem_cons.2 ⟨c_text_letter_ok fu,List.forall_mem_cons.2 ⟨c_text_digit_ok fu,(by intro c h;cases h)⟩⟩) Tryd.func53 Tryd.call53 rfl rfl (by kernel_rfl) (mvs:=[]) (ns:=[]) (fun q=>by kernel_rfl)
abbrev c_text_lexer_while_2 (fu:Nat):Con S0:=⟨50,[.loc 1000 0,.clo 53 []],[.box 69 false [.dat false .str,.dat false (.int .i64)]],false,[(4,.dat true .str)],[(1000,.box 69 false [.dat true .str,.dat true (.int .i64)])],fun q=>F.text_lexer_while_2 fu q.1 q.2⟩
theorem c_text_lexer_while_2_ok (fu:Nat):ConOk Tryd.prog (c_text_lexer_while_2 fu):=ConOk.of (N:=50) (fu:=fu)
 (H:=[(6,.loop ⟨[],[(1000,.box 69 false [.dat true .str,.dat true (.int .i64)])]⟩ 0 ⟨[],[(1000,.box 69 false [.dat true .str,.dat true (.int .i64)])]⟩),
  (9,.regJ [] ⟨[(32,.dat true .bool)],[]⟩),
  (16,.reg [])])
 (tbl:=[c_text_lexer_next_1 fu])
 mixed (List.forall_mem_cons.2 ⟨c_text_lexer_next_1_ok fu,(by intro c h;cases h)⟩) Tryd.func50 Tryd.call50 rfl rfl (by kernel_rfl) (mvs:=[]) (ns:=[]) (fun q=>by kernel_rfl)
abbrev c_text_lexer_next_2 (fu:Nat):Con S0:=⟨55,[.dat false (.int .u8)],[],false,[(2,.dat true .bool)],[],fun q=>F.text_lexer_next_2 fu q⟩
theorem c_text_lexer_next_2_ok (fu:Nat):ConOk Tryd.prog (c_text_lexer_next_2 fu):=ConOk.of (N:=9) (fu:=fu)
 (H:=[(3,.regJ [] ⟨[(2,.dat true .bool)],[]⟩)])
 (tbl:=[c_text_letter fu,c_text_digit fu])
 mixed (List.forall_mem_cons.2 ⟨c_text_letter_ok fu,List.forall_mem_cons.2 ⟨c_text_digit_ok fu,(by intro c h;cases h)⟩⟩) Tryd.func55 Tryd.call55 rfl rfl (by kernel_rfl) (mvs:=[]) (ns:=[]) (fun q=>by kernel_rfl)
abbrev c_text_lexer_while_3 (fu:Nat):Con S0:=⟨50,[.loc 1000 0,.clo 55 []],[.box 69 false [.dat false .str,.dat false (.int .i64)]],false,[(4,.dat true .str)],[(1000,.box 69 false [.dat true .str,.dat true (.int .i64)])],fun q=>F.text_lexer_while_3 fu q.1 q.2⟩
theorem c_text_lexer_while_3_ok (fu:Nat):ConOk Tryd.prog (c_text_lexer_while_3 fu):=ConOk.of (N:=50) (fu:=fu)
 (H:=[(6,.loop ⟨[],[(1000,.box 69 false [.dat true .str,.dat true (.int .i64)])]⟩ 0 ⟨[],[(1000,.box 69 false [.dat true .str,.dat true (.int .i64)])]⟩),
  (9,.regJ [] ⟨[(32,.dat true .bool)],[]⟩),
  (16,.reg [])])
 (tbl:=[c_text_lexer_next_2 fu])
 mixed (List.forall_mem_cons.2 ⟨c_text_lexer_next_2_ok fu,(by intro c h;cases h)⟩) Tryd.func50 Tryd.call50 rfl rfl (by kernel_rfl) (mvs:=[]) (ns:=[]) (fun q=>by kernel_rfl)
abbrev c_fail_ (fu:Nat):ConP S0:=c_fail S0
theorem c_fail__ok (fu:Nat):ConPOk Tryd.prog (c_fail_ fu):=c_fail_ok
abbrev c_parseI (fu:Nat):Con S0:=c_parse S0
theorem c_parseI_ok (fu:Nat):ConOk Tryd.prog (c_parseI fu):=c_parse_ok
abbrev c_text_lexer_next (fu:Nat):ConP S0:=⟨32,[.loc 1000 0],[.box 69 false [.dat false .str,.dat false (.int .i64)]],false,[(2,.dat true (.st 1))],[(1000,.box 69 false [.dat true .str,.dat true (.int .i64)])],[(1000,.box 69 false [.dat true .str,.dat true (.int .i64)])],92,fun q=>F.text_lexer_next fu q.1 q.2⟩
theorem c_text_lexer_next_ok (fu:Nat):ConPOk Tryd.prog (c_text_lexer_next fu):=ConPOk.of (N:=103) (fu:=fu)
 (H:=[(23,.loopE ⟨[(33,.dat true (.int .i64))],[]⟩ 1 ⟨[],[]⟩),
  (42,.regJ [] ⟨[(51,.dat true .bool)],[]⟩),
  (65,.join ⟨[(67,.dat true .bool)],[]⟩),
  (69,.join ⟨[(67,.dat true .bool)],[]⟩),
  (73,.join ⟨[(67,.dat true .bool)],[]⟩),
  (77,.join ⟨[(67,.dat true .bool)],[]⟩),
  (81,.join ⟨[(67,.dat true .bool)],[]⟩),
  (85,.join ⟨[(67,.dat true .bool)],[]⟩),
  (89,.join ⟨[(67,.dat true .bool)],[]⟩),
  (93,.join ⟨[(67,.dat true .bool)],[]⟩),
  (97,.join ⟨[(67,.dat true .bool)],[]⟩),
  (101,.join ⟨[(67,.dat true .bool)],[]⟩),
  (105,.join ⟨[(67,.dat true .bool)],[]⟩),
  (109,.join ⟨[(67,.dat true .bool)],[]⟩),
  (116,.reg [2])])
 (cl:=(clT (clP [c_text_lexer_while_2 fu,c_text_lexer_while_3 fu,c_text_letter fu,c_text_digit fu,c_parseI fu] []) [c_fail_ fu])) (tblD:=[])
 mixed (clT_ok (clP_ok (List.forall_mem_cons.2 ⟨c_text_lexer_while_2_ok fu,List.forall_mem_cons.2 ⟨c_text_lexer_while_3_ok fu,List.forall_mem_cons.2 ⟨c_text_letter_ok fu,List.forall_mem_cons.2 ⟨c_text_digit_ok fu,List.forall_mem_cons.2 ⟨c_parseI_ok fu,(by intro c h;cases h)⟩⟩⟩⟩⟩)) (List.forall_mem_cons.2 ⟨c_fail__ok fu,(by intro c h;cases h)⟩)) (by intro c h;cases h) Tryd.func32 Tryd.call32 rfl rfl (by kernel_rfl) (by kernel_rfl) (mvs:=[]) (fun q=>by kernel_rfl)
abbrev c_caught_ (fu:Nat):ConD S0:=c_caught S0
theorem c_caught__ok (fu:Nat):ConDOk Tryd.prog 92 (c_caught_ fu):=c_caught_ok
abbrev c_text_Tokens_1 (fu:Nat):ConD S0:=⟨28,[.loc 1000 0,.loc 1001 0],[.box 29 false [.dat false (.int .i64),.dat false (.int .i64)],.box 27 false [.own 1002 (.st 1)],.arr 40 false false (.st 1)],false,[(1000,.box 29 false [.dat true (.int .i64),.dat true (.int .i64)]),(1001,.box 27 false [.own 482 (.st 1)]),(482,.arr 40 false false (.st 1))],false,fun m q=>F.text_Tokens_1 fu q.1 q.2.1 q.2.2⟩
theorem c_text_Tokens_1_ok (fu:Nat):ConDOk Tryd.prog 92 (c_text_Tokens_1 fu):=ConDOk.of (N:=5) (fu:=fu)
 (H:=[(2,.join ⟨[],[(1001,.box 27 false [.own 482 (.st 1)]),(482,.arr 40 false false (.st 1))]⟩)])
 (cl:=(clP [] []))
 mixed (clP_ok (by intro c h;cases h)) Tryd.func28 Tryd.call28 rfl rfl (by kernel_rfl) (mvs:=[1002]) (fun m q=>by kernel_rfl)
abbrev c_text_Tokens_p (fu:Nat):ConP S0:=⟨11,[.dat false .str],[],false,[(2,.dat false (.list (.st 1))),(3,.dat true (.st 2))],[],[],92,fun q=>F.text_Tokens_p fu q⟩
theorem c_text_Tokens_p_ok (fu:Nat):ConPOk Tryd.prog (c_text_Tokens_p fu):=ConPOk.of (N:=26) (fu:=fu)
 (H:=[(20,.loopE ⟨[],[(4,.box 69 true [.dat true .str,.dat true (.int .i64)]),(2,.box 27 true [.own 420 (.st 1)]),(420,.arr 40 true true (.st 1))]⟩ 0 ⟨[],[(4,.box 69 true [.dat true .str,.dat true (.int .i64)]),(2,.box 27 true [.own 420 (.st 1)]),(420,.arr 40 true true (.st 1))]⟩),
  (29,.reg [4,23,2,420]),
  (32,.regJ [2,3] ⟨[],[(2,.box 27 true [.own 420 (.st 1)]),(3,.box 29 true [.dat true (.int .i64),.dat true (.int .i64)])]⟩)])
 (cl:=(clT (clP [c_text_lexer_blanks fu] []) [c_text_lexer_next fu])) (tblD:=[c_caught_ fu,c_text_Tokens_1 fu])
 mixed (clT_ok (clP_ok (List.forall_mem_cons.2 ⟨c_text_lexer_blanks_ok fu,(by intro c h;cases h)⟩)) (List.forall_mem_cons.2 ⟨c_text_lexer_next_ok fu,(by intro c h;cases h)⟩)) (List.forall_mem_cons.2 ⟨c_caught__ok fu,List.forall_mem_cons.2 ⟨c_text_Tokens_1_ok fu,(by intro c h;cases h)⟩⟩) Tryd.func11 Tryd.call11 rfl rfl (by kernel_rfl) (by kernel_rfl) (mvs:=[]) (fun q=>by kernel_rfl)
abbrev c_text_Tokens (fu:Nat):Con S0:=⟨11,[.dat false .str],[],false,[(2,.dat false (.list (.st 1))),(3,.dat true (.st 2))],[],fun q=>F.text_Tokens fu q⟩
theorem c_text_Tokens_ok (fu:Nat):ConOk Tryd.prog (c_text_Tokens fu):=ConPOk.caught (c_text_Tokens_p_ok fu) fun q r h=>unP_some h
abbrev c_adjointref3_isBlank (fu:Nat):Con S0:=⟨33,[.dat false (.int .u8)],[],false,[(2,.dat true .bool)],[],fun q=>F.adjointref3_isBlank fu q⟩
theorem c_adjointref3_isBlank_ok (fu:Nat):ConOk Tryd.prog (c_adjointref3_isBlank fu):=ConOk.of (N:=17) (fu:=fu)
 (H:=[(3,.regJ [] ⟨[(2,.dat true .bool)],[]⟩)])
 (tbl:=[])
 mixed (by intro c h;cases h) Tryd.func33 Tryd.call33 rfl rfl (by kernel_rfl) (mvs:=[]) (ns:=[]) (fun q=>by kernel_rfl)
abbrev c_adjointref3_isLetter (fu:Nat):Con S0:=⟨34,[.dat false (.int .u8)],[],false,[(2,.dat true .bool)],[],fun q=>F.adjointref3_isLetter fu q⟩
theorem c_adjointref3_isLetter_ok (fu:Nat):ConOk Tryd.prog (c_adjointref3_isLetter fu):=ConOk.of (N:=21) (fu:=fu)
 (H:=[(3,.regJ [] ⟨[(2,.dat true .bool)],[]⟩)])
 (tbl:=[])
 mixed (by intro c h;cases h) Tryd.func34 Tryd.call34 rfl rfl (by kernel_rfl) (mvs:=[]) (ns:=[]) (fun q=>by kernel_rfl)
abbrev c_adjointref3_isDigit (fu:Nat):Con S0:=⟨35,[.dat false (.int .u8)],[],false,[(2,.dat true .bool)],[],fun q=>F.adjointref3_isDigit fu q⟩
theorem c_adjointref3_isDigit_ok (fu:Nat):ConOk Tryd.prog (c_adjointref3_isDigit fu):=ConOk.of (N:=9) (fu:=fu)
 (H:=[(3,.regJ [] ⟨[(2,.dat true .bool)],[]⟩)])
 (tbl:=[])
 mixed (by intro c h;cases h) Tryd.func35 Tryd.call35 rfl rfl (by kernel_rfl) (mvs:=[]) (ns:=[]) (fun q=>by kernel_rfl)
abbrev c_adjointref3_numeral (fu:Nat):Con S0:=⟨36,[.dat false .str],[],false,[(2,.dat true .bool)],[],fun q=>F.adjointref3_numeral fu q⟩
theorem c_adjointref3_numeral_ok (fu:Nat):ConOk Tryd.prog (c_adjointref3_numeral fu):=ConOk.of (N:=23) (fu:=fu)
 (H:=[(6,.loopE ⟨[(2,.dat true .bool),(3,.dat true (.int .i64))],[]⟩ 0 ⟨[],[]⟩),
  (24,.regJ [] ⟨[(2,.dat true .bool)],[]⟩)])
 (tbl:=[c_adjointref3_isDigit fu])
 mixed (List.forall_mem_cons.2 ⟨c_adjointref3_isDigit_ok fu,(by intro c h;cases h)⟩) Tryd.func36 Tryd.call36 rfl rfl (by kernel_rfl) (mvs:=[]) (ns:=[]) (fun q=>by kernel_rfl)
abbrev c_adjointref3_Value (fu:Nat):Con S0:=⟨37,[.dat false .str],[],false,[(2,.dat true (.int .i64)),(3,.dat true .bool)],[],fun q=>F.adjointref3_Value fu q⟩
theorem c_adjointref3_Value_ok (fu:Nat):ConOk Tryd.prog (c_adjointref3_Value fu):=ConOk.of (N:=28) (fu:=fu)
 (H:=[(8,.loopE ⟨[(2,.dat true (.int .i64)),(3,.dat true .bool),(4,.dat true (.int .i64)),(5,.dat true (.int .i64))],[]⟩ 0 ⟨[(4,.dat true (.int .i64))],[]⟩)])
 (tbl:=[])
 mixed (by intro c h;cases h) Tryd.func37 Tryd.call37 rfl rfl (by kernel_rfl) (mvs:=[]) (ns:=[]) (fun q=>by kernel_rfl)
abbrev c_adjointref3_sign (fu:Nat):Con S0:=⟨38,[.dat false (.int .u8)],[],false,[(2,.dat true .bool)],[],fun q=>F.adjointref3_sign fu q⟩
theorem c_adjointref3_sign_ok (fu:Nat):ConOk Tryd.prog (c_adjointref3_sign fu):=ConOk.of (N:=12) (fu:=fu)
 (H:=[(6,.loopE ⟨[(2,.dat true .bool),(3,.dat true (.int .i64))],[]⟩ 0 ⟨[],[]⟩)])
 (tbl:=[])
 mixed (by intro c h;cases h) Tryd.func38 Tryd.call38 rfl rfl (by kernel_rfl) (mvs:=[]) (ns:=[]) (fun q=>by kernel_rfl)
abbrev c_adjointref3_Tokens (fu:Nat):Con S0:=⟨12,[.dat false .str],[],false,[(2,.dat true (.list (.st 1))),(3,.dat true (.st 2))],[],fun q=>F.adjointref3_Tokens fu q⟩
theorem c_adjointref3_Tokens_ok (fu:Nat):ConOk Tryd.prog (c_adjointref3_Tokens fu):=ConOk.of (N:=117) (fu:=fu)
 (H:=[(16,.loopE ⟨[(5,.dat true (.int .i64)),(2,.dat true (.list (.st 1))),(4,.own 4 (.st 1))],[(3,.box 29 true [.dat true (.int .i64),.dat true (.int .i64)]),(4,.arr 40 true true (.st 1))]⟩ 0 ⟨[(4,.own 4 (.st 1))],[(3,.box 29 true [.dat true (.int .i64),.dat true (.int .i64)]),(4,.arr 40 true true (.st 1))]⟩),
  (26,.joinE ⟨[(5,.dat true (.int .i64)),(2,.dat true (.list (.st 1))),(4,.own 4 (.st 1))],[(3,.box 29 true [.dat true (.int .i64),.dat true (.int .i64)]),(4,.arr 40 true true (.st 1))]⟩),
  (30,.joinE ⟨[(5,.dat true (.int .i64)),(2,.dat true (.list (.st 1))),(4,.own 4 (.st 1))],[(3,.box 29 true [.dat true (.int .i64),.dat true (.int .i64)]),(4,.arr 40 true true (.st 1))]⟩),
  (32,.loop ⟨[(5,.dat true (.int .i64))],[]⟩ 2 ⟨[(5,.dat true (.int .i64))],[]⟩),
  (35,.regJ [] ⟨[(37,.dat true .bool)],[]⟩),
  (42,.regJ [] ⟨[(49,.dat true .bool)],[]⟩),
  (43,.joinE ⟨[(2,.dat true (.list (.st 1))),(4,.own 4 (.st 1)),(5,.dat true (.int .i64))],[(3,.box 29 true [.dat true (.int .i64),.dat true (.int .i64)]),(4,.arr 40 true true (.st 1))]⟩),
  (48,.loop ⟨[(6,.dat true (.int .i64))],[]⟩ 4 ⟨[(6,.dat true (.int .i64))],[]⟩),
  (51,.regJ [] ⟨[(66,.dat true .bool)],[]⟩),
  (62,.joinE ⟨[(2,.dat true (.list (.st 1)))],[(3,.box 29 true [.dat true (.int .i64),.dat true (.int .i64)])]⟩)])
 (tbl:=[c_adjointref3_isBlank fu,c_adjointref3_isLetter fu,c_adjointref3_isDigit fu,c_adjointref3_numeral fu,c_adjointref3_Value fu,c_adjointref3_sign fu])
 mixed (List.forall_mem_cons.2 ⟨c_adjointref3_isBlank_ok fu,List.forall_mem_cons.2 ⟨c_adjointref3_isLetter_ok fu,List.forall_mem_cons.2 ⟨c_adjointref3_isDigit_ok fu,List.forall_mem_cons.2 ⟨c_adjointref3_numeral_ok fu,List.forall_mem_cons.2 ⟨c_adjointref3_Value_ok fu,List.forall_mem_cons.2 ⟨c_adjointref3_sign_ok fu,(by intro c h;cases h)⟩⟩⟩⟩⟩⟩) Tryd.func12 Tryd.call12 rfl rfl (by kernel_rfl) (mvs:=[]) (ns:=[]) (fun q=>by kernel_rfl)
abbrev c_adjointlaw3_sameTokens (fu:Nat):Con S0:=⟨13,[.dat false (.list (.st 1)),.dat false (.list (.st 1))],[],false,[(4,.dat true .bool)],[],fun q=>F.adjointlaw3_sameTokens fu q.1 q.2⟩
theorem c_adjointlaw3_sameTokens_ok (fu:Nat):ConOk Tryd.prog (c_adjointlaw3_sameTokens fu):=ConOk.of (N:=26) (fu:=fu)
 (H:=[(14,.loopE ⟨[(4,.dat true .bool),(13,.dat true (.int .i64))],[]⟩ 0 ⟨[],[]⟩),
  (26,.reg [])])
 (tbl:=[])
 mixed (by intro c h;cases h) Tryd.func13 Tryd.call13 rfl rfl (by kernel_rfl) (mvs:=[]) (ns:=[]) (fun q=>by kernel_rfl)
abbrev c_adjointlaw3_TextTokens (fu:Nat):Con S0:=⟨4,[.dat false .str],[],false,[(2,.dat true .bool)],[],fun q=>F.adjointlaw3_TextTokens fu q⟩
theorem c_adjointlaw3_TextTokens_ok (fu:Nat):ConOk Tryd.prog (c_adjointlaw3_TextTokens fu):=ConOk.of (N:=25) (fu:=fu)
 (H:=[(7,.regJ [] ⟨[(2,.dat true .bool)],[]⟩)])
 (tbl:=[c_text_Tokens fu,c_adjointref3_Tokens fu,c_adjointlaw3_sameTokens fu])
 mixed (List.forall_mem_cons.2 ⟨c_text_Tokens_ok fu,List.forall_mem_cons.2 ⟨c_adjointref3_Tokens_ok fu,List.forall_mem_cons.2 ⟨c_adjointlaw3_sameTokens_ok fu,(by intro c h;cases h)⟩⟩⟩) Tryd.func4 Tryd.call4 rfl rfl (by kernel_rfl) (mvs:=[]) (ns:=[]) (fun q=>by kernel_rfl)
end
end Go.DN
