/-
  Each function does what its Lean function says.
-/
import Derived.Test.YtaobkpnecfcefaaDoorTrF
import Derived.Test.YtaobkpnecfcefaaDoorProg
import Derived.Test.YtaobkpnecfcefaaDoorTfA
import Derived.Test.YtaobkpnecfcefaaDoorTfD
import Derived.Test.YtaobkpnecfcefaaDoorTfB
import Derived.KernelRfl
set_option maxRecDepth 20000
set_option linter.unusedVariables false
set_option linter.unusedSimpArgs false
namespace Go.DN
open Go.AM
open Go.Proofs
noncomputable section
theorem mixed:Tryd.prog.follows .mixedOrders=true:=by kernel_rfl
abbrev c_text_lexer_blanks_1 (fu:Nat):Con S0:=⟨51,[.dat false (.int .u8)],[],false,[(2,.dat true .bool)],[],fun q=>F.text_lexer_blanks_1 fu q⟩
theorem c_text_lexer_blanks_1_ok (fu:Nat):ConOk Tryd.prog (c_text_lexer_blanks_1 fu):=ConOk.of (N:=5) (fu:=fu)
 (H:=[])
 (tbl:=[])
 mixed (by intro c h;cases h) Tryd.func51 Tryd.call51 rfl rfl (by kernel_rfl) (mvs:=[]) (ns:=[]) (fun q=>by kernel_rfl)
abbrev c_text_lexer_while (fu:Nat):Con S0:=⟨50,[.loc 1000 0,.clo 51 []],[.box 69 false [.dat false .str,.dat false (.int .i64)]],false,[(4,.dat true .str)],[(1000,.box 69 false [.dat true .str,.dat true (.int .i64)])],fun q=>F.text_lexer_while fu q.1 q.2⟩
theorem c_text_lexer_while_ok (fu:Nat):ConOk Tryd.prog (c_text_lexer_while fu):=ConOk.of (N:=50) (fu:=fu)
 (H:=[(6,.loop ⟨[],[(1000,.box 69 false [.dat true .str,.dat true (.int .i64)])]⟩ 0 ⟨[],[(1000,.box 69 false [.dat true .str,.dat true (.int .i64)])]⟩),
  (9,.regJ [] ⟨[(32,.dat true .bool)],[]⟩),
  (16,.reg [])])
 (tbl:=[c_text_lexer_blanks_1 fu])
 mixed (List.forall_mem_cons.2 ⟨c_text_lexer_blanks_1_ok fu,(by intro c h;cases h)⟩) Tryd.func50 Tryd.call50 rfl rfl (by kernel_rfl) (mvs:=[]) (ns:=[]) (fun q=>by kernel_rfl)
abbrev c_text_lexer_blanks (fu:Nat):Con S0:=⟨31,[.loc 1000 0],[.box 69 false [.dat false .str,.dat false (.int .i64)]],false,[],[(1000,.box 69 false [.dat true .str,.dat true (.int .i64)])],fun q=>F.text_lexer_blanks fu q.1 q.2⟩
theorem c_text_lexer_blanks_ok (fu:Nat):ConOk Tryd.prog (c_text_lexer_blanks fu):=ConOk.of (N:=37) (fu:=fu)
 (H:=[(1,.loopE ⟨[],[(1000,.box 69 false [.dat true .str,.dat true (.int .i64)])]⟩ 0 ⟨[],[(1000,.box 69 false [.dat true .str,.dat true (.int .i64)])]⟩),
  (4,.reg []),
  (10,.reg []),
  (15,.join ⟨[(21,.dat true .bool)],[]⟩),
  (19,.join ⟨[(21,.dat true .bool)],[]⟩),
  (23,.join ⟨[(21,.dat true .bool)],[]⟩),
  (26,.joinE ⟨[],[(1000,.box 69 false [.dat true .str,.dat true (.int .i64)])]⟩)])
 (tbl:=[c_text_lexer_while fu])
 mixed (List.forall_mem_cons.2 ⟨c_text_lexer_while_ok fu,(by intro c h;cases h)⟩) Tryd.func31 Tryd.call31 rfl rfl (by kernel_rfl) (mvs:=[]) (ns:=[]) (fun q=>by kernel_rfl)
abbrev c_text_letter (fu:Nat):Con S0:=⟨52,[.dat false (.int .u8)],[],false,[(2,.dat true .bool)],[],fun q=>F.text_letter fu q⟩
theorem c_text_letter_ok (fu:Nat):ConOk Tryd.prog (c_text_letter fu):=ConOk.of (N:=21) (fu:=fu)
 (H:=[(3,.regJ [] ⟨[(2,.dat true .bool)],[]⟩)])
 (tbl:=[])
 mixed (by intro c h;cases h) Tryd.func52 Tryd.call52 rfl rfl (by kernel_rfl) (mvs:=[]) (ns:=[]) (fun q=>by kernel_rfl)
abbrev c_text_digit (fu:Nat):Con S0:=⟨54,[.dat false (.int .u8)],[],false,[(2,.dat true .bool)],[],fun q=>F.text_digit fu q⟩
theorem c_text_digit_ok (fu:Nat):ConOk Tryd.prog (c_text_digit fu):=ConOk.of (N:=9) (fu:=fu)
 (H:=[(3,.regJ [] ⟨[(2,.dat true .bool)],[]⟩)])
 (tbl:=[])
 mixed (by intro c h;cases h) Tryd.func54 Tryd.call54 rfl rfl (by kernel_rfl) (mvs:=[]) (ns:=[]) (fun q=>by kernel_rfl)
abbrev c_text_lexer_next_1 (fu:Nat):Con S0:=⟨53,[.dat false (.int .u8)],[],false,[(2,.dat true .bool)],[],fun q=>F.text_lexer_next_1 fu q⟩
theorem c_text_lexer_next_1_ok (fu:Nat):ConOk Tryd.prog (c_text_lexer_next_1 fu):=ConOk.of (N:=9) (fu:=fu)
 (H:=[(3,.regJ [] ⟨[(2,.dat true .bool)],[]⟩)])
 (tbl:=[c_text_letter fu,c_text_digit fu])
 mixed (List.forall_mem_cons.2 ⟨c_text_letter_ok fu,List.forall_mem_cons.2 ⟨c_text_digit_ok fu,(by intro c h;cases h)⟩⟩) Tryd.func53 Tryd.call53 rfl rfl (by kernel_rfl) (mvs:=[]) (ns:=[]) (fun q=>by kernel_rfl)
abbrev c_text_lexer_while_2 (fu:Nat):Con S0:=⟨50,[.loc 1000 0,.clo 53 []],[.box 69 false [.dat false .str,.dat false (.int .i64)]],false,[(4,.dat true .str)],[(1000,.box 69 false [.dat true .str,.dat true (.int .i64)])],fun q=>F.text_lexer_while_2 fu q.1 q.2⟩
theorem c_text_lexer_while_2_ok (fu:Nat):ConOk Tryd.prog (c_text_lexer_while_2 fu):=ConOk.of (N:=50) (fu:=fu)
 (H:=[(6,.loop ⟨[],[(1000,.box 69 false [.dat true .str,.dat true (.int .i64)])]⟩ 0 ⟨[],[(1000,.box 69 false [.dat true .str,.dat true (.int .i64)])]⟩),
  (9,.regJ [] ⟨[(32,.dat true .bool)],[]⟩),
  (16,.reg [])])
 (tbl:=[c_text_lexer_next_1 fu])
 mixed (List.forall_mem_cons.2 ⟨c_text_lexer_next_1_ok fu,(by intro c h;cases h)⟩) Tryd.func50 Tryd.call50 rfl rfl (by kernel_rfl) (mvs:=[]) (ns:=[]) (fun q=>by kernel_rfl)
abbrev c_text_lexer_next_2 (fu:Nat):Con S0:=⟨55,[.dat false (.int .u8)],[],false,[(2,.dat true .bool)],[],fun q=>F.text_lexer_next_2 fu q⟩
theorem c_text_lexer_next_2_ok (fu:Nat):ConOk Tryd.prog (c_text_lexer_next_2 fu):=ConOk.of (N:=9) (fu:=fu)
 (H:=[(3,.regJ [] ⟨[(2,.dat true .bool)],[]⟩)])
 (tbl:=[c_text_letter fu,c_text_digit fu])
 mixed (List.forall_mem_cons.2 ⟨c_text_letter_ok fu,List.forall_mem_cons.2 ⟨c_text_digit_ok fu,(by intro c h;cases h)⟩⟩) Tryd.func55 Tryd.call55 rfl rfl (by kernel_rfl) (mvs:=[]) (ns:=[]) (fun q=>by kernel_rfl)
abbrev c_text_lexer_while_3 (fu:Nat):Con S0:=⟨50,[.loc 1000 0,.clo 55 []],[.box 69 false [.dat false .str,.dat false (.int .i64)]],false,[(4,.dat true .str)],[(1000,.box 69 false [.dat true .str,.dat true (.int .i64)])],fun q=>F.text_lexer_while_3 fu q.1 q.2⟩
theorem c_text_lexer_while_3_ok (fu:Nat):ConOk Tryd.prog (c_text_lexer_while_3 fu):=ConOk.of (N:=50) (fu:=fu)
 (H:=[(6,.loop ⟨[],[(1000,.box 69 false [.dat true .str,.dat true (.int .i64)])]⟩ 0 ⟨[],[(1000,.box 69 false [.dat true .str,.dat true (.int .i64)])]⟩),
  (9,.regJ [] ⟨[(32,.dat true .bool)],[]⟩),
  (16,.reg [])])
 (tbl:=[c_text_lexer_next_2 fu])
 mixed (List.forall_mem_cons.2 ⟨c_text_lexer_next_2_ok fu,(by intro c h;cases h)⟩) Tryd.func50 Tryd.call50 rfl rfl (by kernel_rfl) (mvs:=[]) (ns:=[]) (fun q=>by kernel_rfl)
abbrev c_fail_ (fu:Nat):ConP S0:=c_fail S0
theorem c_fail__ok (fu:Nat):ConPOk Tryd.prog (c_fail_ fu):=c_fail_ok
abbrev c_parseI (fu:Nat):Con S0:=c_parse S0
theorem c_parseI_ok (fu:Nat):ConOk Tryd.prog (c_parseI fu):=c_parse_ok
abbrev c_text_lexer_next (fu:Nat):ConP S0:=⟨32,[.loc 1000 0],[.box 69 false [.dat false .str,.dat false (.int .i64)]],false,[(2,.dat true (.st 1))],[(1000,.box 69 false [.dat true .str,.dat true (.int .i64)])],[(1000,.box 69 false [.dat true .str,.dat true (.int .i64)])],92,fun q=>F.text_lexer_next fu q.1 q.2⟩
theorem c_text_lexer_next_ok (fu:Nat):ConPOk Tryd.prog (c_text_lexer_next fu):=ConPOk.of (N:=103) (fu:=fu)
 (H:=[(23,.loopE ⟨[(33,.dat true (.int .i64))],[]⟩ 1 ⟨[],[]⟩),
  (42,.regJ [] ⟨[(51,.dat true .bool)],[]⟩),
  (65,.join ⟨[(67,.dat true .bool)],[]⟩),
  (69,.join ⟨[(67,.dat true .bool)],[]⟩),
  (73,.join ⟨[(67,.dat true .bool)],[]⟩),
  (77,.join ⟨[(67,.dat true .bool)],[]⟩),
  (81,.join ⟨[(67,.dat true .bool)],[]⟩),
  (85,.join ⟨[(67,.dat true .bool)],[]⟩),
  (89,.join ⟨[(67,.dat true .bool)],[]⟩),
  (93,.join ⟨[(67,.dat true .bool)],[]⟩),
  (97,.join ⟨[(67,.dat true .bool)],[]⟩),
  (101,.join ⟨[(67,.dat true .bool)],[]⟩),
  (105,.join ⟨[(67,.dat true .bool)],[]⟩),
  (109,.join ⟨[(67,.dat true .bool)],[]⟩),
  (116,.reg [2])])
 (cl:=(clT (clP [c_text_lexer_while_2 fu,c_text_lexer_while_3 fu,c_text_letter fu,c_text_digit fu,c_parseI fu] []) [c_fail_ fu])) (tblD:=[])
 mixed (clT_ok (clP_ok (List.forall_mem_cons.2 ⟨c_text_lexer_while_2_ok fu,List.forall_mem_cons.2 ⟨c_text_lexer_while_3_ok fu,List.forall_mem_cons.2 ⟨c_text_letter_ok fu,List.forall_mem_cons.2 ⟨c_text_digit_ok fu,List.forall_mem_cons.2 ⟨c_parseI_ok fu,(by intro c h;cases h)⟩⟩⟩⟩⟩)) (List.forall_mem_cons.2 ⟨c_fail__ok fu,(by intro c h;cases h)⟩)) (by intro c h;cases h) Tryd.func32 Tryd.call32 rfl rfl (by kernel_rfl) (by kernel_rfl) (mvs:=[]) (fun q=>by kernel_rfl)
abbrev c_caught_ (fu:Nat):ConD S0:=c_caught S0
theorem c_caught__ok (fu:Nat):ConDOk Tryd.prog 92 (c_caught_ fu):=c_caught_ok
abbrev c_text_Tokens_1 (fu:Nat):ConD S0:=⟨28,[.loc 1000 0,.loc 1001 0],[.box 29 false [.dat false (.int .i64),.dat false (.int .i64)],.box 27 false [.own 1002 (.st 1)],.arr 40 false false (.st 1)],false,[(1000,.box 29 false [.dat true (.int .i64),.dat true (.int .i64)]),(1001,.box 27 false [.own 482 (.st 1)]),(482,.arr 40 false false (.st 1))],false,fun m q=>F.text_Tokens_1 fu q.1 q.2.1 q.2.2⟩
theorem c_text_Tokens_1_ok (fu:Nat):ConDOk Tryd.prog 92 (c_text_Tokens_1 fu):=ConDOk.of (N:=5) (fu:=fu)
 (H:=[(2,.join ⟨[],[(1001,.box 27 false [.own 482 (.st 1)]),(482,.arr 40 false false (.st 1))]⟩)])
 (cl:=(clP [] []))
 mixed (clP_ok (by intro c h;cases h)) Tryd.func28 Tryd.call28 rfl rfl (by kernel_rfl) (mvs:=[1002]) (fun m q=>by kernel_rfl)
abbrev c_text_Tokens_p (fu:Nat):ConP S0:=⟨11,[.dat false .str],[],false,[(2,.dat false (.list (.st 1))),(3,.dat true (.st 2))],[],[],92,fun q=>F.text_Tokens_p fu q⟩
theorem c_text_Tokens_p_ok (fu:Nat):ConPOk Tryd.prog (c_text_Tokens_p fu):=ConPOk.of (N:=26) (fu:=fu)
 (H:=[(20,.loopE ⟨[],[(4,.box 69 true [.dat true .str,.dat true (.int .i64)]),(2,.box 27 true [.own 420 (.st 1)]),(420,.arr 40 true true (.st 1))]⟩ 0 ⟨[],[(4,.box 69 true [.dat true .str,.dat true (.int .i64)]),(2,.box 27 true [.own 420 (.st 1)]),(420,.arr 40 true true (.st 1))]⟩),
  (29,.reg [4,23,2,420]),
  (32,.regJ [2,3] ⟨[],[(2,.box 27 true [.own 420 (.st 1)]),(3,.box 29 true [.dat true (.int .i64),.dat true (.int .i64)])]⟩)])
 (cl:=(clT (clP [c_text_lexer_blanks fu] []) [c_text_lexer_next fu])) (tblD:=[c_caught_ fu,c_text_Tokens_1 fu])
 mixed (clT_ok (clP_ok (List.forall_mem_cons.2 ⟨c_text_lexer_blanks_ok fu,(by intro c h;cases h)⟩)) (List.forall_mem_cons.2 ⟨c_text_lexer_next_ok fu,(by intro c h;cases h)⟩)) (List.forall_mem_cons.2 ⟨c_caught__ok fu,List.forall_mem_cons.2 ⟨c_text_Tokens_1_ok fu,(by intro c h;cases h)⟩⟩) Tryd.func11 Tryd.call11 rfl rfl (by kernel_rfl) (by kernel_rfl) (mvs:=[]) (fun q=>by kernel_rfl)
abbrev c_text_Tokens (fu:Nat):Con S0:=⟨11,[.dat false .str],[],false,[(2,.dat false (.list (.st 1))),(3,.dat true (.st 2))],[],fun q=>F.text_Tokens fu q⟩
theorem c_text_Tokens_ok (fu:Nat):ConOk Tryd.prog (c_text_Tokens fu):=ConPOk.caught (c_text_Tokens_p_ok fu) fun q r h=>unP_some h
abbrev c_text_reader_peek (fu:Nat):Con S0:=⟨60,[.ptr false (.st 7)],[],false,[(2,.dat true .str)],[],fun q=>F.text_reader_peek fu q⟩
theorem c_text_reader_peek_ok (fu:Nat):ConOk Tryd.prog (c_text_reader_peek fu):=ConOk.of (N:=16) (fu:=fu)
 (H:=[])
 (tbl:=[])
 mixed (by intro c h;cases h) Tryd.func60 Tryd.call60 rfl rfl (by kernel_rfl) (mvs:=[]) (ns:=[]) (fun q=>by kernel_rfl)
abbrev c_text_reader_is (fu:Nat):Con S0:=⟨75,[.loc 1000 0,.dat false .str],[.box 76 false [.dat false (.list (.st 1)),.dat false (.int .i64),.dat false (.int .i64)]],false,[(4,.dat true .bool)],[(1000,.box 76 false [.dat false (.list (.st 1)),.dat true (.int .i64),.dat true (.int .i64)])],fun q=>F.text_reader_is fu q.1 q.2.1 q.2.2.1 q.2.2.2⟩
theorem c_text_reader_is_ok (fu:Nat):ConOk Tryd.prog (c_text_reader_is fu):=ConOk.of (N:=17) (fu:=fu)
 (H:=[])
 (tbl:=[c_text_reader_peek fu])
 mixed (List.forall_mem_cons.2 ⟨c_text_reader_peek_ok fu,(by intro c h;cases h)⟩) Tryd.func75 Tryd.call75 rfl rfl (by kernel_rfl) (mvs:=[]) (ns:=[]) (fun q=>by kernel_rfl)
abbrev c_text_reader_at (fu:Nat):Con S0:=⟨76,[.ptr false (.st 7)],[],false,[(2,.dat true (.int .i64))],[],fun q=>F.text_reader_at fu q⟩
theorem c_text_reader_at_ok (fu:Nat):ConOk Tryd.prog (c_text_reader_at fu):=ConOk.of (N:=20) (fu:=fu)
 (H:=[])
 (tbl:=[])
 mixed (by intro c h;cases h) Tryd.func76 Tryd.call76 rfl rfl (by kernel_rfl) (mvs:=[]) (ns:=[]) (fun q=>by kernel_rfl)
abbrev c_text_reader_must (fu:Nat):ConP S0:=⟨58,[.loc 1000 0,.dat false .str],[.box 76 false [.dat false (.list (.st 1)),.dat false (.int .i64),.dat false (.int .i64)]],false,[],[(1000,.box 76 false [.dat false (.list (.st 1)),.dat true (.int .i64),.dat true (.int .i64)])],[(1000,.box 76 false [.dat false (.list (.st 1)),.dat true (.int .i64),.dat true (.int .i64)])],92,fun q=>F.text_reader_must fu q.1 q.2.1 q.2.2.1 q.2.2.2⟩
theorem c_text_reader_must_ok (fu:Nat):ConPOk Tryd.prog (c_text_reader_must fu):=ConPOk.of (N:=11) (fu:=fu)
 (H:=[])
 (cl:=(clT (clP [c_text_reader_is fu,c_text_reader_at fu] []) [c_fail_ fu])) (tblD:=[])
 mixed (clT_ok (clP_ok (List.forall_mem_cons.2 ⟨c_text_reader_is_ok fu,List.forall_mem_cons.2 ⟨c_text_reader_at_ok fu,(by intro c h;cases h)⟩⟩)) (List.forall_mem_cons.2 ⟨c_fail__ok fu,(by intro c h;cases h)⟩)) (by intro c h;cases h) Tryd.func58 Tryd.call58 rfl rfl (by kernel_rfl) (by kernel_rfl) (mvs:=[]) (fun q=>by kernel_rfl)
abbrev c_text_keyword (fu:Nat):Con S0:=⟨100,[.dat false .str],[],false,[(2,.dat true .bool)],[],fun q=>F.text_keyword fu q⟩
theorem c_text_keyword_ok (fu:Nat):ConOk Tryd.prog (c_text_keyword fu):=ConOk.of (N:=10) (fu:=fu)
 (H:=[(9,.join ⟨[(4,.dat true .bool)],[]⟩),
  (13,.join ⟨[(4,.dat true .bool)],[]⟩),
  (17,.join ⟨[(4,.dat true .bool)],[]⟩),
  (21,.join ⟨[(4,.dat true .bool)],[]⟩)])
 (tbl:=[])
 mixed (by intro c h;cases h) Tryd.func100 Tryd.call100 rfl rfl (by kernel_rfl) (mvs:=[]) (ns:=[]) (fun q=>by kernel_rfl)
abbrev c_text_plainName (fu:Nat):Con S0:=⟨77,[.dat false .str],[],false,[(2,.dat true .bool)],[],fun q=>F.text_plainName fu q⟩
theorem c_text_plainName_ok (fu:Nat):ConOk Tryd.prog (c_text_plainName fu):=ConOk.of (N:=34) (fu:=fu)
 (H:=[(4,.regJ [] ⟨[(15,.dat true .bool)],[]⟩),
  (14,.loopE ⟨[(2,.dat true .bool),(18,.dat true (.int .i64))],[]⟩ 0 ⟨[],[]⟩),
  (26,.regJ [] ⟨[(32,.dat true .bool)],[]⟩)])
 (tbl:=[c_text_letter fu,c_text_keyword fu,c_text_digit fu])
 mixed (List.forall_mem_cons.2 ⟨c_text_letter_ok fu,List.forall_mem_cons.2 ⟨c_text_keyword_ok fu,List.forall_mem_cons.2 ⟨c_text_digit_ok fu,(by intro c h;cases h)⟩⟩⟩) Tryd.func77 Tryd.call77 rfl rfl (by kernel_rfl) (mvs:=[]) (ns:=[]) (fun q=>by kernel_rfl)
abbrev c_text_reader_take (fu:Nat):ConP S0:=⟨78,[.loc 1000 0],[.box 76 false [.dat false (.list (.st 1)),.dat false (.int .i64),.dat false (.int .i64)]],false,[(2,.dat true .str)],[(1000,.box 76 false [.dat false (.list (.st 1)),.dat true (.int .i64),.dat true (.int .i64)])],[(1000,.box 76 false [.dat false (.list (.st 1)),.dat true (.int .i64),.dat true (.int .i64)])],92,fun q=>F.text_reader_take fu q.1 q.2.1 q.2.2⟩
theorem c_text_reader_take_ok (fu:Nat):ConPOk Tryd.prog (c_text_reader_take fu):=ConPOk.of (N:=22) (fu:=fu)
 (H:=[])
 (cl:=(clT (clP [c_text_reader_peek fu] []) [c_fail_ fu])) (tblD:=[])
 mixed (clT_ok (clP_ok (List.forall_mem_cons.2 ⟨c_text_reader_peek_ok fu,(by intro c h;cases h)⟩)) (List.forall_mem_cons.2 ⟨c_fail__ok fu,(by intro c h;cases h)⟩)) (by intro c h;cases h) Tryd.func78 Tryd.call78 rfl rfl (by kernel_rfl) (by kernel_rfl) (mvs:=[]) (fun q=>by kernel_rfl)
abbrev c_text_reader_name (fu:Nat):ConP S0:=⟨59,[.loc 1000 0],[.box 76 false [.dat false (.list (.st 1)),.dat false (.int .i64),.dat false (.int .i64)]],false,[(2,.dat true .str)],[(1000,.box 76 false [.dat false (.list (.st 1)),.dat true (.int .i64),.dat true (.int .i64)])],[(1000,.box 76 false [.dat false (.list (.st 1)),.dat true (.int .i64),.dat true (.int .i64)])],92,fun q=>F.text_reader_name fu q.1 q.2.1 q.2.2⟩
theorem c_text_reader_name_ok (fu:Nat):ConPOk Tryd.prog (c_text_reader_name fu):=ConPOk.of (N:=12) (fu:=fu)
 (H:=[])
 (cl:=(clT (clP [c_text_reader_peek fu,c_text_plainName fu,c_text_reader_at fu] []) [c_text_reader_take fu,c_fail_ fu])) (tblD:=[])
 mixed (clT_ok (clP_ok (List.forall_mem_cons.2 ⟨c_text_reader_peek_ok fu,List.forall_mem_cons.2 ⟨c_text_plainName_ok fu,List.forall_mem_cons.2 ⟨c_text_reader_at_ok fu,(by intro c h;cases h)⟩⟩⟩)) (List.forall_mem_cons.2 ⟨c_text_reader_take_ok fu,List.forall_mem_cons.2 ⟨c_fail__ok fu,(by intro c h;cases h)⟩⟩)) (by intro c h;cases h) Tryd.func59 Tryd.call59 rfl rfl (by kernel_rfl) (by kernel_rfl) (mvs:=[]) (fun q=>by kernel_rfl)
abbrev c_text_reader_isNumber (fu:Nat):Con S0:=⟨79,[.ptr false (.st 7)],[],false,[(2,.dat true .bool)],[],fun q=>F.text_reader_isNumber fu q⟩
theorem c_text_reader_isNumber_ok (fu:Nat):ConOk Tryd.prog (c_text_reader_isNumber fu):=ConOk.of (N:=12) (fu:=fu)
 (H:=[(3,.regJ [] ⟨[(2,.dat true .bool)],[]⟩)])
 (tbl:=[c_text_reader_peek fu,c_text_digit fu])
 mixed (List.forall_mem_cons.2 ⟨c_text_reader_peek_ok fu,List.forall_mem_cons.2 ⟨c_text_digit_ok fu,(by intro c h;cases h)⟩⟩) Tryd.func79 Tryd.call79 rfl rfl (by kernel_rfl) (mvs:=[]) (ns:=[]) (fun q=>by kernel_rfl)
abbrev c_text_reader_number (fu:Nat):ConP S0:=⟨80,[.loc 1000 0],[.box 76 false [.dat false (.list (.st 1)),.dat false (.int .i64),.dat false (.int .i64)]],false,[(2,.dat true (.int .i64))],[(1000,.box 76 false [.dat false (.list (.st 1)),.dat true (.int .i64),.dat true (.int .i64)])],[(1000,.box 76 false [.dat false (.list (.st 1)),.dat true (.int .i64),.dat true (.int .i64)])],92,fun q=>F.text_reader_number fu q.1 q.2.1 q.2.2⟩
theorem c_text_reader_number_ok (fu:Nat):ConPOk Tryd.prog (c_text_reader_number fu):=ConPOk.of (N:=18) (fu:=fu)
 (H:=[])
 (cl:=(clT (clP [c_text_reader_isNumber fu,c_text_reader_at fu,c_parseI fu] []) [c_text_reader_take fu,c_fail_ fu])) (tblD:=[])
 mixed (clT_ok (clP_ok (List.forall_mem_cons.2 ⟨c_text_reader_isNumber_ok fu,List.forall_mem_cons.2 ⟨c_text_reader_at_ok fu,List.forall_mem_cons.2 ⟨c_parseI_ok fu,(by intro c h;cases h)⟩⟩⟩)) (List.forall_mem_cons.2 ⟨c_text_reader_take_ok fu,List.forall_mem_cons.2 ⟨c_fail__ok fu,(by intro c h;cases h)⟩⟩)) (by intro c h;cases h) Tryd.func80 Tryd.call80 rfl rfl (by kernel_rfl) (by kernel_rfl) (mvs:=[]) (fun q=>by kernel_rfl)
abbrev c_text_reader_shape (fu:Nat):ConP S0:=⟨61,[.loc 1000 0],[.box 76 false [.dat false (.list (.st 1)),.dat false (.int .i64),.dat false (.int .i64)]],false,[(2,.dat true (.list (.st 3)))],[(1000,.box 76 false [.dat false (.list (.st 1)),.dat true (.int .i64),.dat true (.int .i64)])],[(1000,.box 76 false [.dat false (.list (.st 1)),.dat true (.int .i64),.dat true (.int .i64)])],92,fun q=>F.text_reader_shape fu q.1 q.2.1 q.2.2⟩
theorem c_text_reader_shape_ok (fu:Nat):ConPOk Tryd.prog (c_text_reader_shape fu):=ConPOk.of (N:=24) (fu:=fu)
 (H:=[(8,.loopE ⟨[(3,.own 3 (.st 3))],[(1000,.box 76 false [.dat false (.list (.st 1)),.dat true (.int .i64),.dat true (.int .i64)]),(3,.arr 89 true true (.st 3))]⟩ 0 ⟨[(3,.own 3 (.st 3))],[(1000,.box 76 false [.dat false (.list (.st 1)),.dat true (.int .i64),.dat true (.int .i64)]),(3,.arr 89 true true (.st 3))]⟩),
  (18,.joinE ⟨[(3,.own 3 (.st 3))],[(1000,.box 76 false [.dat false (.list (.st 1)),.dat true (.int .i64),.dat true (.int .i64)]),(3,.arr 89 true true (.st 3))]⟩)])
 (cl:=(clT (clP [c_text_reader_is fu,c_text_reader_isNumber fu] []) [c_text_reader_must fu,c_text_reader_number fu,c_text_reader_name fu])) (tblD:=[])
 mixed (clT_ok (clP_ok (List.forall_mem_cons.2 ⟨c_text_reader_is_ok fu,List.forall_mem_cons.2 ⟨c_text_reader_isNumber_ok fu,(by intro c h;cases h)⟩⟩)) (List.forall_mem_cons.2 ⟨c_text_reader_must_ok fu,List.forall_mem_cons.2 ⟨c_text_reader_number_ok fu,List.forall_mem_cons.2 ⟨c_text_reader_name_ok fu,(by intro c h;cases h)⟩⟩⟩)) (by intro c h;cases h) Tryd.func61 Tryd.call61 rfl rfl (by kernel_rfl) (by kernel_rfl) (mvs:=[]) (fun q=>by kernel_rfl)
abbrev c_text_reader_expr_1 (fu:Nat):ConD S0:=⟨81,[.loc 1000 0],[.box 74 false [.loc 1001 0],.box 76 false [.dat false (.list (.st 1)),.dat false (.int .i64),.dat false (.int .i64)]],false,[(1000,.box 74 false [.loc 1001 0]),(1001,.box 76 false [.dat false (.list (.st 1)),.dat true (.int .i64),.dat true (.int .i64)])],false,fun m q=>F.text_reader_expr_1 fu q.1 q.2.1 q.2.2⟩
theorem c_text_reader_expr_1_ok (fu:Nat):ConDOk Tryd.prog 92 (c_text_reader_expr_1 fu):=ConDOk.of (N:=8) (fu:=fu)
 (H:=[])
 (cl:=(clP [] []))
 mixed (clP_ok (by intro c h;cases h)) Tryd.func81 Tryd.call81 rfl rfl (by kernel_rfl) (mvs:=[]) (fun m q=>by kernel_rfl)
abbrev c_text_reader_numbers (fu:Nat):ConP S0:=⟨101,[.loc 1000 0],[.box 76 false [.dat false (.list (.st 1)),.dat false (.int .i64),.dat false (.int .i64)]],false,[(2,.dat true (.list (.int .i64)))],[(1000,.box 76 false [.dat false (.list (.st 1)),.dat true (.int .i64),.dat true (.int .i64)])],[(1000,.box 76 false [.dat false (.list (.st 1)),.dat true (.int .i64),.dat true (.int .i64)])],92,fun q=>F.text_reader_numbers fu q.1 q.2.1 q.2.2⟩
theorem c_text_reader_numbers_ok (fu:Nat):ConPOk Tryd.prog (c_text_reader_numbers fu):=ConPOk.of (N:=15) (fu:=fu)
 (H:=[(8,.loopE ⟨[(3,.own 3 (.int .i64))],[(1000,.box 76 false [.dat false (.list (.st 1)),.dat true (.int .i64),.dat true (.int .i64)]),(3,.arr 3 true true (.int .i64))]⟩ 0 ⟨[(3,.own 3 (.int .i64))],[(1000,.box 76 false [.dat false (.list (.st 1)),.dat true (.int .i64),.dat true (.int .i64)]),(3,.arr 3 true true (.int .i64))]⟩)])
 (cl:=(clT (clP [c_text_reader_is fu] []) [c_text_reader_must fu,c_text_reader_number fu])) (tblD:=[])
 mixed (clT_ok (clP_ok (List.forall_mem_cons.2 ⟨c_text_reader_is_ok fu,(by intro c h;cases h)⟩)) (List.forall_mem_cons.2 ⟨c_text_reader_must_ok fu,List.forall_mem_cons.2 ⟨c_text_reader_number_ok fu,(by intro c h;cases h)⟩⟩)) (by intro c h;cases h) Tryd.func101 Tryd.call101 rfl rfl (by kernel_rfl) (by kernel_rfl) (mvs:=[]) (fun q=>by kernel_rfl)
abbrev cs_text_reader_expr (self:(List SToken)→Int→Int→Option ((STree×(List SToken)×Int×Int)⊕((Int×Int)×((List SToken)×Int×Int)))):ConP S0:=⟨62,[.loc 1000 0],[.box 76 false [.dat false (.list (.st 1)),.dat false (.int .i64),.dat false (.int .i64)]],false,[(2,.dat true (.st 5))],[(1000,.box 76 false [.dat false (.list (.st 1)),.dat true (.int .i64),.dat true (.int .i64)])],[(1000,.box 76 false [.dat false (.list (.st 1)),.dat true (.int .i64),.dat true (.int .i64)])],92,fun q=>self q.1 q.2.1 q.2.2⟩
abbrev c_text_reader_factor (self:(List SToken)→Int→Int→Option ((STree×(List SToken)×Int×Int)⊕((Int×Int)×((List SToken)×Int×Int)))) (fu:Nat):ConP S0:=⟨84,[.loc 1000 0],[.box 76 false [.dat false (.list (.st 1)),.dat false (.int .i64),.dat false (.int .i64)]],false,[(2,.dat true (.st 5))],[(1000,.box 76 false [.dat false (.list (.st 1)),.dat true (.int .i64),.dat true (.int .i64)])],[(1000,.box 76 false [.dat false (.list (.st 1)),.dat true (.int .i64),.dat true (.int .i64)])],92,fun q=>F.text_reader_factor self fu q.1 q.2.1 q.2.2⟩
theorem c_text_reader_factor_ok (self:(List SToken)→Int→Int→Option ((STree×(List SToken)×Int×Int)⊕((Int×Int)×((List SToken)×Int×Int)))) (hs:ConPOk Tryd.prog (cs_text_reader_expr self)) (fu:Nat):ConPOk Tryd.prog (c_text_reader_factor self fu):=ConPOk.of (N:=75) (fu:=fu)
 (H:=[(27,.regJ [] ⟨[(34,.dat true .bool)],[]⟩),
  (38,.joinE ⟨[],[(4,.box 56 true [.dat true (.int .i64),.dat true .str,.dat true (.int .i64),.dat true .bool,.dat true (.list (.st 3)),.own 420 (.list (.int .i64)),.own 421 (.st 5)]),(1000,.box 76 false [.dat false (.list (.st 1)),.dat true (.int .i64),.dat true (.int .i64)]),(420,.arr 87 true true (.list (.int .i64))),(421,.arr 56 true true (.st 5))]⟩),
  (43,.loopE ⟨[],[(1000,.box 76 false [.dat false (.list (.st 1)),.dat true (.int .i64),.dat true (.int .i64)]),(420,.arr 87 true true (.list (.int .i64))),(4,.box 56 true [.dat true (.int .i64),.dat true .str,.dat true (.int .i64),.dat true .bool,.dat true (.list (.st 3)),.own 420 (.list (.int .i64)),.own 421 (.st 5)])]⟩ 1 ⟨[],[(1000,.box 76 false [.dat false (.list (.st 1)),.dat true (.int .i64),.dat true (.int .i64)]),(420,.arr 87 true true (.list (.int .i64))),(4,.box 56 true [.dat true (.int .i64),.dat true .str,.dat true (.int .i64),.dat true .bool,.dat true (.list (.st 3)),.own 420 (.list (.int .i64)),.own 421 (.st 5)])]⟩),
  (51,.reg [1000,420,4]),
  (56,.loopE ⟨[],[(1000,.box 76 false [.dat false (.list (.st 1)),.dat true (.int .i64),.dat true (.int .i64)]),(421,.arr 56 true true (.st 5)),(4,.box 56 true [.dat true (.int .i64),.dat true .str,.dat true (.int .i64),.dat true .bool,.dat true (.list (.st 3)),.own 420 (.list (.int .i64)),.own 421 (.st 5)])]⟩ 3 ⟨[],[(1000,.box 76 false [.dat false (.list (.st 1)),.dat true (.int .i64),.dat true (.int .i64)]),(421,.arr 56 true true (.st 5)),(4,.box 56 true [.dat true (.int .i64),.dat true .str,.dat true (.int .i64),.dat true .bool,.dat true (.list (.st 3)),.own 420 (.list (.int .i64)),.own 421 (.st 5)])]⟩),
  (67,.joinE ⟨[],[(1000,.box 76 false [.dat false (.list (.st 1)),.dat true (.int .i64),.dat true (.int .i64)])]⟩),
  (70,.reg [1000,421,4])])
 (cl:=(clT (clP [c_text_reader_is fu,c_text_reader_isNumber fu,c_text_reader_peek fu] []) [c_text_reader_number fu,cs_text_reader_expr self,c_text_reader_must fu,c_text_reader_name fu,c_text_reader_shape fu,c_text_reader_numbers fu])) (tblD:=[])
 mixed (clT_ok (clP_ok (List.forall_mem_cons.2 ⟨c_text_reader_is_ok fu,List.forall_mem_cons.2 ⟨c_text_reader_isNumber_ok fu,List.forall_mem_cons.2 ⟨c_text_reader_peek_ok fu,(by intro c h;cases h)⟩⟩⟩)) (List.forall_mem_cons.2 ⟨c_text_reader_number_ok fu,List.forall_mem_cons.2 ⟨hs,List.forall_mem_cons.2 ⟨c_text_reader_must_ok fu,List.forall_mem_cons.2 ⟨c_text_reader_name_ok fu,List.forall_mem_cons.2 ⟨c_text_reader_shape_ok fu,List.forall_mem_cons.2 ⟨c_text_reader_numbers_ok fu,(by intro c h;cases h)⟩⟩⟩⟩⟩⟩)) (by intro c h;cases h) Tryd.func84 Tryd.call84 rfl rfl (by kernel_rfl) (by kernel_rfl) (mvs:=[]) (fun q=>by kernel_rfl)
abbrev c_text_reader_chain_4 (self:(List SToken)→Int→Int→Option ((STree×(List SToken)×Int×Int)⊕((Int×Int)×((List SToken)×Int×Int)))) (fu:Nat):ConP S0:=⟨82,[.loc 1000 0,.own 1001 .str,.clo 84 [.loc 1000 0]],[.box 76 false [.dat false (.list (.st 1)),.dat false (.int .i64),.dat false (.int .i64)],.arr 9 false false .str],false,[(6,.dat true (.st 5))],[(1000,.box 76 false [.dat false (.list (.st 1)),.dat true (.int .i64),.dat true (.int .i64)]),(1001,.arr 9 false true .str)],[(1000,.box 76 false [.dat false (.list (.st 1)),.dat true (.int .i64),.dat true (.int .i64)]),(1001,.arr 9 false true .str)],92,fun q=>F.text_reader_chain_4 self fu q.1 q.2.1 q.2.2.1 q.2.2.2⟩
theorem c_text_reader_chain_4_ok (self:(List SToken)→Int→Int→Option ((STree×(List SToken)×Int×Int)⊕((Int×Int)×((List SToken)×Int×Int)))) (hs:ConPOk Tryd.prog (cs_text_reader_expr self)) (fu:Nat):ConPOk Tryd.prog (c_text_reader_chain_4 self fu):=ConPOk.of (N:=47) (fu:=fu)
 (H:=[(7,.loopE ⟨[(8,.dat true (.int .i64))],[(1000,.box 76 false [.dat false (.list (.st 1)),.dat true (.int .i64),.dat true (.int .i64)]),(6,.box 56 true [.dat true (.int .i64),.dat true .str,.dat true (.int .i64),.dat true .bool,.dat true (.list (.st 3)),.dat true (.list (.list (.int .i64))),.dat true (.list (.st 5))]),(7,.box 56 true [.dat true (.int .i64),.dat true .str,.dat true (.int .i64),.dat true .bool,.dat true (.list (.st 3)),.dat true (.list (.list (.int .i64))),.dat true (.list (.st 5))])]⟩ 0 ⟨[],[]⟩),
  (16,.loop ⟨[(10,.dat true .str),(21,.dat true (.int .i64))],[(1000,.box 76 false [.dat false (.list (.st 1)),.dat true (.int .i64),.dat true (.int .i64)])]⟩ 2 ⟨[(10,.dat true .str)],[(1000,.box 76 false [.dat false (.list (.st 1)),.dat true (.int .i64),.dat true (.int .i64)])]⟩),
  (28,.regJ [] ⟨[(31,.dat true .bool)],[(1000,.box 76 false [.dat false (.list (.st 1)),.dat true (.int .i64),.dat true (.int .i64)])]⟩),
  (29,.join ⟨[(10,.dat true .str)],[]⟩),
  (47,.reg [1000,7])])
 (cl:=(clT (clP [c_text_reader_is fu,c_text_reader_at fu] []) [c_text_reader_factor self fu,c_fail_ fu])) (tblD:=[])
 mixed (clT_ok (clP_ok (List.forall_mem_cons.2 ⟨c_text_reader_is_ok fu,List.forall_mem_cons.2 ⟨c_text_reader_at_ok fu,(by intro c h;cases h)⟩⟩)) (List.forall_mem_cons.2 ⟨c_text_reader_factor_ok self hs fu,List.forall_mem_cons.2 ⟨c_fail__ok fu,(by intro c h;cases h)⟩⟩)) (by intro c h;cases h) Tryd.func82 Tryd.call82 rfl rfl (by kernel_rfl) (by kernel_rfl) (mvs:=[]) (fun q=>by kernel_rfl)
abbrev c_text_reader_expr_2 (self:(List SToken)→Int→Int→Option ((STree×(List SToken)×Int×Int)⊕((Int×Int)×((List SToken)×Int×Int)))) (fu:Nat):ConP S0:=⟨83,[.loc 1000 0],[.box 74 false [.loc 1001 0],.box 76 false [.dat false (.list (.st 1)),.dat false (.int .i64),.dat false (.int .i64)]],false,[(1,.dat true (.st 5))],[(1000,.box 74 false [.loc 1001 0]),(1001,.box 76 false [.dat false (.list (.st 1)),.dat true (.int .i64),.dat true (.int .i64)])],[(1000,.box 74 false [.loc 1001 0]),(1001,.box 76 false [.dat false (.list (.st 1)),.dat true (.int .i64),.dat true (.int .i64)])],92,fun q=>F.text_reader_expr_2 self fu q.1 q.2.1 q.2.2⟩
theorem c_text_reader_expr_2_ok (self:(List SToken)→Int→Int→Option ((STree×(List SToken)×Int×Int)⊕((Int×Int)×((List SToken)×Int×Int)))) (hs:ConPOk Tryd.prog (cs_text_reader_expr self)) (fu:Nat):ConPOk Tryd.prog (c_text_reader_expr_2 self fu):=ConPOk.of (N:=7) (fu:=fu)
 (H:=[])
 (cl:=(clT (clP [] []) [c_text_reader_chain_4 self fu])) (tblD:=[])
 mixed (clT_ok (clP_ok (by intro c h;cases h)) (List.forall_mem_cons.2 ⟨c_text_reader_chain_4_ok self hs fu,(by intro c h;cases h)⟩)) (by intro c h;cases h) Tryd.func83 Tryd.call83 rfl rfl (by kernel_rfl) (by kernel_rfl) (mvs:=[]) (fun q=>by kernel_rfl)
abbrev c_text_reader_chain_6 (self:(List SToken)→Int→Int→Option ((STree×(List SToken)×Int×Int)⊕((Int×Int)×((List SToken)×Int×Int)))) (fu:Nat):ConP S0:=⟨82,[.loc 1000 0,.own 1001 .str,.clo 83 [.loc 1002 0]],[.box 76 false [.dat false (.list (.st 1)),.dat false (.int .i64),.dat false (.int .i64)],.arr 9 false false .str,.box 74 false [.loc 1000 0]],false,[(6,.dat true (.st 5))],[(1000,.box 76 false [.dat false (.list (.st 1)),.dat true (.int .i64),.dat true (.int .i64)]),(1001,.arr 9 false true .str),(1002,.box 74 false [.loc 1000 0])],[(1000,.box 76 false [.dat false (.list (.st 1)),.dat true (.int .i64),.dat true (.int .i64)]),(1001,.arr 9 false true .str),(1002,.box 74 false [.loc 1000 0])],92,fun q=>F.text_reader_chain_6 self fu q.1 q.2.1 q.2.2.1 q.2.2.2⟩
theorem c_text_reader_chain_6_ok (self:(List SToken)→Int→Int→Option ((STree×(List SToken)×Int×Int)⊕((Int×Int)×((List SToken)×Int×Int)))) (hs:ConPOk Tryd.prog (cs_text_reader_expr self)) (fu:Nat):ConPOk Tryd.prog (c_text_reader_chain_6 self fu):=ConPOk.of (N:=47) (fu:=fu)
 (H:=[(7,.loopE ⟨[(8,.dat true (.int .i64))],[(1000,.box 76 false [.dat false (.list (.st 1)),.dat true (.int .i64),.dat true (.int .i64)]),(6,.box 56 true [.dat true (.int .i64),.dat true .str,.dat true (.int .i64),.dat true .bool,.dat true (.list (.st 3)),.dat true (.list (.list (.int .i64))),.dat true (.list (.st 5))]),(1002,.box 74 false [.loc 1000 0]),(7,.box 56 true [.dat true (.int .i64),.dat true .str,.dat true (.int .i64),.dat true .bool,.dat true (.list (.st 3)),.dat true (.list (.list (.int .i64))),.dat true (.list (.st 5))])]⟩ 0 ⟨[],[]⟩),
  (16,.loop ⟨[(10,.dat true .str),(21,.dat true (.int .i64))],[(1000,.box 76 false [.dat false (.list (.st 1)),.dat true (.int .i64),.dat true (.int .i64)])]⟩ 2 ⟨[(10,.dat true .str)],[(1000,.box 76 false [.dat false (.list (.st 1)),.dat true (.int .i64),.dat true (.int .i64)])]⟩),
  (28,.regJ [] ⟨[(31,.dat true .bool)],[(1000,.box 76 false [.dat false (.list (.st 1)),.dat true (.int .i64),.dat true (.int .i64)])]⟩),
  (29,.join ⟨[(10,.dat true .str)],[]⟩),
  (47,.reg [1002,1000,7])])
 (cl:=(clT (clP [c_text_reader_is fu,c_text_reader_at fu] []) [c_text_reader_expr_2 self fu,c_fail_ fu])) (tblD:=[])
 mixed (clT_ok (clP_ok (List.forall_mem_cons.2 ⟨c_text_reader_is_ok fu,List.forall_mem_cons.2 ⟨c_text_reader_at_ok fu,(by intro c h;cases h)⟩⟩)) (List.forall_mem_cons.2 ⟨c_text_reader_expr_2_ok self hs fu,List.forall_mem_cons.2 ⟨c_fail__ok fu,(by intro c h;cases h)⟩⟩)) (by intro c h;cases h) Tryd.func82 Tryd.call82 rfl rfl (by kernel_rfl) (by kernel_rfl) (mvs:=[]) (fun q=>by kernel_rfl)
abbrev c_text_reader_expr (fu:Nat):ConP S0:=cs_text_reader_expr (F.text_reader_expr fu)
theorem c_text_reader_expr_ok:∀fu:Nat,ConPOk Tryd.prog (c_text_reader_expr fu)
 | 0=>⟨Tryd.call62,fun q r h=>nomatch (show(none:Option _)=some r from h)⟩
 | fu+1=>ConPOk.of (N:=78) (fu:=fu+1)
   (H:=[(22,.reg [1000,34,3]),
    (26,.reg [1000,34,3]),
    (40,.reg [1000,62,4]),
    (44,.reg [1000,62,4])])
   (cl:=(clT (clP [c_text_reader_is (fu+1),c_text_reader_at (fu+1)] []) [c_text_reader_name (fu+1),c_text_reader_must (fu+1),c_text_reader_expr fu,c_text_reader_number (fu+1),c_text_reader_chain_6 (F.text_reader_expr fu) (fu+1),c_fail_ (fu+1)])) (tblD:=[c_text_reader_expr_1 (fu+1)])
   mixed (clT_ok (clP_ok (List.forall_mem_cons.2 ⟨c_text_reader_is_ok (fu+1),List.forall_mem_cons.2 ⟨c_text_reader_at_ok (fu+1),(by intro c h;cases h)⟩⟩)) (List.forall_mem_cons.2 ⟨c_text_reader_name_ok (fu+1),List.forall_mem_cons.2 ⟨c_text_reader_must_ok (fu+1),List.forall_mem_cons.2 ⟨c_text_reader_expr_ok fu,List.forall_mem_cons.2 ⟨c_text_reader_number_ok (fu+1),List.forall_mem_cons.2 ⟨c_text_reader_chain_6_ok (F.text_reader_expr fu) (c_text_reader_expr_ok fu) (fu+1),List.forall_mem_cons.2 ⟨c_fail__ok (fu+1),(by intro c h;cases h)⟩⟩⟩⟩⟩⟩)) (List.forall_mem_cons.2 ⟨c_text_reader_expr_1_ok (fu+1),(by intro c h;cases h)⟩) Tryd.func62 Tryd.call62 rfl rfl (by kernel_rfl) (by kernel_rfl) (mvs:=[]) (fun q=>by kernel_rfl)
abbrev c_text_reader_function (fu:Nat):ConP S0:=⟨41,[.loc 1000 0],[.box 76 false [.dat false (.list (.st 1)),.dat false (.int .i64),.dat false (.int .i64)]],false,[(2,.dat true (.st 6))],[(1000,.box 76 false [.dat false (.list (.st 1)),.dat true (.int .i64),.dat true (.int .i64)])],[(1000,.box 76 false [.dat false (.list (.st 1)),.dat true (.int .i64),.dat true (.int .i64)])],92,fun q=>F.text_reader_function fu q.1 q.2.1 q.2.2⟩
theorem c_text_reader_function_ok (fu:Nat):ConPOk Tryd.prog (c_text_reader_function fu):=ConPOk.of (N:=45) (fu:=fu)
 (H:=[(10,.loopE ⟨[],[(1000,.box 76 false [.dat false (.list (.st 1)),.dat true (.int .i64),.dat true (.int .i64)]),(3,.box 58 true [.dat true .str,.own 420 (.st 4),.dat true (.int .i64),.dat true .str,.dat true (.int .i64),.dat true .bool,.dat true (.list (.st 3)),.dat true (.list (.list (.int .i64))),.dat true (.list (.st 5))]),(420,.arr 61 true true (.st 4))]⟩ 0 ⟨[],[(1000,.box 76 false [.dat false (.list (.st 1)),.dat true (.int .i64),.dat true (.int .i64)]),(3,.box 58 true [.dat true .str,.own 420 (.st 4),.dat true (.int .i64),.dat true .str,.dat true (.int .i64),.dat true .bool,.dat true (.list (.st 3)),.dat true (.list (.list (.int .i64))),.dat true (.list (.st 5))]),(420,.arr 61 true true (.st 4))]⟩),
  (21,.joinE ⟨[],[(1000,.box 76 false [.dat false (.list (.st 1)),.dat true (.int .i64),.dat true (.int .i64)])]⟩)])
 (cl:=(clT (clP [c_text_reader_peek fu] []) [c_text_reader_must fu,c_text_reader_name fu,c_text_reader_shape fu,c_text_reader_expr fu])) (tblD:=[])
 mixed (clT_ok (clP_ok (List.forall_mem_cons.2 ⟨c_text_reader_peek_ok fu,(by intro c h;cases h)⟩)) (List.forall_mem_cons.2 ⟨c_text_reader_must_ok fu,List.forall_mem_cons.2 ⟨c_text_reader_name_ok fu,List.forall_mem_cons.2 ⟨c_text_reader_shape_ok fu,List.forall_mem_cons.2 ⟨c_text_reader_expr_ok fu,(by intro c h;cases h)⟩⟩⟩⟩)) (by intro c h;cases h) Tryd.func41 Tryd.call41 rfl rfl (by kernel_rfl) (by kernel_rfl) (mvs:=[]) (fun q=>by kernel_rfl)
abbrev c_caught_1 (fu:Nat):ConD S0:=c_caught40 S0
theorem c_caught_1_ok (fu:Nat):ConDOk Tryd.prog 92 (c_caught_1 fu):=c_caught40_ok
abbrev c_text_Read_1 (fu:Nat):ConD S0:=⟨39,[.loc 1000 0,.loc 1001 0],[.box 29 false [.dat false (.int .i64),.dat false (.int .i64)],.box 22 false [.own 1002 (.st 6)],.arr 58 false false (.st 6)],false,[(1000,.box 29 false [.dat true (.int .i64),.dat true (.int .i64)]),(1001,.box 22 false [.own 482 (.st 6)]),(482,.arr 58 false false (.st 6))],false,fun m q=>F.text_Read_1 fu q.1 q.2.1 q.2.2⟩
theorem c_text_Read_1_ok (fu:Nat):ConDOk Tryd.prog 92 (c_text_Read_1 fu):=ConDOk.of (N:=5) (fu:=fu)
 (H:=[(2,.join ⟨[],[(1001,.box 22 false [.own 482 (.st 6)]),(482,.arr 58 false false (.st 6))]⟩)])
 (cl:=(clP [] []))
 mixed (clP_ok (by intro c h;cases h)) Tryd.func39 Tryd.call39 rfl rfl (by kernel_rfl) (mvs:=[1002]) (fun m q=>by kernel_rfl)
abbrev c_text_Read_p (fu:Nat):ConP S0:=⟨14,[.dat false .str],[],false,[(2,.dat false (.list (.st 6))),(3,.dat true (.st 2))],[],[],92,fun q=>F.text_Read_p fu q⟩
theorem c_text_Read_p_ok (fu:Nat):ConPOk Tryd.prog (c_text_Read_p fu):=ConPOk.of (N:=35) (fu:=fu)
 (H:=[(9,.regJ [2,3] ⟨[],[(2,.box 22 true [.dat true (.list (.st 6))]),(3,.box 29 true [.dat true (.int .i64),.dat true (.int .i64)])]⟩),
  (20,.loopE ⟨[],[(21,.box 76 true [.dat false (.list (.st 1)),.dat true (.int .i64),.dat true (.int .i64)]),(2,.box 22 true [.own 420 (.st 6)]),(420,.arr 58 true true (.st 6))]⟩ 0 ⟨[],[(21,.box 76 true [.dat false (.list (.st 1)),.dat true (.int .i64),.dat true (.int .i64)]),(2,.box 22 true [.own 420 (.st 6)]),(420,.arr 58 true true (.st 6))]⟩),
  (28,.reg [21,32,2,420]),
  (30,.regJ [2,3] ⟨[],[(2,.box 22 true [.own 420 (.st 6)]),(3,.box 29 true [.dat true (.int .i64),.dat true (.int .i64)])]⟩)])
 (cl:=(clT (clP [c_text_Tokens fu] []) [c_text_reader_function fu])) (tblD:=[c_caught_1 fu,c_text_Read_1 fu])
 mixed (clT_ok (clP_ok (List.forall_mem_cons.2 ⟨c_text_Tokens_ok fu,(by intro c h;cases h)⟩)) (List.forall_mem_cons.2 ⟨c_text_reader_function_ok fu,(by intro c h;cases h)⟩)) (List.forall_mem_cons.2 ⟨c_caught_1_ok fu,List.forall_mem_cons.2 ⟨c_text_Read_1_ok fu,(by intro c h;cases h)⟩⟩) Tryd.func14 Tryd.call14 rfl rfl (by kernel_rfl) (by kernel_rfl) (mvs:=[]) (fun q=>by kernel_rfl)
abbrev c_text_Read (fu:Nat):Con S0:=⟨14,[.dat false .str],[],false,[(2,.dat false (.list (.st 6))),(3,.dat true (.st 2))],[],fun q=>F.text_Read fu q⟩
theorem c_text_Read_ok (fu:Nat):ConOk Tryd.prog (c_text_Read fu):=ConPOk.caught (c_text_Read_p_ok fu) fun q r h=>unP_some h
abbrev c_adjointref3_sameDims (fu:Nat):Con S0:=⟨44,[.dat false (.list (.st 3)),.dat false (.list (.st 3))],[],false,[(4,.dat true .bool)],[],fun q=>F.adjointref3_sameDims fu q.1 q.2⟩
theorem c_adjointref3_sameDims_ok (fu:Nat):ConOk Tryd.prog (c_adjointref3_sameDims fu):=ConOk.of (N:=26) (fu:=fu)
 (H:=[(14,.loopE ⟨[(4,.dat true .bool),(13,.dat true (.int .i64))],[]⟩ 0 ⟨[],[]⟩),
  (26,.reg [])])
 (tbl:=[])
 mixed (by intro c h;cases h) Tryd.func44 Tryd.call44 rfl rfl (by kernel_rfl) (mvs:=[]) (ns:=[]) (fun q=>by kernel_rfl)
abbrev c_adjointref3_sameLists (fu:Nat):Con S0:=⟨67,[.dat false (.list (.list (.int .i64))),.dat false (.list (.list (.int .i64)))],[],false,[(4,.dat true .bool)],[],fun q=>F.adjointref3_sameLists fu q.1 q.2⟩
theorem c_adjointref3_sameLists_ok (fu:Nat):ConOk Tryd.prog (c_adjointref3_sameLists fu):=ConOk.of (N:=53) (fu:=fu)
 (H:=[(14,.loopE ⟨[(4,.dat true .bool),(14,.dat true (.int .i64))],[]⟩ 0 ⟨[],[]⟩),
  (27,.reg []),
  (36,.loopE ⟨[(4,.dat true .bool),(33,.dat true (.int .i64))],[]⟩ 2 ⟨[(4,.dat true .bool)],[]⟩),
  (48,.reg [])])
 (tbl:=[])
 mixed (by intro c h;cases h) Tryd.func67 Tryd.call67 rfl rfl (by kernel_rfl) (mvs:=[]) (ns:=[]) (fun q=>by kernel_rfl)
abbrev c_adjointref3_SameTree (fu:Nat):Con S0:=⟨43,[.dat false (.st 5),.dat false (.st 5)],[],false,[(4,.dat true .bool)],[],fun q=>F.adjointref3_SameTree fu q.1 q.2⟩
theorem c_adjointref3_SameTree_ok:∀fu:Nat,ConOk Tryd.prog (c_adjointref3_SameTree fu)
 | 0=>⟨Tryd.call43,fun q r h=>nomatch (show(none:Option _)=some r from h)⟩
 | fu+1=>ConOk.of (N:=76) (fu:=fu+1)
   (H:=[(4,.regJ [] ⟨[(56,.dat true .bool)],[]⟩),
    (14,.loopE ⟨[(4,.dat true .bool),(60,.dat true (.int .i64))],[]⟩ 0 ⟨[],[]⟩),
    (26,.reg [])])
   (tbl:=[c_adjointref3_sameDims (fu+1),c_adjointref3_sameLists (fu+1),c_adjointref3_SameTree fu])
   mixed (List.forall_mem_cons.2 ⟨c_adjointref3_sameDims_ok (fu+1),List.forall_mem_cons.2 ⟨c_adjointref3_sameLists_ok (fu+1),List.forall_mem_cons.2 ⟨c_adjointref3_SameTree_ok fu,(by intro c h;cases h)⟩⟩⟩) Tryd.func43 Tryd.call43 rfl rfl (by kernel_rfl) (mvs:=[]) (ns:=[]) (fun q=>by kernel_rfl)
abbrev c_adjointref3_SameProgram (fu:Nat):Con S0:=⟨16,[.dat false (.list (.st 6)),.dat false (.list (.st 6))],[],false,[(4,.dat true .bool)],[],fun q=>F.adjointref3_SameProgram fu q.1 q.2⟩
theorem c_adjointref3_SameProgram_ok (fu:Nat):ConOk Tryd.prog (c_adjointref3_SameProgram fu):=ConOk.of (N:=109) (fu:=fu)
 (H:=[(14,.loopE ⟨[(4,.dat true .bool),(14,.dat true (.int .i64))],[]⟩ 0 ⟨[],[]⟩),
  (27,.regJ [] ⟨[(56,.dat true .bool)],[]⟩),
  (36,.loopE ⟨[(4,.dat true .bool),(63,.dat true (.int .i64))],[]⟩ 2 ⟨[(4,.dat true .bool)],[]⟩),
  (48,.regJ [] ⟨[(106,.dat true .bool)],[]⟩)])
 (tbl:=[c_adjointref3_SameTree fu,c_adjointref3_sameDims fu])
 mixed (List.forall_mem_cons.2 ⟨c_adjointref3_SameTree_ok fu,List.forall_mem_cons.2 ⟨c_adjointref3_sameDims_ok fu,(by intro c h;cases h)⟩⟩) Tryd.func16 Tryd.call16 rfl rfl (by kernel_rfl) (mvs:=[]) (ns:=[]) (fun q=>by kernel_rfl)
abbrev c_adjointlaw3_alive (fu:Nat):Con S0:=⟨17,[],[],false,[(0,.dat true .bool)],[],fun q=>F.adjointlaw3_alive fu⟩
theorem c_adjointlaw3_alive_ok (fu:Nat):ConOk Tryd.prog (c_adjointlaw3_alive fu):=ConOk.of (N:=15) (fu:=fu)
 (H:=[(5,.regJ [] ⟨[(0,.dat true .bool)],[]⟩)])
 (tbl:=[c_text_Tokens fu])
 mixed (List.forall_mem_cons.2 ⟨c_text_Tokens_ok fu,(by intro c h;cases h)⟩) Tryd.func17 Tryd.call17 rfl rfl (by kernel_rfl) (mvs:=[]) (ns:=[]) (fun q=>by kernel_rfl)
abbrev c_adjointlaw3_TextBlanks (fu:Nat):Con S0:=⟨6,[.dat false .str,.dat false (.list .str)],[],false,[(4,.dat true .bool)],[],fun q=>F.adjointlaw3_TextBlanks fu q.1 q.2⟩
theorem c_adjointlaw3_TextBlanks_ok (fu:Nat):ConOk Tryd.prog (c_adjointlaw3_TextBlanks fu):=ConOk.of (N:=79) (fu:=fu)
 (H:=[(14,.regJ [] ⟨[(28,.dat true .bool)],[]⟩),
  (26,.loop ⟨[(7,.dat true .str),(31,.dat true (.int .i64))],[]⟩ 0 ⟨[(7,.dat true .str)],[]⟩),
  (45,.join ⟨[(10,.dat true .str)],[]⟩),
  (49,.join ⟨[(10,.dat true .str)],[]⟩),
  (53,.join ⟨[(10,.dat true .str)],[]⟩),
  (71,.regJ [] ⟨[(4,.dat true .bool)],[]⟩)])
 (tbl:=[c_adjointlaw3_alive fu,c_text_Tokens fu,c_text_Read fu,c_adjointref3_SameProgram fu])
 mixed (List.forall_mem_cons.2 ⟨c_adjointlaw3_alive_ok fu,List.forall_mem_cons.2 ⟨c_text_Tokens_ok fu,List.forall_mem_cons.2 ⟨c_text_Read_ok fu,List.forall_mem_cons.2 ⟨c_adjointref3_SameProgram_ok fu,(by intro c h;cases h)⟩⟩⟩⟩) Tryd.func6 Tryd.call6 rfl rfl (by kernel_rfl) (mvs:=[]) (ns:=[]) (fun q=>by kernel_rfl)
end
end Go.DN
