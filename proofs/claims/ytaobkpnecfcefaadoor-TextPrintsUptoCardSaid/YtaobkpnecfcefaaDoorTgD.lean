/-
  strings.Builder within text.writer: the contracts.
-/
import Derived.Test.YtaobkpnecfcefaaDoorTgC
set_option maxRecDepth 20000
set_option linter.unusedVariables false
set_option linter.unusedSectionVars false
set_option linter.unusedSimpArgs false
namespace Go.DN
open Go.AM Go.Proofs
section
variable {S:Sig}
theorem flat_u8 (l:List Int):List.flatMap (encT S (.int .u8)) l=l.map fun x=>.val (.int .u8 x):=by
 induction l with
 | nil=>rfl
 | cons x r ih=>rw[List.flatMap_cons,ih];rfl
theorem GM.of_cells {f:FuncId}{ety:TypeId}{c0:G}{n:Nat}{rest cells cells':List G}{fr:Bool}{Q:G→List (Nat×Blk)→Prop}(h:cells'=cells) (hg:GM Tryd.prog f [.loc 1000 0] (bst ety c0 n rest cells fr) Q):GM Tryd.prog f [.loc 1000 0] (bst ety c0 n rest cells' fr) Q:=h▸hg
abbrev wobjs:List Oh:=[.box 47 false [.lpo 1000 0,.own 1001 (.int .u8),.dat false (.int .i64),.dat false .bool],.arr 5 false false (.int .u8)]
abbrev c_copyChk (S:Sig):Con S:=⟨103,[.loc 1000 0],wobjs,false,[],[(1000,.box 47 false [.loc 1000 0,.own 1001 (.int .u8),.dat true (.int .i64),.dat true .bool]),(1001,.arr 5 false false (.int .u8))],fun q=>some (q.2.1,q.2.2.1,q.2.2.2)⟩
theorem c_copyChk_ok:ConOk Tryd.prog (c_copyChk S):=⟨Tryd.call103,fun q r h=>by
 cases h
 obtain⟨b,d,m,l⟩:=q
 cases b with
 | true=>exact copyCheck_nil (rest:=[.val (.int .i64 d),.val (.bool m)]) (n:=List.length l) (cells:=List.flatMap (encT S (.int .u8)) l) (f:=false) (by kernel_rfl) (fun h=>absurd h (show ¬((Tryd.prog.cellsOf 47)=0) from of_decide_eq_true (by kernel_rfl))) (of_decide_eq_true (by kernel_rfl))
 | false=>exact copyCheck_self (rest:=[.val (.int .i64 d),.val (.bool m)]) (n:=List.length l) (cells:=List.flatMap (encT S (.int .u8)) l) (f:=false)⟩
abbrev c_bstr (S:Sig):Con S:=⟨20,[.loc 1000 0],wobjs,false,[(2,.dat true .str)],[(1000,.box 47 false [.lpo 1000 0,.any,.dat true (.int .i64),.dat true .bool])],fun q=>(strF q.2.2.2).bind fun t=>some (t,q.1,q.2.1,q.2.2.1)⟩
theorem c_bstr_ok:ConOk Tryd.prog (c_bstr S):=⟨Tryd.call20,fun q r h=>by
 obtain⟨b,d,m,l⟩:=q
 obtain⟨t,h1,h2⟩:=bind_some h
 cases h2
 obtain⟨_,h3,h4⟩:=bind_some h1
 cases h4
 have hb:=chk_spec h3
 exact GM.of_cells (c0:=bif b then .val (.pointer none) else .loc 1000 0) (flat_u8 (S:=S) l) (string_gm (rest:=[.val (.int .i64 d),.val (.bool m)]) (l:=l) (f:=false) rfl hb)⟩
end
end Go.DN
