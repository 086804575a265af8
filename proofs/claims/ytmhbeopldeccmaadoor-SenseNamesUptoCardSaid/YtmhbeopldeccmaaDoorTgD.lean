/-
  strings.Builder within text.writer: the contracts.
-/
import Derived.Test.YtmhbeopldeccmaaDoorTgC
set_option maxRecDepth 20000
set_option linter.unusedVariables false
set_option linter.unusedSectionVars false
set_option linter.unusedSimpArgs false
namespace Go.DN
open Go.AM Go.Proofs
section
variable {S:dr}
theorem Pn (l:List Int):List.flatMap (aP S (.int .u8)) l=l.map fun x=>.val (.int .u8 x):=by
 induction l with
 | nil=>rfl
 | cons x r ih=>rw[cP,ih];rfl
theorem GM.MH {f:FuncId}{bs:TypeId}{c0:G}{n:Nat}{rest cells cells':List G}{fr:Bool}{Q:G→List (Nat×aq)→Prop}(h:cells'=cells) (hg:GM Tryd.prog f [.loc 1000 0] (pY bs c0 n rest cells fr) Q):GM Tryd.prog f [.loc 1000 0] (pY bs c0 n rest cells' fr) Q:=h▸hg
abbrev NZ:List Oh:=[.box 75 false [.bP 1000 0,.own 1001 (.int .u8),.ae false (.int .i64),.ae false .bool],.arr 5 false false (.int .u8)]
abbrev DQ (S:dr):de S:=⟨52,[.loc 1000 0],NZ,false,[],[(1000,.box 75 false [.loc 1000 0,.own 1001 (.int .u8),.ae true (.int .i64),.ae true .bool]),(1001,.arr 5 false false (.int .u8))],fun q=>some (q.2.1,q.2.2.1,q.2.2.2)⟩
theorem Gz:bf Tryd.prog (DQ S):=⟨Tryd.call52,fun q r h=>by
 cases h
 obtain⟨b,d,m,l⟩:=q
 cases b with
 | true=>exact D8 (rest:=[.val (.int .i64 d),.val (.bool m)]) (n:=List.length l) (cells:=List.flatMap (aP S (.int .u8)) l) (f:=false) (by kernel_rfl) (fun h=>absurd h (show ¬((Tryd.prog.cellsOf 75)=0) from of_decide_eq_true (by kernel_rfl))) (of_decide_eq_true (by kernel_rfl))
 | false=>exact CI (rest:=[.val (.int .i64 d),.val (.bool m)]) (n:=List.length l) (cells:=List.flatMap (aP S (.int .u8)) l) (f:=false)⟩
abbrev LG (S:dr):de S:=⟨30,[.loc 1000 0],NZ,false,[(2,.ae true .str)],[(1000,.box 75 false [.bP 1000 0,.any,.ae true (.int .i64),.ae true .bool])],fun q=>(Ml q.2.2.2).bind fun t=>some (t,q.1,q.2.1,q.2.2.1)⟩
theorem LF:bf Tryd.prog (LG S):=⟨Tryd.call30,fun q r h=>by
 obtain⟨b,d,m,l⟩:=q
 obtain⟨t,h1,h2⟩:=bind_some h
 cases h2
 obtain⟨_,h3,h4⟩:=bind_some h1
 cases h4
 have hb:=cO h3
 exact GM.MH (c0:=bif b then .val (.pointer none) else .loc 1000 0) (Pn (S:=S) l) (J9 (rest:=[.val (.int .i64 d),.val (.bool m)]) (l:=l) (f:=false) rfl hb)⟩
end
end Go.DN
