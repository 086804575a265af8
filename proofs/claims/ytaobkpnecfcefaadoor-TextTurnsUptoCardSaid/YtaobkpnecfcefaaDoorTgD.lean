/-
  strings.Builder within text.writer: the contracts.
-/
import Derived.Test.YtaobkpnecfcefaaDoorTgC
set_option maxRecDepth 20000
set_option linter.unusedVariables false
set_option linter.unusedSectionVars false
set_option linter.unusedSimpArgs false
namespace Go.DN
open Go.AM Go.Proofs
section
variable {S:dx}
theorem SF (l:List Int):List.flatMap (aW S (.int .u8)) l=l.map fun x=>.val (.int .u8 x):=by
 induction l with
 | nil=>rfl
 | cons x r ih=>rw[cj,ih];rfl
theorem GM.PC {f:FuncId}{bw:TypeId}{c0:G}{n:Nat}{rest cells cells':List G}{fr:Bool}{Q:G→List (Nat×ao)→Prop}(h:cells'=cells) (hg:GM Tryd.prog f [.loc 1000 0] (qE bw c0 n rest cells fr) Q):GM Tryd.prog f [.loc 1000 0] (qE bw c0 n rest cells' fr) Q:=h▸hg
abbrev Q3:List Oh:=[.box 47 false [.bT 1000 0,.own 1001 (.int .u8),.ab false (.int .i64),.ab false .bool],.arr 5 false false (.int .u8)]
abbrev FL (S:dx):dC S:=⟨103,[.loc 1000 0],Q3,false,[],[(1000,.box 47 false [.loc 1000 0,.own 1001 (.int .u8),.ab true (.int .i64),.ab true .bool]),(1001,.arr 5 false false (.int .u8))],fun q=>some (q.2.1,q.2.2.1,q.2.2.2)⟩
theorem IU:bE Tryd.prog (FL S):=⟨Tryd.call103,fun q r h=>by
 cases h
 obtain⟨b,d,m,l⟩:=q
 cases b with
 | true=>exact F5 (rest:=[.val (.int .i64 d),.val (.bool m)]) (n:=List.length l) (cells:=List.flatMap (aW S (.int .u8)) l) (f:=false) (by kernel_rfl) (fun h=>absurd h (show ¬((Tryd.prog.cellsOf 47)=0) from of_decide_eq_true (by kernel_rfl))) (of_decide_eq_true (by kernel_rfl))
 | false=>exact EN (rest:=[.val (.int .i64 d),.val (.bool m)]) (n:=List.length l) (cells:=List.flatMap (aW S (.int .u8)) l) (f:=false)⟩
abbrev OG (S:dx):dC S:=⟨20,[.loc 1000 0],Q3,false,[(2,.ab true .str)],[(1000,.box 47 false [.bT 1000 0,.any,.ab true (.int .i64),.ab true .bool])],fun q=>(Pj q.2.2.2).bind fun t=>some (t,q.1,q.2.1,q.2.2.1)⟩
theorem OE:bE Tryd.prog (OG S):=⟨Tryd.call20,fun q r h=>by
 obtain⟨b,d,m,l⟩:=q
 obtain⟨t,h1,h2⟩:=bind_some h
 cases h2
 obtain⟨_,h3,h4⟩:=bind_some h1
 cases h4
 have hb:=cS h3
 exact GM.PC (c0:=bif b then .val (.pointer none) else .loc 1000 0) (SF (S:=S) l) (MT (rest:=[.val (.int .i64 d),.val (.bool m)]) (l:=l) (f:=false) rfl hb)⟩
end
end Go.DN
