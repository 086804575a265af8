/-
  strings.Builder within text.writer: the contracts.
-/
import Derived.Test.YtongekoajbcliaaGreatDoorTgC
set_option maxRecDepth 20000
set_option linter.unusedVariables false
set_option linter.unusedSectionVars false
set_option linter.unusedSimpArgs false
namespace Go.DN
open Go.AM Go.Proofs
section
variable {S:eI}
theorem Xy (l:List Int):List.flatMap (aX S (.int .u8)) l=l.map fun x=>.val (.int .u8 x):=by
 induction l with
 | nil=>rfl
 | cons x r ih=>rw[b6,ih];rfl
theorem GM.Uu {f:FuncId}{bI:TypeId}{c0:G}{n:Nat}{rest cells cells':List G}{fr:Bool}{Q:G→List (Nat×av)→Prop}(h:cells'=cells) (hg:GM Tryz.prog f [.loc 1000 0] (rK bI c0 n rest cells fr) Q):GM Tryz.prog f [.loc 1000 0] (rK bI c0 n rest cells' fr) Q:=h▸hg
abbrev V3:List Oh:=[.box 151 false [.gw 1000 0,.own 1001 (.int .u8)],.arr 5 false false (.int .u8)]
abbrev JZ (S:eI):bz S:=⟨140,[.loc 1000 0],V3,false,[],[(1000,.box 151 false [.loc 1000 0,.own 1001 (.int .u8)]),(1001,.arr 5 false false (.int .u8))],fun q=>some q.2⟩
theorem Nk:aM Tryz.prog (JZ S):=⟨Tryz.call140,fun q r h=>by
 cases h
 obtain⟨b,l⟩:=q
 cases b with
 | true=>exact Ka (rest:=[]) (n:=List.length l) (cells:=List.flatMap (aX S (.int .u8)) l) (f:=false) (by kernel_rfl) (fun h=>absurd h (show ¬((Tryz.prog.cellsOf 151)=0) from of_decide_eq_true (by kernel_rfl))) (of_decide_eq_true (by kernel_rfl))
 | false=>exact IB (rest:=[]) (n:=List.length l) (cells:=List.flatMap (aX S (.int .u8)) l) (f:=false)⟩
abbrev Tu (S:eI):bz S:=⟨93,[.loc 1000 0],V3,false,[(2,.aD true .str)],[(1000,.box 151 false [.gw 1000 0,.any])],fun q=>(T3 q.2).bind fun t=>some (t,q.1)⟩
theorem Tt:aM Tryz.prog (Tu S):=⟨Tryz.call93,fun q r h=>by
 obtain⟨b,l⟩:=q
 obtain⟨t,h1,h2⟩:=bind_some h
 cases h2
 obtain⟨_,h3,h4⟩:=bind_some h1
 cases h4
 have hb:=cD h3
 exact GM.Uu (c0:=bif b then .val (.pointer none) else .loc 1000 0) (Xy (S:=S) l) (RD (rest:=[]) (l:=l) (f:=false) rfl hb)⟩
end
end Go.DN
