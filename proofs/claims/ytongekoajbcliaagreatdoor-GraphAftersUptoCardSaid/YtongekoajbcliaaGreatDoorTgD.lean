/-
  strings.Builder within text.writer: the contracts.
-/
import Derived.Test.YtongekoajbcliaaGreatDoorTgC
set_option maxRecDepth 20000
set_option linter.all false
namespace Go.DN
open Go.AM Go.Proofs
section
variable {S:eN}
def Yb(l:List Int):List.flatMap (aX S (.int .u8)) l=l.map fun x=>.val (.int .u8 x):=by induction l with|nil=>rfl|cons x r a=>rw[cd,a];rfl
def GM.Va{f:FuncId}{b:TypeId}{c0:G}{n:Nat}{rest cells a:List G}{fr:Bool}{Q:G->List (Nat×aw)->Prop}(h:a=cells)(hg:GM Tryz.prog f [.loc 1000 0] (rY b c0 n rest cells fr) Q):GM Tryz.prog f [.loc 1000 0] (rY b c0 n rest a fr) Q:=h▸hg
abbrev WI:List Oh:=[.box 151 false [.gG 1000 0,.own 1001 (.int .u8)],.arr 5 false false (.int .u8)]
abbrev KD(S:eN):bB S:=⟨140,[.loc 1000 0],WI,false,[],[(1000,.box 151 false [.loc 1000 0,.own 1001 (.int .u8)]),(1001,.arr 5 false false (.int .u8))],fun q=>some q.2⟩
def NU:aO Tryz.prog (KD S):=⟨Tryz.call140,fun q r h=>by cases h;obtain⟨b,l⟩:=q;cases b with|true=>exact KP (rest:=[]) (n:=List.length l) (cells:=List.flatMap (aX S (.int .u8)) l) (f:=false) (by kernel_rfl) (fun h=>absurd h (show ¬((Tryz.prog.cellsOf 151)=0) from of_decide_eq_true (by kernel_rfl))) (of_decide_eq_true (by kernel_rfl))|false=>exact I9 (rest:=[]) (n:=List.length l) (cells:=List.flatMap (aX S (.int .u8)) l) (f:=false)⟩
abbrev Ub(S:eN):bB S:=⟨93,[.loc 1000 0],WI,false,[(2,.aE true .str)],[(1000,.box 151 false [.gG 1000 0,.any])],fun q=>(UJ q.2).bind fun t=>some (t,q.1)⟩
def Ua:aO Tryz.prog (Ub S):=⟨Tryz.call93,fun q r h=>by obtain⟨b,l⟩:=q;obtain⟨t,c,d⟩:=bind_some h;cases d;obtain⟨_,e,f⟩:=bind_some c;cases f;have a:=cI e;exact GM.Va (c0:=bif b then .val (.pointer none) else .loc 1000 0) (Yb (S:=S) l) (Sj (rest:=[]) (l:=l) (f:=false) rfl a)⟩
end
end Go.DN
