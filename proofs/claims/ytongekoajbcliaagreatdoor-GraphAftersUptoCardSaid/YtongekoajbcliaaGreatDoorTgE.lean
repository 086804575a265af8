/-
  strconv.FormatInt, as far as it is asked here.
-/
import Derived.Test.YtongekoajbcliaaGreatDoorMgH
import Derived.Test.YtongekoajbcliaaGreatDoorTgF
import Derived.Test.YtongekoajbcliaaGreatDoorTsB
import Derived.Lib.AppendIntMem
set_option linter.all false
namespace Go.DN
open Go.AM Go.Proofs Go.RowKit
def L6{X:Nat->Prop}{μ:Mu}{w w':World}(h:cM (jl X [] μ w) μ [] w)(hb:Below w.heap.size w w'):cM (jl X [] μ w) μ [] w':={ez:=fun _ _ h=>(by cases h),dr:=fun _ _ _ _ _ _ _ _ _ h=>(by cases h),cy:=fun _ _ _ _ _ h=>(by cases h),fJ:=fun _ _ h=>(by cases h),fq:=h.fq,hb:=hb.size,os:=hb.os,tape:=hb.tape,output:=hb.output,gl:=h.gl,dB:=fun b a _=>hb.block b a}
section
variable {S:eN}
abbrev Xc(S:eN):bB S:=⟨142,[.aE false (.int .i64),.aE false (.int .i64)],[],false,[(4,.aE true .str)],[],fun q=>CK q.1 q.2⟩
def Wn:aO Tryz.prog (Xc S):=⟨Tryz.call142,fun q r h=>by obtain⟨n,b⟩:=q;obtain⟨rfl,o,j,rfl⟩:=TH (show CK n b=some r from h);intro X m w p z a l g;match p,l with|[u,v],_=>have d:=g 0 _ u rfl rfl;have c:=g 1 _ v rfl rfl;cases d with|aG d=>cases d;cases c with|aG c=>cases c;obtain⟨_,_,s,t,x,f,y⟩:=a.gl (0,G3) (by simp[W6]);have f:w.heap[0]?=some (.cells s t x):=f;refine Calls.mono (Any.internal_strconv_FormatInt_10 Tryz.Vu n o j w ?_) ?_;unfold Lib.TabIs World.var?;refine(Option.bind_eq_some_iff).2 ⟨0,by kernel_rfl,?_⟩;rw[f,y];dsimp only;unfold Lib.pow10Tab;rw[iY];rfl;rintro e A ⟨rfl,k,i,rfl⟩;exact .inl ⟨_,.val (.string (yk n)),[],m,rfl,⟨rfl,rfl⟩,L6 a (Lib.below_grow _ w (aH _) k i),.aG (.val _)⟩⟩
end
end Go.DN
