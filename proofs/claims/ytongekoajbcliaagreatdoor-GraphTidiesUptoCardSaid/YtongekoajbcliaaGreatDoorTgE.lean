/-
  strconv.FormatInt, as far as it is asked here.
-/
import Derived.Test.YtongekoajbcliaaGreatDoorMgH
import Derived.Test.YtongekoajbcliaaGreatDoorTgF
import Derived.Test.YtongekoajbcliaaGreatDoorTsB
import Derived.Lib.AppendIntMem
set_option linter.unusedVariables false
set_option linter.unusedSectionVars false
set_option linter.unusedSimpArgs false
namespace Go.DN
open Go.AM Go.Proofs Go.RowKit
theorem Ly {X:Nat→Prop}{μ:Mu}{w w':World}(h:cI (jc X [] μ w) μ [] w) (hb:Below w.heap.size w w'):cI (jc X [] μ w) μ [] w':=
 {en:=fun _ _ h=>(by cases h),de:=fun _ _ _ _ _ _ _ _ _ h=>(by cases h),cq:=fun _ _ _ _ _ h=>(by cases h),fD:=fun _ _ h=>(by cases h),fg:=h.fg,hb:=hb.size,os:=hb.os,tape:=hb.tape,output:=hb.output,gl:=h.gl,dq:=fun b h1 _=>hb.block b h1}
section
variable {S:eI}
abbrev Wv (S:eI):bz S:=⟨142,[.aD false (.int .i64),.aD false (.int .i64)],[],false,[(4,.aD true .str)],[],fun q=>Cg q.1 q.2⟩
theorem VJ:aM Tryz.prog (Wv S):=⟨Tryz.call142,fun q r h=>by
 obtain⟨n,b⟩:=q
 obtain⟨rfl,h1,h2,rfl⟩:=SZ (show Cg n b=some r from h)
 intro X μ w vs hX hst hl ha
 match vs,hl with
 | [u,v],_=>
  have h0:=ha 0 _ u rfl rfl
  have h3:=ha 1 _ v rfl rfl
  cases h0 with
  | aF h0=>
   cases h0
   cases h3 with
   | aF h3=>
    cases h3
    obtain⟨_,_,cs,e1,f1,g1,g2⟩:=hst.gl (0,Gq) (by simp[Wp])
    have g1:w.heap[0]?=some (.cells cs e1 f1):=g1
    refine Calls.mono (Any.internal_strconv_FormatInt_10 Tryz.UO n h1 h2 w ?_) ?_
    ·unfold Lib.TabIs World.var?
     refine(Option.bind_eq_some_iff).2 ⟨0,by kernel_rfl,?_⟩
     rw[g1,g2]
     dsimp only
     unfold Lib.pow10Tab
     rw[iO]
     rfl
    ·rintro e w' ⟨rfl,k,os,rfl⟩
     exact .inl ⟨_,.val (.string (xO n)),[],μ,rfl,⟨rfl,rfl⟩,Ly hst (Lib.below_grow _ w (aG _) k os),.aF (.val _)⟩⟩
end
end Go.DN
