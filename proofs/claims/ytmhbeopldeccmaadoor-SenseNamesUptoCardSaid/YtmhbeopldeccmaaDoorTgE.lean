/-
  strconv.FormatInt, as far as it is asked here.
-/
import Derived.Test.YtmhbeopldeccmaaDoorMgH
import Derived.Test.YtmhbeopldeccmaaDoorTgF
import Derived.Test.YtmhbeopldeccmaaDoorTsB
import Derived.Lib.AppendIntMem
set_option linter.unusedVariables false
set_option linter.unusedSectionVars false
set_option linter.unusedSimpArgs false
namespace Go.DN
open Go.AM Go.Proofs Go.RowKit
theorem Fh {X:Nat→Prop}{μ:Mu}{w w':World}(h:cd (eg X [] μ w) μ [] w) (hb:Below w.heap.size w w'):cd (eg X [] μ w) μ [] w':=
 {ey:=fun _ _ h=>(by cases h),dA:=fun _ _ _ _ _ _ _ _ _ h=>(by cases h),cv:=fun _ _ _ _ _ h=>(by cases h),fK:=fun _ _ h=>(by cases h),fo:=h.fo,hb:=hb.size,os:=hb.os,tape:=hb.tape,output:=hb.output,gl:=h.gl,ec:=fun b h1 _=>hb.block b h1}
section
variable {S:dr}
abbrev Ot (S:dr):de S:=⟨56,[.ae false (.int .i64),.ae false (.int .i64)],[],false,[(4,.ae true .str)],[],fun q=>Cv q.1 q.2⟩
theorem NE:bf Tryd.prog (Ot S):=⟨Tryd.call56,fun q r h=>by
 obtain⟨n,b⟩:=q
 obtain⟨rfl,h1,h2,rfl⟩:=Lc (show Cv n b=some r from h)
 intro X μ w vs hX hst hl ha
 match vs,hl with
 | [u,v],_=>
  have h0:=ha 0 _ u rfl rfl
  have h3:=ha 1 _ v rfl rfl
  cases h0 with
  | aD h0=>
   cases h0
   cases h3 with
   | aD h3=>
    cases h3
    obtain⟨_,_,cs,e1,f1,g1,g2⟩:=hst.gl (0,A3) (by simp[Ok])
    have g1:w.heap[0]?=some (.cells cs e1 f1):=g1
    refine Calls.mono (Any.strconv_FormatInt_10 Tryd.M0 n h1 h2 w ?_) ?_
    ·unfold Lib.TabIs World.var?
     refine(Option.bind_eq_some_iff).2 ⟨0,by kernel_rfl,?_⟩
     rw[g1,g2]
     dsimp only
     unfold Lib.pow10Tab
     rw[gS]
     rfl
    ·rintro e w' ⟨rfl,k,os,rfl⟩
     exact .inl ⟨_,.val (.string (ph n)),[],μ,rfl,⟨rfl,rfl⟩,Fh hst (Lib.below_grow _ w (ar _) k os),.aD (.val _)⟩⟩
end
end Go.DN
