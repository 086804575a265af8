import Derived.Test.YtaobkpnecfcefaaDoorMgH
import Derived.Test.YtaobkpnecfcefaaDoorTgB
import Derived.Test.YtaobkpnecfcefaaDoorTsB
import Derived.Lib.AppendIntMem
/-
  strconv.FormatInt, as far as it is asked here.
-/
set_option linter.unusedVariables false
set_option linter.unusedSectionVars false
set_option linter.unusedSimpArgs false
namespace Go.DN
open Go.AM Go.Proofs Go.RowKit
theorem Ht {X:Nat→Prop}{μ:Mu}{w w':World}(h:bP (dw X [] μ w) μ [] w) (hb:Below w.heap.size w w'):bP (dw X [] μ w) μ [] w':=
 {dB:=fun _ _ h=>(by cases h),cR:=fun _ _ _ _ _ _ _ _ _ h=>(by cases h),bY:=fun _ _ _ _ _ h=>(by cases h),ew:=fun _ _ h=>(by cases h),ed:=h.ed,hb:=hb.size,os:=hb.os,tape:=hb.tape,output:=hb.output,gl:=h.gl,cW:=fun b h1 _=>hb.block b h1}
section
variable {S:dx}
abbrev Ry (S:dx):dC S:=⟨104,[.ab false (.int .i64),.ab false (.int .i64)],[],false,[(4,.ab true .str)],[],fun q=>Ez q.1 q.2⟩
theorem QE:bE Tryd.prog (Ry S):=⟨Tryd.call104,fun q r h=>by
 obtain⟨n,b⟩:=q
 obtain⟨rfl,h1,h2,rfl⟩:=Oa (show Ez n b=some r from h)
 intro X μ w vs hX hst hl ha
 match vs,hl with
 | [u,v],_=>
  have h0:=ha 0 _ u rfl rfl
  have h3:=ha 1 _ v rfl rfl
  cases h0 with
  | aC h0=>
   cases h0
   cases h3 with
   | aC h3=>
    cases h3
    obtain⟨_,_,cs,e1,f1,g1,g2⟩:=hst.gl (2,Db) (by simp[LO])
    have g1:w.heap[2]?=some (.cells cs e1 f1):=g1
    refine Calls.mono (Any.strconv_FormatInt_10 Tryd.PV n h1 h2 w ?_) ?_
    ·unfold Lib.TabIs World.var?
     refine(Option.bind_eq_some_iff).2 ⟨2,by kernel_rfl,?_⟩
     rw[g1,g2]
     dsimp only
     unfold Lib.pow10Tab
     rw[iM]
     rfl
    ·rintro e w' ⟨rfl,k,os,rfl⟩
     exact .inl ⟨_,.val (.string (gN n)),[],μ,rfl,⟨rfl,rfl⟩,Ht hst (Lib.below_grow _ w (aq _) k os),.aC (.val _)⟩⟩
end
end Go.DN
