/-
  strconv.FormatInt, as far as it is asked here.
-/
import Derived.Test.YtaobkpnecfcefaaDoorMgH
import Derived.Test.YtaobkpnecfcefaaDoorTgF
import Derived.Test.YtaobkpnecfcefaaDoorTsB
import Derived.Lib.AppendIntMem
set_option linter.unusedVariables false
set_option linter.unusedSectionVars false
set_option linter.unusedSimpArgs false
namespace Go.DN
open Go.AM Go.Proofs Go.RowKit
theorem relSt_belowF {X:Nat→Prop}{μ:Mu}{w w':World}(h:RelSt (cx0 X [] μ w) μ [] w) (hb:Below w.heap.size w w'):RelSt (cx0 X [] μ w) μ [] w':=
 {blk:=fun _ _ h=>(by cases h),injF:=fun _ _ _ _ _ _ _ _ _ h=>(by cases h),outF:=fun _ _ _ _ _ h=>(by cases h),pin:=fun _ _ h=>(by cases h),xlt:=h.xlt,hb:=hb.size,os:=hb.os,tape:=hb.tape,output:=hb.output,gl:=h.gl,keep:=fun b h1 _=>hb.block b h1}
section
variable {S:Sig}
abbrev c_fmt (S:Sig):Con S:=⟨104,[.dat false (.int .i64),.dat false (.int .i64)],[],false,[(4,.dat true .str)],[],fun q=>fmtI q.1 q.2⟩
theorem c_fmt_ok:ConOk Tryd.prog (c_fmt S):=⟨Tryd.call104,fun q r h=>by
 obtain⟨n,b⟩:=q
 obtain⟨rfl,h1,h2,rfl⟩:=fmtI_some (show fmtI n b=some r from h)
 intro X μ w vs hX hst hl ha
 match vs,hl with
 | [u,v],_=>
  have h0:=ha 0 _ u rfl rfl
  have h3:=ha 1 _ v rfl rfl
  cases h0 with
  | imm h0=>
   cases h0
   cases h3 with
   | imm h3=>
    cases h3
    obtain⟨_,_,cs,e1,f1,g1,g2⟩:=hst.gl (2,isPow) (by simp[globs])
    have g1:w.heap[2]?=some (.cells cs e1 f1):=g1
    refine Calls.mono (Any.strconv_FormatInt_10 Tryd.laysM173 n h1 h2 w ?_) ?_
    ·unfold Lib.TabIs World.var?
     refine(Option.bind_eq_some_iff).2 ⟨2,by kernel_rfl,?_⟩
     rw[g1,g2]
     dsimp only
     unfold Lib.pow10Tab
     rw[List.map_map]
     rfl
    ·rintro e w' ⟨rfl,k,os,rfl⟩
     exact .inl ⟨_,.val (.string (strI n)),[],μ,rfl,⟨rfl,rfl⟩,relSt_belowF hst (Lib.below_grow _ w (Nat.le_refl _) k os),.imm (.val _)⟩⟩
end
end Go.DN
