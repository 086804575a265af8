/-
  Text: strconv.ParseInt, as far as it is asked here.
-/
import Derived.Test.YtaobkpnecfcefaaDoorMgH
import Derived.Test.YtaobkpnecfcefaaDoorTfC
import Derived.Test.YtaobkpnecfcefaaDoorTsA
import Derived.Lib.AtoiErrMem
set_option linter.unusedVariables false
set_option linter.unusedSectionVars false
set_option linter.unusedSimpArgs false
namespace Go.DN
open Go.AM Go.Proofs Go.RowKit
theorem relSt_below {X:Nat→Prop}{μ:Mu}{w w':World}(h:RelSt (cx0 X [] μ w) μ [] w) (hb:Below w.heap.size w w'):RelSt (cx0 X [] μ w) μ [] w':=
 {blk:=fun _ _ h=>(by cases h),injF:=fun _ _ _ _ _ _ _ _ _ h=>(by cases h),outF:=fun _ _ _ _ _ h=>(by cases h),pin:=fun _ _ h=>(by cases h),xlt:=h.xlt,hb:=hb.size,os:=hb.os,tape:=hb.tape,output:=hb.output,gl:=h.gl,keep:=fun b h1 _=>hb.block b h1}
section
variable {S:Sig}
abbrev c_parse (S:Sig):Con S:=⟨57,[.dat false .str,.dat false (.int .i64),.dat false (.int .i64)],[],false,[(0,.dat true (.int .i64)),(1,.dat true .ifc)],[],fun q=>parseI q.1 q.2.1 q.2.2⟩
theorem c_parse_ok:ConOk Tryd.prog (c_parse S):=⟨Tryd.call57,fun q r h=>by
 obtain⟨s,b,c⟩:=q
 obtain⟨rfl,rfl,hs,h2⟩:=parseI_some (show parseI s b c=some r from h)
 intro X μ w vs hX hst hl ha
 match vs,hl with
 | [u,v,x],_=>
  have h0:=ha 0 _ u rfl rfl
  have h1:=ha 1 _ v rfl rfl
  have h3:=ha 2 _ x rfl rfl
  cases h0 with
  | imm h0=>
   cases h0
   cases h1 with
   | imm h1=>
    cases h1
    cases h3 with
    | imm h3=>
     cases h3
     have fin:∀{w':World}{n:Int}{b:Bool}{y:Value},r=(n,b)→Below w.heap.size w w'→ifcB y=some b→
       Came X [] μ w (Ans (S:=S) [(0,.dat true (.int .i64)),(1,.dat true .ifc)] [] r) (fun _ _=>False) (.returned (.tuple #[.int .i64 n,y])) w':=by
      rintro w' n b y rfl hb hy
      refine .inl ⟨_,.tup [.val (.int .i64 n),.fr (.ifc b)],[],μ,rfl,⟨rfl,rfl⟩,relSt_below hst hb,?_⟩
      refine .tup [_,_] [_,_] rfl ?_
      intro j g v hg hv
      match j with
      | 0=>cases hg;cases hv;exact .imm (.val _)
      | 1=>cases hg;cases hv;exact .fr (.ifc _ _ hy)
      | j+2=>cases hg
     rcases h2 with ⟨v,hv,rfl⟩ | ⟨hv,rfl⟩
     ·refine Calls.mono (Tryd.strconv_ParseInt_10_at64_ok s (by omega) v hv w) ?_
      rintro e w' ⟨rfl,hw⟩
      refine fin rfl ?_ rfl
      rcases hw with rfl | ⟨t,rfl⟩
      ·exact Below.refl _ _
      ·exact Lib.bytesWorld_below _ _ _
     ·obtain⟨_,_,cs,e1,f1,g1,te,pe,g2⟩:=hst.gl (1,isErr) (by simp[globs])
      have hc:w.cell? ⟨1,0,none⟩=some (.iface te pe):=by
       have g1:w.heap[1]?=some (.cells cs e1 f1):=g1
       simp[World.cell?,g1,g2]
      refine Calls.mono (Tryd.strconv_ParseInt_10_at64_range s (by omega) hv _ w hc (.inr ⟨_,_,rfl⟩)) ?_
      rintro e w' ⟨N,rfl,_,_,hb⟩
      exact fin rfl hb rfl⟩
end
end Go.DN
