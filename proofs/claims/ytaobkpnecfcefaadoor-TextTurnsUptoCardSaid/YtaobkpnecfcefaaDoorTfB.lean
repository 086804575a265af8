/-
  Text: strconv.ParseInt, as far as it is asked here.
-/
import Derived.Test.YtaobkpnecfcefaaDoorMgH
import Derived.Test.YtaobkpnecfcefaaDoorTfC
import Derived.Test.YtaobkpnecfcefaaDoorTsA
import Derived.Lib.AtoiErrMem
set_option linter.unusedVariables false
set_option linter.unusedSectionVars false
set_option linter.unusedSimpArgs false
namespace Go.DN
open Go.AM Go.Proofs Go.RowKit
theorem Jf {X:Nat→Prop}{μ:Mu}{w w':World}(h:bP (dw X [] μ w) μ [] w) (hb:Below w.heap.size w w'):bP (dw X [] μ w) μ [] w':=
 {dB:=fun _ _ h=>(by cases h),cR:=fun _ _ _ _ _ _ _ _ _ h=>(by cases h),bY:=fun _ _ _ _ _ h=>(by cases h),ew:=fun _ _ h=>(by cases h),ed:=h.ed,hb:=hb.size,os:=hb.os,tape:=hb.tape,output:=hb.output,gl:=h.gl,cW:=fun b h1 _=>hb.block b h1}
section
variable {S:dx}
abbrev KC (S:dx):dC S:=⟨57,[.ab false .str,.ab false (.int .i64),.ab false (.int .i64)],[],false,[(0,.ab true (.int .i64)),(1,.ab true .cH)],[],fun q=>pB q.1 q.2.1 q.2.2⟩
theorem Mn:bE Tryd.prog (KC S):=⟨Tryd.call57,fun q r h=>by
 obtain⟨s,b,c⟩:=q
 obtain⟨rfl,rfl,hs,h2⟩:=Ji (show pB s b c=some r from h)
 intro X μ w vs hX hst hl ha
 match vs,hl with
 | [u,v,x],_=>
  have h0:=ha 0 _ u rfl rfl
  have h1:=ha 1 _ v rfl rfl
  have h3:=ha 2 _ x rfl rfl
  cases h0 with
  | aC h0=>
   cases h0
   cases h1 with
   | aC h1=>
    cases h1
    cases h3 with
    | aC h3=>
     cases h3
     have fin:∀{w':World}{n:Int}{b:Bool}{y:Value},r=(n,b)→Below w.heap.size w w'→Io y=some b→
       qg X [] μ w (O1 (S:=S) [(0,.ab true (.int .i64)),(1,.ab true .cH)] [] r) (fun _ _=>False) (.returned (.tuple #[.int .i64 n,y])) w':=by
      rintro w' n b y rfl hb hy
      refine .inl ⟨_,.aU [.val (.int .i64 n),.fr (.cH b)],[],μ,rfl,⟨rfl,rfl⟩,Jf hst hb,?_⟩
      refine .aU [_,_] [_,_] rfl ?_
      intro j g v hg hv
      match j with
      | 0=>cases hg;cases hv;exact .aC (.val _)
      | 1=>cases hg;cases hv;exact .fr (.cH _ _ hy)
      | j+2=>cases hg
     rcases h2 with ⟨v,hv,rfl⟩ | ⟨hv,rfl⟩
     ·refine Calls.mono (Tryd.strconv_ParseInt_10_at64_ok s (by omega) v hv w) ?_
      rintro e w' ⟨rfl,hw⟩
      refine fin rfl ?_ rfl
      rcases hw with rfl | ⟨t,rfl⟩
      ·exact Below.refl _ _
      ·exact Lib.bytesWorld_below _ _ _
     ·obtain⟨_,_,cs,e1,f1,g1,te,pe,g2⟩:=hst.gl (1,LI) (by simp[LO])
      have hc:w.cell? ⟨1,0,none⟩=some (.iface te pe):=by
       have g1:w.heap[1]?=some (.cells cs e1 f1):=g1
       simp[World.cell?,g1,g2]
      refine Calls.mono (Tryd.strconv_ParseInt_10_at64_range s (by omega) hv _ w hc (.inr ⟨_,_,rfl⟩)) ?_
      rintro e w' ⟨N,rfl,_,_,hb⟩
      exact fin rfl hb rfl⟩
end
end Go.DN
