/-
  DN, fourth part.
-/
import Derived.Test.YtfkigaldejbeiaaMgD
import Derived.KernelRfl
set_option linter.unusedSectionVars false
set_option linter.unusedSimpArgs false
set_option linter.unusedVariables false
/-
 DN,part Vb:a call whose arguments all lead to what the caller's call has made:so does its answer.
-/
namespace Go.DN
open Go.AM
def pO:G→Bool
 | .val _=>true
 | .fr _=>true
 | .agg gs=>go gs
 | .aM _ gs=>go gs
 | _=>false
where go:List G→Bool
 | []=>true
 | g::r=>pO g&&go r
theorem tD:∀{gs:List G},pO.go gs=true→∀(j:Nat) (g:G),gs[j]?=some g→pO g=true
 | [],_,j,g,hg=>by simp at hg
 | x::r,h,j,g,hg=>by
  simp only[pO.go,ai] at h
  cases j with
  | zero=>cases hg;exact h.1
  | succ j=>exact tD h.2 j g hg
def qe:G→G
 | .val v=>.val v
 | .sl n cs=>.fr (.sl n cs)
 | .ptr cs=>.fr (.ptr cs)
 | .agg gs=>.agg (go gs)
 | .bj gs=>.bj (go gs)
 | .aM f gs=>.aM f (go gs)
 | g=>g
where go:List G→List G
 | []=>[]
 | g::r=>qe g::go r
theorem vb:∀(gs:List G),(qe.go gs).length=gs.length
 | []=>rfl
 | _::r=>congrArg (·+1) (vb r)
theorem xP:∀{gs:List G}{j:Nat}{g':G},(qe.go gs)[j]?=some g'→∃g,gs[j]?=some g∧g'=qe g
 | [],_,_,h=>by simp[qe.go] at h
 | x::r,j,g',h=>by
  cases j with
  | zero=>simp only[qe.go,List.getElem?_cons_zero,fM] at h;exact⟨x,rfl,h.symm⟩
  | succ j=>exact xP (gs:=r) (by simpa[qe.go] using h)
theorem Mn {O X:Nat→Prop}{base:Nat}{μ μ':Mu}{w:World}{g g':G}{v:Value}(h:bA O w g v) (hX:∀b,X b→b<w.heap.size→ey O base b) (hg:pO g=true) (hf:fN g=some g'):aW X w.heap.size w μ' g' v:=by
 induction h generalizing g' with
 | any v=>cases hg
 | val v=>
  cases hf
  unfold ix
  split
  ·exact .aF .nil
  ·exact .aF (.val _)
 | nil=>cases hg
 | gM a c=>cases hg
 | sl n cells b off cap us h1 h2 h3 h4 h5 ih=>cases hg
 | ptr cells b off us h1 h2 h3 h4 ih=>cases hg
 | agg cells us hl hr ih=>
  simp only[fN,au] at hf
  obtain⟨gs',h1,rfl⟩:=hf
  obtain⟨h2,h3⟩:=oA h1
  refine .agg gs' us (by omega) fun j g v hg' hv=>?_
  obtain⟨g0,h4,h5⟩:=h3 j g hg'
  exact ih j g0 v h4 hv (tD hg j g0 h4) h5
theorem Mo {O X:Nat→Prop}{base:Nat}{μ μ':Mu}{w:World}{g g':G}{v:Value}(h:aW O base w μ g v) (hX:∀b,X b→b<w.heap.size→ey O base b) (hg:pO g=true) (hf:fN g=some g'):aW X w.heap.size w μ' g' v:=by
 induction h generalizing g' with
 | aF h=>exact Mn (base:=base) (μ:=μ) h hX hg hf
 | fr h=>cases hf;exact .aF (h.mono (Kept.refl _ _) fun b hb hn hx=>hn (hX b hx hb))
 | agg cells us hl hr ih=>
  simp only[fN,au] at hf
  obtain⟨gs',h1,rfl⟩:=hf
  obtain⟨h2,h3⟩:=oA h1
  refine .agg gs' us (by omega) fun j g v hg' hv=>?_
  obtain⟨g0,h4,h5⟩:=h3 j g hg'
  exact ih j g0 v h4 hv (tD hg j g0 h4) h5
 | aM f caps us hl hr ih=>
  simp only[fN,au] at hf
  obtain⟨gs',h1,rfl⟩:=hf
  obtain⟨h2,h3⟩:=oA h1
  refine .aM f gs' us (by omega) fun j g v hg' hv=>?_
  obtain⟨g0,h4,h5⟩:=h3 j g hg'
  exact ih j g0 v h4 hv (tD hg j g0 h4) h5
 | _=>cases hg
theorem M3 {X O:Nat→Prop}{base:Nat}{μ:Mu}{w:World}{g:G}{v:Value}(h:bA X w g v) (hO:∀b,b<w.heap.size→ey O base b→X b) (hi:lf g=true):aW O base w μ (qe g) v:=by
 have key:∀{g:G}{v:Value},bA X w g v→bA (ey O base) w g v:=fun h=>h.mono (Kept.refl _ _) fun b hb hn ho=>hn (hO b hb ho)
 induction h with
 | any v=>cases hi
 | val v=>exact .aF (.val _)
 | nil=>exact .fr .nil
 | gM a c=>exact .fr (.gM a c)
 | sl n cells b off cap us h1 h2 h3 h4 h5 ih=>exact .fr (key (.sl n cells b off cap us h1 h2 h3 h4 h5))
 | ptr cells b off us h1 h2 h3 h4 ih=>exact .fr (key (.ptr cells b off us h1 h2 h3 h4))
 | agg cells us hl hr ih=>
  refine .agg _ us (by rw[vb];exact hl) fun j g v hg hv=>?_
  obtain⟨g0,h1,rfl⟩:=xP hg
  exact ih j g0 v h1 hv (qE hi j g0 h1)
theorem M4 {X O:Nat→Prop}{bX base:Nat}{μX μ:Mu}{w:World}{g:G}{v:Value}(h:aW X bX w μX g v) (hO:∀b,b<w.heap.size→ey O base b→X b) (hi:lf g=true):aW O base w μ (qe g) v:=by
 induction h with
 | aF h=>exact M3 h hO hi
 | fr h=>exact .fr (h.mono (Kept.refl _ _) fun b hb hn ho=>hn (.inr (hO b hb ho)))
 | agg cells us hl hr ih=>
  refine .agg _ us (by rw[vb];exact hl) fun j g v hg hv=>?_
  obtain⟨g0,h1,rfl⟩:=xP hg
  exact ih j g0 v h1 hv (qE hi j g0 h1)
 | bj cells us hl hr ih=>
  refine .bj _ us (by rw[vb];exact hl) fun j g v hg hv=>?_
  obtain⟨g0,h1,rfl⟩:=xP hg
  exact ih j g0 v h1 hv (qE hi j g0 h1)
 | aM f cells us hl hr ih=>
  refine .aM f _ us (by rw[vb];exact hl) fun j g v hg hv=>?_
  obtain⟨g0,h1,rfl⟩:=xP hg
  exact ih j g0 v h1 hv (qE hi j g0 h1)
 | _=>cases hi
section
variable {P:Program}{N:Nat}{cx:Cx}{s:St}
variable {ty:TypeId}{pos:String}{after:Array Edge}{guard:Option (Nat×Bool)}{W:List Nat}{d:Nat}
theorem KP {f:FuncId}{vs:List Value}{gs gs':List G}{Q:G→List (Nat×ap)→Prop}{μ:Mu}{a:Act}{w:World}(hr:Rel N cx μ s a w) (hfre:pO.go gs=true) (hv:dU fN gs=some gs')
  (hvs:vs.length=gs.length) (hrep:∀(j:Nat) (g:G) (v:Value),gs[j]?=some g→vs[j]?=some v→aW (cx.O s.st μ) cx.base w μ g v)
  (hcon:GM P f gs' [] Q) (hres:∀r st',Q r st'→lf r=true∧st'=[]):
  Calls P f vs.toArray w fun e w'=>∃v r st',e=.returned v∧Q r st'∧Rel N cx μ s a w'∧aW (cx.O s.st μ) cx.base w' μ (qe r) v∧Step W s.st μ s.st μ w w':=by
 obtain⟨h1,h2⟩:=oD hv
 have hXO:∀b,cx.O s.st μ b→b<w.heap.size:=fun b hb=>by
  rcases hb with hb | hb
  ·have:=hr.st.dY b hb;have:=hr.st.hb;omega
  ·exact oc hr.st hb
 have hX:∀b,(ey (cx.O s.st μ) cx.base b∧b<w.heap.size)→b<w.heap.size:=fun b hb=>hb.2
 refine(hcon.returned (fun b=>ey (cx.O s.st μ) cx.base b∧b<w.heap.size) (fun _=>none) w vs hX (ye hX) (by omega) fun j g v hg hv=>?_).mono ?_
 ·obtain⟨g0,h3,h4⟩:=h2 j g hg
  refine Mo (O:=cx.O s.st μ) (base:=cx.base) (hrep j g0 v h3 hv) ?_ (tD hfre j g0 h3) h4
  rintro b (hb | hb) _
  ·exact hb.1
  ·exact absurd hb sO
 ·rintro e w' ⟨v,r,st',μ',rfl,hq,hst,hrv⟩
  have hkeep:∀b,b<w.heap.size→w'.heap[b]?=w.heap[b]?:=fun b hb=>hst.cY b hb sO
  obtain⟨hf,hs⟩:=hres r st' hq
  subst hs
  refine⟨v,r,[],rfl,hq,hr.kept hst.hb hkeep hst.os hst.tape hst.output,?_,⟨hst.hb,fun b hb _=>hkeep b hb,fun h k c m b hw h1 h2 hi=>.inl ⟨h,k,c,m,hw,h1,h2,hi⟩⟩⟩
  refine M4 hrv ?_ hf
  intro b _ hb
  refine .inl ⟨hb,?_⟩
  rcases hb with hb | hb
  ·exact bU hb hr.st.hb
  ·exact hXO b hb
theorem EF.Ri {f:FuncId}{xs:Array Operand}{ts:Array TypeId}{gs gs':List G}{Q:G→List (Nat×ap)→Prop}(hc:∀args w,(callFunc f args).run P w=.ok (.enter f args) w)
  (hx:tF s xs.toList=some gs) (hfre:pO.go gs=true) (hv:dU fN gs=some gs') (hcon:GM P f gs' [] Q) (hres:∀r st',Q r st'→lf r=true∧st'=[]):
  bH P W s ⟨some d,.call ⟨.value (.func f),xs,ts⟩,ty,pos,after,guard⟩ (fun s'=>∃r st',Q r st'∧s'=s.put d (qe r)):=by
 refine⟨(fun _ h=>by cases h),?_⟩
 intro N cx μ a w hr hN K Q' hK
 obtain⟨h1,h2⟩:=ma hx
 have hcall:=KP (vs:=xs.toList.map a.eval) (W:=W) hr hfre hv (by simp[h1]) (fun j g v hg hv=>by
  obtain⟨x,hxj,he⟩:=h2 j g hg
  rw[ay,hxj] at hv
  cases hv
  exact hr.ev he) hcon hres
 unfold Oper.wp
 have:(execOp a.eval ⟨some d,.call ⟨.value (.func f),xs,ts⟩,ty,pos,after,guard⟩).run P w=.ok (.enter f (xs.toList.map a.eval).toArray) w:=by
  have e:xs.map a.eval=(xs.toList.map a.eval).toArray:=by rw[←eg]
  simp[execOp,resolve,invoke,Deferred.ofValue,Act.eval,hc,e]
 rw[this]
 refine hcall.mono ?_
 rintro e w' ⟨v,r,st',rfl,hq,hr',hrv,hst⟩
 exact hK μ _ _ w' (hr'.put (hN d rfl) hrv) ⟨r,st',hq,rfl⟩ hst
end
section
variable {S:eB}
def TV.EA:TV S→Bool
 | .af f τ _=>f||τ.fV
 | .ptr f _ _=>f
 | .val _=>true
 | .agg l=>go l
 | .aM _ l=>go l
 | _=>false
where go:List (TV S)→Bool
 | []=>true
 | x::r=>x.EA&&go r
theorem NW {g:G}(h:(∃u,g=.val u)∨∃n cs,g=.sl n cs):pO (dq true g)=true:=by
 rcases h with ⟨u,rfl⟩ | ⟨n,cs,rfl⟩ <;> rfl
mutual
theorem NV (ln:Nat→Nat):∀v:TV S,v.EA=true→pO (v.er ln)=true
 | .af f τ a,hf=>by
  have hf:(f||τ.fV)=true:=hf
  cases τ with
  | st n=>
   have e:f=true:=by simpa[Ty.fV] using hf
   subst e
   show pO.go ((aK S (.st n) a).map (dq true))=true
   have h:=rI (S:=S) (.st n) a
   generalize aK S (.st n) a=l at h
   induction l with
   | nil=>rfl
   | cons x r ih=>
    simp only[aH,pO.go,NW (h x av),ih fun y hy=>h y (ao _ hy),fH]
  | list τ=>
   have e:f=true:=by simpa[Ty.fV] using hf
   subst e;rfl
  | _=>cases f <;> rfl
 | .ptr f τ a,hf=>by
  have e:f=true:=hf
  subst e;rfl
 | .val _,_=>rfl
 | .agg l,h=>uG ln l h
 | .aM _ l,h=>uG ln l h
 | .bj _,h=>by cases h
 | .loc _ _,h=>by cases h
 | .gF _ _ _ _,h=>by cases h
 | .aO _ _,h=>by cases h
 | .sub _ _ _ _,h=>by cases h
 | .cq _,h=>by cases h
 | .mp _,h=>by cases h
 | .ks _ _ _ _,h=>by cases h
 | .kp _ _ _ _,h=>by cases h
 | .fA _ _ _ _ _,h=>by cases h
 | .any,h=>by cases h
theorem uG (ln:Nat→Nat):∀l:List (TV S),TV.EA.go l=true→pO.go (TV.er.go ln l)=true
 | [],_=>rfl
 | x::r,h=>by
  simp only[TV.EA.go,ai] at h
  simp only[TV.er.go,pO.go,NV ln x h.1,uG ln r h.2,fH]
end
mutual
theorem PS:∀v:TV S,v.EA=true→v.imp=true
 | .af f τ a,_=>rfl
 | .ptr f τ a,_=>rfl
 | .val _,_=>rfl
 | .agg l,h=>wX l h
 | .aM _ l,h=>wX l h
 | .bj _,h=>by cases h
 | .loc _ _,h=>by cases h
 | .gF _ _ _ _,h=>by cases h
 | .aO _ _,h=>by cases h
 | .sub _ _ _ _,h=>by cases h
 | .cq _,h=>by cases h
 | .mp _,h=>by cases h
 | .ks _ _ _ _,h=>by cases h
 | .kp _ _ _ _,h=>by cases h
 | .fA _ _ _ _ _,h=>by cases h
 | .any,h=>by cases h
theorem wX:∀l:List (TV S),TV.EA.go l=true→TV.imp.go l=true
 | [],_=>rfl
 | x::r,h=>by
  simp only[TV.EA.go,ai] at h
  simp only[TV.imp.go,PS x h.1,wX r h.2,fH]
end
def TV.up:TV S→TV S
 | .af _ τ a=>.af true τ a
 | .bj l=>.bj (go l)
 | v=>v
where go:List (TV S)→List (TV S)
 | []=>[]
 | .af _ τ a::r=>.af true τ a::go r
 | v::r=>v::go r
theorem K9 {f:Bool}{g:G}(h:(∃u,g=.val u)∨∃n cs,g=.sl n cs):qe (dq f g)=dq true g:=by
 rcases h with ⟨u,rfl⟩ | ⟨n,cs,rfl⟩ <;> cases f <;> rfl
theorem La (f:Bool) (τ:Ty) (a:S.D τ):qe (nf f τ a)=nf true τ a:=by
 cases τ with
 | st n=>
  show G.agg (qe.go ((aK S (.st n) a).map (dq f)))=G.agg ((aK S (.st n) a).map (dq true))
  congr 1
  have h:=rI (S:=S) (.st n) a
  generalize aK S (.st n) a=l at h
  induction l with
  | nil=>rfl
  | cons x r ih=>
   simp only[aH,qe.go,K9 (h x av),ih fun y hy=>h y (ao _ hy)]
 | _=>exact K9 (vH rfl a)
theorem OE (ln:Nat→Nat):∀(aA:List (Nat×Sh)) (ls:List (bo S.α)),lQ aA=true→ls.length=(iE aA).length→TV.er.go ln (TV.up.go ((cu aA ls).1.map (·.2)))=qe.go (TV.er.go ln ((cu aA ls).1.map (·.2)))
 | [],_,_,_=>rfl
 | (d,.af f τ)::r,ls,h,hl=>by
  cases ls with
  | nil=>simp[iE,Sh.dg] at hl
  | cons x xs=>
   simp only[cu,ig,aH,TV.up.go,TV.er.go,qe.go]
   rw[OE ln r xs h (by simpa[iE,Sh.dg] using hl)]
   exact congrArg (·::_) (La f x.τ x.a).symm
 | (d,.own h τ)::r,ls,h',_=>by cases h'
 | (d,.ptr _ _)::r,ls,h',_=>by cases h'
 | (d,.loc _ _)::r,ls,h',_=>by cases h'
 | (d,.aM _ _)::r,ls,h',_=>by cases h'
 | (d,.agg _)::r,ls,h',_=>by cases h'
 | (d,.cq _)::r,ls,h',_=>by cases h'
 | (d,.mp _)::r,ls,h',_=>by cases h'
 | (d,.fA _ _)::r,ls,h',_=>by cases h'
 | (d,.ks _ _)::r,ls,h',_=>by cases h'
 | (d,.any)::r,ls,h',_=>by cases h'
 | (d,.lR)::r,ls,h',_=>by cases h'
 | (d,.sub _ _)::r,ls,h',_=>by cases h'
theorem Rr (ln:Nat→Nat){aA:List (Nat×Sh)}{ls:List (bo S.α)}(h:lQ aA=true) (hl:ls.length=(iE aA).length):((lE aA ls).up).er ln=qe ((lE aA ls).er ln):=by
 have hg:=OE ln aA ls h hl
 match aA,h with
 | [],_=>rfl
 | [(d,.af f τ)],_=>cases ls with
  | nil=>simp[iE,Sh.dg] at hl
  | cons x xs=>exact(La f x.τ x.a).symm
 | (d,.af f τ)::(d',sh)::r,_=>exact congrArg G.bj hg
def KQ (con:cE S) (s:ah S) (d:Nat) (vs:List (TV S)){A:Type}(k:ah S→Option A):Option A:=
 match ob con&&(!(pN con.aA)&&TV.EA.go vs) with
 | true=>match jU s con.args vs with
  | some ls=>match ly (j7 con.args con.aZ) ls with
   | some q=>(con.F q).bind fun r=>k (s.put d (lE con.aA (leaves _ r)).up)
   | none=>none
  | none=>none
 | false=>xi con s d vs k
theorem HT {P:Program}{N:Nat}{W:List Nat}{con:cE S}(C:aV P con){s:ah S}{d:Nat}{vs:List (TV S)}{A:Type}{k:ah S→Option A}{r:A}(hl:aY s) (h:KQ con s d vs k=some r)
  {xs:Array Operand}{ts:Array TypeId}{ty:TypeId}{pos:String}{after:Array Edge}{guard:Option (Nat×Bool)}(hv:rP s xs.toList=some vs):
  ∃T:St→Prop,bH P W s.er ⟨some d,.call ⟨.value (.func con.f),xs,ts⟩,ty,pos,after,guard⟩ T∧∀s',T s'→∃t:ah S,Gh s' t.er∧aY t∧bz s t∧k t=some r:=by
 unfold KQ at h
 split at h
 ·rename_i hc
  simp only[ai,a6] at hc
  obtain⟨hp,_,hfr⟩:=hc
  obtain⟨C1,C2,C3⟩:=wu C hp
  split at h
  ·rename_i ls hls
   split at h
   ·rename_i q hq
    obtain⟨res,h1,h2⟩:=bind_some h
    have hview:=(ue 1 (fun _=>0) C1 hls []).2
    rw[b9,←fW hq] at hview
    have hlen:=zk res (sw hp)
    have himp:=nE s.ln vs (wX vs hfr)
    refine⟨_,EF.Ri (P:=P) (W:=W) C.call (kV hv).2 (uG s.ln vs hfr) (wK himp hview) (C3 q res h1) (fun g st hg=>⟨by rw[hg.1];exact Ds C2 hlen _,hg.2⟩),?_⟩
    intro s' hs'
    obtain⟨g,st,⟨hg,_⟩,e⟩:=hs'
    subst e;subst hg
    refine⟨_,?_,hl.put d _,⟨rfl,rfl,rfl⟩,h2⟩
    rw[fB,Rr s.ln C2 hlen,Gc s.ln (fun _=>0) C2]
    exact Gh.refl _
   ·cases h
  ·cases h
 ·exact Oj (N:=N) C hl h hv
end
end Go.DN
/-
 DN,part W:calls to which all objects are lent,and what comes back.
-/
namespace Go.DN
open Go.AM
section
variable {P:Program}{W:List Nat}{s:St}{d:Nat}{ty:TypeId}{pos:String}{after:Array Edge}{guard:Option (Nat×Bool)}
theorem EF.RI {f:FuncId}{xs:Array Operand}{ts:Array TypeId}{gs gs':List G}{stC:List (Nat×ap)}{Q:G→List (Nat×ap)→Prop}{T:St→Prop}(H:List Nat) (vw:Bool) (hc:∀args w,(callFunc f args).run P w=.ok (.enter f args) w)
  (hx:tF s xs.toList=some gs) (hv:cg.go H (ew s.st H vw) gs=some gs') (hl:fC H (ew s.st H vw) s.st H 0=some stC) (cP:nO H=true) (hcon:GM P f gs' stC Q)
  (hres:∀r st',Q r st'→∃bk s2 r',nM vw s H st' bk=some s2∧dH vw (jh st' bk) r=some r'∧T (s2.put d r')) (hW:xy H W=true):
  bH P W s ⟨some d,.call ⟨.value (.func f),xs,ts⟩,ty,pos,after,guard⟩ T:=by
 refine⟨(fun _ h=>by cases h),?_⟩
 intro N cx μ a w hr hN K Q' hK
 obtain⟨h1,h2⟩:=ma hx
 have hcall:=uv (vs:=xs.toList.map a.eval) hr hv hl cP (by simp[h1]) (fun j g v hg hv=>by
  obtain⟨x,hxj,he⟩:=h2 j g hg
  rw[ay,hxj] at hv
  cases hv
  exact hr.ev he) hcon
 unfold Oper.wp
 have:(execOp a.eval ⟨some d,.call ⟨.value (.func f),xs,ts⟩,ty,pos,after,guard⟩).run P w=.ok (.enter f (xs.toList.map a.eval).toArray) w:=by
  have e:xs.map a.eval=(xs.toList.map a.eval).toArray:=by rw[←eg]
  simp[execOp,resolve,invoke,Deferred.ofValue,Act.eval,hc,e]
 rw[this]
 refine hcall.mono ?_
 rintro e w' (⟨v,r,st',μ',rfl,hq,hC,hrv⟩ | ⟨_,_,_,_,h,_⟩)
 ·obtain⟨bk,s2,r',hb,hren,hT⟩:=hres r st' hq
  obtain⟨q1,q2,q3,_⟩:=tR hr hl (lJ cP) hC hb
  exact hK _ _ _ w' (q1.put (hN d rfl) (q2 r r' v hrv hren)) hT (q3 W (xx hW))
 ·exact h.elim
end
section
variable {S:eB}
def zx (s:ah S) (vw:Bool) (H:List Nat) (τ:Ty):TV S→Option (S.D τ)
 | .af _ τ' a=>match τ'.fL with
  | true=>none
  | false=>ik τ' τ a
 | .val (.slice none 0 0)=>match τ with
  | .list _=>some []
  | _=>none
 | .aO h τ2=>match vw with
  | true=>match dr H h with
   | none=>match aw s.bg h with
    | some (.aT _ _ _ τ' l)=>match decEq τ' τ2 with
     | isTrue _=>ik (.list τ') τ l
     | isFalse _=>none
    | _=>none
   | some _=>none
  | false=>none
 | _=>none
def E7 (s:ah S) (vw:Bool) (H:List Nat):List Ty→List (TV S)→Option (List (bo S.α))
 | [],[]=>some []
 | τ::ts,v::vs=>match zx s vw H τ v with
  | some a=>match E7 s vw H ts vs with
   | some l=>some (⟨τ,a⟩::l)
   | none=>none
  | none=>none
 | _,_=>none
def Kn (s:ah S) (vw:Bool) (H:List Nat) (τ:Ty) (v:TV S):Option (S.D τ):=
 match v with
 | .af _ τ' a=>ik τ' τ a
 | .agg vs=>match τ with
  | .st n=>match E7 s vw H (S.dg n) vs with
   | some l=>S.put n l
   | none=>none
  | _=>none
 | v=>zx s vw H τ v
mutual
def kQ (s:ah S) (vw:Bool) (H:List Nat):Sh→TV S→Option (List (bo S.α))
 | .af false τ,v=>match Kn s vw H τ v with
  | some a=>some [⟨τ,a⟩]
  | none=>none
 | .ptr false τ,v=>match v with
  | .ptr _ τ' a=>match ik τ' τ a with
   | some b=>some [⟨τ,b⟩]
   | none=>none
  | _=>none
 | .own r τ,v=>match v with
  | .aO h τ'=>match dr H h with
   | some i=>match Nat.beq (1000+i) r with
    | true=>match decEq τ' τ with
     | isTrue _=>some []
     | isFalse _=>none
    | false=>none
   | none=>none
  | _=>none
 | .loc r o,v=>match v with
  | .loc h o'=>match dr H h with
   | some i=>match Nat.beq (1000+i) r&&Nat.beq o' o with
    | true=>some []
    | false=>none
   | none=>none
  | _=>none
 | .aM f l,v=>match v with
  | .aM f' vs=>match Nat.beq f' f with
   | true=>jF s vw H l vs
   | false=>none
  | _=>none
 | .agg l,v=>match v with
  | .agg vs=>jF s vw H l vs
  | _=>none
 | .cq r,v=>match v with
  | .cq h=>match dr H h with
   | some i=>match Nat.beq (1000+i) r with
    | true=>some []
    | false=>none
   | none=>none
  | _=>none
 | .mp r,v=>match v with
  | .mp h=>match dr H h with
   | some i=>match Nat.beq (1000+i) r with
    | true=>some []
    | false=>none
   | none=>none
  | _=>none
 | .lR,v=>match v with
  | .aM f []=>some [⟨.int .i64,(f:Int)⟩]
  | _=>none
 | .ks r τ,v=>match v with
  | .ks h τ' z n=>match dr H h with
   | some i=>match Nat.beq (1000+i) r with
    | true=>match decEq τ' τ with
     | isTrue _=>some [⟨.int .i64,(z:Int)⟩,⟨.int .i64,(n:Int)⟩]
     | isFalse _=>none
    | false=>none
   | none=>none
  | _=>none
 | .sub r τ,v=>match v with
  | .sub h τ' o n=>match dr H h with
   | some i=>match Nat.beq (1000+i) r with
    | true=>match decEq τ' τ with
     | isTrue _=>some [⟨.int .i64,(o:Int)⟩,⟨.int .i64,(n:Int)⟩]
     | isFalse _=>none
    | false=>none
   | none=>none
  | _=>none
 | _,_=>none
def jF (s:ah S) (vw:Bool) (H:List Nat):List Sh→List (TV S)→Option (List (bo S.α))
 | [],[]=>some []
 | x::r,v::vs=>match kQ s vw H x v with
  | some a=>match jF s vw H r vs with
   | some l=>some (a++l)
   | none=>none
  | none=>none
 | _,_=>none
end
theorem En (H:List Nat) (stv:List (Nat×ap)) (f:Bool){τ:Ty}(h:τ.fL=false) (a:S.D τ):cg H stv (dq f (dy S τ a))=some (dy S τ a):=by
 cases τ with
 | st n=>cases h
 | _=>cases f <;> rfl
theorem G5 {s:ah S}{vw:Bool}{H:List Nat}{τ:Ty}{v:TV S}{a:S.D τ}(h:zx s vw H τ v=some a):cg H (ew s.er.st H vw) (v.er s.ln)=some (dy S τ a)∧τ.fL=false:=by
 unfold zx at h
 split at h
 ·split at h
  ·cases h
  ·rename_i hs
   have:=dW h
   cases this
   refine⟨?_,hs⟩
   rw[nH hs]
   exact En H _ _ hs _
 ·split at h
  ·cases h;exact⟨rfl,rfl⟩
  ·cases h
 ·rename_i hh τ2
  split at h
  ·split at h
   ·rename_i hi
    split at h
    ·rename_i e m f τ' l ho
     split at h
     ·rename_i e1 _
      subst e1
      have:=dW h
      cases this
      refine⟨?_,rfl⟩
      show cg H (ew s.er.st H true) (.aO hh (S.sz τ') 0 (s.ln hh))=_
      simp only[cg,hi,ew,cond_true,view,wA hi (cO ho),TO.er]
      rw[l4 ho,eD,b6 (by rw[eM];exact az _)]
      rfl
     ·cases h
    ·cases h
   ·cases h
  ·cases h
 ·cases h
theorem G4 {s:ah S}{vw:Bool}{H:List Nat}:∀{ts:List Ty}{vs:List (TV S)}{l:List (bo S.α)},E7 s vw H ts vs=some l→cg.go H (ew s.er.st H vw) (TV.er.go s.ln vs)=some (l.map fun x=>dy S x.τ x.a)
 | [],[],_,h=>by cases h;rfl
 | τ::ts,v::vs,l,h=>by
  simp only[E7] at h
  split at h
  ·rename_i a ha
   split at h
   ·rename_i l' hl
    cases h
    simp only[TV.er.go,cg.go,(G5 ha).1,G4 hl,aH]
   ·cases h
  ·cases h
 | [],_::_,_,h=>by cases h
 | _::_,[],_,h=>by cases h
theorem NC {s:ah S}{vw:Bool}{H:List Nat}{τ:Ty}{v:TV S}{a:S.D τ}(h:Kn s vw H τ v=some a) (ln:Nat→Nat):cg H (ew s.er.st H vw) (v.er s.ln)=some ((TV.af false τ a:TV S).er ln):=by
 have one:zx s vw H τ v=some a→cg H (ew s.er.st H vw) (v.er s.ln)=some ((TV.af false τ a:TV S).er ln):=by
  intro h
  obtain⟨h1,h2⟩:=G5 h
  rw[h1,nH h2];rfl
 unfold Kn at h
 split at h
 ·rename_i f τ' a'
  have:=dW h
  cases this
  cases τ with
  | st k=>
   show(cg.go H _ ((aK S (.st k) a).map (dq f))).map G.agg=some (.agg ((aK S (.st k) a).map (dq false)))
   have key:cg.go H (ew s.er.st H vw) ((aK S (.st k) a).map (dq f))=some ((aK S (.st k) a).map (dq false)):=by
    rw[gq]
    have h:=jP k a
    generalize S.cells k a=l at h
    induction l with
    | nil=>rfl
    | cons x r ih=>
     simp only[aH,cg.go]
     rw[En H _ f (h x av) x.a,ih fun y hy=>h y (ao _ hy)]
     rfl
   rw[key];rfl
  | _=>exact one (by unfold zx;exact h)
 ·rename_i vs
  split at h
  ·rename_i k
   split at h
   ·rename_i l hl
    have hp:=S.kD _ _ _ h
    show(cg.go H _ (TV.er.go s.ln vs)).map G.agg=some (.agg ((aK S (.st k) a).map (dq false)))
    have e:(dq false)=(id:G→G):=rfl
    rw[e,List.map_id,gq,hp,G4 hl];rfl
   ·cases h
  ·cases h
 ·exact one h
mutual
theorem NB {s:ah S}{vw:Bool}{H:List Nat}{lnC:Nat→Nat}(hln:∀i h,dr H h=some i→lnC (1000+i)=s.ln h):∀{sh:Sh}{v:TV S}{xs:List (bo S.α)},kQ s vw H sh v=some xs→∀r,(ig sh (xs++r)).2=r∧cg H (ew s.er.st H vw) (v.er s.ln)=some ((ig sh (xs++r)).1.er lnC)
 | .af true τ,v,xs,h,r=>by simp[kQ] at h
 | .af false τ,v,xs,h,r=>by
  simp only[kQ] at h
  split at h
  ·rename_i a ha
   cases h
   exact⟨rfl,NC ha lnC⟩
  ·cases h
 | .ptr true τ,v,xs,h,r=>by simp[kQ] at h
 | .ptr false τ,v,xs,h,r=>by
  simp only[kQ] at h
  split at h
  ·rename_i f τ' a
   split at h
   ·rename_i b hb
    cases h
    have:=dW hb
    cases this
    refine⟨rfl,?_⟩
    cases f <;> rfl
   ·cases h
  ·cases h
 | .own k τ,v,xs,h,r=>by
  simp only[kQ] at h
  split at h
  ·rename_i hh τ'
   split at h
   ·rename_i i hi
    split at h
    ·rename_i hb
     split at h
     ·rename_i e _
      cases h
      subst e
      have:=aa hb
      subst this
      refine⟨rfl,?_⟩
      show cg H _ (.aO hh (S.sz τ') 0 (s.ln hh))=some (.aO (1000+i) (S.sz τ') 0 (lnC (1000+i)))
      simp only[cg,hi,hln i hh hi]
     ·cases h
    ·cases h
   ·cases h
  ·cases h
 | .loc k o,v,xs,h,r=>by
  simp only[kQ] at h
  split at h
  ·rename_i hh o'
   split at h
   ·rename_i i hi
    split at h
    ·rename_i hb
     simp only[ai] at hb
     cases h
     have e1:=aa hb.1
     have e2:=aa hb.2
     subst e1;subst e2
     refine⟨rfl,?_⟩
     show cg H _ (.loc hh o')=some (.loc (1000+i) o')
     simp only[cg,hi]
    ·cases h
   ·cases h
  ·cases h
 | .aM f l,v,xs,h,r=>by
  simp only[kQ] at h
  split at h
  ·rename_i f' vs
   split at h
   ·rename_i hb
    have e:=aa hb
    subst e
    obtain⟨i1,i2⟩:=hZ hln h r
    refine⟨i1,?_⟩
    show(cg.go H _ (TV.er.go s.ln vs)).map (G.aM f')=_
    rw[i2];rfl
   ·cases h
  ·cases h
 | .agg l,v,xs,h,r=>by
  simp only[kQ] at h
  split at h
  ·rename_i vs
   obtain⟨i1,i2⟩:=hZ hln h r
   refine⟨i1,?_⟩
   show(cg.go H _ (TV.er.go s.ln vs)).map G.agg=_
   rw[i2];rfl
  ·cases h
 | .cq k,v,xs,h,r=>by
  simp only[kQ] at h
  split at h
  ·rename_i hh
   split at h
   ·rename_i i hi
    split at h
    ·rename_i hb
     cases h
     have:=aa hb
     subst this
     refine⟨rfl,?_⟩
     show cg H _ (.cq hh)=some (.cq (1000+i))
     simp only[cg,hi]
    ·cases h
   ·cases h
  ·cases h
 | .mp k,v,xs,h,r=>by
  simp only[kQ] at h
  split at h
  ·rename_i hh
   split at h
   ·rename_i i hi
    split at h
    ·rename_i hb
     cases h
     have:=aa hb
     subst this
     refine⟨rfl,?_⟩
     show cg H _ (.dR hh)=some (.dR (1000+i))
     simp only[cg,hi]
    ·cases h
   ·cases h
  ·cases h
 | .any,v,xs,h,r=>by simp[kQ] at h
 | .lR,v,xs,h,r=>by
  simp only[kQ] at h
  split at h
  ·cases h
   exact⟨rfl,rfl⟩
  ·cases h
 | .ks k τ,v,xs,h,r=>by
  simp only[kQ] at h
  split at h
  ·rename_i hh τ' o n
   split at h
   ·rename_i i hi
    split at h
    ·rename_i hb
     split at h
     ·rename_i e _
      cases h
      subst e
      have:=aa hb
      subst this
      refine⟨rfl,?_⟩
      show cg H _ (.ks hh o (S.sz τ') n)=some (.ks (1000+i) o (S.sz τ') n)
      simp only[cg,hi]
     ·cases h
    ·cases h
   ·cases h
  ·cases h
 | .sub k τ,v,xs,h,r=>by
  simp only[kQ] at h
  split at h
  ·rename_i hh τ' o n
   split at h
   ·rename_i i hi
    split at h
    ·rename_i hb
     split at h
     ·rename_i e _
      cases h
      subst e
      have:=aa hb
      subst this
      refine⟨rfl,?_⟩
      show cg H _ (.aO hh (S.sz τ') (o*S.sz τ') n)=some (.aO (1000+i) (S.sz τ') (o*S.sz τ') n)
      simp only[cg,hi]
     ·cases h
    ·cases h
   ·cases h
  ·cases h
theorem hZ {s:ah S}{vw:Bool}{H:List Nat}{lnC:Nat→Nat}(hln:∀i h,dr H h=some i→lnC (1000+i)=s.ln h):∀{l:List Sh}{vs:List (TV S)}{xs:List (bo S.α)},jF s vw H l vs=some xs→∀r,(cW l (xs++r)).2=r∧cg.go H (ew s.er.st H vw) (TV.er.go s.ln vs)=some (TV.er.go lnC (cW l (xs++r)).1)
 | [],[],xs,h,r=>by simp only[jF] at h;cases h;exact⟨rfl,rfl⟩
 | x::l,v::vs,xs,h,r=>by
  simp only[jF] at h
  split at h
  ·rename_i a ha
   split at h
   ·rename_i l' hl
    cases h
    rw[aC]
    obtain⟨i1,i2⟩:=NB hln ha (l'++r)
    obtain⟨j1,j2⟩:=hZ hln hl r
    simp only[cW]
    rw[i1]
    refine⟨j1,?_⟩
    simp only[TV.er.go,cg.go,i2,j2]
   ·cases h
  ·cases h
 | [],_::_,_,h,_=>by simp[jF] at h
 | _::_,[],_,h,_=>by simp[jF] at h
end
def G3 (s:ah S) (vw:Bool) (H:List Nat) (oh:Oh) (o:TO S):Option (List (bo S.α)):=
 match oh with
 | .aT e m f τ=>match o with
  | .aT e' _ _ τ' l=>match Nat.beq e' e&&(!m&&!f) with
   | true=>match ik (.list τ') (.list τ) l with
    | some l=>some [⟨.list τ,l⟩]
    | none=>none
   | false=>none
  | _=>none
 | .box e m cs=>match o with
  | .box e' _ vs=>match Nat.beq e' e&&!m with
   | true=>jF s vw H cs vs
   | false=>none
  | _=>none
 | .deep e m f dk τ=>match o with
  | .deep e' _ _ dk' τ' a=>match Nat.beq e' e&&(!m&&!f) with
   | true=>match decEq dk' dk with
    | isTrue _=>match ik τ' τ a with
     | some a=>some [⟨τ,a⟩]
     | none=>none
    | isFalse _=>none
   | false=>none
  | _=>none
 | .lp key lv cs=>match o with
  | .lp key' n vs=>match Nat.beq key' key with
   | true=>match lv with
    | true=>match jF s vw H cs vs with
     | some xs=>some (⟨.int .i64,n⟩::xs)
     | none=>none
    | false=>match decEq n 0 with
     | isTrue _=>jF s vw H cs vs
     | isFalse _=>none
   | false=>none
  | _=>none
def mW (s:ah S) (vw:Bool) (H:List Nat):List Nat→List Oh→Option (List (bo S.α))
 | [],[]=>some []
 | h::hs,oh::r=>match aw s.bg h with
  | some o=>match G3 s vw H oh o with
   | some a=>match mW s vw H hs r with
    | some l=>some (a++l)
    | none=>none
   | none=>none
  | none=>none
 | _,_=>none
theorem Ik {s:ah S}{vw:Bool}{H:List Nat}{oh:Oh}{o:TO S}{xs:List (bo S.α)}(h:G3 s vw H oh o=some xs) (r:List (bo S.α)):(kS oh (xs++r)).2=r∧(kS oh (xs++r)).1.len=o.len∧
  ∀lnC:Nat→Nat,(∀i h,dr H h=some i→lnC (1000+i)=s.ln h)→pH H (ew s.er.st H vw) (o.er s.ln)=some ((kS oh (xs++r)).1.er lnC):=by
 unfold G3 at h
 split at h
 ·split at h
  ·split at h
   ·rename_i hc
    simp only[ai,a6] at hc
    obtain⟨c1,c2,c3⟩:=hc
    split at h
    ·rename_i l' hl
     cases h
     obtain⟨e,hl⟩:=nK hl
     subst e
     cases hl
     have c1:=aa c1
     subst c1;subst c2;subst c3
     exact⟨rfl,rfl,fun _ _=>rfl⟩
    ·cases h
   ·cases h
  ·cases h
 ·split at h
  ·split at h
   ·rename_i hc
    simp only[ai,a6] at hc
    have c1:=aa hc.1
    have c2:=hc.2
    subst c1;subst c2
    have i1:(cW _ (xs++r)).2=r:=(hZ (lnC:=fun k=>s.ln ((H[k-1000]?).getD 0)) (fun i h hi=>by simp[ec hi]) h r).1
    refine⟨i1,rfl,fun lnC hln=>?_⟩
    obtain⟨_,i2⟩:=hZ hln h r
    simp only[pH,TO.er,cond_false,i2,kS]
   ·cases h
  ·cases h
 ·split at h
  ·split at h
   ·rename_i hc
    simp only[ai,a6] at hc
    obtain⟨c1,c2,c3⟩:=hc
    split at h
    ·rename_i e _
     subst e
     split at h
     ·rename_i l' hl
      cases h
      have:=dW hl
      cases this
      have c1:=aa c1
      subst c1;subst c2;subst c3
      exact⟨rfl,rfl,fun _ _=>rfl⟩
     ·cases h
    ·cases h
   ·cases h
  ·cases h
 ·split at h
  ·split at h
   ·rename_i hc
    have c1:=aa hc
    subst c1
    split at h
    ·split at h
     ·rename_i xs' hx
      cases h
      have i1:(cW _ (xs'++r)).2=r:=(hZ (lnC:=fun k=>s.ln ((H[k-1000]?).getD 0)) (fun i h hi=>by simp[ec hi]) hx r).1
      refine⟨i1,rfl,fun lnC hln=>?_⟩
      obtain⟨_,i2⟩:=hZ hln hx r
      simp only[pH,TO.er,cond_false,i2,kS]
      rfl
     ·cases h
    ·split at h
     ·rename_i hn _
      subst hn
      have i1:(cW _ (xs++r)).2=r:=(hZ (lnC:=fun k=>s.ln ((H[k-1000]?).getD 0)) (fun i h hi=>by simp[ec hi]) h r).1
      refine⟨i1,rfl,fun lnC hln=>?_⟩
      obtain⟨_,i2⟩:=hZ hln h r
      simp only[pH,TO.er,cond_false,i2,kS]
     ·cases h
   ·cases h
  ·cases h
theorem yv {s:ah S}{vw:Bool}{H:List Nat}:∀{hs:List Nat}{l:List Oh}{xs:List (bo S.α)}(i:Nat),mW s vw H hs l=some xs→∀r,(ca (mb l (1000+i)) (xs++r)).2=r∧
  (∀n h,hs[n]?=some h→bZ (ca (mb l (1000+i)) (xs++r)).1 (1000+(i+n))=s.ln h)∧
  ∀lnC:Nat→Nat,(∀i h,dr H h=some i→lnC (1000+i)=s.ln h)→fC H (ew s.er.st H vw) s.er.st hs i=some (b8 lnC (ca (mb l (1000+i)) (xs++r)).1)
 | [],[],xs,i,h,r=>by simp only[mW] at h;cases h;exact⟨rfl,fun n h hn=>by simp at hn,fun _ _=>rfl⟩
 | h0::hs,oh::l,xs,i,h,r=>by
  simp only[mW] at h
  split at h
  ·rename_i o ho
   split at h
   ·rename_i a ha
    split at h
    ·rename_i l' hl
     cases h
     rw[aC]
     obtain⟨i1,i2,i3⟩:=Ik ha (l'++r)
     obtain⟨j1,j2,j3⟩:=yv (i+1) hl r
     simp only[mb,ca]
     rw[i1]
     refine⟨j1,fun n h hn=>?_,fun lnC hln=>?_⟩
     ·cases n with
      | zero=>
       cases hn
       unfold bZ ah.ln bZ
       simp only[di,aw,aG,cond_true,ho,i2]
      | succ n=>
       have:=j2 n h (by simpa using hn)
       rw[←this]
       have e:1000+(i+(n+1))=1000+(i+1+n):=by omega
       rw[e]
       unfold bZ
       rw[jl _ _ (by omega)]
       rfl
     ·simp only[fC,cO ho,i3 lnC hln,b8]
      have:=j3 lnC hln
      rw[show 1000+(i+1)=1000+i+1 by omega] at this
      rw[this]
    ·cases h
   ·cases h
  ·cases h
 | [],_::_,_,_,h,_=>by simp[mW] at h
 | _::_,[],_,_,h,_=>by simp[mW] at h
def TV.k6 (vw:Bool) (f:Nat→Option Nat):TV S→Option (TV S)
 | .af b τ a=>match !vw||(b||τ.fV) with
  | true=>some (.af b τ a)
  | false=>none
 | .ptr b τ a=>match !vw||b with
  | true=>some (.ptr b τ a)
  | false=>none
 | .loc h o=>match f h with
  | some h'=>some (.loc h' o)
  | none=>none
 | .aO h τ=>match f h with
  | some h'=>some (.aO h' τ)
  | none=>none
 | .sub h τ o n=>match f h with
  | some h'=>some (.sub h' τ o n)
  | none=>none
 | .gF h τ a j=>match f h with
  | some h'=>some (.gF h' τ a j)
  | none=>none
 | .agg l=>match go f l with
  | some l'=>some (.agg l')
  | none=>none
 | .bj l=>match go f l with
  | some l'=>some (.bj l')
  | none=>none
 | .aM g l=>match go f l with
  | some l'=>some (.aM g l')
  | none=>none
 | .val u=>some (.val u)
 | .any=>some .any
 | .cq h=>match f h with
  | some h'=>some (.cq h')
  | none=>none
 | .mp h=>match f h with
  | some h'=>some (.mp h')
  | none=>none
 | .ks h τ i n=>match f h with
  | some h'=>some (.ks h' τ i n)
  | none=>none
 | .kp h τ i j=>match f h with
  | some h'=>some (.kp h' τ i j)
  | none=>none
 | .fA b h τ i j=>match f h with
  | some h'=>some (.fA b h' τ i j)
  | none=>none
where go (f:Nat→Option Nat):List (TV S)→Option (List (TV S))
 | []=>some []
 | x::r=>match x.k6 vw f with
  | some y=>match go f r with
   | some ys=>some (y::ys)
   | none=>none
  | none=>none
theorem Ge (vw:Bool) (fm:Nat→Option Nat) (f:Bool){τ:Ty}(h:τ.fL=false) (hv:(!vw||(f||τ.fV))=true) (a:S.D τ):dH vw fm (dq f (dy S τ a))=some (dq f (dy S τ a)):=by
 cases τ with
 | st n=>cases h
 | list t=>
  cases f with
  | true=>rfl
  | false=>
   cases vw with
   | true=>cases hv
   | false=>rfl
 | _=>cases f <;> rfl
mutual
theorem LJ {vw:Bool}{f:Nat→Option Nat}{ln ln':Nat→Nat}(hln:∀k k',f k=some k'→ln' k'=ln k):∀(v v':TV S),v.k6 vw f=some v'→dH vw f (v.er ln)=some (v'.er ln')
 | .af b τ a,v',h=>by
  simp only[TV.k6] at h
  split at h
  ·rename_i hv
   cases h
   cases τ with
   | st n=>
    show(dH.go vw f ((aK S (.st n) a).map (dq b))).map G.agg=some (.agg ((aK S (.st n) a).map (dq b)))
    have hv:(!vw||b)=true:=by simpa[Ty.fV] using hv
    have:dH.go vw f ((aK S (.st n) a).map (dq b))=some ((aK S (.st n) a).map (dq b)):=by
     rw[gq]
     have h:=jP n a
     generalize S.cells n a=l at h
     induction l with
     | nil=>rfl
     | cons x r ih=>
      simp only[aH,dH.go]
      rw[Ge vw f b (h x av) (by rw[←Bool.or_assoc,hv];rfl) x.a,ih fun y hy=>h y (ao _ hy)]
    rw[this];rfl
   | _=>exact Ge vw f b rfl hv a
  ·cases h
 | .ptr b τ a,v',h=>by
  simp only[TV.k6] at h
  split at h
  ·rename_i hv
   cases h
   cases b with
   | true=>rfl
   | false=>
    cases vw with
    | true=>cases hv
    | false=>rfl
  ·cases h
 | .loc hh o,v',h=>by
  simp only[TV.k6] at h
  split at h
  ·rename_i i hi
   cases h
   simp only[TV.er,dH,hi,bG]
  ·cases h
 | .aO hh τ,v',h=>by
  simp only[TV.k6] at h
  split at h
  ·rename_i i hi
   cases h
   simp only[TV.er,dH,hi,bG,hln hh i hi]
  ·cases h
 | .sub hh τ o n,v',h=>by
  simp only[TV.k6] at h
  split at h
  ·rename_i i hi
   cases h
   simp only[TV.er,dH,hi,bG]
  ·cases h
 | .gF hh τ a j,v',h=>by
  simp only[TV.k6] at h
  split at h
  ·rename_i i hi
   cases h
   simp only[TV.er,dH,hi,bG]
  ·cases h
 | .agg l,v',h=>by
  simp only[TV.k6] at h
  split at h
  ·rename_i l' hl
   cases h
   simp only[TV.er,dH,sM hln l l' hl,bG]
  ·cases h
 | .bj l,v',h=>by
  simp only[TV.k6] at h
  split at h
  ·rename_i l' hl
   cases h
   simp only[TV.er,dH,sM hln l l' hl,bG]
  ·cases h
 | .aM g l,v',h=>by
  simp only[TV.k6] at h
  split at h
  ·rename_i l' hl
   cases h
   simp only[TV.er,dH,sM hln l l' hl,bG]
  ·cases h
 | .val u,v',h=>by simp only[TV.k6] at h;cases h;rfl
 | .any,v',h=>by simp only[TV.k6] at h;cases h;rfl
 | .cq hh,v',h=>by
  simp only[TV.k6] at h
  split at h
  ·rename_i i hi
   cases h
   simp only[TV.er,dH,hi,bG]
  ·cases h
 | .mp hh,v',h=>by
  simp only[TV.k6] at h
  split at h
  ·rename_i i hi
   cases h
   simp only[TV.er,dH,hi,bG]
  ·cases h
 | .ks hh _ _ _,v',h=>by
  simp only[TV.k6] at h
  split at h
  ·rename_i i hi
   cases h
   simp only[TV.er,dH,hi,bG]
  ·cases h
 | .kp hh _ _ _,v',h=>by
  simp only[TV.k6] at h
  split at h
  ·rename_i i hi
   cases h
   simp only[TV.er,dH,hi,bG]
  ·cases h
 | .fA b hh _ _ _,v',h=>by
  simp only[TV.k6] at h
  split at h
  ·rename_i i hi
   cases h
   cases b with
   | true=>rfl
   | false=>simp only[TV.er,cond_false,dH,hi,bG]
  ·cases h
theorem sM {vw:Bool}{f:Nat→Option Nat}{ln ln':Nat→Nat}(hln:∀k k',f k=some k'→ln' k'=ln k):∀(l l':List (TV S)),TV.k6.go vw f l=some l'→dH.go vw f (TV.er.go ln l)=some (TV.er.go ln' l')
 | [],l',h=>by cases h;rfl
 | x::r,l',h=>by
  simp only[TV.k6.go] at h
  split at h
  ·rename_i y hy
   split at h
   ·rename_i ys hys
    cases h
    simp only[TV.er.go,dH.go,LJ hln x y hy,sM hln r ys hys]
   ·cases h
  ·cases h
end
end
end Go.DN
/-
 DN,part X:what comes back of a call to which objects were lent.
-/
namespace Go.DN
open Go.AM
section
variable {S:eB}
def mF (vw:Bool) (f:Nat→Option Nat) (A:Bool) (gst:List (Nat×ap)):List (Nat×TO S)→List Nat→Option (List (Nat×TO S))
 | [],[]=>some []
 | (j,o)::r,h::hs=>match o with
  | .box e m cs=>match TV.k6.go vw f cs with
   | some cs'=>match mF vw f A gst r hs with
    | some r'=>some ((h,.box e (bif pinned j then yu gst h else m||A) cs')::r')
    | none=>none
   | none=>none
  | .aT e m b τ l=>match !vw||b with
   | true=>match mF vw f A gst r hs with
    | some r'=>some ((h,.aT e (bif pinned j then yu gst h else m||A) b τ l)::r')
    | none=>none
   | false=>none
  | .lp key n cs=>match TV.k6.go vw f cs with
   | some cs'=>match mF vw f A gst r hs with
    | some r'=>some ((h,.lp key n cs')::r')
    | none=>none
   | none=>none
  | .deep e m b dk τ l=>match !vw||b with
   | true=>match mF vw f A gst r hs with
    | some r'=>some ((h,.deep e (bif pinned j then yu gst h else m||A) b dk τ l)::r')
    | none=>none
   | false=>none
 | _,_=>none
theorem qT {vw:Bool}{f:Nat→Option Nat}{ln ln':Nat→Nat}(hln:∀k k',f k=some k'→ln' k'=ln k){A:Bool}{gst:List (Nat×ap)}:∀{outs:List (Nat×TO S)}{bk:List Nat}{sb:List (Nat×TO S)},mF vw f A gst outs bk=some sb→j8 vw f A gst (b8 ln outs) bk=some (b8 ln' sb)
 | [],[],sb,h=>by cases h;rfl
 | (j,o)::r,h0::hs,sb,h=>by
  simp only[mF] at h
  cases o with
  | lp p n cs=>
   dsimp only at h
   split at h
   ·rename_i cs' hcs
    split at h
    ·rename_i r' hr
     cases h
     simp only[b8,j8,qT hln hr,TO.er]
     simp only[s9,cond_false,sM hln cs cs' hcs,mT,pK,cond_true]
    ·cases h
   ·cases h
  | aT e m b τ l=>
   dsimp only at h
   split at h
   ·rename_i hv
    split at h
    ·rename_i r' hr
     cases h
     simp only[b8,j8,qT hln hr,TO.er]
     have hv:(vw&&!b)=false:=by cases vw <;> cases b <;> first | rfl | cases hv
     simp only[s9,cond_true,hv,cond_false,mT,pK]
     cases pinned j <;> rfl
    ·cases h
   ·cases h
  | deep e m b dk τ l=>
   dsimp only at h
   split at h
   ·rename_i hv
    split at h
    ·rename_i r' hr
     cases h
     simp only[b8,j8,qT hln hr,TO.er]
     have hv:(vw&&!b)=false:=by cases vw <;> cases b <;> first | rfl | cases hv
     simp only[s9,cond_true,hv,cond_false,mT,pK]
     cases pinned j <;> rfl
    ·cases h
   ·cases h
  | box e m cs=>
   dsimp only at h
   split at h
   ·rename_i cs' hcs
    split at h
    ·rename_i r' hr
     cases h
     simp only[b8,j8,qT hln hr,TO.er]
     simp only[s9,cond_false,sM hln cs cs' hcs,mT,pK,cond_true]
     cases pinned j <;> rfl
    ·cases h
   ·cases h
 | [],_::_,_,h=>by cases h
 | _::_,[],_,h=>by cases h
theorem y8 {vw:Bool}{f:Nat→Option Nat}{A:Bool}{gst:List (Nat×ap)}{ln:Nat→Nat}:∀{outs:List (Nat×TO S)}{bk:List Nat}{sb:List (Nat×TO S)},mF vw f A gst outs bk=some sb→nO bk=true→
  ∀k k',jh (b8 ln outs) bk k=some k'→k'∈bk∧∃o o',aw outs k=some o∧aw sb k'=some o'∧o'.len=o.len
 | [],[],sb,h,_,k,k',hk=>by cases hk
 | (j,o)::r,h0::hs,sb,h,hn,k,k',hk=>by
  simp only[nO,ai,a6] at hn
  have hsb:∃o' r',sb=(h0,o')::r'∧o'.len=o.len∧mF vw f A gst r hs=some r':=by
   simp only[mF] at h
   cases o with
   | lp p n cs=>
    dsimp only at h
    split at h
    ·split at h
     ·rename_i r' hr;cases h;exact⟨_,_,rfl,rfl,hr⟩
     ·cases h
    ·cases h
   | aT e m b τ l=>
    dsimp only at h
    split at h
    ·split at h
     ·rename_i r' hr;cases h;exact⟨_,_,rfl,rfl,hr⟩
     ·cases h
    ·cases h
   | deep e m b dk τ l=>
    dsimp only at h
    split at h
    ·split at h
     ·rename_i r' hr;cases h;exact⟨_,_,rfl,rfl,hr⟩
     ·cases h
    ·cases h
   | box e m cs=>
    dsimp only at h
    split at h
    ·split at h
     ·rename_i r' hr;cases h;exact⟨_,_,rfl,rfl,hr⟩
     ·cases h
    ·cases h
  obtain⟨o',r',rfl,hlen,hr⟩:=hsb
  simp only[b8,jh] at hk
  cases hb:Nat.beq j k with
  | true=>
   rw[hb] at hk
   cases hk
   have:=aa hb
   subst this
   exact⟨av,o,o',by simp only[aw,aG,cond_true],by simp only[aw,aG,cond_true],hlen⟩
  | false=>
   rw[hb] at hk
   obtain⟨i1,a,b,i2,i3,i4⟩:=y8 (ln:=ln) hr hn.2 k k' hk
   refine⟨ao _ i1,a,b,by simp only[aw,hb,cond_false];exact i2,?_,i4⟩
   have hne:Nat.beq h0 k'=false:=by
    cases hq:Nat.beq h0 k' with
    | false=>rfl
    | true=>
     have:=aa hq
     subst this
     have h2:=hn.1
     rw[fI.2 i1] at h2
     cases h2
   simp only[aw,hne,cond_false];exact i3
 | [],_::_,_,h,_,_,_,_=>by cases h
 | _::_,[],_,h,_,_,_,_=>by cases h
end
end Go.DN
/-
 DN,part Y:a call to which objects are lent:the caller's state behind it.
-/
namespace Go.DN
open Go.AM
section
variable {S:eB}
mutual
def RE:Sh→TV S→List (Nat×Nat)
 | .own r _,v=>match v with
  | .aO h _=>[(r,h)]
  | _=>[]
 | .loc r _,v=>match v with
  | .loc h _=>[(r,h)]
  | _=>[]
 | .aM _ l,v=>match v with
  | .aM _ vs=>sx l vs
  | _=>[]
 | .agg l,v=>match v with
  | .agg vs=>sx l vs
  | _=>[]
 | .cq r,v=>match v with
  | .cq h=>[(r,h)]
  | _=>[]
 | .mp r,v=>match v with
  | .mp h=>[(r,h)]
  | _=>[]
 | .ks r _,v=>match v with
  | .ks h _ _ _=>[(r,h)]
  | _=>[]
 | .sub r _,v=>match v with
  | .sub h _ _ _=>[(r,h)]
  | _=>[]
 | _,_=>[]
def sx:List Sh→List (TV S)→List (Nat×Nat)
 | x::r,v::vs=>RE x v++sx r vs
 | _,_=>[]
end
def look:List (Nat×Nat)→Nat→Option Nat
 | [],_=>none
 | (k,h)::r,j=>bif Nat.beq k j then some h else look r j
def yc (st:List (Nat×TO S)):List Oh→Nat→List (Nat×Nat)→Option (List Nat)
 | [],_,_=>some []
 | oh::r,j,ps=>match look ps j with
  | some h=>match yc st r (j+1) (match oh with
    | .box _ _ cs=>match aw st h with
     | some (.box _ _ vs)=>ps++sx cs vs
     | _=>ps
    | .lp _ _ cs=>match aw st h with
     | some (.lp _ _ vs)=>ps++sx cs vs
     | _=>ps
    | _=>ps) with
   | some hs=>some (h::hs)
   | none=>none
  | none=>none
def QN (s:ah S) (used:List Nat):Nat→Nat→Nat
 | k,0=>k
 | k,n+1=>bif s.free k&&!(br k used) then k else QN s used (k+1) n
def RX (H:List Nat) (j:Nat) (used:List Nat) (h:Nat):Nat:=match Nat.ble 480 j with
 | true=>match H[j-480]? with
  | some h'=>bif Nat.blt h' 1000&&!(br h' used) then h' else h
  | none=>h
 | false=>h
def MO (s:ah S) (H:List Nat) (d:Nat):List Nat→List Nat→Option (List Nat)
 | [],_=>some []
 | j::r,used=>match pinned j with
  | true=>match H[j-1000]? with
   | some h=>match MO s H d r (h::used) with
    | some hs=>some (h::hs)
    | none=>none
   | none=>none
  | false=>match RX H j used (bif s.free d&&!(br d used) then d else QN s used s.nx 8) with
   | h=>match MO s H d r (h::used) with
    | some hs=>some (h::hs)
    | none=>none
def uY (s:ah S) (H:List Nat):List Nat→List Nat→Bool
 | [],[]=>true
 | j::r,h::hs=>!(br j r)&&(!(br h hs)&&((bif pinned j then OU H (j-1000) h else Nat.blt h 1000&&((dr H h).isSome||s.free h))&&uY s H r hs))
 | _,_=>false
theorem wQ {ln:Nat→Nat}{j:Nat}:∀l:List (Nat×TO S),gi (b8 ln l) j=br j (aE l)
 | []=>rfl
 | (k,o)::r=>by
  simp only[b8,gi,aE,br,wQ r]
  cases Nat.beq k j <;> rfl
theorem rU {h:Nat}{l:List Nat}:l.contains h=br h l:=by
 cases hb:br h l with
 | true=>exact fI.2 (bO.1 hb)
 | false=>
  cases hc:l.contains h with
  | false=>rfl
  | true=>rw[bO.2 (fI.1 hc)] at hb;cases hb
theorem Bj {s:ah S}{H:List Nat}{ln:Nat→Nat}:∀{O:List (Nat×TO S)}{bk:List Nat},uY s H (aE O) bk=true→nY s.er H (b8 ln O) bk=true∧nO bk=true
 | [],[],_=>⟨rfl,rfl⟩
 | (j,o)::r,h::hs,e=>by
  simp only[aE,uY,ai,a6] at e
  obtain⟨e1,e2,e3,e4⟩:=e
  obtain⟨i1,i2⟩:=Bj (ln:=ln) e4
  refine⟨?_,?_⟩
  ·simp only[b8,nY,wQ,rU,e1,e2,i1,iw,iW,Bool.true_and]
   cases hp:pinned j with
   | true=>rw[hp] at e3;exact e3
   | false=>
    rw[hp] at e3
    simp only[cond_false,ai,dC] at e3⊢
    exact⟨e3.1,e3.2.imp id gk⟩
  ·simp only[nO,rU,e2,i2,iw,iW]
 | [],_::_,e=>by cases e
 | _::_,[],e=>by cases e
theorem yX {s:ah S}{H:List Nat}:∀{js bk:List Nat},uY s H js bk=true→∀k,k∈bk→k∈H∨s.free k=true
 | [],[],_,k,hk=>by cases hk
 | j::r,h::hs,e,k,hk=>by
  simp only[uY,ai] at e
  obtain⟨_,_,e3,e4⟩:=e
  rcases aX.1 hk with rfl | hk
  ·cases hp:pinned j with
   | true=>rw[hp] at e3;exact .inl (ar (Mj e3))
   | false=>
    rw[hp] at e3
    simp only[cond_false,ai,dC] at e3
    rcases e3.2 with h | h
    ·obtain⟨i,hi⟩:=Option.isSome_iff_exists.1 h
     exact .inl (ar (ec hi))
    ·exact .inr h
  ·exact yX e4 k hk
 | [],_::_,e,_,_=>by cases e
 | _::_,[],e,_,_=>by cases e
def cL (js:List Nat):List Nat→Nat→List Nat
 | [],_=>[]
 | h::r,i=>bif br (1000+i) js then cL js r (i+1) else h::cL js r (i+1)
theorem w9 {ln:Nat→Nat}{O:List (Nat×TO S)}:∀(H:List Nat) (i:Nat),dP (b8 ln O) H i=cL (aE O) H i
 | [],_=>rfl
 | h::r,i=>by simp only[dP,cL,wQ,w9 r (i+1)]
def xu:List Nat→TV S→Bool
 | [],_=>false
 | h::r,v=>v.has h||xu r v
theorem CH (ln:Nat→Nat) (v:TV S):∀ds:List Nat,oP ds (v.er ln)=xu ds v
 | []=>rfl
 | h::r=>by simp only[oP,xu,tA,CH ln v r]
def pU (ds:List Nat):List (Nat×TV S)→List (Nat×TV S)
 | []=>[]
 | (t,v)::r=>(t,bif xu ds v then .any else v)::pU ds r
def nh (ds:List Nat):List (TV S)→Bool
 | []=>true
 | v::r=>!(xu ds v)&&nh ds r
def yR (ds:List Nat):List (Nat×TV S)→Bool
 | []=>true
 | (_,v)::r=>!(xu ds v)&&yR ds r
def ng (ds:List Nat):List (Nat×TO S)→Bool
 | []=>true
 | (_,.box _ _ cs)::r=>nh ds cs&&ng ds r
 | (_,.aT ..)::r=>ng ds r
 | (_,.deep ..)::r=>ng ds r
 | (_,.lp _ _ cs)::r=>nh ds cs&&ng ds r
def jX (H:List Nat):List (Nat×TO S)→List (Nat×TO S)
 | []=>[]
 | (h,o)::r=>match dr H h with
  | some _=>jX H r
  | none=>(h,o)::jX H r
def mV (s:ah S) (sb:List (Nat×TO S)){A:Type}:List Nat→Option A→Option A
 | [],k=>k
 | h::r,k=>match aw sb h with
  | none=>mV s sb r k
  | some o'=>match aw s.bg h with
   | some (.aT _ _ _ τ l)=>match o' with
    | .aT _ _ _ τ' l'=>bif Nat.beq (List.length l') (List.length l) then mV s sb r k else none
    | _=>none
   | some (.box _ _ _)=>match o' with
    | .box _ _ _=>mV s sb r k
    | _=>none
   | some (.lp _ _ _)=>match o' with
    | .lp _ _ _=>mV s sb r k
    | _=>none
   | some (.deep _ _ _ _ τ l)=>match o' with
    | .deep _ _ _ _ τ' l'=>bif Nat.beq (rO τ' l') (rO τ l) then mV s sb r k else none
    | _=>none
   | _=>none
theorem mU {s:ah S}{sb:List (Nat×TO S)}{A:Type}{k:Option A}{r:A}:∀{H:List Nat},mV s sb H k=some r→k=some r∧∀h,h∈H→∀o',aw sb h=some o'→o'.len=s.ln h
 | [],e=>⟨e,fun h hm=>by cases hm⟩
 | h0::hs,e=>by
  simp only[mV] at e
  split at e
  ·rename_i hn
   obtain⟨i1,i2⟩:=mU e
   refine⟨i1,fun h hm o' ho=>?_⟩
   rcases aX.1 hm with rfl | hm
   ·rw[hn] at ho;cases ho
   ·exact i2 h hm o' ho
  ·rename_i o1 ho1
   split at e
   ·rename_i a b c τ l hs1
    split at e
    ·rename_i τ' l'
     cases hb:Nat.beq (List.length l') (List.length l) with
     | false=>rw[hb] at e;cases e
     | true=>
      rw[hb] at e
      obtain⟨i1,i2⟩:=mU e
      refine⟨i1,fun h hm o' ho=>?_⟩
      rcases aX.1 hm with rfl | hm
      ·rw[ho1] at ho
       cases ho
       unfold ah.ln bZ
       rw[hs1]
       exact aa hb
      ·exact i2 h hm o' ho
    ·cases e
   ·rename_i a b c hs1
    split at e
    ·obtain⟨i1,i2⟩:=mU e
     refine⟨i1,fun h hm o' ho=>?_⟩
     rcases aX.1 hm with rfl | hm
     ·rw[ho1] at ho
      cases ho
      unfold ah.ln bZ
      rw[hs1]
      rfl
     ·exact i2 h hm o' ho
    ·cases e
   ·rename_i a b c hs1
    split at e
    ·obtain⟨i1,i2⟩:=mU e
     refine⟨i1,fun h hm o' ho=>?_⟩
     rcases aX.1 hm with rfl | hm
     ·rw[ho1] at ho
      cases ho
      unfold ah.ln bZ
      rw[hs1]
      rfl
     ·exact i2 h hm o' ho
    ·cases e
   ·rename_i a b c dk τ l hs1
    split at e
    ·rename_i τ' l'
     cases hb:Nat.beq (rO τ' l') (rO τ l) with
     | false=>rw[hb] at e;cases e
     | true=>
      rw[hb] at e
      obtain⟨i1,i2⟩:=mU e
      refine⟨i1,fun h hm o' ho=>?_⟩
      rcases aX.1 hm with rfl | hm
      ·rw[ho1] at ho
       cases ho
       unfold ah.ln bZ
       rw[hs1]
       exact aa hb
      ·exact i2 h hm o' ho
    ·cases e
   ·cases e
theorem qn {vw A:Bool}{f:Nat→Option Nat}{gst:List (Nat×ap)}:∀{outs:List (Nat×TO S)}{bk:List Nat}{sb:List (Nat×TO S)},mF vw f A gst outs bk=some sb→aE sb=bk
 | [],[],sb,h=>by cases h;rfl
 | (j,o)::r,h0::hs,sb,h=>by
  simp only[mF] at h
  cases o with
  | lp p n cs=>
   dsimp only at h
   split at h
   ·split at h
    ·rename_i r' hr;cases h;simp only[aE,qn hr]
    ·cases h
   ·cases h
  | aT e m b τ l=>
   dsimp only at h
   split at h
   ·split at h
    ·rename_i r' hr;cases h;simp only[aE,qn hr]
    ·cases h
   ·cases h
  | deep e m b dk τ l=>
   dsimp only at h
   split at h
   ·split at h
    ·rename_i r' hr;cases h;simp only[aE,qn hr]
    ·cases h
   ·cases h
  | box e m cs=>
   dsimp only at h
   split at h
   ·split at h
    ·rename_i r' hr;cases h;simp only[aE,qn hr]
    ·cases h
   ·cases h
 | [],_::_,_,h=>by cases h
 | _::_,[],_,h=>by cases h
theorem wB {H:List Nat}{h:Nat}(hi:dr H h=none):∀{st:List (Nat×TO S)},aw (jX H st) h=aw st h
 | []=>rfl
 | (x,o)::r=>by
  simp only[jX]
  cases hx:dr H x with
  | some i=>
   simp only[]
   rw[wB hi]
   refine(jl o r fun e=>?_).symm
   subst e;rw[hi] at hx;cases hx
  | none=>
   simp only[aw]
   rw[wB hi]
theorem Dc {H:List Nat}{ln:Nat→Nat}:∀st:List (Nat×TO S),ft H (b8 ln st)=b8 ln (jX H st)
 | []=>rfl
 | (x,o)::r=>by
  simp only[b8,ft,jX]
  cases dr H x with
  | some i=>exact Dc r
  | none=>simp only[b8,Dc r]
theorem wC {H:List Nat}:∀(a b:List (Nat×TO S)),jX H (a++b)=jX H a++jX H b
 | [],_=>rfl
 | (x,o)::r,b=>by
  simp only[bx,jX]
  cases dr H x with
  | some i=>exact wC r b
  | none=>simp only[bx,wC r b]
theorem Db {H:List Nat}:∀{l:List (Nat×TO S)},apart (aE l) H=true→jX H l=l
 | [],_=>rfl
 | (x,o)::r,e=>by
  have h1:=apart_spec e
  simp only[jX]
  have:dr H x=none:=by
   cases hx:dr H x with
   | none=>rfl
   | some i=>exact absurd (ar (ec hx)) (h1 x (by simp[aE]))
  rw[this]
  simp only[]
  rw[Db]
  simp only[aE,apart] at e
  split at e
  ·cases e
  ·exact e
def dM (s:ah S) (H ds:List Nat) (sb:List (Nat×TO S)) (n:Nat):ah S:={fr:=pU ds s.fr,lo:=s.lo,st:=sb++jX H s.st,bL:=s.bL,df:=s.df,nx:=s.nx+n,last:=[]}
theorem RH {s:ah S}{H js bk ds:List Nat}{sb:List (Nat×TO S)}{n:Nat}(hb:uY s H js bk=true) (hk:aE sb=bk) (hH:apart H (aE s.bL)=true) (hl:∀h,h∈H→h∉ds→∀o',aw sb h=some o'→o'.len=s.ln h)
  (hd:∀h,h∈H→h∉ds→h∈bk) (k:Nat) (h1:k∉ds) (h2:s.free k=false∨k∈H):(dM s H ds sb n).ln k=s.ln k:=by
 unfold ah.ln
 have key:∀o,aw sb k=some o→bZ (sb++jX H s.st++s.bL) k=o.len:=by
  intro o ho
  unfold bZ
  rw[aC,db,ho]
 show bZ (sb++jX H s.st++s.bL) k=bZ s.bg k
 by_cases hkH:k∈H
 ·have hkb:=hd k hkH h1
  rw[←hk] at hkb
  obtain⟨o,ho⟩:=mQ hkb
  rw[key o ho]
  exact hl k hkH h1 o ho
 ·have hkb:k∉bk:=fun hm=>by
   rcases yX hb k hm with h | h
   ·exact hkH h
   ·rcases h2 with h2 | h2
    ·rw[h2] at h;cases h
    ·exact hkH h2
  have hi:dr H k=none:=by
   cases hx:dr H k with
   | none=>rfl
   | some i=>exact absurd (ar (ec hx)) hkH
  unfold bZ
  rw[aC,db,la (by rw[hk];exact hkb),db,wB hi]
  unfold ah.bg
  rw[db]
theorem Bq {ds:List Nat}{v:TV S}(h:xu ds v=false):∀k,v.has k=true→k∉ds:=by
 induction ds with
 | nil=>intro k _ hm;cases hm
 | cons x r ih=>
  simp only[xu,bD] at h
  intro k hk hm
  rcases aX.1 hm with rfl | hm
  ·rw[h.1] at hk;cases hk
  ·exact ih h.2 k hk hm
theorem HI {ds:List Nat}{ln ln':Nat→Nat}:∀{fr:List (Nat×TV S)},(∀k,k∉ds→gl k fr=true→ln' k=ln k)→fZ ln' (pU ds fr)=l5 ds (fZ ln fr)
 | [],_=>rfl
 | (t,v)::r,h=>by
  simp only[pU,fZ,l5,uO,CH]
  rw[HI fun k h1 h2=>h k h1 (by simp[gl,h2])]
  cases ha:xu ds v with
  | true=>rfl
  | false=>
   simp only[cond_false]
   rw[oJ v fun k hk=>h k (Bq ha k hk) (by simp[gl,hk])]
theorem yQ {ds:List Nat}:∀{fr:List (Nat×TV S)},yR ds fr=true→pU ds fr=fr
 | [],_=>rfl
 | (t,v)::r,h=>by
  simp only[yR,ai,a6] at h
  simp only[pU,h.1,cond_false,yQ h.2]
theorem ED {ds:List Nat}:∀(a b:List (Nat×TV S)),pU ds (a++b)=pU ds a++pU ds b
 | [],_=>rfl
 | (t,v)::r,b=>by simp only[bx,pU,ED r b]
theorem Bc {ds:List Nat}{ln ln':Nat→Nat}:∀{l:List (TV S)},nh ds l=true→(∀k,k∉ds→TV.has.go k l=true→ln' k=ln k)→TV.er.go ln' l=(TV.er.go ln l).map (uO ds)
 | [],_,_=>rfl
 | v::r,e,h=>by
  simp only[nh,ai,a6] at e
  simp only[TV.er.go,aH,uO,CH,e.1,cond_false]
  rw[oJ (ln':=ln) v fun k hk=>h k (Bq e.1 k hk) (by simp[TV.has.go,hk]),Bc e.2 fun k h1 h2=>h k h1 (by simp[TV.has.go,h2])]
theorem tG {ds:List Nat}{ln ln':Nat→Nat}:∀{st:List (Nat×TO S)},ng ds st=true→(∀k,k∉ds→eH k st=true→ln' k=ln k)→b8 ln' st=fj ds (b8 ln st)
 | [],_,_=>rfl
 | (x,.aT e m f τ l)::r,hc,h=>by
  simp only[ng] at hc
  simp only[b8,fj,TO.er,rh,cond_true]
  rw[tG hc fun k h1 h2=>h k h1 (by simp[eH,h2])]
 | (x,.deep e m f dk τ l)::r,hc,h=>by
  simp only[ng] at hc
  simp only[b8,fj,TO.er,rh,cond_true]
  rw[tG hc fun k h1 h2=>h k h1 (by simp[eH,h2])]
 | (x,.box e m cs)::r,hc,h=>by
  simp only[ng,ai] at hc
  simp only[b8,fj,TO.er,rh,cond_false]
  rw[tG hc.2 fun k h1 h2=>h k h1 (by simp[eH,h2]),Bc hc.1 fun k h1 h2=>h k h1 (by simp[eH,TO.has,h2])]
 | (x,.lp p n cs)::r,hc,h=>by
  simp only[ng,ai] at hc
  simp only[b8,fj,TO.er,rh,cond_false]
  rw[tG hc.2 fun k h1 h2=>h k h1 (by simp[eH,h2]),Bc hc.1 fun k h1 h2=>h k h1 (by simp[eH,TO.has,h2])]
theorem wh {H:List Nat}{k:Nat}:∀{st:List (Nat×TO S)},eH k (jX H st)=true→eH k st=true
 | [],h=>h
 | (x,o)::r,h=>by
  simp only[jX] at h
  simp only[eH,dC]
  split at h
  ·exact .inr (wh h)
  ·simp only[eH,dC] at h
   exact h.imp id wh
theorem HB (ln:Nat→Nat):∀(a b:List (Nat×TO S)),b8 ln (a++b)=b8 ln a++b8 ln b
 | [],_=>rfl
 | (x,o)::r,b=>by simp only[bx,b8,HB ln r b]
def named (s:ah S) (k:Nat):Bool:=gl k s.bW||(eH k s.bg||TV.has.go k s.df)
theorem J6 {s:ah S}{k:Nat}(h:named s k=true):s.free k=false:=by
 cases hf:s.free k with
 | false=>rfl
 | true=>
  obtain⟨_,h2,h3,h4,_⟩:=free_spec hf
  unfold named at h
  rw[h2,h3,h4] at h
  cases h
theorem EL {s:ah S}{H js bk ds:List Nat}{sb:List (Nat×TO S)}{n:Nat}(hb:uY s H js bk=true) (hk:aE sb=bk) (hH:apart H (aE s.bL)=true) (hl:∀h,h∈H→h∉ds→∀o',aw sb h=some o'→o'.len=s.ln h)
  (hd:∀h,h∈H→h∉ds→h∈bk) (c1:yR ds s.lo=true) (c2:ng ds (jX H s.st++s.bL)=true) (c3:nh ds s.df=true):
  (dM s H ds sb n).er=⟨l5 ds s.er.fr,b8 (dM s H ds sb n).ln sb++fj ds (ft H s.er.st),s.er.df⟩:=by
 have key:∀k,k∉ds→named s k=true→(dM s H ds sb n).ln k=s.ln k:=fun k h1 h2=>RH hb hk hH hl hd k h1 (.inl (J6 h2))
 have e1:fZ (dM s H ds sb n).ln (dM s H ds sb n).bW=l5 ds s.er.fr:=by
  show fZ _ (pU ds s.fr++s.lo)=l5 ds (fZ s.ln (s.fr++s.lo))
  rw[←yQ c1,←ED]
  rw[yQ c1]
  exact HI fun k h1 h2=>key k h1 (by unfold named ah.bW;rw[h2];rfl)
 have hap:apart (aE s.bL) H=true:=by
  have h:=apart_spec hH
  have:∀(l:List Nat),(∀x,x∈l→x∉H)→apart l H=true:=by
   intro l
   induction l with
   | nil=>intro _;rfl
   | cons x r ih=>
    intro hh
    simp only[apart]
    cases hm:br x H with
    | true=>exact absurd (bO.1 hm) (hh x av)
    | false=>exact ih fun y hy=>hh y (ao _ hy)
  exact this _ fun x hx hxH=>h x hxH hx
 have e2:b8 (dM s H ds sb n).ln (dM s H ds sb n).bg=b8 (dM s H ds sb n).ln sb++fj ds (ft H s.er.st):=by
  show b8 _ ((sb++jX H s.st)++s.bL)=_++fj ds (ft H (b8 s.ln (s.st++s.bL)))
  rw[aC,HB,Dc,wC,Db hap]
  congr 1
  refine tG c2 fun k h1 h2=>key k h1 ?_
  have:eH k s.bg=true:=by
   refine wh (H:=H) ?_
   unfold ah.bg
   rw[wC,Db hap]
   exact h2
  unfold named
  rw[this];simp
 have e3:TV.er.go (dM s H ds sb n).ln s.df=TV.er.go s.ln s.df:=by
  refine lq _ fun k hk=>?_
  have cP:∀(l:List (TV S)),nh ds l=true→TV.has.go k l=true→k∉ds:=by
   intro l
   induction l with
   | nil=>intro _ h;cases h
   | cons x r ih=>
    intro h1 h2
    simp only[nh,ai,a6] at h1
    simp only[TV.has.go,dC] at h2
    rcases h2 with h2 | h2
    ·exact Bq h1.1 k h2
    ·exact ih h1.2 h2
  exact key k (cP _ c3 hk) (by unfold named;rw[hk];simp)
 show St.mk _ _ _=St.mk _ _ _
 rw[e1,e2]
 exact congrArg _ e3
end
end Go.DN
/-
 DN,part Z:calls by eo.
-/
namespace Go.DN
open Go.AM
section
variable {S:eB}
def E5 (ok:Nat→Bool):List Nat→Bool
 | []=>true
 | h::r=>ok h&&E5 ok r
theorem Gy {ok:Nat→Bool}{W:List Nat}(hW:∀h,ok h=true→W.contains h=true):∀{H:List Nat},E5 ok H=true→xy H W=true
 | [],_=>rfl
 | h::r,e=>by
  simp only[E5,ai] at e
  have:=Gy hW e.2
  unfold xy at this⊢
  simp only[List.all_cons,this,hW h e.1,fH]
def dT (con:cE S) (r:bj S.α (JH.dg ⟨con.aA,con.outs⟩)):List (Nat×TO S):=(ca con.outs (cu con.aA (leaves _ r)).2).1
def OZ (s:ah S) (H:List Nat) (con:cE S) (r:bj S.α (JH.dg ⟨con.aA,con.outs⟩)) (bk:List Nat):Option (List (Nat×TO S)):=
 mF con.vw (jh (b8 (bZ (dT con r)) (dT con r)) bk) (jm s.er.st (b8 (bZ (dT con r)) (dT con r)) H 0) s.er.st (dT con r) bk
def R3 (con:cE S) (r:bj S.α (JH.dg ⟨con.aA,con.outs⟩)) (bk:List Nat):Option (TV S):=
 (lE con.aA (leaves _ r)).k6 con.vw (jh (b8 (bZ (dT con r)) (dT con r)) bk)
def qF (s:ah S) (H ds:List Nat) (js bk:List Nat):Bool:=
 uY s H js bk&&(within (minus H ds) bk&&(yR ds s.lo&&(ng ds (jX H s.st++s.bL)&&nh ds s.df)))
where minus (H ds:List Nat):List Nat:=match H with
 | []=>[]
 | h::r=>bif br h ds then minus r ds else h::minus r ds
theorem o5 {ds:List Nat}:∀{H:List Nat}{h:Nat},h∈H→h∉ds→h∈qF.minus H ds
 | x::r,h,hm,hd=>by
  simp only[qF.minus]
  cases hb:br x ds with
  | true=>
   rw[cond_true]
   rcases aX.1 hm with rfl | hm
   ·exact absurd (bO.1 hb) hd
   ·exact o5 hm hd
  | false=>
   rw[cond_false]
   rcases aX.1 hm with rfl | hm
   ·exact av
   ·exact ao _ (o5 hm hd)
def CD (ok:Nat→Bool) (con:cE S) (s:ah S) (d:Nat) (vs:List (TV S)){A:Type}(k:ah S→Option A):Option A:=
 match yc s.bg con.aZ 1000 (sx con.args vs) with
 | some H=>match nO H&&(E5 ok H&&apart H (aE s.bL)) with
  | true=>match jF s con.vw H con.args vs with
   | some xs=>match mW s con.vw H H con.aZ with
    | some ys=>match ly (j7 con.args con.aZ) (xs++ys) with
     | some q=>(con.F q).bind fun r=>match MO s H d (aE con.outs) [] with
      | some bk=>match qF s H (cL (aE con.outs) H 0) (aE con.outs) bk with
       | true=>match OZ s H con r bk with
        | some sb=>match R3 con r bk with
         | some rv=>mV s sb (qF.minus H (cL (aE con.outs) H 0)) (k ((dM s H (cL (aE con.outs) H 0) sb con.outs.length).put d rv))
         | none=>none
        | none=>none
       | false=>none
      | none=>none
     | none=>none
    | none=>none
   | none=>none
  | false=>none
 | none=>none
theorem wP (con:cE S) (r:bj S.α (JH.dg ⟨con.aA,con.outs⟩)):aE (dT con r)=aE con.outs:=jK _ _
theorem xf {ln:Nat→Nat}{ds:List Nat}:∀{l:List (TV S)},nh ds l=true→(TV.er.go ln l).all (fun g=>!(oP ds g))=true
 | [],_=>rfl
 | v::r,e=>by
  simp only[nh,ai,a6] at e
  simp only[TV.er.go,List.all_cons,CH,e.1,xf e.2,iw,fH]
theorem Be {P:Program}{W:List Nat}{ok:Nat→Bool}(hW:∀h,ok h=true→W.contains h=true){con:cE S}(C:aV P con){s:ah S}{d:Nat}{vs:List (TV S)}{A:Type}{k:ah S→Option A}{r:A}(hl:aY s) (h:CD ok con s d vs k=some r)
  {o:Oper}(heff:∀{gs':List G}{stC:List (Nat×ap)}{Q:G→List (Nat×ap)→Prop}{T:St→Prop}(H:List Nat) (vw:Bool),cg.go H (ew s.er.st H vw) (TV.er.go s.ln vs)=some gs'→fC H (ew s.er.st H vw) s.er.st H 0=some stC→nO H=true→GM P con.f gs' stC Q→
   (∀r st',Q r st'→∃bk s2 r',nM vw s.er H st' bk=some s2∧dH vw (jh st' bk) r=some r'∧T (s2.put d r'))→xy H W=true→bH P W s.er o T):
  ∃T:St→Prop,bH P W s.er o T∧∀s',T s'→∃t:ah S,Gh s' t.er∧aY t∧bz s t∧k t=some r:=by
 unfold CD at h
 split at h
 ·rename_i H hH
  split at h
  ·rename_i hc
   simp only[ai] at hc
   obtain⟨c1,c2,c3⟩:=hc
   split at h
   ·rename_i xl hx
    split at h
    ·rename_i yl hy
     split at h
     ·rename_i q hq
      have hlq:=fW hq
      have hrest:(cW con.args (leaves _ q)).2=yl:=by
       rw[hlq]
       exact(hZ (lnC:=fun k=>s.ln ((H[k-1000]?).getD 0)) (fun i h hi=>by simp[ec hi]) hx yl).1
      have hst:(eU con.args con.aZ (leaves _ q)).bg=(ca (mb con.aZ 1000) yl).1:=by
       show(ca (mb con.aZ 1000) (cW con.args (leaves _ q)).2).1++[]=_
       rw[b9,hrest]
      obtain⟨o1,o2,o3⟩:=yv 0 hy []
      rw[b9] at o1 o2 o3
      have hln:∀i h,dr H h=some i→(eU con.args con.aZ (leaves _ q)).ln (1000+i)=s.ln h:=by
       intro i h hi
       have:=o2 i h (ec hi)
       rw[bQ] at this
       unfold ah.ln
       rw[hst]
       exact this
      have hargs:=(hZ hln hx yl).2
      rw[←hlq] at hargs
      have hobjs:=o3 _ hln
      have hst2:(eU con.args con.aZ (leaves _ q)).er.st=b8 (eU con.args con.aZ (leaves _ q)).ln (ca (mb con.aZ 1000) yl).1:=by
       show b8 _ _=_
       rw[hst]
      refine⟨fun s'=>∃t:ah S,Gh s' t.er∧aY t∧bz s t∧k t=some r,?_,fun s' h=>h⟩
      obtain⟨res,h1,h2⟩:=bind_some h
      refine heff (stC:=(eU con.args con.aZ (leaves _ q)).er.st) H con.vw hargs (by rw[hst2];exact hobjs) c1 (C.ok q res h1) ?_ (Gy hW c2)
      rintro g st' ⟨rfl,rfl⟩
      split at h2
      ·rename_i bk hbk
       split at h2
       ·rename_i hf
        simp only[qF,ai] at hf
        obtain⟨f1,f2,f3,f4,f5⟩:=hf
        split at h2
        ·rename_i sb hsb
         split at h2
         ·rename_i rv hrv
          obtain⟨k1,k2⟩:=mU h2
          have hkeys:aE sb=bk:=qn hsb
          have hd:∀h,h∈H→h∉cL (aE con.outs) H 0→h∈bk:=fun h h1 h2=>l7 f2 h (o5 h1 h2)
          have her:=EL (n:=con.outs.length) f1 hkeys c3 (fun h h1 h2=>k2 h (o5 h1 h2)) hd f3 f4 f5
          have f1':=f1
          rw[←wP con res] at f1'
          obtain⟨b1,b2⟩:=Bj (ln:=bZ (dT con res)) f1'
          have hlnB:∀a b,jh (b8 (bZ (dT con res)) (dT con res)) bk a=some b→(dM s H (cL (aE con.outs) H 0) sb con.outs.length).ln b=bZ (dT con res) a:=by
           intro a b hab
           obtain⟨_,o,o',g1,g2,g3⟩:=y8 hsb b2 a b hab
           unfold ah.ln bZ
           show(match aw ((sb++jX H s.st)++s.bL) b with | some o=>o.len | none=>0)=_
           rw[aC,db,g2,g1]
           exact g3
          have hds:dP (b8 (bZ (dT con res)) (dT con res)) H 0=cL (aE con.outs) H 0:=by rw[w9,wP]
          refine⟨bk,⟨l5 (cL (aE con.outs) H 0) s.er.fr,b8 (dM s H (cL (aE con.outs) H 0) sb con.outs.length).ln sb++fj (cL (aE con.outs) H 0) (ft H s.er.st),s.er.df⟩,rv.er (dM s H (cL (aE con.outs) H 0) sb con.outs.length).ln,?_,LJ hlnB _ _ hrv,_,?_,gE (t:=(dM s H (cL (aE con.outs) H 0) sb con.outs.length).put d rv) rfl,⟨rfl,rfl,rfl⟩,k1⟩
          ·unfold nM
           have hb:j8 con.vw (jh (b8 (bZ (dT con res)) (dT con res)) bk) (jm s.er.st (b8 (bZ (dT con res)) (dT con res)) H 0) s.er.st (b8 (bZ (dT con res)) (dT con res)) bk=some (b8 (dM s H (cL (aE con.outs) H 0) sb con.outs.length).ln sb):=qT hlnB hsb
           have hdf:s.er.df.all (fun g=>!(oP (dP (b8 (bZ (dT con res)) (dT con res)) H 0) g))=true:=by
            rw[hds];exact xf f5
           show(bif nY s.er H (b8 (bZ (dT con res)) (dT con res)) bk&&s.er.df.all (fun g=>!(oP (dP (b8 (bZ (dT con res)) (dT con res)) H 0) g)) then _ else none)=_
           rw[b1,hdf]
           show(match j8 con.vw (jh (b8 (bZ (dT con res)) (dT con res)) bk) (jm s.er.st (b8 (bZ (dT con res)) (dT con res)) H 0) s.er.st (b8 (bZ (dT con res)) (dT con res)) bk with
            | some sb=>some ({fr:=l5 (dP (b8 (bZ (dT con res)) (dT con res)) H 0) s.er.fr,st:=sb++fj (dP (b8 (bZ (dT con res)) (dT con res)) H 0) (ft H s.er.st),df:=s.er.df}:St)
            | none=>none)=_
           rw[hb,hds]
          ·rw[fB,her]
           exact Gh.refl _
         ·cases h2
        ·cases h2
       ·cases h2
      ·cases h2
     ·cases h
    ·cases h
   ·cases h
  ·cases h
 ·cases h
theorem EF.L9 {P:Program}{W:List Nat}{s:St}{d:Nat}{ty:TypeId}{pos:String}{after:Array Edge}{guard:Option (Nat×Bool)}{f:FuncId}{x:Operand}{xs:Array Operand}{ts:Array TypeId}{gs caps gs':List G}{stC:List (Nat×ap)}{Q:G→List (Nat×ap)→Prop}{T:St→Prop}(H:List Nat) (vw:Bool) (hc:∀args w,(callFunc f args).run P w=.ok (.enter f args) w)
  (hf:ev s x=some (.aM f caps)) (hx:tF s xs.toList=some gs) (hv:cg.go H (ew s.st H vw) (gs++caps)=some gs') (hl:fC H (ew s.st H vw) s.st H 0=some stC) (cP:nO H=true) (hcon:GM P f gs' stC Q)
  (hres:∀r st',Q r st'→∃bk s2 r',nM vw s H st' bk=some s2∧dH vw (jh st' bk) r=some r'∧T (s2.put d r')) (hW:xy H W=true):
  bH P W s ⟨some d,.call ⟨.value x,xs,ts⟩,ty,pos,after,guard⟩ T:=by
 refine⟨(fun _ h=>by cases h),?_⟩
 intro N cx μ a w hr hN K Q' hK
 obtain⟨h1,h2⟩:=ma hx
 have hcl:=hr.ev hf
 generalize hav:a.eval x=vf at hcl
 cases hcl with
 | aF h=>cases h
 | aM _ _ us hlu hrc=>
  have hcall:=uv (vs:=xs.toList.map a.eval++us) hr hv hl cP (by simp[h1,hlu]) (fun j g v hg hv=>by
   rw[a8] at hg hv
   rw[a5,←h1] at hv
   split at hg
   ·rename_i hj
    rw[if_pos hj] at hv
    obtain⟨x,hxj,he⟩:=h2 j g hg
    rw[ay,hxj] at hv
    cases hv
    exact hr.ev he
   ·rename_i hj
    rw[if_neg hj] at hv
    exact hrc _ g v hg hv) hcon
  unfold Oper.wp
  have:(execOp a.eval ⟨some d,.call ⟨.value x,xs,ts⟩,ty,pos,after,guard⟩).run P w=.ok (.enter f (xs.toList.map a.eval++us).toArray) w:=by
   have e:xs.map a.eval++us.toArray=(xs.toList.map a.eval++us).toArray:=by rw[←nS,←eg]
   simp[execOp,resolve,invoke,Deferred.ofValue,hav,hc,e]
  rw[this]
  refine hcall.mono ?_
  rintro e w' (⟨v,r,st',μ',rfl,hq,hC,hrv⟩ | ⟨_,_,_,_,h,_⟩)
  ·obtain⟨bk,s2,r',hb,hren,hT⟩:=hres r st' hq
   obtain⟨q1,q2,q3,_⟩:=tR hr hl (lJ cP) hC hb
   exact hK _ _ _ w' (q1.put (hN d rfl) (q2 r r' v hrv hren)) hT (q3 W (xx hW))
  ·exact h.elim
def isSome {α:Type}:Option α→Bool
 | some _=>true
 | none=>false
def AI (con:cE S) (s:ah S) (xs:List Operand) (vs:List (TV S)):Option (ah S×List (TV S)):=
 match pN con.aA||TV.imp.go vs with
 | true=>some (s,vs)
 | false=>match pM (TV.J1.go vs) s with
  | some s'=>match rP s' xs with
   | some vs'=>match TV.imp.go vs' with
    | true=>some (s',vs')
    | false=>none
   | none=>none
  | none=>none
def fits (s:ah S) (xs:List Operand) (vs:List (TV S)) (con:cE S):Bool:=
 match ob con with
 | true=>match AI con s xs vs with
  | some (s',vs')=>isSome (jU s' con.args vs')
  | none=>false
 | false=>match yc s.bg con.aZ 1000 (sx con.args vs) with
  | some H=>isSome (jF s con.vw H con.args vs)&&isSome (mW s con.vw H H con.aZ)
  | none=>false
def wZ (p:cE S→Bool) (f:FuncId):List (cE S)→Option (cE S)
 | []=>none
 | c::r=>match Nat.beq c.f f&&p c with
  | true=>some c
  | false=>wZ p f r
theorem tE {p:cE S→Bool}{f:FuncId}:∀{l:List (cE S)}{c:cE S},wZ p f l=some c→c∈l∧c.f=f
 | [],_,h=>by cases h
 | x::r,c,h=>by
  simp only[wZ] at h
  split at h
  ·rename_i hb
   simp only[ai] at hb
   cases h
   exact⟨av,aa hb.1⟩
  ·obtain⟨h1,h2⟩:=tE h
   exact⟨ao _ h1,h2⟩
def KR (tbl:List (cE S)) (ok:Nat→Bool) (A:Type) (s:ah S) (dst:Option Nat) (c:Call) (k:ah S→Option A):Option A:=
 match dst with
 | some d=>match c.callee with
  | .value (.func f)=>match rP s c.args.toList with
   | some vs=>match wZ (fits s c.args.toList vs) f tbl with
    | some con=>match ob con with
     | true=>match AI con s c.args.toList vs with
      | some (s',vs')=>KQ con s' d vs' k
      | none=>none
     | false=>CD ok con s d vs k
    | none=>none
   | none=>none
  | .value x=>match cm s x with
   | some (.aM f caps)=>match rP s c.args.toList with
    | some vs=>match wZ (fits s [] (vs++caps)) f tbl with
     | some con=>match ob con with
      | true=>xi con s d (vs++caps) k
      | false=>CD ok con s d (vs++caps) k
     | none=>none
    | none=>none
   | _=>none
  | _=>none
 | none=>none
theorem Ok {P:Program}{N:Nat}{tbl:List (cE S)}(ht:∀c∈tbl,aV P c):∀(ok:Nat→Bool) (W:List Nat),(∀h,ok h=true→W.contains h=true)→∀(A:Type) (r:A),Fk P N W (KR tbl ok A) r:=by
 intro ok W hW A r s dst c k hl _ h ty pos after guard
 obtain⟨cal,args,ts⟩:=c
 unfold KR at h
 split at h
 ·rename_i d
  dsimp only at h
  split at h
  ·split at h
   ·rename_i vs hv
    split at h
    ·rename_i con hcon
     obtain⟨hm,hf⟩:=tE hcon
     subst hf
     have C:=ht con hm
     split at h
     ·split at h
      ·rename_i s' vs' hp
       unfold AI at hp
       split at hp
       ·cases hp
        exact HT (N:=N) C hl h hv
       ·split at hp
        ·rename_i s2 hz
         obtain⟨z1,z2,z3⟩:=lO hl hz
         split at hp
         ·rename_i vs2 hv2
          split at hp
          ·cases hp
           exact fx.gh z1 z3 (HT (N:=N) C z2 h hv2)
          ·cases hp
         ·cases hp
        ·cases hp
      ·cases h
     ·exact Be hW C hl h fun H vw h1 h2 h3 h4 h5 h6=>EF.RI H vw C.call (kV hv).2 h1 h2 h3 h4 h5 h6
    ·cases h
   ·cases h
  ·rename_i x _
   split at h
   ·rename_i f caps hx
    split at h
    ·rename_i vs hv
     split at h
     ·rename_i con hcon
      obtain⟨hm,hf⟩:=tE hcon
      subst hf
      have C:=ht con hm
      split at h
      ·exact HS (N:=N) C hl h hx hv
      ·exact Be hW C hl h fun H vw h1 h2 h3 h4 h5 h6=>EF.L9 H vw C.call (bf hx) (kV hv).2 (by rw[←o7];exact h1) h2 h3 h4 h5 h6
     ·cases h
    ·cases h
   ·cases h
  ·cases h
 ·cases h
def MM (tbl:List (cE S)) (ok:Nat→Bool){A:Type}(s:ah S) (d:Nat) (c:Call) (f:FuncId) (caps:List (TV S)) (k:ah S→Option A):Option A:=
 match rP s c.args.toList with
 | some vs=>match wZ (fits s [] (vs++caps)) f tbl with
  | some con=>match ob con with
   | true=>xi con s d (vs++caps) k
   | false=>CD ok con s d (vs++caps) k
  | none=>none
 | none=>none
def E3 {A:Type}:List FuncId→FuncId→(FuncId→Option A)→Option A
 | [],_,_=>none
 | g::r,f,k=>cond (Nat.beq f g) (k g) (E3 r f k)
theorem Gm {A:Type}{f:FuncId}{k:FuncId→Option A}{r:A}:∀{l:List FuncId},E3 l f k=some r→k f=some r
 | [],h=>by cases h
 | g::l,h=>by
  simp only[E3] at h
  cases hb:Nat.beq f g with
  | true=>
   rw[hb] at h
   have:=aa hb
   subst this
   exact h
  | false=>rw[hb] at h;exact Gm h
def QM:List (Nat×List FuncId)→Nat→Option (List FuncId)
 | [],_=>none
 | (k,h)::r,p=>bif Nat.beq k p then some h else QM r p
def uR (tbl:List (cE S)) (ns:List (Nat×List FuncId)) (ok:Nat→Bool) (A:Type) (s:ah S) (dst:Option Nat) (c:Call) (k:ah S→Option A):Option A:=
 match dst with
 | some d=>match QM ns d with
  | some fs=>match c.callee with
   | .value x=>match cm s x with
    | some (.aM f [])=>E3 fs f fun f=>MM tbl ok s d c f [] k
    | _=>none
   | _=>none
  | none=>KR tbl ok A s (some d) c k
 | none=>none
theorem HR {P:Program}{N:Nat}{tbl:List (cE S)}{ns:List (Nat×List FuncId)}(ht:∀c∈tbl,aV P c):∀(ok:Nat→Bool) (W:List Nat),(∀h,ok h=true→W.contains h=true)→∀(A:Type) (r:A),Fk P N W (uR tbl ns ok A) r:=by
 intro ok W hW A r s dst c k hl hy h ty pos after guard
 unfold uR at h
 split at h
 ·rename_i d
  split at h
  ·obtain⟨cal,args,ts⟩:=c
   dsimp only at h
   split at h
   ·rename_i x _
    split at h
    ·rename_i f hx
     have h2:=Gm h
     clear h
     unfold MM at h2
     split at h2
     ·rename_i vs hv
      split at h2
      ·rename_i con hcon
       obtain⟨hm,hf⟩:=tE hcon
       subst hf
       have C:=ht con hm
       split at h2
       ·exact HS (N:=N) C hl h2 hx hv
       ·exact Be hW C hl h2 fun H vw h1 h2 h3 h4 h5 h6=>EF.L9 H vw C.call (bf hx) (kV hv).2 (by rw[←o7];exact h1) h2 h3 h4 h5 h6
      ·cases h2
     ·cases h2
    ·cases h
   ·cases h
  ·exact Ok (N:=N) ht ok W hW A r s (some d) c k hl hy h ty pos after guard
 ·cases h
def Re (tbl:List (cE S)) (ns:List (Nat×List FuncId)):Cl S where
 call:=fun ok A _ s dst c k=>match vC s c with
  | true=>none
  | false=>uR tbl ns ok A s dst c k
 rf:=fun _ _ _ _ _ _=>none
theorem MJ {P:Program}{N:Nat}{tbl:List (cE S)}{ns:List (Nat×List FuncId)}(ht:∀c∈tbl,aV P c):zL P N (Re tbl ns) where
 call:=fun ok W hW A kp r s dst c k hl hy h=>by
  have h:(match vC s c with
   | true=>none
   | false=>uR tbl ns ok A s dst c k)=some r:=h
  rw[hy] at h
  exact(HR (N:=N) ht ok W hW A r).p s dst c k hl hy h
 cq:=fun ok A kp r cx s dst c k hl hy h=>by
  have h:(match vC s c with
   | true=>none
   | false=>uR tbl ns ok A s dst c k)=some r:=h
  rw[hy] at h
  cases h
 rf:=fun cx _ key hd g _ s B K r hl h=>by cases h
theorem zb {N:Nat}{H:List (Nat×mn)}{l:List (Nat×Array Tmp×Code×Code)}(h:isNil l=true):oz S N H l:=by
 cases l with
 | nil=>trivial
 | cons x r=>cases h
theorem aV.of {P:Program}{N fu:Nat}{H:List (Nat×mn)}{tbl:List (cE S)}{con:cE S}{fn:Func}{c:Code}(hm:P.follows .mixedOrders=true) (ht:∀c∈tbl,aV P c)
  (hf:P.funcs[con.f]?=some fn) (hcall:∀args w,(callFunc con.f args).run P w=.ok (.enter con.f args) w) (hb:fn.body=some c) (hN:fn.ntmps=N)
  (hle:sX N con.args con.aA con.outs=true)
  {mvs:List Nat}{ns:List (Nat×List FuncId)}(h:∀q,HG P N fu H (Re tbl ns) c mvs fn.results.toList con.args con.aZ con.aA con.outs q=con.F q) (hn:isNil (lD c 0)=true:=by kernel_rfl):aV P con:=
 aV.RS hm (MJ ht) hf hcall hb hN hle (zb hn) h
theorem aV.law {P:Program}{con:cE S}(C:aV P con){gs:List G}{q:bj S.α (j7 con.args con.aZ)}{r:bj S.α (JH.dg ⟨con.aA,con.outs⟩)}(hr:con.F q=some r) (hgs:TV.er.go (eU con.args con.aZ (leaves _ q)).ln (cW con.args (leaves _ q)).1=gs)
  (hst:(eU con.args con.aZ (leaves _ q)).er.st=[]) (hres:(lE con.aA (leaves _ r)).er (bZ (ca con.outs (cu con.aA (leaves _ r)).2).1)=.val (.bool true)) (ho:b8 (bZ (ca con.outs (cu con.aA (leaves _ r)).2).1) (ca con.outs (cu con.aA (leaves _ r)).2).1=[]):
  GM P con.f gs [] (fun g st=>g=.val (.bool true)∧st=[]):=by
 have h:=C.ok q r hr
 rw[hgs,hst] at h
 exact h.mono fun g st hg=>⟨hg.1.trans hres,hg.2.trans ho⟩
end
end Go.DN
/-
 DN,part Zb:loops dz functions:rounds by eo,calls of yield.
-/
namespace Go.DN
open Go.AM
section
variable {S:eB}
theorem IV {s:ah S}{vw:Bool}{H:List Nat}{args:List Sh}{aZ:List Oh}{vs:List (TV S)}{xl yl:List (bo S.α)}{q:bj S.α (j7 args aZ)}(hx:jF s vw H args vs=some xl) (hy:mW s vw H H aZ=some yl) (hq:ly (j7 args aZ) (xl++yl)=some q):
  cg.go H (ew s.er.st H vw) (TV.er.go s.ln vs)=some (TV.er.go (eU args aZ (leaves _ q)).ln (cW args (leaves _ q)).1)∧fC H (ew s.er.st H vw) s.er.st H 0=some (eU args aZ (leaves _ q)).er.st:=by
 have hlq:=fW hq
 have hrest:(cW args (leaves _ q)).2=yl:=by
  rw[hlq]
  exact(hZ (lnC:=fun k=>s.ln ((H[k-1000]?).getD 0)) (fun i h hi=>by simp[ec hi]) hx yl).1
 have hst:(eU args aZ (leaves _ q)).bg=(ca (mb aZ 1000) yl).1:=by
  show(ca (mb aZ 1000) (cW args (leaves _ q)).2).1++[]=_
  rw[b9,hrest]
 obtain⟨o1,o2,o3⟩:=yv 0 hy []
 rw[b9] at o1 o2 o3
 have hln:∀i h,dr H h=some i→(eU args aZ (leaves _ q)).ln (1000+i)=s.ln h:=by
  intro i h hi
  have:=o2 i h (ec hi)
  rw[bQ] at this
  unfold ah.ln
  rw[hst]
  exact this
 have hargs:=(hZ hln hx yl).2
 rw[←hlq] at hargs
 have hobjs:=o3 _ hln
 have hst2:(eU args aZ (leaves _ q)).er.st=b8 (eU args aZ (leaves _ q)).ln (ca (mb aZ 1000) yl).1:=by
  show b8 _ _=_
  rw[hst]
 exact⟨hargs,by rw[hst2];exact hobjs⟩
theorem G2 {s:ah S}{vw:Bool}{H js bk:List Nat}{O sb:List (Nat×TO S)}{n:Nat}{A:Type}{k:Option A}{r:A}(hO:aE O=js) (c3:apart H (aE s.bL)=true) (hf:qF s H (cL js H 0) js bk=true)
  (hsb:mF vw (jh (b8 (bZ O) O) bk) (jm s.er.st (b8 (bZ O) O) H 0) s.er.st O bk=some sb) (h:mV s sb (qF.minus H (cL js H 0)) k=some r):
  k=some r∧nM vw s.er H (b8 (bZ O) O) bk=some (dM s H (cL js H 0) sb n).er∧(∀a b,jh (b8 (bZ O) O) bk a=some b→(dM s H (cL js H 0) sb n).ln b=bZ O a):=by
 simp only[qF,ai] at hf
 obtain⟨f1,f2,f3,f4,f5⟩:=hf
 obtain⟨k1,k2⟩:=mU h
 have hkeys:aE sb=bk:=qn hsb
 have hd:∀h,h∈H→h∉cL js H 0→h∈bk:=fun h h1 h2=>l7 f2 h (o5 h1 h2)
 have her:=EL (n:=n) f1 hkeys c3 (fun h h1 h2=>k2 h (o5 h1 h2)) hd f3 f4 f5
 have f1':=f1
 rw[←hO] at f1'
 obtain⟨b1,b2⟩:=Bj (ln:=bZ O) f1'
 have hlnB:∀a b,jh (b8 (bZ O) O) bk a=some b→(dM s H (cL js H 0) sb n).ln b=bZ O a:=by
  intro a b hab
  obtain⟨_,o,o',g1,g2,g3⟩:=y8 hsb b2 a b hab
  unfold ah.ln bZ
  show(match aw ((sb++jX H s.st)++s.bL) b with | some o=>o.len | none=>0)=_
  rw[aC,db,g2,g1]
  exact g3
 have hds:dP (b8 (bZ O) O) H 0=cL js H 0:=by rw[w9,hO]
 refine⟨k1,?_,hlnB⟩
 unfold nM
 have hb:j8 vw (jh (b8 (bZ O) O) bk) (jm s.er.st (b8 (bZ O) O) H 0) s.er.st (b8 (bZ O) O) bk=some (b8 (dM s H (cL js H 0) sb n).ln sb):=qT hlnB hsb
 have hdf:s.er.df.all (fun g=>!(oP (dP (b8 (bZ O) O) H 0) g))=true:=by
  rw[hds];exact xf f5
 show(bif nY s.er H (b8 (bZ O) O) bk&&s.er.df.all (fun g=>!(oP (dP (b8 (bZ O) O) H 0) g)) then _ else none)=_
 rw[b1,hdf]
 show(match j8 vw (jh (b8 (bZ O) O) bk) (jm s.er.st (b8 (bZ O) O) H 0) s.er.st (b8 (bZ O) O) bk with
  | some sb=>some ({fr:=l5 (dP (b8 (bZ O) O) H 0) s.er.fr,st:=sb++fj (dP (b8 (bZ O) O) H 0) (ft H s.er.st),df:=s.er.df}:St)
  | none=>none)=_
 rw[hb,hds,her]
def sW (lv:Bool):List (Nat×Sh):=match lv with
 | true=>[(0,.af true (.int .i64))]
 | false=>[]
def J7 (lv:Bool) (n:Int):List (bo S.α):=match lv with
 | true=>[⟨.int .i64,n⟩]
 | false=>[]
def Ef (lv:Bool) (ls:List (bo S.α)):Int:=match lv with
 | true=>match ls with
  | ⟨.int _,n⟩::_=>n
  | _=>0
 | false=>0
theorem LW {lv:Bool}(h:lv=false) (ls:List (bo S.α)):Ef lv ls=0:=by subst h;rfl
structure oQ (S:eB) where
 key:Nat
 args:List Sh
 cells:List Sh
 aZ:List Oh
 outs:List (Nat×Oh)
 lv:Bool
 F:bj S.α (j7 (args++cells) aZ)→Option (bj S.α (JH.dg ⟨sW lv,outs⟩))
def ou (Y:oQ S) (r:bj S.α (JH.dg ⟨sW Y.lv,Y.outs⟩)):List (Nat×TO S):=(ca Y.outs (cu (sW Y.lv) (leaves _ r)).2).1
def zS (Y:oQ S) (q:bj S.α (j7 (Y.args++Y.cells) Y.aZ)):List (TV S):=(cW (Y.args++Y.cells) (leaves _ q)).1
structure CL (P:Program) (Y:oQ S):Prop where
 ps:(S.eS Y.key).ps.size=Y.args.length∧nO (S.eS Y.key).ps.toList=true∧(S.eS Y.key).ps.toList.all (Nat.blt · (S.eS Y.key).N)=true
 ok:∀q r,Y.F q=some r→GY P (S.lp Y.key 0) (TV.er.go (eU (Y.args++Y.cells) Y.aZ (leaves _ q)).ln ((zS Y q).drop Y.args.length)) (TV.er.go (eU (Y.args++Y.cells) Y.aZ (leaves _ q)).ln ((zS Y q).take Y.args.length))
  (eU (Y.args++Y.cells) Y.aZ (leaves _ q)).er.st (fun j st'=>j=AW (S.eS Y.key).id (Ef Y.lv (leaves _ r))∧st'=b8 (bZ (ou Y r)) (ou Y r))
def Fc (key:Nat):List (oQ S)→Option (oQ S)
 | []=>none
 | y::r=>match Nat.beq y.key key with
  | true=>some y
  | false=>Fc key r
theorem Ht {key:Nat}:∀{l:List (oQ S)}{y:oQ S},Fc key l=some y→y∈l∧y.key=key
 | [],_,h=>by cases h
 | x::r,y,h=>by
  simp only[Fc] at h
  split at h
  ·rename_i hb
   cases h
   exact⟨av,aa hb⟩
  ·obtain⟨h1,h2⟩:=Ht h
   exact⟨ao _ h1,h2⟩
def QF (lv:Bool) (n:Int){A:Type}(k:Option A):Option A:=match lv with
 | true=>(bq (n=0)).bind fun _=>k
 | false=>match decEq n 0 with
  | isTrue _=>k
  | isFalse _=>none
theorem QE {lv:Bool}{n:Int}{A:Type}{k:Option A}{r:A}(h:QF lv n k=some r):n=0∧k=some r:=by
 unfold QF at h
 split at h
 ·obtain⟨_,h1,h2⟩:=bind_some h
  exact⟨cj h1,h2⟩
 ·split at h
  ·rename_i e _;exact⟨e,h⟩
  ·cases h
def Fe (t:ah S) (h key:Nat) (cs:List (TV S)) (d:Nat) (lv:Bool) (n:Int){A:Type}(k:ah S→Option A):Option A:=match lv with
 | true=>cond (n==0) (k ((t.set h (.lp key 0 cs)).put d (.af true .bool true))) (k ((t.set h (.lp key n cs)).put d (.af true .bool false)))
 | false=>k ((t.set h (.lp key 0 cs)).put d (.af true .bool true))
def Fm (ys:List (oQ S)) (N:Nat) (A:Type) (s:ah S) (dst:Option Nat) (c:Call) (k:ah S→Option A):Option A:=
 match dst with
 | some d=>match Nat.blt d N with
  | true=>match c.callee with
   | .value x=>match cm s x with
    | some (.cq h)=>match aw s.st h with
     | some (.lp key n cs)=>match rP s c.args.toList with
      | some vs=>match Fc key ys with
       | some Y=>QF Y.lv n (match yc s.bg Y.aZ 1000 (sx (Y.args++Y.cells) (vs++cs)) with
        | some H=>match nO H&&(apart H (aE s.bL)&&(!(br h H)&&Nat.beq vs.length Y.args.length)) with
         | true=>match jF s false H (Y.args++Y.cells) (vs++cs) with
          | some xs=>match mW s false H H Y.aZ with
           | some ys=>match ly (j7 (Y.args++Y.cells) Y.aZ) (xs++ys) with
            | some q=>(Y.F q).bind fun r=>match MO s H d (aE Y.outs) [] with
             | some bk=>match qF s H (cL (aE Y.outs) H 0) (aE Y.outs) bk with
              | true=>match mF false (jh (b8 (bZ (ou Y r)) (ou Y r)) bk) (jm s.er.st (b8 (bZ (ou Y r)) (ou Y r)) H 0) s.er.st (ou Y r) bk with
               | some sb=>mV s sb (qF.minus H (cL (aE Y.outs) H 0)) (match Y.lv with
                | true=>Fe (dM s H (cL (aE Y.outs) H 0) sb Y.outs.length) h key cs d true (Ef Y.lv (leaves _ r)) k
                | false=>Fe (dM s H (cL (aE Y.outs) H 0) sb Y.outs.length) h key cs d false 0 k)
               | none=>none
              | false=>none
             | none=>none
            | none=>none
           | none=>none
          | none=>none
         | false=>none
        | none=>none)
       | none=>none
      | none=>none
     | _=>none
    | _=>none
   | _=>none
  | false=>none
 | none=>none
theorem Ho {H:List Nat}{stv:List (Nat×ap)}:∀{a b c:List G},cg.go H stv (a++b)=some c→cg.go H stv a=some (c.take a.length)∧cg.go H stv b=some (c.drop a.length)
 | [],b,c,h=>⟨rfl,h⟩
 | g::a,b,c,h=>by
  simp only[bx,cg.go] at h
  split at h
  ·rename_i g' r' h1 h2
   cases h
   obtain⟨i1,i2⟩:=Ho h2
   refine⟨?_,i2⟩
   simp only[cg.go,h1,i1,bN,List.take_succ_cons]
  ·cases h
theorem Me {id:Nat}{n:Int}:(AW id n).isNone=(n==0):=by
 unfold AW
 cases n==0 with
 | true=>rfl
 | false=>cases n==1 <;> rfl
theorem Mx (ln:Nat→Nat) (l:List (TV S)):(TV.er.go ln l).length=l.length:=by rw[cR,a5]
theorem O2 {P:Program}{N:Nat}{ys:List (oQ S)}(hy:∀y∈ys,CL P y) (ok:Nat→Bool) (A:Type) (r:A):OD P N (Fm ys N A) r:=by
 intro cx s dst c k hl hisy h ty pos after ops rest Q hk
 obtain⟨cal,args,ts⟩:=c
 unfold Fm at h
 split at h
 rotate_left
 ·cases h
 rename_i d
 split at h
 rotate_left
 ·cases h
 rename_i hdN
 dsimp only at h
 split at h
 rotate_left
 ·cases h
 rename_i x
 split at h
 rotate_left
 ·cases h
 rename_i hh hx
 split at h
 rotate_left
 ·cases h
 rename_i key n cs ho
 split at h
 rotate_left
 ·cases h
 rename_i vs hvs
 split at h
 rotate_left
 ·cases h
 rename_i Y hY
 have hon:=QE h
 clear h
 obtain⟨hn0,h⟩:=hon
 subst hn0
 obtain⟨hYm,hYk⟩:=Ht hY
 have C:=hy Y hYm
 subst hYk
 split at h
 rotate_left
 ·cases h
 rename_i H hH
 split at h
 rotate_left
 ·cases h
 rename_i hc
 simp only[ai,a6] at hc
 obtain⟨c1,c3,c4,c5⟩:=hc
 have c5:=aa c5
 split at h
 rotate_left
 ·cases h
 rename_i xl hxl
 split at h
 rotate_left
 ·cases h
 rename_i yl hyl
 split at h
 rotate_left
 ·cases h
 rename_i q hq
 obtain⟨hin,hst⟩:=IV hxl hyl hq
 rw[o7] at hin
 obtain⟨hinA,hinC⟩:=Ho hin
 rw[Mx,c5] at hinA hinC
 obtain⟨res,h1,h2⟩:=bind_some h
 have hcon:=C.ok q res h1
 have hoA:aw s.bg hh=some (.lp Y.key 0 cs):=GA ho
 have htk:∀ln,TV.er.go ln ((zS Y q).take Y.args.length)=(TV.er.go ln (zS Y q)).take Y.args.length:=fun ln=>by rw[cR,cR,List.map_take]
 have hdr:∀ln,TV.er.go ln ((zS Y q).drop Y.args.length)=(TV.er.go ln (zS Y q)).drop Y.args.length:=fun ln=>by rw[cR,cR,List.map_drop]
 rw[htk,hdr] at hcon
 split at h2
 rotate_left
 ·cases h2
 rename_i bk hbk
 split at h2
 rotate_left
 ·cases h2
 rename_i hf
 split at h2
 rotate_left
 ·cases h2
 rename_i sb hsb
 have hO:aE (ou Y res)=aE Y.outs:=jK _ _
 obtain⟨k1,hback,_⟩:=G2 (n:=Y.outs.length) hO c3 hf hsb h2
 have hidx:dr H hh=none:=by
  cases hi:dr H hh with
  | none=>rfl
  | some i=>rw[bO.2 (ar (ec hi))] at c4;cases c4
 have hlp:aw (dM s H (cL (aE Y.outs) H 0) sb Y.outs.length).st hh=some (.lp Y.key 0 cs):=by
  show aw (sb++jX H s.st) hh=_
  have hnb:hh∉bk:=fun hm=>by
   simp only[qF,ai] at hf
   rcases yX hf.1 hh hm with h1 | h1
   ·rw[bO.2 h1] at c4;cases c4
   ·rw[(free_spec h1).1] at hoA;cases hoA
  rw[db,la (by rw[qn hsb];exact hnb),wB hidx]
  exact ho
 have fin:∀(lv:Bool) (nn:Int),Ef Y.lv (leaves _ res)=nn→Fe (dM s H (cL (aE Y.outs) H 0) sb Y.outs.length) hh Y.key cs d lv nn k=some r→(lv=false→nn=0)→
   GL P N cx ops Q rest (({(dM s H (cL (aE Y.outs) H 0) sb Y.outs.length).er with st:=bw (dM s H (cL (aE Y.outs) H 0) sb Y.outs.length).er.st hh {((TO.lp Y.key 0 cs:TO S).er (dM s H (cL (aE Y.outs) H 0) sb Y.outs.length).ln) with lp:=some (.loop (S.lp Y.key nn))}}:St).put d (.val (.bool (nn==0)))):=by
  intro lv nn hnn hend hlv
  have ht1:(dM s H (cL (aE Y.outs) H 0) sb Y.outs.length).last=[]:=rfl
  have ht2:bz s (dM s H (cL (aE Y.outs) H 0) sb Y.outs.length):=⟨rfl,rfl,rfl⟩
  generalize dM s H (cL (aE Y.outs) H 0) sb Y.outs.length=t at hlp hend ht1 ht2⊢
  have step:∀m:Int,m=nn→k ((t.set hh (.lp Y.key m cs)).put d (.af true .bool (nn==0)))=some r→
    GL P N cx ops Q rest (({t.er with st:=bw t.er.st hh {((TO.lp Y.key 0 cs:TO S).er t.ln) with lp:=some (.loop (S.lp Y.key nn))}}:St).put d (.val (.bool (nn==0)))):=by
   intro m hm hkr
   subst hm
   obtain⟨s1,s2⟩:=kZ (o':=(.lp Y.key m cs:TO S)) hlp rfl
   have hli:aY (t.set hh (.lp Y.key m cs)):=gE (by show yd hh t.last=[];rw[ht1];rfl)
   have:=hk _ (hli.put d _) ⟨ht2.lo,ht2.bL,ht2.df⟩ hkr
   rw[fB,s1] at this
   have e:(TV.af true .bool (m==0):TV S).er (t.set hh (.lp Y.key m cs)).ln=.val (.bool (m==0)):=fX true _
   rw[e] at this
   exact this
  cases lv with
  | false=>
   have:=hlv rfl
   subst this
   exact step 0 rfl hend
  | true=>
   simp only[Fe] at hend
   cases hb:nn==0 with
   | true=>
    rw[hb] at hend step
    have e:nn=0:=by simpa using hb
    exact step 0 e.symm hend
   | false=>
    rw[hb] at hend step
    exact step nn rfl hend
 have hx':=bf hx
 refine GL.cq (lp:=S.lp Y.key 0) H bk hx' (kV hvs).2 (show aq s.er.st hh=some _ from fJ hoA) rfl rfl hidx hinA hinC hst c1 (by
   rw[aU,Mx]
   have:(zS Y q).length=(Y.args++Y.cells).length:=yG _ _
   show min Y.args.length (zS Y q).length=(S.eS Y.key).ps.size
   rw[this,C.ps.1,aj]
   omega) C.ps.2.1 C.ps.2.2 hcon rfl hdN ?_
 rintro j st' ⟨rfl,rfl⟩
 refine⟨_,hback,_,fJ (dQ hlp),?_,(Ef Y.lv (leaves _ res)==0),Me,?_⟩
 ·rfl
 ·split at k1
  ·rename_i hlv
   exact fin true _ rfl k1 (fun h=>by cases h)
  ·rename_i hlv
   have e0:Ef Y.lv (leaves _ res)=0:=LW hlv _
   have:=fin false 0 e0 k1 (fun _=>rfl)
   rw[e0]
   exact this
end
end Go.DN
/-
 DN,part Zc:rounds out of a run of their code;the loop itself.
-/
namespace Go.DN
open Go.AM
section
variable {S:eB}
def Aq:List Nat→List (TV S)→List (Nat×TV S)
 | t::ts,v::vs=>(t,v)::Aq ts vs
 | _,_=>[]
theorem CS (ln:Nat→Nat):∀(ts:List Nat) (vs:List (TV S)),fZ ln (Aq ts vs)=nU ts (TV.er.go ln vs)
 | [],_=>rfl
 | _::_,[]=>rfl
 | t::ts,v::vs=>by simp only[Aq,fZ,TV.er.go,nU,CS ln ts vs]
theorem Je (ln:Nat→Nat):∀(a b:List (Nat×TV S)),fZ ln (a++b)=fZ ln a++fZ ln b
 | [],_=>rfl
 | (t,v)::r,b=>by simp only[bx,fZ,Je ln r b]
def Rj (L:O0) (args cells:List Sh) (aZ:List Oh) (ls:List (bo S.α)):ah S:=
 {fr:=Aq L.ps.toList ((cW (args++cells) ls).1.take args.length)++Aq L.aA ((cW (args++cells) ls).1.drop args.length),lo:=[],st:=(ca (mb aZ 1000) (cW (args++cells) ls).2).1,bL:=[],df:=[],nx:=300,last:=[]}
def HC (P:Program) (t:ah S) (lv:Bool) (n:Int) (outs:List (Nat×Oh)):Option (bj S.α (JH.dg ⟨sW lv,outs⟩)):=
 match lv||n==0 with
 | true=>match DD P t [] [] outs with
  | some q=>ly (JH.dg ⟨sW lv,outs⟩) (J7 lv n++leaves _ q)
  | none=>none
 | false=>none
noncomputable def Q9 (P:Program) (fu:Nat) (H:List (Nat×mn)) (cl:Cl S) (L:O0) (mvs:List Nat) (args cells:List Sh) (aZ:List Oh) (outs:List (Nat×Oh)) (lv:Bool) (q:bj S.α (j7 (args++cells) aZ)):Option (bj S.α (JH.dg ⟨sW lv,outs⟩)):=
 match Ca mvs (Rj L args cells aZ (leaves _ q)) with
 | some s=>gD P L.N fu H cl L.lh 0 s _ fun e t=>match e with
  | .normal=>gD P L.N fu H cl L.body (jt L.lh) t _ fun e t=>match e with
   | .normal=>HC P t lv 0 outs
   | .exit id=>match Nat.beq id L.id with
    | true=>HC P t lv 1 outs
    | false=>none
   | .ret=>HC P t lv 2 outs
   | _=>none
  | _=>none
 | none=>none
theorem Ns {lv : Bool} {n : Int} (h : (lv || n == 0) = true) (r : List (bo S.α)) : Ef lv (J7 lv n ++ r) = n := by
  cases lv with
  | true => rfl
  | false => have : n = 0 := by simpa using h
             rw [this]; rfl
theorem Mt (lv:Bool) (n:Int) (r:List (bo S.α)):(cu (sW lv) (J7 lv n++r)).2=r:=by cases lv <;> rfl
theorem CL.of {P:Program}{fu:Nat}{H:List (Nat×mn)}{tbl:List (cE S)}{Y:oQ S}(hm:P.follows .mixedOrders=true) (ht:∀c∈tbl,aV P c)
  (hps:(Nat.beq (S.eS Y.key).ps.size Y.args.length&&(nO (S.eS Y.key).ps.toList&&((S.eS Y.key).ps.toList.all (Nat.blt · (S.eS Y.key).N)&&LV (aE Y.outs))))=true)
  (hna:isNil (lD (S.eS Y.key).lh 0)=true) (hnb:isNil (lD (S.eS Y.key).body (jt (S.eS Y.key).lh))=true)
  {mvs:List Nat}{ns:List (Nat×List FuncId)}(h:∀q,Q9 P fu H (Re tbl ns) (S.eS Y.key) mvs Y.args Y.cells Y.aZ Y.outs Y.lv q=Y.F q):CL P Y:=by
 simp only[ai] at hps
 obtain⟨p1,p2,p3,p4⟩:=hps
 have hcl:=MJ (N:=(S.eS Y.key).N) (ns:=ns) ht
 have nilA:lD (S.eS Y.key).lh 0=[]:=by cases hx:lD (S.eS Y.key).lh 0 with | nil=>rfl | cons x r=>rw[hx] at hna;cases hna
 have nilB:lD (S.eS Y.key).body (jt (S.eS Y.key).lh)=[]:=by cases hx:lD (S.eS Y.key).body (jt (S.eS Y.key).lh) with | nil=>rfl | cons x r=>rw[hx] at hnb;cases hnb
 refine⟨⟨aa p1,p2,p3⟩,fun q r hr=>?_⟩
 have hr:=(h q).trans hr
 refine GY.of (lh:=(S.eS Y.key).lh) (body:=(S.eS Y.key).body) rfl rfl fun cx=>?_
 have e0:(⟨nU (S.lp Y.key 0).ps.toList (TV.er.go (eU (Y.args++Y.cells) Y.aZ (leaves _ q)).ln ((zS Y q).take Y.args.length))++nU (S.lp Y.key 0).aA (TV.er.go (eU (Y.args++Y.cells) Y.aZ (leaves _ q)).ln ((zS Y q).drop Y.args.length)),
   (eU (Y.args++Y.cells) Y.aZ (leaves _ q)).er.st,[]⟩:St)=(Rj (S.eS Y.key) Y.args Y.cells Y.aZ (leaves _ q)).er:=by
  show _=St.mk (fZ _ ((Aq _ _++Aq _ _)++[])) _ _
  rw[b9,Je,CS,CS]
  rfl
 rw[e0]
 unfold Q9 at hr
 split at hr
 rotate_left
 ·cases hr
 rename_i s0 hmv
 refine AQ (gE rfl) hmv fun hl0=>?_
 refine jq hm hcl _ 0 (zb hna) (.inl nilA) _ _ _ r hl0 hr _ fun e t hlt hk hK=>?_
 split at hK
 rotate_left
 ·cases hK
 refine⟨rfl,fun cx'=>?_⟩
 refine GW.BU (Q':=fun e s'=>∃n:Int,∃t:ah S,Gh s' t.er∧aY t∧HC P t Y.lv n Y.outs=some r∧((e=.normal∧n=0)∨(e=.exit (S.eS Y.key).id∧n=1)∨(e=.ret∧n=2)))
  (jq hm hcl _ _ (zb hnb) (.inl nilB) _ _ _ r hlt hK _ fun e t hlt hk hK=>?_) fun e s' hq=>?_
 ·split at hK
  ·exact⟨0,t,Gh.refl _,hlt,hK,.inl ⟨rfl,rfl⟩⟩
  ·split at hK
   ·rename_i hb
    have:=aa hb
    subst this
    exact⟨1,t,Gh.refl _,hlt,hK,.inr (.inl ⟨rfl,rfl⟩)⟩
   ·cases hK
  ·exact⟨2,t,Gh.refl _,hlt,hK,.inr (.inr ⟨rfl,rfl⟩)⟩
  ·cases hK
 ·obtain⟨n,t,hg0,hlt,hE,he⟩:=hq
  unfold HC at hE
  split at hE
  rotate_left
  ·cases hE
  rename_i hlv
  split at hE
  rotate_left
  ·cases hE
  rename_i q' hq'
  obtain⟨u,hg,hdf,_,O',eu,hln,hown⟩:=Jf hlt hq'
  have hls:=fW hE
  have hn:Ef Y.lv (leaves _ r)=n:=by rw[hls];exact Ns hlv _
  have hO:ou Y r=(ca Y.outs (leaves _ q')).1:=by unfold ou;rw[hls,Mt]
  have hout:(ca Y.outs (cu [] (leaves (JH.dg ⟨[],Y.outs⟩) q')).2).1=(ca Y.outs (leaves _ q')).1:=rfl
  rw[hout] at eu hln
  have hk:aE (ca Y.outs (leaves (JH.dg ⟨[],Y.outs⟩) q')).1=aE Y.outs:=jK _ _
  have hsub:kj u.er.st (b8 (bZ (ou Y r)) (ou Y r)):=by
   rw[hO]
   refine Ax fun j o hm=>?_
   have e1:aw (ca Y.outs (leaves (JH.dg ⟨[],Y.outs⟩) q')).1 j=some o:=Dh (by rw[hk];exact p4) j o hm
   have e2:aw u.bg j=some o:=by rw[eu,db,e1]
   rw[show aq u.er.st j=_ from fJ e2]
   have hj:o.er u.ln=o.er (bZ (ca Y.outs (leaves (JH.dg ⟨[],Y.outs⟩) q')).1):=TO.lg hln o (sD (aE Y.outs) Y.outs _ hown j o e1)
   rw[hj]
  refine⟨u.er,hg0.trans hg,?_⟩
  ·refine⟨hdf,_,hsub,?_⟩
   rcases he with ⟨h,h2⟩ | ⟨h,h2⟩ | ⟨h,h2⟩
   ·subst h;subst h2
    exact⟨by rw[hn];rfl,rfl⟩
   ·subst h;subst h2
    exact⟨by rw[hn];rfl,rfl⟩
   ·subst h;subst h2
    exact⟨by rw[hn];rfl,rfl⟩
end
end Go.DN
/-
 DN,part Zd:the loop dz a function;contracts of functions that have such loops,or that go through them.
-/
namespace Go.DN
open Go.AM
section
variable {S:eB}
def EZ (fr:List (Nat×TV S)):List Nat→Option (List (TV S))
 | []=>some []
 | t::r=>match bc fr t with
  | some v=>match EZ fr r with
   | some vs=>some (v::vs)
   | none=>none
  | none=>none
theorem FA {fr:List (Nat×TV S)}(ln:Nat→Nat):∀{ts:List Nat}{vs:List (TV S)},EZ fr ts=some vs→getAll (fZ ln fr) ts=some (TV.er.go ln vs)
 | [],vs,h=>by cases h;rfl
 | t::r,vs,h=>by
  simp only[EZ] at h
  split at h
  ·rename_i v hv
   split at h
   ·rename_i vs' hvs
    cases h
    simp only[getAll,eZ hv,FA ln hvs,TV.er.go]
   ·cases h
  ·cases h
def F8 (k:Nat):List (Nat×TO S)→List (Nat×TO S)
 | []=>[]
 | (h,o)::r=>bif Nat.beq h k then F8 k r else(h,o)::F8 k r
theorem C7 {k:Nat}:∀{st:List (Nat×TO S)}{h:Nat},aw (F8 k st) h=bif Nat.beq k h then none else aw st h
 | [],h=>by cases Nat.beq k h <;> rfl
 | (x,o)::r,h=>by
  simp only[F8]
  cases hx:Nat.beq x k with
  | true=>
   have e:=aa hx
   subst e
   rw[cond_true,C7]
   cases hb:Nat.beq x h with
   | true=>rfl
   | false=>simp only[aw,hb,cond_false]
  | false=>
   rw[cond_false]
   simp only[aw]
   rw[C7]
   cases hb:Nat.beq x h with
   | true=>
    have e:=aa hb
    subst e
    have:Nat.beq k x=false:=by
     cases hq:Nat.beq k x with
     | false=>rfl
     | true=>have:=aa hq;subst this;rw[aG] at hx;cases hx
    rw[this];rfl
   | false=>rfl
def Sa (con:cE S):Bool:=match con.aZ with
 | .lp _ lv _::_=>lv
 | _=>false
def KK (con:cE S) (id:Nat) (t:ah S) (n:Int){A:Type}(K:Exit→ah S→Option A):Option A:=match Sa con with
 | true=>cond (n==0) (K .normal t) (cond (n==1) (K (.exit id) t) (K .ret t))
 | false=>match decEq n 0 with
  | isTrue _=>K .normal t
  | isFalse _=>none
theorem N5 {con:cE S}{id:Nat}{t:ah S}{n:Int}{A:Type}{K:Exit→ah S→Option A}{r:A}(h:KK con id t n K=some r){R:Exit→St→Prop}{s:St}(hR:∀e,(∀ch,e≠.panic ch)→K e t=some r→R e s):Fj R s (AW id n):=by
 unfold KK at h
 split at h
 ·unfold AW
  cases h0:n==0 with
  | true=>rw[h0] at h;exact hR _ (fun ch e=>by cases e) h
  | false=>
   rw[h0] at h
   cases h1:n==1 with
   | true=>rw[h1] at h;exact hR _ (fun ch e=>by cases e) h
   | false=>rw[h1] at h;exact hR _ (fun ch e=>by cases e) h
 ·split at h
  ·rename_i e _
   subst e
   exact hR _ (fun ch e=>by cases e) h
  ·cases h
def Gf (tbl:List (cE S)) (key hd:Nat) (s:ah S) (g:Operand) (A:Type) (K:Exit→ah S→Option A):Option A:=
 match cm s g with
 | some (.aM f caps)=>match EZ s.bW (S.eS key).aA with
  | some cs=>match s.free hd&&!(TV.has.go hd cs) with
   | true=>match wZ (fits (s.add hd (.lp key 0 cs)) [] (.cq hd::caps)) f tbl with
    | some con=>match yc (s.add hd (.lp key 0 cs)).bg con.aZ 1000 (sx con.args (.cq hd::caps)) with
     | some H=>match nO H&&(apart H (aE s.bL)&&br hd H) with
      | true=>match jF (s.add hd (.lp key 0 cs)) con.vw H con.args (.cq hd::caps) with
       | some xs=>match mW (s.add hd (.lp key 0 cs)) con.vw H H con.aZ with
        | some ys=>match ly (j7 con.args con.aZ) (xs++ys) with
         | some q=>(con.F q).bind fun r=>match MO (s.add hd (.lp key 0 cs)) H hd (aE con.outs) [] with
          | some bk=>match qF (s.add hd (.lp key 0 cs)) H (cL (aE con.outs) H 0) (aE con.outs) bk&&!(br hd (cL (aE con.outs) H 0)) with
           | true=>match OZ (s.add hd (.lp key 0 cs)) H con r bk with
            | some sb=>mV (s.add hd (.lp key 0 cs)) sb (qF.minus H (cL (aE con.outs) H 0)) (match aw (dM (s.add hd (.lp key 0 cs)) H (cL (aE con.outs) H 0) sb con.outs.length).st hd with
             | some (.lp key' n _)=>match Nat.beq key' key&&!(br hd (aE s.bL)) with
              | true=>KK con (S.eS key).id {dM (s.add hd (.lp key 0 cs)) H (cL (aE con.outs) H 0) sb con.outs.length with st:=F8 hd (dM (s.add hd (.lp key 0 cs)) H (cL (aE con.outs) H 0) sb con.outs.length).st} n K
              | false=>none
             | _=>none)
            | none=>none
           | false=>none
          | none=>none
         | none=>none
        | none=>none
       | none=>none
      | false=>none
     | none=>none
    | none=>none
   | false=>none
  | none=>none
 | _=>none
theorem DG {H js:List Nat}{hd:Nat}(h:br hd (cL js H 0)=false):(cL js H 0).contains hd=false:=by rw[rU];exact h
theorem LL {P:Program}{N:Nat}{tbl:List (cE S)}(ht:∀c∈tbl,aV P c) (cx:Cx) (hro:cx.ro=none) (key hd:Nat) (g:Operand) (hN:(S.eS key).N=N) (s:ah S) (B:Type) (K:Exit→ah S→Option B) (r:B) (hl:aY s) (h:Gf tbl key hd s g B K=some r)
  (Q:Exit→St→Prop) (hQ:∀e t,aY t→bz s t→K e t=some r→(∀ch,e≠.panic ch)→Q e t.er):GW P N cx (.rangeFunc g (S.eS key).ps (S.eS key).lh (S.eS key).body) Q s.er:=by
 unfold Gf at h
 split at h
 rotate_left
 ·cases h
 rename_i f caps hg
 split at h
 rotate_left
 ·cases h
 rename_i cs hcs
 split at h
 rotate_left
 ·cases h
 rename_i hfree
 simp only[ai,a6] at hfree
 obtain⟨hfr,hnh⟩:=hfree
 obtain⟨ha1,ha2⟩:=oo hfr (.lp key 0 cs:TO S) hnh
 split at h
 rotate_left
 ·cases h
 rename_i con hcon
 obtain⟨hm,hf⟩:=tE hcon
 subst hf
 have C:=ht con hm
 generalize hs1:s.add hd (.lp key 0 cs)=s1 at h ha1 ha2
 have hlst:s1.bL=s.bL:=by rw[←hs1];rfl
 have hlo:s1.lo=s.lo:=by rw[←hs1];rfl
 have hdf:s1.df=s.df:=by rw[←hs1];rfl
 have hoh:aw s1.bg hd=some (.lp key 0 cs):=by rw[←hs1];show(bif Nat.beq hd hd then some (TO.lp key 0 cs) else aw s.bg hd)=_;rw[aG];rfl
 split at h
 rotate_left
 ·cases h
 rename_i H hH
 split at h
 rotate_left
 ·cases h
 rename_i hc
 simp only[ai] at hc
 obtain⟨c1,c3,c4⟩:=hc
 rw[←hlst] at c3
 split at h
 rotate_left
 ·cases h
 rename_i xl hxl
 split at h
 rotate_left
 ·cases h
 rename_i yl hyl
 split at h
 rotate_left
 ·cases h
 rename_i q hq
 obtain⟨hin,hst⟩:=IV hxl hyl hq
 obtain⟨res,h1,h2⟩:=bind_some h
 have hcn:=C.ok q res h1
 split at h2
 rotate_left
 ·cases h2
 rename_i bk hbk
 split at h2
 rotate_left
 ·cases h2
 rename_i hff
 simp only[ai,a6] at hff
 obtain⟨hfit,cP⟩:=hff
 split at h2
 rotate_left
 ·cases h2
 rename_i sb hsb
 have hO:aE (dT con res)=aE con.outs:=wP con res
 obtain⟨k1,hback,_⟩:=G2 (n:=con.outs.length) hO c3 hfit hsb h2
 generalize hT:dM s1 H (cL (aE con.outs) H 0) sb con.outs.length=T at k1 hback
 have hTl:T.last=[]:=by rw[←hT];rfl
 have hTk:bz s1 T:=by rw[←hT];exact⟨rfl,rfl,rfl⟩
 split at k1
 rotate_left
 ·cases k1
 rename_i key' n cs' hlp
 split at k1
 rotate_left
 ·cases k1
 rename_i hk
 simp only[ai,a6] at hk
 obtain⟨hk,hnl⟩:=hk
 have e1:=aa hk
 subst e1
 have hlpA:aw T.bg hd=some (.lp key' n cs'):=dQ hlp
 have hnl':aw T.bL hd=none:=by
  refine la fun hm=>?_
  rw[hTk.bL,hlst] at hm
  rw[bO.2 hm] at hnl;cases hnl
 generalize hU:({T with st:=F8 hd T.st}:ah S)=U at k1
 have hUst:∀k,aw U.bg k=bif Nat.beq hd k then none else aw T.bg k:=by
  intro k
  rw[←hU]
  show aw (F8 hd T.st++T.bL) k=_
  rw[db,C7]
  show _=bif Nat.beq hd k then none else aw (T.st++T.bL) k
  rw[db]
  cases hb:Nat.beq hd k with
  | true=>have:=aa hb;subst this;exact hnl'
  | false=>rfl
 have hUln:U.ln=T.ln:=by
  funext k
  show bZ U.bg k=bZ T.bg k
  unfold bZ
  rw[hUst]
  cases hb:Nat.beq hd k with
  | true=>have:=aa hb;subst this;rw[hlpA];rfl
  | false=>rfl
 have hUfr:U.bW=T.bW:=by subst hU;rfl
 have hUdf:U.df=T.df:=by subst hU;rfl
 have hsgU:∀k b,aq U.er.st k=some b→aq T.er.st k=some b:=by
  intro k b hb
  obtain⟨o,ho,rfl⟩:=oU hb
  rw[hUst] at ho
  cases hq:Nat.beq hd k with
  | true=>rw[hq] at ho;cases ho
  | false=>
   rw[hq] at ho
   rw[show aq T.er.st k=_ from fJ ho,hUln]
 have hUE:KX T.er U.er:=by
  refine⟨fun t g hg'=>?_,hsgU,?_⟩
  ·have:U.er.fr=T.er.fr:=by show fZ U.ln U.bW=fZ T.ln T.bW;rw[hUln,hUfr]
   rw[this] at hg';exact hg'
  ·show TV.er.go T.ln T.df=TV.er.go U.ln U.df
   rw[hUln,hUdf]
 have hUn:aq U.er.st hd=none:=by
  refine po ?_
  rw[hUst,aG];rfl
 have hcaps:TV.er.go s.ln caps=TV.er.go s1.ln caps:=by
  have e1:=bf hg
  have hg1:cm s1 g=some (.aM con.f caps):=by
   rw[←hg,←hs1]
   cases g <;> rfl
  have e2:=bf hg1
  have hfe:s1.er.fr=s.er.fr:=by rw[ha1]
  have e3:ev s1.er g=ev s.er g:=by
   cases g with
   | tmp t=>show AM.get s1.er.fr t=AM.get s.er.fr t;rw[hfe]
   | _=>rfl
  rw[e3,e1] at e2
  have:=kr e2
  simp only[TV.er,G.aM.injEq] at this
  exact this.2
 subst hN
 have hst0:s1.er.st=(hd,sC (TV.er.go s.ln cs) (S.lp key' 0))::s.er.st:=by rw[ha1];rfl
 have hs1e:s1.er={fr:=s.er.fr,st:=(hd,sC (TV.er.go s.ln cs) (S.lp key' 0))::s.er.st,df:=s.er.df}:=by rw[ha1];rfl
 refine GW.rangeFunc (f0:=0) (f:=con.f) (caps:=TV.er.go s.ln caps) (cells:=TV.er.go s.ln cs) hro (fun j=>⟨0,(S.eS key').N,(S.eS key').aA,(S.eS key').ps,(S.eS key').lh,(S.eS key').body,j⟩) hd (S.eS key').aA H con.vw bk
  (fun _=>rfl) (bf hg) C.call (FA s.ln hcs) (gk hfr) ?_ c1 (bO.1 c4) hcn ?_ ?_
 ·have:=hst
  rw[hst0] at this
  exact this
 ·have:=hin
  rw[hst0] at this
  rw[hcaps]
  exact this
 ·rintro r' st' ⟨_,rfl⟩
  refine⟨T.er,U.er,AW (S.eS key').id n,_,?_,?_,fJ hlpA,rfl,hUE,hUn,?_⟩
  ·show nM con.vw ⟨s.er.fr,(hd,sC (TV.er.go s.ln cs) (S.lp key' 0))::s.er.st,s.er.df⟩ H _ bk=_
   rw[←hs1e];exact hback
  ·show(dP (b8 (bZ (dT con res)) (dT con res)) H 0).contains hd=false
   rw[w9,hO]
   exact DG cP
  ·refine N5 k1 fun e hp hK=>hQ e U (gE (by rw[←hU];exact hTl)) ⟨?_,?_,?_⟩ hK hp
   ·rw[←hU];exact hTk.lo.trans hlo
   ·rw[←hU];exact hTk.bL.trans hlst
   ·rw[←hU];exact hTk.df.trans hdf
def RT (N:Nat) (tbl tbr:List (cE S)) (ys:List (oQ S)) (ns:List (Nat×List FuncId)):Cl S where
 call:=fun ok A _ s dst c k=>match vC s c with
  | true=>Fm ys N A s dst c k
  | false=>uR tbl ns ok A s dst c k
 rf:=Gf tbr
theorem Rd {P:Program}{N:Nat}{tbl tbr:List (cE S)}{ys:List (oQ S)}{ns:List (Nat×List FuncId)}(ht:∀c∈tbl,aV P c) (hr:∀c∈tbr,aV P c) (hy:∀y∈ys,CL P y):zL P N (RT N tbl tbr ys ns) where
 call:=fun ok W hW A kp r s dst c k hl hi h=>by
  have h:(match vC s c with
   | true=>Fm ys N A s dst c k
   | false=>uR tbl ns ok A s dst c k)=some r:=h
  rw[hi] at h
  exact(HR (N:=N) ht ok W hW A r).p s dst c k hl hi h
 cq:=fun ok A kp r cx s dst c k hl hi h=>by
  have h:(match vC s c with
   | true=>Fm ys N A s dst c k
   | false=>uR tbl ns ok A s dst c k)=some r:=h
  rw[hi] at h
  exact O2 hy ok A r cx s dst c k hl hi h
 rf:=fun cx hro key hd g hN s B K r hl h Q hQ=>LL hr cx hro key hd g hN s B K r hl h Q fun e t a b c _=>hQ e t a b c
def QU (S:eB):List (Nat×Nat)→List (Nat×Array Tmp×Code×Code)
 | []=>[]
 | (p,k)::r=>(p,(S.eS k).ps,(S.eS k).lh,(S.eS k).body)::QU S r
def OP (S:eB) (N:Nat) (H:List (Nat×mn)):List (Nat×Nat)→Bool
 | []=>true
 | (p,k)::r=>(match fg H p with
  | some (.LD key _)=>Nat.beq key k&&Nat.beq (S.eS k).N N
  | _=>true)&&OP S N H r
theorem Mb {N:Nat}{H:List (Nat×mn)}:∀{ks:List (Nat×Nat)},OP S N H ks=true→oz S N H (QU S ks)
 | [],_=>trivial
 | (p,k)::r,h=>by
  simp only[OP,ai] at h
  refine⟨?_,Mb h.2⟩
  have h1:=h.1
  split
  ·rename_i key hd hh
   rw[hh] at h1
   simp only[ai] at h1
   have e1:=aa h1.1
   have e2:=aa h1.2
   subst e1
   exact⟨e2,rfl,rfl,rfl⟩
  ·trivial
theorem aV.OK {P:Program}{N fu:Nat}{H:List (Nat×mn)}{tbl tbr:List (cE S)}{ys:List (oQ S)}{con:cE S}{fn:Func}{c:Code}(ks:List (Nat×Nat)) (hm:P.follows .mixedOrders=true) (ht:∀c∈tbl,aV P c) (hr:∀c∈tbr,aV P c) (hy:∀y∈ys,CL P y)
  (hf:P.funcs[con.f]?=some fn) (hcall:∀args w,(callFunc con.f args).run P w=.ok (.enter con.f args) w) (hb:fn.body=some c) (hN:fn.ntmps=N)
  (hle:sX N con.args con.aA con.outs=true) (hk:lD c 0=QU S ks) (hkn:OP S N H ks=true)
  {mvs:List Nat}{ns:List (Nat×List FuncId)}(h:∀q,HG P N fu H (RT N tbl tbr ys ns) c mvs fn.results.toList con.args con.aZ con.aA con.outs q=con.F q):aV P con:=
 aV.RS hm (Rd ht hr hy) hf hcall hb hN hle (hk▸Mb hkn) h
def OJ (P:Program) (f i id:Nat) (aA:List Nat):O0:=match P.funcs[f]? with
 | some fn=>match fn.body with
  | some c=>match (lD c 0)[i]? with
   | some (_,ps,a,b)=>⟨fn.ntmps,aA,ps,a,b,id⟩
   | none=>⟨0,[],#[],.skip,.skip,0⟩
  | none=>⟨0,[],#[],.skip,.skip,0⟩
 | none=>⟨0,[],#[],.skip,.skip,0⟩
end
end Go.DN
