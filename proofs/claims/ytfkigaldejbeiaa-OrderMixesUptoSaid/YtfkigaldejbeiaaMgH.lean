/-
  DN, fourth part.
-/
import Derived.Test.YtfkigaldejbeiaaMgD
import Derived.KernelRfl
set_option linter.unusedSectionVars false
set_option linter.unusedSimpArgs false
set_option linter.unusedVariables false
/-
 DN,part Vb:a call whose arguments all lead to what the caller's call has made:so does its answer.
-/
namespace Go.DN
open Go.AM
def pY:G→Bool
 | .val _=>true
 | .fr _=>true
 | .agg gs=>go gs
 | .aE _ gs=>go gs
 | _=>false
where go:List G→Bool
 | []=>true
 | g::r=>pY g&&go r
theorem tT:∀{gs:List G},pY.go gs=true→∀(j:Nat) (g:G),gs[j]?=some g→pY g=true
 | [],_,j,g,hg=>by simp at hg
 | x::r,h,j,g,hg=>by
  simp only[pY.go,aj] at h
  cases j with
  | zero=>cases hg;exact h.1
  | succ j=>exact tT h.2 j g hg
def qn:G→G
 | .val v=>.val v
 | .sl n cs=>.fr (.sl n cs)
 | .ptr cs=>.fr (.ptr cs)
 | .agg gs=>.agg (go gs)
 | .bj gs=>.bj (go gs)
 | .aE f gs=>.aE f (go gs)
 | g=>g
where go:List G→List G
 | []=>[]
 | g::r=>qn g::go r
theorem vA:∀(gs:List G),(qn.go gs).length=gs.length
 | []=>rfl
 | _::r=>congrArg (·+1) (vA r)
theorem yg:∀{gs:List G}{j:Nat}{g':G},(qn.go gs)[j]?=some g'→∃g,gs[j]?=some g∧g'=qn g
 | [],_,_,h=>by simp[qn.go] at h
 | x::r,j,g',h=>by
  cases j with
  | zero=>simp only[qn.go,List.getElem?_cons_zero,fO] at h;exact⟨x,rfl,h.symm⟩
  | succ j=>exact yg (gs:=r) (by simpa[qn.go] using h)
theorem MQ {O X:Nat→Prop}{base:Nat}{μ μ':Mu}{w:World}{g g':G}{v:Value}(h:bA O w g v) (hX:∀b,X b→b<w.heap.size→ez O base b) (hg:pY g=true) (hf:fP g=some g'):aW X w.heap.size w μ' g' v:=by
 induction h generalizing g' with
 | any v=>cases hg
 | val v=>
  cases hf
  unfold iB
  split
  ·exact .aG .nil
  ·exact .aG (.val _)
 | nil=>cases hg
 | gP a c=>cases hg
 | sl n cells b off cap us h1 h2 h3 h4 h5 ih=>cases hg
 | ptr cells b off us h1 h2 h3 h4 ih=>cases hg
 | agg cells us hl hr ih=>
  simp only[fP,au] at hf
  obtain⟨gs',h1,rfl⟩:=hf
  obtain⟨h2,h3⟩:=oG h1
  refine .agg gs' us (by omega) fun j g v hg' hv=>?_
  obtain⟨g0,h4,h5⟩:=h3 j g hg'
  exact ih j g0 v h4 hv (tT hg j g0 h4) h5
theorem MR {O X:Nat→Prop}{base:Nat}{μ μ':Mu}{w:World}{g g':G}{v:Value}(h:aW O base w μ g v) (hX:∀b,X b→b<w.heap.size→ez O base b) (hg:pY g=true) (hf:fP g=some g'):aW X w.heap.size w μ' g' v:=by
 induction h generalizing g' with
 | aG h=>exact MQ (base:=base) (μ:=μ) h hX hg hf
 | fr h=>cases hf;exact .aG (h.mono (Kept.refl _ _) fun b hb hn hx=>hn (hX b hx hb))
 | agg cells us hl hr ih=>
  simp only[fP,au] at hf
  obtain⟨gs',h1,rfl⟩:=hf
  obtain⟨h2,h3⟩:=oG h1
  refine .agg gs' us (by omega) fun j g v hg' hv=>?_
  obtain⟨g0,h4,h5⟩:=h3 j g hg'
  exact ih j g0 v h4 hv (tT hg j g0 h4) h5
 | aE f caps us hl hr ih=>
  simp only[fP,au] at hf
  obtain⟨gs',h1,rfl⟩:=hf
  obtain⟨h2,h3⟩:=oG h1
  refine .aE f gs' us (by omega) fun j g v hg' hv=>?_
  obtain⟨g0,h4,h5⟩:=h3 j g hg'
  exact ih j g0 v h4 hv (tT hg j g0 h4) h5
 | _=>cases hg
theorem Nw {X O:Nat→Prop}{base:Nat}{μ:Mu}{w:World}{g:G}{v:Value}(h:bA X w g v) (hO:∀b,b<w.heap.size→ez O base b→X b) (hi:lh g=true):aW O base w μ (qn g) v:=by
 have key:∀{g:G}{v:Value},bA X w g v→bA (ez O base) w g v:=fun h=>h.mono (Kept.refl _ _) fun b hb hn ho=>hn (hO b hb ho)
 induction h with
 | any v=>cases hi
 | val v=>exact .aG (.val _)
 | nil=>exact .fr .nil
 | gP a c=>exact .fr (.gP a c)
 | sl n cells b off cap us h1 h2 h3 h4 h5 ih=>exact .fr (key (.sl n cells b off cap us h1 h2 h3 h4 h5))
 | ptr cells b off us h1 h2 h3 h4 ih=>exact .fr (key (.ptr cells b off us h1 h2 h3 h4))
 | agg cells us hl hr ih=>
  refine .agg _ us (by rw[vA];exact hl) fun j g v hg hv=>?_
  obtain⟨g0,h1,rfl⟩:=yg hg
  exact ih j g0 v h1 hv (qO hi j g0 h1)
theorem Nx {X O:Nat→Prop}{bX base:Nat}{μX μ:Mu}{w:World}{g:G}{v:Value}(h:aW X bX w μX g v) (hO:∀b,b<w.heap.size→ez O base b→X b) (hi:lh g=true):aW O base w μ (qn g) v:=by
 induction h with
 | aG h=>exact Nw h hO hi
 | fr h=>exact .fr (h.mono (Kept.refl _ _) fun b hb hn ho=>hn (.inr (hO b hb ho)))
 | agg cells us hl hr ih=>
  refine .agg _ us (by rw[vA];exact hl) fun j g v hg hv=>?_
  obtain⟨g0,h1,rfl⟩:=yg hg
  exact ih j g0 v h1 hv (qO hi j g0 h1)
 | bj cells us hl hr ih=>
  refine .bj _ us (by rw[vA];exact hl) fun j g v hg hv=>?_
  obtain⟨g0,h1,rfl⟩:=yg hg
  exact ih j g0 v h1 hv (qO hi j g0 h1)
 | aE f cells us hl hr ih=>
  refine .aE f _ us (by rw[vA];exact hl) fun j g v hg hv=>?_
  obtain⟨g0,h1,rfl⟩:=yg hg
  exact ih j g0 v h1 hv (qO hi j g0 h1)
 | _=>cases hi
section
variable {P:Program}{N:Nat}{cx:Cx}{s:St}
variable {ty:TypeId}{pos:String}{after:Array Edge}{guard:Option (Nat×Bool)}{W:List Nat}{d:Nat}
theorem Lh {f:FuncId}{vs:List Value}{gs gs':List G}{Q:G→List (Nat×ap)→Prop}{μ:Mu}{a:Act}{w:World}(hr:Rel N cx μ s a w) (hfre:pY.go gs=true) (hv:dU fP gs=some gs')
  (hvs:vs.length=gs.length) (hrep:∀(j:Nat) (g:G) (v:Value),gs[j]?=some g→vs[j]?=some v→aW (cx.O s.st μ) cx.base w μ g v)
  (hcon:GM P f gs' [] Q) (hres:∀r st',Q r st'→lh r=true∧st'=[]):
  Calls P f vs.toArray w fun e w'=>∃v r st',e=.returned v∧Q r st'∧Rel N cx μ s a w'∧aW (cx.O s.st μ) cx.base w' μ (qn r) v∧Step W s.st μ s.st μ w w':=by
 obtain⟨h1,h2⟩:=oJ hv
 have hXO:∀b,cx.O s.st μ b→b<w.heap.size:=fun b hb=>by
  rcases hb with hb | hb
  ·have:=hr.st.dY b hb;have:=hr.st.hb;omega
  ·exact ol hr.st hb
 have hX:∀b,(ez (cx.O s.st μ) cx.base b∧b<w.heap.size)→b<w.heap.size:=fun b hb=>hb.2
 refine(hcon.returned (fun b=>ez (cx.O s.st μ) cx.base b∧b<w.heap.size) (fun _=>none) w vs hX (yy hX) (by omega) fun j g v hg hv=>?_).mono ?_
 ·obtain⟨g0,h3,h4⟩:=h2 j g hg
  refine MR (O:=cx.O s.st μ) (base:=cx.base) (hrep j g0 v h3 hv) ?_ (tT hfre j g0 h3) h4
  rintro b (hb | hb) _
  ·exact hb.1
  ·exact absurd hb ti
 ·rintro e w' ⟨v,r,st',μ',rfl,hq,hst,hrv⟩
  have hkeep:∀b,b<w.heap.size→w'.heap[b]?=w.heap[b]?:=fun b hb=>hst.cY b hb ti
  obtain⟨hf,hs⟩:=hres r st' hq
  subst hs
  refine⟨v,r,[],rfl,hq,hr.kept hst.hb hkeep hst.os hst.tape hst.output,?_,⟨hst.hb,fun b hb _=>hkeep b hb,fun h k c m b hw h1 h2 hi=>.inl ⟨h,k,c,m,hw,h1,h2,hi⟩⟩⟩
  refine Nx hrv ?_ hf
  intro b _ hb
  refine .inl ⟨hb,?_⟩
  rcases hb with hb | hb
  ·exact bU hb hr.st.hb
  ·exact hXO b hb
theorem EF.RI {f:FuncId}{xs:Array Operand}{ts:Array TypeId}{gs gs':List G}{Q:G→List (Nat×ap)→Prop}(hc:∀args w,(callFunc f args).run P w=.ok (.enter f args) w)
  (hx:tV s xs.toList=some gs) (hfre:pY.go gs=true) (hv:dU fP gs=some gs') (hcon:GM P f gs' [] Q) (hres:∀r st',Q r st'→lh r=true∧st'=[]):
  bH P W s ⟨some d,.call ⟨.value (.func f),xs,ts⟩,ty,pos,after,guard⟩ (fun s'=>∃r st',Q r st'∧s'=s.put d (qn r)):=by
 refine⟨(fun _ h=>by cases h),?_⟩
 intro N cx μ a w hr hN K Q' hK
 obtain⟨h1,h2⟩:=mf hx
 have hcall:=Lh (vs:=xs.toList.map a.eval) (W:=W) hr hfre hv (by simp[h1]) (fun j g v hg hv=>by
  obtain⟨x,hxj,he⟩:=h2 j g hg
  rw[ay,hxj] at hv
  cases hv
  exact hr.ev he) hcon hres
 unfold Oper.wp
 have:(execOp a.eval ⟨some d,.call ⟨.value (.func f),xs,ts⟩,ty,pos,after,guard⟩).run P w=.ok (.enter f (xs.toList.map a.eval).toArray) w:=by
  have e:xs.map a.eval=(xs.toList.map a.eval).toArray:=by rw[←eg]
  simp[execOp,resolve,invoke,Deferred.ofValue,Act.eval,hc,e]
 rw[this]
 refine hcall.mono ?_
 rintro e w' ⟨v,r,st',rfl,hq,hr',hrv,hst⟩
 exact hK μ _ _ w' (hr'.put (hN d rfl) hrv) ⟨r,st',hq,rfl⟩ hst
end
section
variable {S:eC}
def TV.E0:TV S→Bool
 | .ab f τ _=>f||τ.fX
 | .ptr f _ _=>f
 | .val _=>true
 | .agg l=>go l
 | .aE _ l=>go l
 | _=>false
where go:List (TV S)→Bool
 | []=>true
 | x::r=>x.E0&&go r
theorem Ou {g:G}(h:(∃u,g=.val u)∨∃n cs,g=.sl n cs):pY (dq true g)=true:=by
 rcases h with ⟨u,rfl⟩ | ⟨n,cs,rfl⟩ <;> rfl
mutual
theorem Ot (ln:Nat→Nat):∀v:TV S,v.E0=true→pY (v.er ln)=true
 | .ab f τ a,hf=>by
  have hf:(f||τ.fX)=true:=hf
  cases τ with
  | st n=>
   have e:f=true:=by simpa[Ty.fX] using hf
   subst e
   show pY.go ((aL S (.st n) a).map (dq true))=true
   have h:=rT (S:=S) (.st n) a
   generalize aL S (.st n) a=l at h
   induction l with
   | nil=>rfl
   | cons x r ih=>
    simp only[aI,pY.go,Ou (h x av),ih fun y hy=>h y (ao _ hy),fI]
  | list τ=>
   have e:f=true:=by simpa[Ty.fX] using hf
   subst e;rfl
  | _=>cases f <;> rfl
 | .ptr f τ a,hf=>by
  have e:f=true:=hf
  subst e;rfl
 | .val _,_=>rfl
 | .agg l,h=>uX ln l h
 | .aE _ l,h=>uX ln l h
 | .bj _,h=>by cases h
 | .loc _ _,h=>by cases h
 | .gI _ _ _ _,h=>by cases h
 | .aQ _ _,h=>by cases h
 | .sub _ _ _ _,h=>by cases h
 | .cq _,h=>by cases h
 | .mp _,h=>by cases h
 | .ks _ _ _ _,h=>by cases h
 | .kp _ _ _ _,h=>by cases h
 | .fB _ _ _ _ _,h=>by cases h
 | .any,h=>by cases h
theorem uX (ln:Nat→Nat):∀l:List (TV S),TV.E0.go l=true→pY.go (TV.er.go ln l)=true
 | [],_=>rfl
 | x::r,h=>by
  simp only[TV.E0.go,aj] at h
  simp only[TV.er.go,pY.go,Ot ln x h.1,uX ln r h.2,fI]
end
mutual
theorem Qm:∀v:TV S,v.E0=true→v.imp=true
 | .ab f τ a,_=>rfl
 | .ptr f τ a,_=>rfl
 | .val _,_=>rfl
 | .agg l,h=>xi l h
 | .aE _ l,h=>xi l h
 | .bj _,h=>by cases h
 | .loc _ _,h=>by cases h
 | .gI _ _ _ _,h=>by cases h
 | .aQ _ _,h=>by cases h
 | .sub _ _ _ _,h=>by cases h
 | .cq _,h=>by cases h
 | .mp _,h=>by cases h
 | .ks _ _ _ _,h=>by cases h
 | .kp _ _ _ _,h=>by cases h
 | .fB _ _ _ _ _,h=>by cases h
 | .any,h=>by cases h
theorem xi:∀l:List (TV S),TV.E0.go l=true→TV.imp.go l=true
 | [],_=>rfl
 | x::r,h=>by
  simp only[TV.E0.go,aj] at h
  simp only[TV.imp.go,Qm x h.1,xi r h.2,fI]
end
def TV.up:TV S→TV S
 | .ab _ τ a=>.ab true τ a
 | .bj l=>.bj (go l)
 | v=>v
where go:List (TV S)→List (TV S)
 | []=>[]
 | .ab _ τ a::r=>.ab true τ a::go r
 | v::r=>v::go r
theorem LC {f:Bool}{g:G}(h:(∃u,g=.val u)∨∃n cs,g=.sl n cs):qn (dq f g)=dq true g:=by
 rcases h with ⟨u,rfl⟩ | ⟨n,cs,rfl⟩ <;> cases f <;> rfl
theorem LD (f:Bool) (τ:Ty) (a:S.D τ):qn (nk f τ a)=nk true τ a:=by
 cases τ with
 | st n=>
  show G.agg (qn.go ((aL S (.st n) a).map (dq f)))=G.agg ((aL S (.st n) a).map (dq true))
  congr 1
  have h:=rT (S:=S) (.st n) a
  generalize aL S (.st n) a=l at h
  induction l with
  | nil=>rfl
  | cons x r ih=>
   simp only[aI,qn.go,LC (h x av),ih fun y hy=>h y (ao _ hy)]
 | _=>exact LC (vY rfl a)
theorem O3 (ln:Nat→Nat):∀(aA:List (Nat×Sh)) (ls:List (bo S.α)),lS aA=true→ls.length=(iI aA).length→TV.er.go ln (TV.up.go ((cv aA ls).1.map (·.2)))=qn.go (TV.er.go ln ((cv aA ls).1.map (·.2)))
 | [],_,_,_=>rfl
 | (d,.ab f τ)::r,ls,h,hl=>by
  cases ls with
  | nil=>simp[iI,Sh.dg] at hl
  | cons x xs=>
   simp only[cv,il,aI,TV.up.go,TV.er.go,qn.go]
   rw[O3 ln r xs h (by simpa[iI,Sh.dg] using hl)]
   exact congrArg (·::_) (LD f x.τ x.a).symm
 | (d,.own h τ)::r,ls,h',_=>by cases h'
 | (d,.ptr _ _)::r,ls,h',_=>by cases h'
 | (d,.loc _ _)::r,ls,h',_=>by cases h'
 | (d,.aE _ _)::r,ls,h',_=>by cases h'
 | (d,.agg _)::r,ls,h',_=>by cases h'
 | (d,.cq _)::r,ls,h',_=>by cases h'
 | (d,.mp _)::r,ls,h',_=>by cases h'
 | (d,.fB _ _)::r,ls,h',_=>by cases h'
 | (d,.ks _ _)::r,ls,h',_=>by cases h'
 | (d,.any)::r,ls,h',_=>by cases h'
 | (d,.lT)::r,ls,h',_=>by cases h'
 | (d,.sub _ _)::r,ls,h',_=>by cases h'
theorem RR (ln:Nat→Nat){aA:List (Nat×Sh)}{ls:List (bo S.α)}(h:lS aA=true) (hl:ls.length=(iI aA).length):((lG aA ls).up).er ln=qn ((lG aA ls).er ln):=by
 have hg:=O3 ln aA ls h hl
 match aA,h with
 | [],_=>rfl
 | [(d,.ab f τ)],_=>cases ls with
  | nil=>simp[iI,Sh.dg] at hl
  | cons x xs=>exact(LD f x.τ x.a).symm
 | (d,.ab f τ)::(d',sh)::r,_=>exact congrArg G.bj hg
def Li (con:cr S) (s:ah S) (d:Nat) (vs:List (TV S)){A:Type}(k:ah S→Option A):Option A:=
 match oi con&&(!(pX con.aA)&&TV.E0.go vs) with
 | true=>match jW s con.args vs with
  | some ls=>match lA (j9 con.args con.aZ) ls with
   | some q=>(con.F q).bind fun r=>k (s.put d (lG con.aA (leaves _ r)).up)
   | none=>none
  | none=>none
 | false=>xA con s d vs k
theorem Iq {P:Program}{N:Nat}{W:List Nat}{con:cr S}(C:aP P con){s:ah S}{d:Nat}{vs:List (TV S)}{A:Type}{k:ah S→Option A}{r:A}(hl:aY s) (h:Li con s d vs k=some r)
  {xs:Array Operand}{ts:Array TypeId}{ty:TypeId}{pos:String}{after:Array Edge}{guard:Option (Nat×Bool)}(hv:sd s xs.toList=some vs):
  ∃T:St→Prop,bH P W s.er ⟨some d,.call ⟨.value (.func con.f),xs,ts⟩,ty,pos,after,guard⟩ T∧∀s',T s'→∃t:ah S,Gh s' t.er∧aY t∧bz s t∧k t=some r:=by
 unfold Li at h
 split at h
 ·rename_i hc
  simp only[aj,a6] at hc
  obtain⟨hp,_,hfr⟩:=hc
  obtain⟨C1,C2,C3⟩:=wL C hp
  split at h
  ·rename_i ls hls
   split at h
   ·rename_i q hq
    obtain⟨res,h1,h2⟩:=bind_some h
    have hview:=(uy 1 (fun _=>0) C1 hls []).2
    rw[b9,←fY hq] at hview
    have hlen:=zF res (sP hp)
    have himp:=nJ s.ln vs (xi vs hfr)
    refine⟨_,EF.RI (P:=P) (W:=W) C.call (kX hv).2 (uX s.ln vs hfr) (w5 himp hview) (C3 q res h1) (fun g st hg=>⟨by rw[hg.1];exact DR C2 hlen _,hg.2⟩),?_⟩
    intro s' hs'
    obtain⟨g,st,⟨hg,_⟩,e⟩:=hs'
    subst e;subst hg
    refine⟨_,?_,hl.put d _,⟨rfl,rfl,rfl⟩,h2⟩
    rw[fC,RR s.ln C2 hlen,GH s.ln (fun _=>0) C2]
    exact Gh.refl _
   ·cases h
  ·cases h
 ·exact OL (N:=N) C hl h hv
end
end Go.DN
/-
 DN,part W:calls to which all objects are lent,and what comes back.
-/
namespace Go.DN
open Go.AM
section
variable {P:Program}{W:List Nat}{s:St}{d:Nat}{ty:TypeId}{pos:String}{after:Array Edge}{guard:Option (Nat×Bool)}
theorem EF.R9 {f:FuncId}{xs:Array Operand}{ts:Array TypeId}{gs gs':List G}{stC:List (Nat×ap)}{Q:G→List (Nat×ap)→Prop}{T:St→Prop}(H:List Nat) (vw:Bool) (hc:∀args w,(callFunc f args).run P w=.ok (.enter f args) w)
  (hx:tV s xs.toList=some gs) (hv:cg.go H (ey s.st H vw) gs=some gs') (hl:fD H (ey s.st H vw) s.st H 0=some stC) (cP:nT H=true) (hcon:GM P f gs' stC Q)
  (hres:∀r st',Q r st'→∃bk s2 r',nR vw s H st' bk=some s2∧dH vw (jk st' bk) r=some r'∧T (s2.put d r')) (hW:xO H W=true):
  bH P W s ⟨some d,.call ⟨.value (.func f),xs,ts⟩,ty,pos,after,guard⟩ T:=by
 refine⟨(fun _ h=>by cases h),?_⟩
 intro N cx μ a w hr hN K Q' hK
 obtain⟨h1,h2⟩:=mf hx
 have hcall:=uM (vs:=xs.toList.map a.eval) hr hv hl cP (by simp[h1]) (fun j g v hg hv=>by
  obtain⟨x,hxj,he⟩:=h2 j g hg
  rw[ay,hxj] at hv
  cases hv
  exact hr.ev he) hcon
 unfold Oper.wp
 have:(execOp a.eval ⟨some d,.call ⟨.value (.func f),xs,ts⟩,ty,pos,after,guard⟩).run P w=.ok (.enter f (xs.toList.map a.eval).toArray) w:=by
  have e:xs.map a.eval=(xs.toList.map a.eval).toArray:=by rw[←eg]
  simp[execOp,resolve,invoke,Deferred.ofValue,Act.eval,hc,e]
 rw[this]
 refine hcall.mono ?_
 rintro e w' (⟨v,r,st',μ',rfl,hq,hC,hrv⟩ | ⟨_,_,_,_,h,_⟩)
 ·obtain⟨bk,s2,r',hb,hren,hT⟩:=hres r st' hq
  obtain⟨q1,q2,q3,_⟩:=uh hr hl (lL cP) hC hb
  exact hK _ _ _ w' (q1.put (hN d rfl) (q2 r r' v hrv hren)) hT (q3 W (xN hW))
 ·exact h.elim
end
section
variable {S:eC}
def zQ (s:ah S) (vw:Bool) (H:List Nat) (τ:Ty):TV S→Option (S.D τ)
 | .ab _ τ' a=>match τ'.fN with
  | true=>none
  | false=>ir τ' τ a
 | .val (.slice none 0 0)=>match τ with
  | .list _=>some []
  | _=>none
 | .aQ h τ2=>match vw with
  | true=>match dr H h with
   | none=>match aw s.bg h with
    | some (.aU _ _ _ τ' l)=>match decEq τ' τ2 with
     | isTrue _=>ir (.list τ') τ l
     | isFalse _=>none
    | _=>none
   | some _=>none
  | false=>none
 | _=>none
def Fz (s:ah S) (vw:Bool) (H:List Nat):List Ty→List (TV S)→Option (List (bo S.α))
 | [],[]=>some []
 | τ::ts,v::vs=>match zQ s vw H τ v with
  | some a=>match Fz s vw H ts vs with
   | some l=>some (⟨τ,a⟩::l)
   | none=>none
  | none=>none
 | _,_=>none
def KP (s:ah S) (vw:Bool) (H:List Nat) (τ:Ty) (v:TV S):Option (S.D τ):=
 match v with
 | .ab _ τ' a=>ir τ' τ a
 | .agg vs=>match τ with
  | .st n=>match Fz s vw H (S.dg n) vs with
   | some l=>S.put n l
   | none=>none
  | _=>none
 | v=>zQ s vw H τ v
mutual
def kS (s:ah S) (vw:Bool) (H:List Nat):Sh→TV S→Option (List (bo S.α))
 | .ab false τ,v=>match KP s vw H τ v with
  | some a=>some [⟨τ,a⟩]
  | none=>none
 | .ptr false τ,v=>match v with
  | .ptr _ τ' a=>match ir τ' τ a with
   | some b=>some [⟨τ,b⟩]
   | none=>none
  | _=>none
 | .own r τ,v=>match v with
  | .aQ h τ'=>match dr H h with
   | some i=>match Nat.beq (1000+i) r with
    | true=>match decEq τ' τ with
     | isTrue _=>some []
     | isFalse _=>none
    | false=>none
   | none=>none
  | _=>none
 | .loc r o,v=>match v with
  | .loc h o'=>match dr H h with
   | some i=>match Nat.beq (1000+i) r&&Nat.beq o' o with
    | true=>some []
    | false=>none
   | none=>none
  | _=>none
 | .aE f l,v=>match v with
  | .aE f' vs=>match Nat.beq f' f with
   | true=>jH s vw H l vs
   | false=>none
  | _=>none
 | .agg l,v=>match v with
  | .agg vs=>jH s vw H l vs
  | _=>none
 | .cq r,v=>match v with
  | .cq h=>match dr H h with
   | some i=>match Nat.beq (1000+i) r with
    | true=>some []
    | false=>none
   | none=>none
  | _=>none
 | .mp r,v=>match v with
  | .mp h=>match dr H h with
   | some i=>match Nat.beq (1000+i) r with
    | true=>some []
    | false=>none
   | none=>none
  | _=>none
 | .lT,v=>match v with
  | .aE f []=>some [⟨.int .i64,(f:Int)⟩]
  | _=>none
 | .ks r τ,v=>match v with
  | .ks h τ' z n=>match dr H h with
   | some i=>match Nat.beq (1000+i) r with
    | true=>match decEq τ' τ with
     | isTrue _=>some [⟨.int .i64,(z:Int)⟩,⟨.int .i64,(n:Int)⟩]
     | isFalse _=>none
    | false=>none
   | none=>none
  | _=>none
 | .sub r τ,v=>match v with
  | .sub h τ' o n=>match dr H h with
   | some i=>match Nat.beq (1000+i) r with
    | true=>match decEq τ' τ with
     | isTrue _=>some [⟨.int .i64,(o:Int)⟩,⟨.int .i64,(n:Int)⟩]
     | isFalse _=>none
    | false=>none
   | none=>none
  | _=>none
 | _,_=>none
def jH (s:ah S) (vw:Bool) (H:List Nat):List Sh→List (TV S)→Option (List (bo S.α))
 | [],[]=>some []
 | x::r,v::vs=>match kS s vw H x v with
  | some a=>match jH s vw H r vs with
   | some l=>some (a++l)
   | none=>none
  | none=>none
 | _,_=>none
end
theorem EO (H:List Nat) (stv:List (Nat×ap)) (f:Bool){τ:Ty}(h:τ.fN=false) (a:S.D τ):cg H stv (dq f (dy S τ a))=some (dy S τ a):=by
 cases τ with
 | st n=>cases h
 | _=>cases f <;> rfl
theorem Hw {s:ah S}{vw:Bool}{H:List Nat}{τ:Ty}{v:TV S}{a:S.D τ}(h:zQ s vw H τ v=some a):cg H (ey s.er.st H vw) (v.er s.ln)=some (dy S τ a)∧τ.fN=false:=by
 unfold zQ at h
 split at h
 ·split at h
  ·cases h
  ·rename_i hs
   have:=dW h
   cases this
   refine⟨?_,hs⟩
   rw[nM hs]
   exact EO H _ _ hs _
 ·split at h
  ·cases h;exact⟨rfl,rfl⟩
  ·cases h
 ·rename_i hh τ2
  split at h
  ·split at h
   ·rename_i hi
    split at h
    ·rename_i e m f τ' l ho
     split at h
     ·rename_i e1 _
      subst e1
      have:=dW h
      cases this
      refine⟨?_,rfl⟩
      show cg H (ey s.er.st H true) (.aQ hh (S.sz τ') 0 (s.ln hh))=_
      simp only[cg,hi,ey,cond_true,view,wQ hi (cO ho),TO.er]
      rw[l6 ho,eE,b6 (by rw[eO];exact az _)]
      rfl
     ·cases h
    ·cases h
   ·cases h
  ·cases h
 ·cases h
theorem Hv {s:ah S}{vw:Bool}{H:List Nat}:∀{ts:List Ty}{vs:List (TV S)}{l:List (bo S.α)},Fz s vw H ts vs=some l→cg.go H (ey s.er.st H vw) (TV.er.go s.ln vs)=some (l.map fun x=>dy S x.τ x.a)
 | [],[],_,h=>by cases h;rfl
 | τ::ts,v::vs,l,h=>by
  simp only[Fz] at h
  split at h
  ·rename_i a ha
   split at h
   ·rename_i l' hl
    cases h
    simp only[TV.er.go,cg.go,(Hw ha).1,Hv hl,aI]
   ·cases h
  ·cases h
 | [],_::_,_,h=>by cases h
 | _::_,[],_,h=>by cases h
theorem N5 {s:ah S}{vw:Bool}{H:List Nat}{τ:Ty}{v:TV S}{a:S.D τ}(h:KP s vw H τ v=some a) (ln:Nat→Nat):cg H (ey s.er.st H vw) (v.er s.ln)=some ((TV.ab false τ a:TV S).er ln):=by
 have one:zQ s vw H τ v=some a→cg H (ey s.er.st H vw) (v.er s.ln)=some ((TV.ab false τ a:TV S).er ln):=by
  intro h
  obtain⟨h1,h2⟩:=Hw h
  rw[h1,nM h2];rfl
 unfold KP at h
 split at h
 ·rename_i f τ' a'
  have:=dW h
  cases this
  cases τ with
  | st k=>
   show(cg.go H _ ((aL S (.st k) a).map (dq f))).map G.agg=some (.agg ((aL S (.st k) a).map (dq false)))
   have key:cg.go H (ey s.er.st H vw) ((aL S (.st k) a).map (dq f))=some ((aL S (.st k) a).map (dq false)):=by
    rw[gu]
    have h:=jR k a
    generalize S.cells k a=l at h
    induction l with
    | nil=>rfl
    | cons x r ih=>
     simp only[aI,cg.go]
     rw[EO H _ f (h x av) x.a,ih fun y hy=>h y (ao _ hy)]
     rfl
   rw[key];rfl
  | _=>exact one (by unfold zQ;exact h)
 ·rename_i vs
  split at h
  ·rename_i k
   split at h
   ·rename_i l hl
    have hp:=S.kF _ _ _ h
    show(cg.go H _ (TV.er.go s.ln vs)).map G.agg=some (.agg ((aL S (.st k) a).map (dq false)))
    have e:(dq false)=(id:G→G):=rfl
    rw[e,List.map_id,gu,hp,Hv hl];rfl
   ·cases h
  ·cases h
 ·exact one h
mutual
theorem N4 {s:ah S}{vw:Bool}{H:List Nat}{lnC:Nat→Nat}(hln:∀i h,dr H h=some i→lnC (1000+i)=s.ln h):∀{sh:Sh}{v:TV S}{xs:List (bo S.α)},kS s vw H sh v=some xs→∀r,(il sh (xs++r)).2=r∧cg H (ey s.er.st H vw) (v.er s.ln)=some ((il sh (xs++r)).1.er lnC)
 | .ab true τ,v,xs,h,r=>by simp[kS] at h
 | .ab false τ,v,xs,h,r=>by
  simp only[kS] at h
  split at h
  ·rename_i a ha
   cases h
   exact⟨rfl,N5 ha lnC⟩
  ·cases h
 | .ptr true τ,v,xs,h,r=>by simp[kS] at h
 | .ptr false τ,v,xs,h,r=>by
  simp only[kS] at h
  split at h
  ·rename_i f τ' a
   split at h
   ·rename_i b hb
    cases h
    have:=dW hb
    cases this
    refine⟨rfl,?_⟩
    cases f <;> rfl
   ·cases h
  ·cases h
 | .own k τ,v,xs,h,r=>by
  simp only[kS] at h
  split at h
  ·rename_i hh τ'
   split at h
   ·rename_i i hi
    split at h
    ·rename_i hb
     split at h
     ·rename_i e _
      cases h
      subst e
      have:=aa hb
      subst this
      refine⟨rfl,?_⟩
      show cg H _ (.aQ hh (S.sz τ') 0 (s.ln hh))=some (.aQ (1000+i) (S.sz τ') 0 (lnC (1000+i)))
      simp only[cg,hi,hln i hh hi]
     ·cases h
    ·cases h
   ·cases h
  ·cases h
 | .loc k o,v,xs,h,r=>by
  simp only[kS] at h
  split at h
  ·rename_i hh o'
   split at h
   ·rename_i i hi
    split at h
    ·rename_i hb
     simp only[aj] at hb
     cases h
     have e1:=aa hb.1
     have e2:=aa hb.2
     subst e1;subst e2
     refine⟨rfl,?_⟩
     show cg H _ (.loc hh o')=some (.loc (1000+i) o')
     simp only[cg,hi]
    ·cases h
   ·cases h
  ·cases h
 | .aE f l,v,xs,h,r=>by
  simp only[kS] at h
  split at h
  ·rename_i f' vs
   split at h
   ·rename_i hb
    have e:=aa hb
    subst e
    obtain⟨i1,i2⟩:=ie hln h r
    refine⟨i1,?_⟩
    show(cg.go H _ (TV.er.go s.ln vs)).map (G.aE f')=_
    rw[i2];rfl
   ·cases h
  ·cases h
 | .agg l,v,xs,h,r=>by
  simp only[kS] at h
  split at h
  ·rename_i vs
   obtain⟨i1,i2⟩:=ie hln h r
   refine⟨i1,?_⟩
   show(cg.go H _ (TV.er.go s.ln vs)).map G.agg=_
   rw[i2];rfl
  ·cases h
 | .cq k,v,xs,h,r=>by
  simp only[kS] at h
  split at h
  ·rename_i hh
   split at h
   ·rename_i i hi
    split at h
    ·rename_i hb
     cases h
     have:=aa hb
     subst this
     refine⟨rfl,?_⟩
     show cg H _ (.cq hh)=some (.cq (1000+i))
     simp only[cg,hi]
    ·cases h
   ·cases h
  ·cases h
 | .mp k,v,xs,h,r=>by
  simp only[kS] at h
  split at h
  ·rename_i hh
   split at h
   ·rename_i i hi
    split at h
    ·rename_i hb
     cases h
     have:=aa hb
     subst this
     refine⟨rfl,?_⟩
     show cg H _ (.dR hh)=some (.dR (1000+i))
     simp only[cg,hi]
    ·cases h
   ·cases h
  ·cases h
 | .any,v,xs,h,r=>by simp[kS] at h
 | .lT,v,xs,h,r=>by
  simp only[kS] at h
  split at h
  ·cases h
   exact⟨rfl,rfl⟩
  ·cases h
 | .ks k τ,v,xs,h,r=>by
  simp only[kS] at h
  split at h
  ·rename_i hh τ' o n
   split at h
   ·rename_i i hi
    split at h
    ·rename_i hb
     split at h
     ·rename_i e _
      cases h
      subst e
      have:=aa hb
      subst this
      refine⟨rfl,?_⟩
      show cg H _ (.ks hh o (S.sz τ') n)=some (.ks (1000+i) o (S.sz τ') n)
      simp only[cg,hi]
     ·cases h
    ·cases h
   ·cases h
  ·cases h
 | .sub k τ,v,xs,h,r=>by
  simp only[kS] at h
  split at h
  ·rename_i hh τ' o n
   split at h
   ·rename_i i hi
    split at h
    ·rename_i hb
     split at h
     ·rename_i e _
      cases h
      subst e
      have:=aa hb
      subst this
      refine⟨rfl,?_⟩
      show cg H _ (.aQ hh (S.sz τ') (o*S.sz τ') n)=some (.aQ (1000+i) (S.sz τ') (o*S.sz τ') n)
      simp only[cg,hi]
     ·cases h
    ·cases h
   ·cases h
  ·cases h
theorem ie {s:ah S}{vw:Bool}{H:List Nat}{lnC:Nat→Nat}(hln:∀i h,dr H h=some i→lnC (1000+i)=s.ln h):∀{l:List Sh}{vs:List (TV S)}{xs:List (bo S.α)},jH s vw H l vs=some xs→∀r,(cX l (xs++r)).2=r∧cg.go H (ey s.er.st H vw) (TV.er.go s.ln vs)=some (TV.er.go lnC (cX l (xs++r)).1)
 | [],[],xs,h,r=>by simp only[jH] at h;cases h;exact⟨rfl,rfl⟩
 | x::l,v::vs,xs,h,r=>by
  simp only[jH] at h
  split at h
  ·rename_i a ha
   split at h
   ·rename_i l' hl
    cases h
    rw[aC]
    obtain⟨i1,i2⟩:=N4 hln ha (l'++r)
    obtain⟨j1,j2⟩:=ie hln hl r
    simp only[cX]
    rw[i1]
    refine⟨j1,?_⟩
    simp only[TV.er.go,cg.go,i2,j2]
   ·cases h
  ·cases h
 | [],_::_,_,h,_=>by simp[jH] at h
 | _::_,[],_,h,_=>by simp[jH] at h
end
def Hu (s:ah S) (vw:Bool) (H:List Nat) (oh:Oh) (o:TO S):Option (List (bo S.α)):=
 match oh with
 | .aU e m f τ=>match o with
  | .aU e' _ _ τ' l=>match Nat.beq e' e&&(!m&&!f) with
   | true=>match ir (.list τ') (.list τ) l with
    | some l=>some [⟨.list τ,l⟩]
    | none=>none
   | false=>none
  | _=>none
 | .box e m cs=>match o with
  | .box e' _ vs=>match Nat.beq e' e&&!m with
   | true=>jH s vw H cs vs
   | false=>none
  | _=>none
 | .deep e m f dk τ=>match o with
  | .deep e' _ _ dk' τ' a=>match Nat.beq e' e&&(!m&&!f) with
   | true=>match decEq dk' dk with
    | isTrue _=>match ir τ' τ a with
     | some a=>some [⟨τ,a⟩]
     | none=>none
    | isFalse _=>none
   | false=>none
  | _=>none
 | .lp key lv cs=>match o with
  | .lp key' n vs=>match Nat.beq key' key with
   | true=>match lv with
    | true=>match jH s vw H cs vs with
     | some xs=>some (⟨.int .i64,n⟩::xs)
     | none=>none
    | false=>match decEq n 0 with
     | isTrue _=>jH s vw H cs vs
     | isFalse _=>none
   | false=>none
  | _=>none
def na (s:ah S) (vw:Bool) (H:List Nat):List Nat→List Oh→Option (List (bo S.α))
 | [],[]=>some []
 | h::hs,oh::r=>match aw s.bg h with
  | some o=>match Hu s vw H oh o with
   | some a=>match na s vw H hs r with
    | some l=>some (a++l)
    | none=>none
   | none=>none
  | none=>none
 | _,_=>none
theorem IR {s:ah S}{vw:Bool}{H:List Nat}{oh:Oh}{o:TO S}{xs:List (bo S.α)}(h:Hu s vw H oh o=some xs) (r:List (bo S.α)):(kU oh (xs++r)).2=r∧(kU oh (xs++r)).1.len=o.len∧
  ∀lnC:Nat→Nat,(∀i h,dr H h=some i→lnC (1000+i)=s.ln h)→pR H (ey s.er.st H vw) (o.er s.ln)=some ((kU oh (xs++r)).1.er lnC):=by
 unfold Hu at h
 split at h
 ·split at h
  ·split at h
   ·rename_i hc
    simp only[aj,a6] at hc
    obtain⟨c1,c2,c3⟩:=hc
    split at h
    ·rename_i l' hl
     cases h
     obtain⟨e,hl⟩:=nP hl
     subst e
     cases hl
     have c1:=aa c1
     subst c1;subst c2;subst c3
     exact⟨rfl,rfl,fun _ _=>rfl⟩
    ·cases h
   ·cases h
  ·cases h
 ·split at h
  ·split at h
   ·rename_i hc
    simp only[aj,a6] at hc
    have c1:=aa hc.1
    have c2:=hc.2
    subst c1;subst c2
    have i1:(cX _ (xs++r)).2=r:=(ie (lnC:=fun k=>s.ln ((H[k-1000]?).getD 0)) (fun i h hi=>by simp[ec hi]) h r).1
    refine⟨i1,rfl,fun lnC hln=>?_⟩
    obtain⟨_,i2⟩:=ie hln h r
    simp only[pR,TO.er,cond_false,i2,kU]
   ·cases h
  ·cases h
 ·split at h
  ·split at h
   ·rename_i hc
    simp only[aj,a6] at hc
    obtain⟨c1,c2,c3⟩:=hc
    split at h
    ·rename_i e _
     subst e
     split at h
     ·rename_i l' hl
      cases h
      have:=dW hl
      cases this
      have c1:=aa c1
      subst c1;subst c2;subst c3
      exact⟨rfl,rfl,fun _ _=>rfl⟩
     ·cases h
    ·cases h
   ·cases h
  ·cases h
 ·split at h
  ·split at h
   ·rename_i hc
    have c1:=aa hc
    subst c1
    split at h
    ·split at h
     ·rename_i xs' hx
      cases h
      have i1:(cX _ (xs'++r)).2=r:=(ie (lnC:=fun k=>s.ln ((H[k-1000]?).getD 0)) (fun i h hi=>by simp[ec hi]) hx r).1
      refine⟨i1,rfl,fun lnC hln=>?_⟩
      obtain⟨_,i2⟩:=ie hln hx r
      simp only[pR,TO.er,cond_false,i2,kU]
      rfl
     ·cases h
    ·split at h
     ·rename_i hn _
      subst hn
      have i1:(cX _ (xs++r)).2=r:=(ie (lnC:=fun k=>s.ln ((H[k-1000]?).getD 0)) (fun i h hi=>by simp[ec hi]) h r).1
      refine⟨i1,rfl,fun lnC hln=>?_⟩
      obtain⟨_,i2⟩:=ie hln h r
      simp only[pR,TO.er,cond_false,i2,kU]
     ·cases h
   ·cases h
  ·cases h
theorem yO {s:ah S}{vw:Bool}{H:List Nat}:∀{hs:List Nat}{l:List Oh}{xs:List (bo S.α)}(i:Nat),na s vw H hs l=some xs→∀r,(ca (mg l (1000+i)) (xs++r)).2=r∧
  (∀n h,hs[n]?=some h→bZ (ca (mg l (1000+i)) (xs++r)).1 (1000+(i+n))=s.ln h)∧
  ∀lnC:Nat→Nat,(∀i h,dr H h=some i→lnC (1000+i)=s.ln h)→fD H (ey s.er.st H vw) s.er.st hs i=some (b8 lnC (ca (mg l (1000+i)) (xs++r)).1)
 | [],[],xs,i,h,r=>by simp only[na] at h;cases h;exact⟨rfl,fun n h hn=>by simp at hn,fun _ _=>rfl⟩
 | h0::hs,oh::l,xs,i,h,r=>by
  simp only[na] at h
  split at h
  ·rename_i o ho
   split at h
   ·rename_i a ha
    split at h
    ·rename_i l' hl
     cases h
     rw[aC]
     obtain⟨i1,i2,i3⟩:=IR ha (l'++r)
     obtain⟨j1,j2,j3⟩:=yO (i+1) hl r
     simp only[mg,ca]
     rw[i1]
     refine⟨j1,fun n h hn=>?_,fun lnC hln=>?_⟩
     ·cases n with
      | zero=>
       cases hn
       unfold bZ ah.ln bZ
       simp only[di,aw,aH,cond_true,ho,i2]
      | succ n=>
       have:=j2 n h (by simpa using hn)
       rw[←this]
       have e:1000+(i+(n+1))=1000+(i+1+n):=by omega
       rw[e]
       unfold bZ
       rw[jo _ _ (by omega)]
       rfl
     ·simp only[fD,cO ho,i3 lnC hln,b8]
      have:=j3 lnC hln
      rw[show 1000+(i+1)=1000+i+1 by omega] at this
      rw[this]
    ·cases h
   ·cases h
  ·cases h
 | [],_::_,_,_,h,_=>by simp[na] at h
 | _::_,[],_,_,h,_=>by simp[na] at h
def TV.k8 (vw:Bool) (f:Nat→Option Nat):TV S→Option (TV S)
 | .ab b τ a=>match !vw||(b||τ.fX) with
  | true=>some (.ab b τ a)
  | false=>none
 | .ptr b τ a=>match !vw||b with
  | true=>some (.ptr b τ a)
  | false=>none
 | .loc h o=>match f h with
  | some h'=>some (.loc h' o)
  | none=>none
 | .aQ h τ=>match f h with
  | some h'=>some (.aQ h' τ)
  | none=>none
 | .sub h τ o n=>match f h with
  | some h'=>some (.sub h' τ o n)
  | none=>none
 | .gI h τ a j=>match f h with
  | some h'=>some (.gI h' τ a j)
  | none=>none
 | .agg l=>match go f l with
  | some l'=>some (.agg l')
  | none=>none
 | .bj l=>match go f l with
  | some l'=>some (.bj l')
  | none=>none
 | .aE g l=>match go f l with
  | some l'=>some (.aE g l')
  | none=>none
 | .val u=>some (.val u)
 | .any=>some .any
 | .cq h=>match f h with
  | some h'=>some (.cq h')
  | none=>none
 | .mp h=>match f h with
  | some h'=>some (.mp h')
  | none=>none
 | .ks h τ i n=>match f h with
  | some h'=>some (.ks h' τ i n)
  | none=>none
 | .kp h τ i j=>match f h with
  | some h'=>some (.kp h' τ i j)
  | none=>none
 | .fB b h τ i j=>match f h with
  | some h'=>some (.fB b h' τ i j)
  | none=>none
where go (f:Nat→Option Nat):List (TV S)→Option (List (TV S))
 | []=>some []
 | x::r=>match x.k8 vw f with
  | some y=>match go f r with
   | some ys=>some (y::ys)
   | none=>none
  | none=>none
theorem GJ (vw:Bool) (fm:Nat→Option Nat) (f:Bool){τ:Ty}(h:τ.fN=false) (hv:(!vw||(f||τ.fX))=true) (a:S.D τ):dH vw fm (dq f (dy S τ a))=some (dq f (dy S τ a)):=by
 cases τ with
 | st n=>cases h
 | list t=>
  cases f with
  | true=>rfl
  | false=>
   cases vw with
   | true=>cases hv
   | false=>rfl
 | _=>cases f <;> rfl
mutual
theorem Mc {vw:Bool}{f:Nat→Option Nat}{ln ln':Nat→Nat}(hln:∀k k',f k=some k'→ln' k'=ln k):∀(v v':TV S),v.k8 vw f=some v'→dH vw f (v.er ln)=some (v'.er ln')
 | .ab b τ a,v',h=>by
  simp only[TV.k8] at h
  split at h
  ·rename_i hv
   cases h
   cases τ with
   | st n=>
    show(dH.go vw f ((aL S (.st n) a).map (dq b))).map G.agg=some (.agg ((aL S (.st n) a).map (dq b)))
    have hv:(!vw||b)=true:=by simpa[Ty.fX] using hv
    have:dH.go vw f ((aL S (.st n) a).map (dq b))=some ((aL S (.st n) a).map (dq b)):=by
     rw[gu]
     have h:=jR n a
     generalize S.cells n a=l at h
     induction l with
     | nil=>rfl
     | cons x r ih=>
      simp only[aI,dH.go]
      rw[GJ vw f b (h x av) (by rw[←Bool.or_assoc,hv];rfl) x.a,ih fun y hy=>h y (ao _ hy)]
    rw[this];rfl
   | _=>exact GJ vw f b rfl hv a
  ·cases h
 | .ptr b τ a,v',h=>by
  simp only[TV.k8] at h
  split at h
  ·rename_i hv
   cases h
   cases b with
   | true=>rfl
   | false=>
    cases vw with
    | true=>cases hv
    | false=>rfl
  ·cases h
 | .loc hh o,v',h=>by
  simp only[TV.k8] at h
  split at h
  ·rename_i i hi
   cases h
   simp only[TV.er,dH,hi,bG]
  ·cases h
 | .aQ hh τ,v',h=>by
  simp only[TV.k8] at h
  split at h
  ·rename_i i hi
   cases h
   simp only[TV.er,dH,hi,bG,hln hh i hi]
  ·cases h
 | .sub hh τ o n,v',h=>by
  simp only[TV.k8] at h
  split at h
  ·rename_i i hi
   cases h
   simp only[TV.er,dH,hi,bG]
  ·cases h
 | .gI hh τ a j,v',h=>by
  simp only[TV.k8] at h
  split at h
  ·rename_i i hi
   cases h
   simp only[TV.er,dH,hi,bG]
  ·cases h
 | .agg l,v',h=>by
  simp only[TV.k8] at h
  split at h
  ·rename_i l' hl
   cases h
   simp only[TV.er,dH,td hln l l' hl,bG]
  ·cases h
 | .bj l,v',h=>by
  simp only[TV.k8] at h
  split at h
  ·rename_i l' hl
   cases h
   simp only[TV.er,dH,td hln l l' hl,bG]
  ·cases h
 | .aE g l,v',h=>by
  simp only[TV.k8] at h
  split at h
  ·rename_i l' hl
   cases h
   simp only[TV.er,dH,td hln l l' hl,bG]
  ·cases h
 | .val u,v',h=>by simp only[TV.k8] at h;cases h;rfl
 | .any,v',h=>by simp only[TV.k8] at h;cases h;rfl
 | .cq hh,v',h=>by
  simp only[TV.k8] at h
  split at h
  ·rename_i i hi
   cases h
   simp only[TV.er,dH,hi,bG]
  ·cases h
 | .mp hh,v',h=>by
  simp only[TV.k8] at h
  split at h
  ·rename_i i hi
   cases h
   simp only[TV.er,dH,hi,bG]
  ·cases h
 | .ks hh _ _ _,v',h=>by
  simp only[TV.k8] at h
  split at h
  ·rename_i i hi
   cases h
   simp only[TV.er,dH,hi,bG]
  ·cases h
 | .kp hh _ _ _,v',h=>by
  simp only[TV.k8] at h
  split at h
  ·rename_i i hi
   cases h
   simp only[TV.er,dH,hi,bG]
  ·cases h
 | .fB b hh _ _ _,v',h=>by
  simp only[TV.k8] at h
  split at h
  ·rename_i i hi
   cases h
   cases b with
   | true=>rfl
   | false=>simp only[TV.er,cond_false,dH,hi,bG]
  ·cases h
theorem td {vw:Bool}{f:Nat→Option Nat}{ln ln':Nat→Nat}(hln:∀k k',f k=some k'→ln' k'=ln k):∀(l l':List (TV S)),TV.k8.go vw f l=some l'→dH.go vw f (TV.er.go ln l)=some (TV.er.go ln' l')
 | [],l',h=>by cases h;rfl
 | x::r,l',h=>by
  simp only[TV.k8.go] at h
  split at h
  ·rename_i y hy
   split at h
   ·rename_i ys hys
    cases h
    simp only[TV.er.go,dH.go,Mc hln x y hy,td hln r ys hys]
   ·cases h
  ·cases h
end
end
end Go.DN
/-
 DN,part X:what comes back of a call to which objects were lent.
-/
namespace Go.DN
open Go.AM
section
variable {S:eC}
def mJ (vw:Bool) (f:Nat→Option Nat) (A:Bool) (gst:List (Nat×ap)):List (Nat×TO S)→List Nat→Option (List (Nat×TO S))
 | [],[]=>some []
 | (j,o)::r,h::hs=>match o with
  | .box e m cs=>match TV.k8.go vw f cs with
   | some cs'=>match mJ vw f A gst r hs with
    | some r'=>some ((h,.box e (bif pinned j then yM gst h else m||A) cs')::r')
    | none=>none
   | none=>none
  | .aU e m b τ l=>match !vw||b with
   | true=>match mJ vw f A gst r hs with
    | some r'=>some ((h,.aU e (bif pinned j then yM gst h else m||A) b τ l)::r')
    | none=>none
   | false=>none
  | .lp key n cs=>match TV.k8.go vw f cs with
   | some cs'=>match mJ vw f A gst r hs with
    | some r'=>some ((h,.lp key n cs')::r')
    | none=>none
   | none=>none
  | .deep e m b dk τ l=>match !vw||b with
   | true=>match mJ vw f A gst r hs with
    | some r'=>some ((h,.deep e (bif pinned j then yM gst h else m||A) b dk τ l)::r')
    | none=>none
   | false=>none
 | _,_=>none
theorem rj {vw:Bool}{f:Nat→Option Nat}{ln ln':Nat→Nat}(hln:∀k k',f k=some k'→ln' k'=ln k){A:Bool}{gst:List (Nat×ap)}:∀{outs:List (Nat×TO S)}{bk:List Nat}{sb:List (Nat×TO S)},mJ vw f A gst outs bk=some sb→kf vw f A gst (b8 ln outs) bk=some (b8 ln' sb)
 | [],[],sb,h=>by cases h;rfl
 | (j,o)::r,h0::hs,sb,h=>by
  simp only[mJ] at h
  cases o with
  | lp p n cs=>
   dsimp only at h
   split at h
   ·rename_i cs' hcs
    split at h
    ·rename_i r' hr
     cases h
     simp only[b8,kf,rj hln hr,TO.er]
     simp only[tF,cond_false,td hln cs cs' hcs,mX,pU,cond_true]
    ·cases h
   ·cases h
  | aU e m b τ l=>
   dsimp only at h
   split at h
   ·rename_i hv
    split at h
    ·rename_i r' hr
     cases h
     simp only[b8,kf,rj hln hr,TO.er]
     have hv:(vw&&!b)=false:=by cases vw <;> cases b <;> first | rfl | cases hv
     simp only[tF,cond_true,hv,cond_false,mX,pU]
     cases pinned j <;> rfl
    ·cases h
   ·cases h
  | deep e m b dk τ l=>
   dsimp only at h
   split at h
   ·rename_i hv
    split at h
    ·rename_i r' hr
     cases h
     simp only[b8,kf,rj hln hr,TO.er]
     have hv:(vw&&!b)=false:=by cases vw <;> cases b <;> first | rfl | cases hv
     simp only[tF,cond_true,hv,cond_false,mX,pU]
     cases pinned j <;> rfl
    ·cases h
   ·cases h
  | box e m cs=>
   dsimp only at h
   split at h
   ·rename_i cs' hcs
    split at h
    ·rename_i r' hr
     cases h
     simp only[b8,kf,rj hln hr,TO.er]
     simp only[tF,cond_false,td hln cs cs' hcs,mX,pU,cond_true]
     cases pinned j <;> rfl
    ·cases h
   ·cases h
 | [],_::_,_,h=>by cases h
 | _::_,[],_,h=>by cases h
theorem zt {vw:Bool}{f:Nat→Option Nat}{A:Bool}{gst:List (Nat×ap)}{ln:Nat→Nat}:∀{outs:List (Nat×TO S)}{bk:List Nat}{sb:List (Nat×TO S)},mJ vw f A gst outs bk=some sb→nT bk=true→
  ∀k k',jk (b8 ln outs) bk k=some k'→k'∈bk∧∃o o',aw outs k=some o∧aw sb k'=some o'∧o'.len=o.len
 | [],[],sb,h,_,k,k',hk=>by cases hk
 | (j,o)::r,h0::hs,sb,h,hn,k,k',hk=>by
  simp only[nT,aj,a6] at hn
  have hsb:∃o' r',sb=(h0,o')::r'∧o'.len=o.len∧mJ vw f A gst r hs=some r':=by
   simp only[mJ] at h
   cases o with
   | lp p n cs=>
    dsimp only at h
    split at h
    ·split at h
     ·rename_i r' hr;cases h;exact⟨_,_,rfl,rfl,hr⟩
     ·cases h
    ·cases h
   | aU e m b τ l=>
    dsimp only at h
    split at h
    ·split at h
     ·rename_i r' hr;cases h;exact⟨_,_,rfl,rfl,hr⟩
     ·cases h
    ·cases h
   | deep e m b dk τ l=>
    dsimp only at h
    split at h
    ·split at h
     ·rename_i r' hr;cases h;exact⟨_,_,rfl,rfl,hr⟩
     ·cases h
    ·cases h
   | box e m cs=>
    dsimp only at h
    split at h
    ·split at h
     ·rename_i r' hr;cases h;exact⟨_,_,rfl,rfl,hr⟩
     ·cases h
    ·cases h
  obtain⟨o',r',rfl,hlen,hr⟩:=hsb
  simp only[b8,jk] at hk
  cases hb:Nat.beq j k with
  | true=>
   rw[hb] at hk
   cases hk
   have:=aa hb
   subst this
   exact⟨av,o,o',by simp only[aw,aH,cond_true],by simp only[aw,aH,cond_true],hlen⟩
  | false=>
   rw[hb] at hk
   obtain⟨i1,a,b,i2,i3,i4⟩:=zt (ln:=ln) hr hn.2 k k' hk
   refine⟨ao _ i1,a,b,by simp only[aw,hb,cond_false];exact i2,?_,i4⟩
   have hne:Nat.beq h0 k'=false:=by
    cases hq:Nat.beq h0 k' with
    | false=>rfl
    | true=>
     have:=aa hq
     subst this
     have h2:=hn.1
     rw[fJ.2 i1] at h2
     cases h2
   simp only[aw,hne,cond_false];exact i3
 | [],_::_,_,h,_,_,_,_=>by cases h
 | _::_,[],_,h,_,_,_,_=>by cases h
end
end Go.DN
/-
 DN,part Y:a call to which objects are lent:the caller's state behind it.
-/
namespace Go.DN
open Go.AM
section
variable {S:eC}
mutual
def R5:Sh→TV S→List (Nat×Nat)
 | .own r _,v=>match v with
  | .aQ h _=>[(r,h)]
  | _=>[]
 | .loc r _,v=>match v with
  | .loc h _=>[(r,h)]
  | _=>[]
 | .aE _ l,v=>match v with
  | .aE _ vs=>sQ l vs
  | _=>[]
 | .agg l,v=>match v with
  | .agg vs=>sQ l vs
  | _=>[]
 | .cq r,v=>match v with
  | .cq h=>[(r,h)]
  | _=>[]
 | .mp r,v=>match v with
  | .mp h=>[(r,h)]
  | _=>[]
 | .ks r _,v=>match v with
  | .ks h _ _ _=>[(r,h)]
  | _=>[]
 | .sub r _,v=>match v with
  | .sub h _ _ _=>[(r,h)]
  | _=>[]
 | _,_=>[]
def sQ:List Sh→List (TV S)→List (Nat×Nat)
 | x::r,v::vs=>R5 x v++sQ r vs
 | _,_=>[]
end
def look:List (Nat×Nat)→Nat→Option Nat
 | [],_=>none
 | (k,h)::r,j=>bif Nat.beq k j then some h else look r j
def yw (st:List (Nat×TO S)):List Oh→Nat→List (Nat×Nat)→Option (List Nat)
 | [],_,_=>some []
 | oh::r,j,ps=>match look ps j with
  | some h=>match yw st r (j+1) (match oh with
    | .box _ _ cs=>match aw st h with
     | some (.box _ _ vs)=>ps++sQ cs vs
     | _=>ps
    | .lp _ _ cs=>match aw st h with
     | some (.lp _ _ vs)=>ps++sQ cs vs
     | _=>ps
    | _=>ps) with
   | some hs=>some (h::hs)
   | none=>none
  | none=>none
def Rd (s:ah S) (used:List Nat):Nat→Nat→Nat
 | k,0=>k
 | k,n+1=>bif s.free k&&!(br k used) then k else Rd s used (k+1) n
def Sr (H:List Nat) (j:Nat) (used:List Nat) (h:Nat):Nat:=match Nat.ble 480 j with
 | true=>match H[j-480]? with
  | some h'=>bif Nat.blt h' 1000&&!(br h' used) then h' else h
  | none=>h
 | false=>h
def Ng (s:ah S) (H:List Nat) (d:Nat):List Nat→List Nat→Option (List Nat)
 | [],_=>some []
 | j::r,used=>match pinned j with
  | true=>match H[j-1000]? with
   | some h=>match Ng s H d r (h::used) with
    | some hs=>some (h::hs)
    | none=>none
   | none=>none
  | false=>match Sr H j used (bif s.free d&&!(br d used) then d else Rd s used s.nx 8) with
   | h=>match Ng s H d r (h::used) with
    | some hs=>some (h::hs)
    | none=>none
def vi (s:ah S) (H:List Nat):List Nat→List Nat→Bool
 | [],[]=>true
 | j::r,h::hs=>!(br j r)&&(!(br h hs)&&((bif pinned j then Pj H (j-1000) h else Nat.blt h 1000&&((dr H h).isSome||s.free h))&&vi s H r hs))
 | _,_=>false
theorem xb {ln:Nat→Nat}{j:Nat}:∀l:List (Nat×TO S),gl (b8 ln l) j=br j (aF l)
 | []=>rfl
 | (k,o)::r=>by
  simp only[b8,gl,aF,br,xb r]
  cases Nat.beq k j <;> rfl
theorem sm {h:Nat}{l:List Nat}:l.contains h=br h l:=by
 cases hb:br h l with
 | true=>exact fJ.2 (bO.1 hb)
 | false=>
  cases hc:l.contains h with
  | false=>rfl
  | true=>rw[bO.2 (fJ.1 hc)] at hb;cases hb
theorem BL {s:ah S}{H:List Nat}{ln:Nat→Nat}:∀{O:List (Nat×TO S)}{bk:List Nat},vi s H (aF O) bk=true→ob s.er H (b8 ln O) bk=true∧nT bk=true
 | [],[],_=>⟨rfl,rfl⟩
 | (j,o)::r,h::hs,e=>by
  simp only[aF,vi,aj,a6] at e
  obtain⟨e1,e2,e3,e4⟩:=e
  obtain⟨i1,i2⟩:=BL (ln:=ln) e4
  refine⟨?_,?_⟩
  ·simp only[b8,ob,xb,sm,e1,e2,i1,iA,iY,Bool.true_and]
   cases hp:pinned j with
   | true=>rw[hp] at e3;exact e3
   | false=>
    rw[hp] at e3
    simp only[cond_false,aj,dC] at e3⊢
    exact⟨e3.1,e3.2.imp id gn⟩
  ·simp only[nT,sm,e2,i2,iA,iY]
 | [],_::_,e=>by cases e
 | _::_,[],e=>by cases e
theorem zp {s:ah S}{H:List Nat}:∀{js bk:List Nat},vi s H js bk=true→∀k,k∈bk→k∈H∨s.free k=true
 | [],[],_,k,hk=>by cases hk
 | j::r,h::hs,e,k,hk=>by
  simp only[vi,aj] at e
  obtain⟨_,_,e3,e4⟩:=e
  rcases aX.1 hk with rfl | hk
  ·cases hp:pinned j with
   | true=>rw[hp] at e3;exact .inl (ar (MN e3))
   | false=>
    rw[hp] at e3
    simp only[cond_false,aj,dC] at e3
    rcases e3.2 with h | h
    ·obtain⟨i,hi⟩:=Option.isSome_iff_exists.1 h
     exact .inl (ar (ec hi))
    ·exact .inr h
  ·exact zp e4 k hk
 | [],_::_,e,_,_=>by cases e
 | _::_,[],e,_,_=>by cases e
def cM (js:List Nat):List Nat→Nat→List Nat
 | [],_=>[]
 | h::r,i=>bif br (1000+i) js then cM js r (i+1) else h::cM js r (i+1)
theorem xr {ln:Nat→Nat}{O:List (Nat×TO S)}:∀(H:List Nat) (i:Nat),dP (b8 ln O) H i=cM (aF O) H i
 | [],_=>rfl
 | h::r,i=>by simp only[dP,cM,xb,xr r (i+1)]
def xK:List Nat→TV S→Bool
 | [],_=>false
 | h::r,v=>v.has h||xK r v
theorem C8 (ln:Nat→Nat) (v:TV S):∀ds:List Nat,o5 ds (v.er ln)=xK ds v
 | []=>rfl
 | h::r=>by simp only[o5,xK,tR,C8 ln v r]
def p7 (ds:List Nat):List (Nat×TV S)→List (Nat×TV S)
 | []=>[]
 | (t,v)::r=>(t,bif xK ds v then .any else v)::p7 ds r
def nm (ds:List Nat):List (TV S)→Bool
 | []=>true
 | v::r=>!(xK ds v)&&nm ds r
def zj (ds:List Nat):List (Nat×TV S)→Bool
 | []=>true
 | (_,v)::r=>!(xK ds v)&&zj ds r
def nl (ds:List Nat):List (Nat×TO S)→Bool
 | []=>true
 | (_,.box _ _ cs)::r=>nm ds cs&&nl ds r
 | (_,.aU ..)::r=>nl ds r
 | (_,.deep ..)::r=>nl ds r
 | (_,.lp _ _ cs)::r=>nm ds cs&&nl ds r
def jZ (H:List Nat):List (Nat×TO S)→List (Nat×TO S)
 | []=>[]
 | (h,o)::r=>match dr H h with
  | some _=>jZ H r
  | none=>(h,o)::jZ H r
def mZ (s:ah S) (sb:List (Nat×TO S)){A:Type}:List Nat→Option A→Option A
 | [],k=>k
 | h::r,k=>match aw sb h with
  | none=>mZ s sb r k
  | some o'=>match aw s.bg h with
   | some (.aU _ _ _ τ l)=>match o' with
    | .aU _ _ _ τ' l'=>bif Nat.beq (List.length l') (List.length l) then mZ s sb r k else none
    | _=>none
   | some (.box _ _ _)=>match o' with
    | .box _ _ _=>mZ s sb r k
    | _=>none
   | some (.lp _ _ _)=>match o' with
    | .lp _ _ _=>mZ s sb r k
    | _=>none
   | some (.deep _ _ _ _ τ l)=>match o' with
    | .deep _ _ _ _ τ' l'=>bif Nat.beq (sc τ' l') (sc τ l) then mZ s sb r k else none
    | _=>none
   | _=>none
theorem mY {s:ah S}{sb:List (Nat×TO S)}{A:Type}{k:Option A}{r:A}:∀{H:List Nat},mZ s sb H k=some r→k=some r∧∀h,h∈H→∀o',aw sb h=some o'→o'.len=s.ln h
 | [],e=>⟨e,fun h hm=>by cases hm⟩
 | h0::hs,e=>by
  simp only[mZ] at e
  split at e
  ·rename_i hn
   obtain⟨i1,i2⟩:=mY e
   refine⟨i1,fun h hm o' ho=>?_⟩
   rcases aX.1 hm with rfl | hm
   ·rw[hn] at ho;cases ho
   ·exact i2 h hm o' ho
  ·rename_i o1 ho1
   split at e
   ·rename_i a b c τ l hs1
    split at e
    ·rename_i τ' l'
     cases hb:Nat.beq (List.length l') (List.length l) with
     | false=>rw[hb] at e;cases e
     | true=>
      rw[hb] at e
      obtain⟨i1,i2⟩:=mY e
      refine⟨i1,fun h hm o' ho=>?_⟩
      rcases aX.1 hm with rfl | hm
      ·rw[ho1] at ho
       cases ho
       unfold ah.ln bZ
       rw[hs1]
       exact aa hb
      ·exact i2 h hm o' ho
    ·cases e
   ·rename_i a b c hs1
    split at e
    ·obtain⟨i1,i2⟩:=mY e
     refine⟨i1,fun h hm o' ho=>?_⟩
     rcases aX.1 hm with rfl | hm
     ·rw[ho1] at ho
      cases ho
      unfold ah.ln bZ
      rw[hs1]
      rfl
     ·exact i2 h hm o' ho
    ·cases e
   ·rename_i a b c hs1
    split at e
    ·obtain⟨i1,i2⟩:=mY e
     refine⟨i1,fun h hm o' ho=>?_⟩
     rcases aX.1 hm with rfl | hm
     ·rw[ho1] at ho
      cases ho
      unfold ah.ln bZ
      rw[hs1]
      rfl
     ·exact i2 h hm o' ho
    ·cases e
   ·rename_i a b c dk τ l hs1
    split at e
    ·rename_i τ' l'
     cases hb:Nat.beq (sc τ' l') (sc τ l) with
     | false=>rw[hb] at e;cases e
     | true=>
      rw[hb] at e
      obtain⟨i1,i2⟩:=mY e
      refine⟨i1,fun h hm o' ho=>?_⟩
      rcases aX.1 hm with rfl | hm
      ·rw[ho1] at ho
       cases ho
       unfold ah.ln bZ
       rw[hs1]
       exact aa hb
      ·exact i2 h hm o' ho
    ·cases e
   ·cases e
theorem qy {vw A:Bool}{f:Nat→Option Nat}{gst:List (Nat×ap)}:∀{outs:List (Nat×TO S)}{bk:List Nat}{sb:List (Nat×TO S)},mJ vw f A gst outs bk=some sb→aF sb=bk
 | [],[],sb,h=>by cases h;rfl
 | (j,o)::r,h0::hs,sb,h=>by
  simp only[mJ] at h
  cases o with
  | lp p n cs=>
   dsimp only at h
   split at h
   ·split at h
    ·rename_i r' hr;cases h;simp only[aF,qy hr]
    ·cases h
   ·cases h
  | aU e m b τ l=>
   dsimp only at h
   split at h
   ·split at h
    ·rename_i r' hr;cases h;simp only[aF,qy hr]
    ·cases h
   ·cases h
  | deep e m b dk τ l=>
   dsimp only at h
   split at h
   ·split at h
    ·rename_i r' hr;cases h;simp only[aF,qy hr]
    ·cases h
   ·cases h
  | box e m cs=>
   dsimp only at h
   split at h
   ·split at h
    ·rename_i r' hr;cases h;simp only[aF,qy hr]
    ·cases h
   ·cases h
 | [],_::_,_,h=>by cases h
 | _::_,[],_,h=>by cases h
theorem wR {H:List Nat}{h:Nat}(hi:dr H h=none):∀{st:List (Nat×TO S)},aw (jZ H st) h=aw st h
 | []=>rfl
 | (x,o)::r=>by
  simp only[jZ]
  cases hx:dr H x with
  | some i=>
   simp only[]
   rw[wR hi]
   refine(jo o r fun e=>?_).symm
   subst e;rw[hi] at hx;cases hx
  | none=>
   simp only[aw]
   rw[wR hi]
theorem DC {H:List Nat}{ln:Nat→Nat}:∀st:List (Nat×TO S),fw H (b8 ln st)=b8 ln (jZ H st)
 | []=>rfl
 | (x,o)::r=>by
  simp only[b8,fw,jZ]
  cases dr H x with
  | some i=>exact DC r
  | none=>simp only[b8,DC r]
theorem wS {H:List Nat}:∀(a b:List (Nat×TO S)),jZ H (a++b)=jZ H a++jZ H b
 | [],_=>rfl
 | (x,o)::r,b=>by
  simp only[bx,jZ]
  cases dr H x with
  | some i=>exact wS r b
  | none=>simp only[bx,wS r b]
theorem DB {H:List Nat}:∀{l:List (Nat×TO S)},apart (aF l) H=true→jZ H l=l
 | [],_=>rfl
 | (x,o)::r,e=>by
  have h1:=apart_spec e
  simp only[jZ]
  have:dr H x=none:=by
   cases hx:dr H x with
   | none=>rfl
   | some i=>exact absurd (ar (ec hx)) (h1 x (by simp[aF]))
  rw[this]
  simp only[]
  rw[DB]
  simp only[aF,apart] at e
  split at e
  ·cases e
  ·exact e
def dM (s:ah S) (H ds:List Nat) (sb:List (Nat×TO S)) (n:Nat):ah S:={fr:=p7 ds s.fr,lo:=s.lo,st:=sb++jZ H s.st,bL:=s.bL,df:=s.df,nx:=s.nx+n,last:=[]}
theorem R8 {s:ah S}{H js bk ds:List Nat}{sb:List (Nat×TO S)}{n:Nat}(hb:vi s H js bk=true) (hk:aF sb=bk) (hH:apart H (aF s.bL)=true) (hl:∀h,h∈H→h∉ds→∀o',aw sb h=some o'→o'.len=s.ln h)
  (hd:∀h,h∈H→h∉ds→h∈bk) (k:Nat) (h1:k∉ds) (h2:s.free k=false∨k∈H):(dM s H ds sb n).ln k=s.ln k:=by
 unfold ah.ln
 have key:∀o,aw sb k=some o→bZ (sb++jZ H s.st++s.bL) k=o.len:=by
  intro o ho
  unfold bZ
  rw[aC,db,ho]
 show bZ (sb++jZ H s.st++s.bL) k=bZ s.bg k
 by_cases hkH:k∈H
 ·have hkb:=hd k hkH h1
  rw[←hk] at hkb
  obtain⟨o,ho⟩:=mU hkb
  rw[key o ho]
  exact hl k hkH h1 o ho
 ·have hkb:k∉bk:=fun hm=>by
   rcases zp hb k hm with h | h
   ·exact hkH h
   ·rcases h2 with h2 | h2
    ·rw[h2] at h;cases h
    ·exact hkH h2
  have hi:dr H k=none:=by
   cases hx:dr H k with
   | none=>rfl
   | some i=>exact absurd (ar (ec hx)) hkH
  unfold bZ
  rw[aC,db,lc (by rw[hk];exact hkb),db,wR hi]
  unfold ah.bg
  rw[db]
theorem BT {ds:List Nat}{v:TV S}(h:xK ds v=false):∀k,v.has k=true→k∉ds:=by
 induction ds with
 | nil=>intro k _ hm;cases hm
 | cons x r ih=>
  simp only[xK,bE] at h
  intro k hk hm
  rcases aX.1 hm with rfl | hm
  ·rw[h.1] at hk;cases hk
  ·exact ih h.2 k hk hm
theorem Ie {ds:List Nat}{ln ln':Nat→Nat}:∀{fr:List (Nat×TV S)},(∀k,k∉ds→gq k fr=true→ln' k=ln k)→gf ln' (p7 ds fr)=l7 ds (gf ln fr)
 | [],_=>rfl
 | (t,v)::r,h=>by
  simp only[p7,gf,l7,u5,C8]
  rw[Ie fun k h1 h2=>h k h1 (by simp[gq,h2])]
  cases ha:xK ds v with
  | true=>rfl
  | false=>
   simp only[cond_false]
   rw[oQ v fun k hk=>h k (BT ha k hk) (by simp[gq,hk])]
theorem zi {ds:List Nat}:∀{fr:List (Nat×TV S)},zj ds fr=true→p7 ds fr=fr
 | [],_=>rfl
 | (t,v)::r,h=>by
  simp only[zj,aj,a6] at h
  simp only[p7,h.1,cond_false,zi h.2]
theorem E3 {ds:List Nat}:∀(a b:List (Nat×TV S)),p7 ds (a++b)=p7 ds a++p7 ds b
 | [],_=>rfl
 | (t,v)::r,b=>by simp only[bx,p7,E3 r b]
theorem Bu {ds:List Nat}{ln ln':Nat→Nat}:∀{l:List (TV S)},nm ds l=true→(∀k,k∉ds→TV.has.go k l=true→ln' k=ln k)→TV.er.go ln' l=(TV.er.go ln l).map (u5 ds)
 | [],_,_=>rfl
 | v::r,e,h=>by
  simp only[nm,aj,a6] at e
  simp only[TV.er.go,aI,u5,C8,e.1,cond_false]
  rw[oQ (ln':=ln) v fun k hk=>h k (BT e.1 k hk) (by simp[TV.has.go,hk]),Bu e.2 fun k h1 h2=>h k h1 (by simp[TV.has.go,h2])]
theorem tW {ds:List Nat}{ln ln':Nat→Nat}:∀{st:List (Nat×TO S)},nl ds st=true→(∀k,k∉ds→eI k st=true→ln' k=ln k)→b8 ln' st=fo ds (b8 ln st)
 | [],_,_=>rfl
 | (x,.aU e m f τ l)::r,hc,h=>by
  simp only[nl] at hc
  simp only[b8,fo,TO.er,rB,cond_true]
  rw[tW hc fun k h1 h2=>h k h1 (by simp[eI,h2])]
 | (x,.deep e m f dk τ l)::r,hc,h=>by
  simp only[nl] at hc
  simp only[b8,fo,TO.er,rB,cond_true]
  rw[tW hc fun k h1 h2=>h k h1 (by simp[eI,h2])]
 | (x,.box e m cs)::r,hc,h=>by
  simp only[nl,aj] at hc
  simp only[b8,fo,TO.er,rB,cond_false]
  rw[tW hc.2 fun k h1 h2=>h k h1 (by simp[eI,h2]),Bu hc.1 fun k h1 h2=>h k h1 (by simp[eI,TO.has,h2])]
 | (x,.lp p n cs)::r,hc,h=>by
  simp only[nl,aj] at hc
  simp only[b8,fo,TO.er,rB,cond_false]
  rw[tW hc.2 fun k h1 h2=>h k h1 (by simp[eI,h2]),Bu hc.1 fun k h1 h2=>h k h1 (by simp[eI,TO.has,h2])]
theorem wF {H:List Nat}{k:Nat}:∀{st:List (Nat×TO S)},eI k (jZ H st)=true→eI k st=true
 | [],h=>h
 | (x,o)::r,h=>by
  simp only[jZ] at h
  simp only[eI,dC]
  split at h
  ·exact .inr (wF h)
  ·simp only[eI,dC] at h
   exact h.imp id wF
theorem H5 (ln:Nat→Nat):∀(a b:List (Nat×TO S)),b8 ln (a++b)=b8 ln a++b8 ln b
 | [],_=>rfl
 | (x,o)::r,b=>by simp only[bx,b8,H5 ln r b]
def named (s:ah S) (k:Nat):Bool:=gq k s.bW||(eI k s.bg||TV.has.go k s.df)
theorem KF {s:ah S}{k:Nat}(h:named s k=true):s.free k=false:=by
 cases hf:s.free k with
 | false=>rfl
 | true=>
  obtain⟨_,h2,h3,h4,_⟩:=free_spec hf
  unfold named at h
  rw[h2,h3,h4] at h
  cases h
theorem Fa {s:ah S}{H js bk ds:List Nat}{sb:List (Nat×TO S)}{n:Nat}(hb:vi s H js bk=true) (hk:aF sb=bk) (hH:apart H (aF s.bL)=true) (hl:∀h,h∈H→h∉ds→∀o',aw sb h=some o'→o'.len=s.ln h)
  (hd:∀h,h∈H→h∉ds→h∈bk) (c1:zj ds s.lo=true) (c2:nl ds (jZ H s.st++s.bL)=true) (c3:nm ds s.df=true):
  (dM s H ds sb n).er=⟨l7 ds s.er.fr,b8 (dM s H ds sb n).ln sb++fo ds (fw H s.er.st),s.er.df⟩:=by
 have key:∀k,k∉ds→named s k=true→(dM s H ds sb n).ln k=s.ln k:=fun k h1 h2=>R8 hb hk hH hl hd k h1 (.inl (KF h2))
 have e1:gf (dM s H ds sb n).ln (dM s H ds sb n).bW=l7 ds s.er.fr:=by
  show gf _ (p7 ds s.fr++s.lo)=l7 ds (gf s.ln (s.fr++s.lo))
  rw[←zi c1,←E3]
  rw[zi c1]
  exact Ie fun k h1 h2=>key k h1 (by unfold named ah.bW;rw[h2];rfl)
 have hap:apart (aF s.bL) H=true:=by
  have h:=apart_spec hH
  have:∀(l:List Nat),(∀x,x∈l→x∉H)→apart l H=true:=by
   intro l
   induction l with
   | nil=>intro _;rfl
   | cons x r ih=>
    intro hh
    simp only[apart]
    cases hm:br x H with
    | true=>exact absurd (bO.1 hm) (hh x av)
    | false=>exact ih fun y hy=>hh y (ao _ hy)
  exact this _ fun x hx hxH=>h x hxH hx
 have e2:b8 (dM s H ds sb n).ln (dM s H ds sb n).bg=b8 (dM s H ds sb n).ln sb++fo ds (fw H s.er.st):=by
  show b8 _ ((sb++jZ H s.st)++s.bL)=_++fo ds (fw H (b8 s.ln (s.st++s.bL)))
  rw[aC,H5,DC,wS,DB hap]
  congr 1
  refine tW c2 fun k h1 h2=>key k h1 ?_
  have:eI k s.bg=true:=by
   refine wF (H:=H) ?_
   unfold ah.bg
   rw[wS,DB hap]
   exact h2
  unfold named
  rw[this];simp
 have e3:TV.er.go (dM s H ds sb n).ln s.df=TV.er.go s.ln s.df:=by
  refine lu _ fun k hk=>?_
  have cP:∀(l:List (TV S)),nm ds l=true→TV.has.go k l=true→k∉ds:=by
   intro l
   induction l with
   | nil=>intro _ h;cases h
   | cons x r ih=>
    intro h1 h2
    simp only[nm,aj,a6] at h1
    simp only[TV.has.go,dC] at h2
    rcases h2 with h2 | h2
    ·exact BT h1.1 k h2
    ·exact ih h1.2 h2
  exact key k (cP _ c3 hk) (by unfold named;rw[hk];simp)
 show St.mk _ _ _=St.mk _ _ _
 rw[e1,e2]
 exact congrArg _ e3
end
end Go.DN
/-
 DN,part Z:calls by ep.
-/
namespace Go.DN
open Go.AM
section
variable {S:eC}
def Fx (ok:Nat→Bool):List Nat→Bool
 | []=>true
 | h::r=>ok h&&Fx ok r
theorem G6 {ok:Nat→Bool}{W:List Nat}(hW:∀h,ok h=true→W.contains h=true):∀{H:List Nat},Fx ok H=true→xO H W=true
 | [],_=>rfl
 | h::r,e=>by
  simp only[Fx,aj] at e
  have:=G6 hW e.2
  unfold xO at this⊢
  simp only[List.all_cons,this,hW h e.1,fI]
def dT (con:cr S) (r:bj S.α (JH.dg ⟨con.aA,con.outs⟩)):List (Nat×TO S):=(ca con.outs (cv con.aA (leaves _ r)).2).1
def Pp (s:ah S) (H:List Nat) (con:cr S) (r:bj S.α (JH.dg ⟨con.aA,con.outs⟩)) (bk:List Nat):Option (List (Nat×TO S)):=
 mJ con.vw (jk (b8 (bZ (dT con r)) (dT con r)) bk) (jq s.er.st (b8 (bZ (dT con r)) (dT con r)) H 0) s.er.st (dT con r) bk
def Sz (con:cr S) (r:bj S.α (JH.dg ⟨con.aA,con.outs⟩)) (bk:List Nat):Option (TV S):=
 (lG con.aA (leaves _ r)).k8 con.vw (jk (b8 (bZ (dT con r)) (dT con r)) bk)
def qP (s:ah S) (H ds:List Nat) (js bk:List Nat):Bool:=
 vi s H js bk&&(within (minus H ds) bk&&(zj ds s.lo&&(nl ds (jZ H s.st++s.bL)&&nm ds s.df)))
where minus (H ds:List Nat):List Nat:=match H with
 | []=>[]
 | h::r=>bif br h ds then minus r ds else h::minus r ds
theorem pi {ds:List Nat}:∀{H:List Nat}{h:Nat},h∈H→h∉ds→h∈qP.minus H ds
 | x::r,h,hm,hd=>by
  simp only[qP.minus]
  cases hb:br x ds with
  | true=>
   rw[cond_true]
   rcases aX.1 hm with rfl | hm
   ·exact absurd (bO.1 hb) hd
   ·exact pi hm hd
  | false=>
   rw[cond_false]
   rcases aX.1 hm with rfl | hm
   ·exact av
   ·exact ao _ (pi hm hd)
def C0 (ok:Nat→Bool) (con:cr S) (s:ah S) (d:Nat) (vs:List (TV S)){A:Type}(k:ah S→Option A):Option A:=
 match yw s.bg con.aZ 1000 (sQ con.args vs) with
 | some H=>match nT H&&(Fx ok H&&apart H (aF s.bL)) with
  | true=>match jH s con.vw H con.args vs with
   | some xs=>match na s con.vw H H con.aZ with
    | some ys=>match lA (j9 con.args con.aZ) (xs++ys) with
     | some q=>(con.F q).bind fun r=>match Ng s H d (aF con.outs) [] with
      | some bk=>match qP s H (cM (aF con.outs) H 0) (aF con.outs) bk with
       | true=>match Pp s H con r bk with
        | some sb=>match Sz con r bk with
         | some rv=>mZ s sb (qP.minus H (cM (aF con.outs) H 0)) (k ((dM s H (cM (aF con.outs) H 0) sb con.outs.length).put d rv))
         | none=>none
        | none=>none
       | false=>none
      | none=>none
     | none=>none
    | none=>none
   | none=>none
  | false=>none
 | none=>none
theorem w9 (con:cr S) (r:bj S.α (JH.dg ⟨con.aA,con.outs⟩)):aF (dT con r)=aF con.outs:=jM _ _
theorem xx {ln:Nat→Nat}{ds:List Nat}:∀{l:List (TV S)},nm ds l=true→(TV.er.go ln l).all (fun g=>!(o5 ds g))=true
 | [],_=>rfl
 | v::r,e=>by
  simp only[nm,aj,a6] at e
  simp only[TV.er.go,List.all_cons,C8,e.1,xx e.2,iA,fI]
theorem Bw {P:Program}{W:List Nat}{ok:Nat→Bool}(hW:∀h,ok h=true→W.contains h=true){con:cr S}(C:aP P con){s:ah S}{d:Nat}{vs:List (TV S)}{A:Type}{k:ah S→Option A}{r:A}(hl:aY s) (h:C0 ok con s d vs k=some r)
  {o:Oper}(heff:∀{gs':List G}{stC:List (Nat×ap)}{Q:G→List (Nat×ap)→Prop}{T:St→Prop}(H:List Nat) (vw:Bool),cg.go H (ey s.er.st H vw) (TV.er.go s.ln vs)=some gs'→fD H (ey s.er.st H vw) s.er.st H 0=some stC→nT H=true→GM P con.f gs' stC Q→
   (∀r st',Q r st'→∃bk s2 r',nR vw s.er H st' bk=some s2∧dH vw (jk st' bk) r=some r'∧T (s2.put d r'))→xO H W=true→bH P W s.er o T):
  ∃T:St→Prop,bH P W s.er o T∧∀s',T s'→∃t:ah S,Gh s' t.er∧aY t∧bz s t∧k t=some r:=by
 unfold C0 at h
 split at h
 ·rename_i H hH
  split at h
  ·rename_i hc
   simp only[aj] at hc
   obtain⟨c1,c2,c3⟩:=hc
   split at h
   ·rename_i xl hx
    split at h
    ·rename_i yl hy
     split at h
     ·rename_i q hq
      have hlq:=fY hq
      have hrest:(cX con.args (leaves _ q)).2=yl:=by
       rw[hlq]
       exact(ie (lnC:=fun k=>s.ln ((H[k-1000]?).getD 0)) (fun i h hi=>by simp[ec hi]) hx yl).1
      have hst:(eV con.args con.aZ (leaves _ q)).bg=(ca (mg con.aZ 1000) yl).1:=by
       show(ca (mg con.aZ 1000) (cX con.args (leaves _ q)).2).1++[]=_
       rw[b9,hrest]
      obtain⟨o1,o2,o3⟩:=yO 0 hy []
      rw[b9] at o1 o2 o3
      have hln:∀i h,dr H h=some i→(eV con.args con.aZ (leaves _ q)).ln (1000+i)=s.ln h:=by
       intro i h hi
       have:=o2 i h (ec hi)
       rw[bQ] at this
       unfold ah.ln
       rw[hst]
       exact this
      have hargs:=(ie hln hx yl).2
      rw[←hlq] at hargs
      have hobjs:=o3 _ hln
      have hst2:(eV con.args con.aZ (leaves _ q)).er.st=b8 (eV con.args con.aZ (leaves _ q)).ln (ca (mg con.aZ 1000) yl).1:=by
       show b8 _ _=_
       rw[hst]
      refine⟨fun s'=>∃t:ah S,Gh s' t.er∧aY t∧bz s t∧k t=some r,?_,fun s' h=>h⟩
      obtain⟨res,h1,h2⟩:=bind_some h
      refine heff (stC:=(eV con.args con.aZ (leaves _ q)).er.st) H con.vw hargs (by rw[hst2];exact hobjs) c1 (C.ok q res h1) ?_ (G6 hW c2)
      rintro g st' ⟨rfl,rfl⟩
      split at h2
      ·rename_i bk hbk
       split at h2
       ·rename_i hf
        simp only[qP,aj] at hf
        obtain⟨f1,f2,f3,f4,f5⟩:=hf
        split at h2
        ·rename_i sb hsb
         split at h2
         ·rename_i rv hrv
          obtain⟨k1,k2⟩:=mY h2
          have hkeys:aF sb=bk:=qy hsb
          have hd:∀h,h∈H→h∉cM (aF con.outs) H 0→h∈bk:=fun h h1 h2=>l9 f2 h (pi h1 h2)
          have her:=Fa (n:=con.outs.length) f1 hkeys c3 (fun h h1 h2=>k2 h (pi h1 h2)) hd f3 f4 f5
          have f1':=f1
          rw[←w9 con res] at f1'
          obtain⟨b1,b2⟩:=BL (ln:=bZ (dT con res)) f1'
          have hlnB:∀a b,jk (b8 (bZ (dT con res)) (dT con res)) bk a=some b→(dM s H (cM (aF con.outs) H 0) sb con.outs.length).ln b=bZ (dT con res) a:=by
           intro a b hab
           obtain⟨_,o,o',g1,g2,g3⟩:=zt hsb b2 a b hab
           unfold ah.ln bZ
           show(match aw ((sb++jZ H s.st)++s.bL) b with | some o=>o.len | none=>0)=_
           rw[aC,db,g2,g1]
           exact g3
          have hds:dP (b8 (bZ (dT con res)) (dT con res)) H 0=cM (aF con.outs) H 0:=by rw[xr,w9]
          refine⟨bk,⟨l7 (cM (aF con.outs) H 0) s.er.fr,b8 (dM s H (cM (aF con.outs) H 0) sb con.outs.length).ln sb++fo (cM (aF con.outs) H 0) (fw H s.er.st),s.er.df⟩,rv.er (dM s H (cM (aF con.outs) H 0) sb con.outs.length).ln,?_,Mc hlnB _ _ hrv,_,?_,gH (t:=(dM s H (cM (aF con.outs) H 0) sb con.outs.length).put d rv) rfl,⟨rfl,rfl,rfl⟩,k1⟩
          ·unfold nR
           have hb:kf con.vw (jk (b8 (bZ (dT con res)) (dT con res)) bk) (jq s.er.st (b8 (bZ (dT con res)) (dT con res)) H 0) s.er.st (b8 (bZ (dT con res)) (dT con res)) bk=some (b8 (dM s H (cM (aF con.outs) H 0) sb con.outs.length).ln sb):=rj hlnB hsb
           have hdf:s.er.df.all (fun g=>!(o5 (dP (b8 (bZ (dT con res)) (dT con res)) H 0) g))=true:=by
            rw[hds];exact xx f5
           show(bif ob s.er H (b8 (bZ (dT con res)) (dT con res)) bk&&s.er.df.all (fun g=>!(o5 (dP (b8 (bZ (dT con res)) (dT con res)) H 0) g)) then _ else none)=_
           rw[b1,hdf]
           show(match kf con.vw (jk (b8 (bZ (dT con res)) (dT con res)) bk) (jq s.er.st (b8 (bZ (dT con res)) (dT con res)) H 0) s.er.st (b8 (bZ (dT con res)) (dT con res)) bk with
            | some sb=>some ({fr:=l7 (dP (b8 (bZ (dT con res)) (dT con res)) H 0) s.er.fr,st:=sb++fo (dP (b8 (bZ (dT con res)) (dT con res)) H 0) (fw H s.er.st),df:=s.er.df}:St)
            | none=>none)=_
           rw[hb,hds]
          ·rw[fC,her]
           exact Gh.refl _
         ·cases h2
        ·cases h2
       ·cases h2
      ·cases h2
     ·cases h
    ·cases h
   ·cases h
  ·cases h
 ·cases h
theorem EF.MC {P:Program}{W:List Nat}{s:St}{d:Nat}{ty:TypeId}{pos:String}{after:Array Edge}{guard:Option (Nat×Bool)}{f:FuncId}{x:Operand}{xs:Array Operand}{ts:Array TypeId}{gs caps gs':List G}{stC:List (Nat×ap)}{Q:G→List (Nat×ap)→Prop}{T:St→Prop}(H:List Nat) (vw:Bool) (hc:∀args w,(callFunc f args).run P w=.ok (.enter f args) w)
  (hf:ev s x=some (.aE f caps)) (hx:tV s xs.toList=some gs) (hv:cg.go H (ey s.st H vw) (gs++caps)=some gs') (hl:fD H (ey s.st H vw) s.st H 0=some stC) (cP:nT H=true) (hcon:GM P f gs' stC Q)
  (hres:∀r st',Q r st'→∃bk s2 r',nR vw s H st' bk=some s2∧dH vw (jk st' bk) r=some r'∧T (s2.put d r')) (hW:xO H W=true):
  bH P W s ⟨some d,.call ⟨.value x,xs,ts⟩,ty,pos,after,guard⟩ T:=by
 refine⟨(fun _ h=>by cases h),?_⟩
 intro N cx μ a w hr hN K Q' hK
 obtain⟨h1,h2⟩:=mf hx
 have hcl:=hr.ev hf
 generalize hav:a.eval x=vf at hcl
 cases hcl with
 | aG h=>cases h
 | aE _ _ us hlu hrc=>
  have hcall:=uM (vs:=xs.toList.map a.eval++us) hr hv hl cP (by simp[h1,hlu]) (fun j g v hg hv=>by
   rw[a8] at hg hv
   rw[a5,←h1] at hv
   split at hg
   ·rename_i hj
    rw[if_pos hj] at hv
    obtain⟨x,hxj,he⟩:=h2 j g hg
    rw[ay,hxj] at hv
    cases hv
    exact hr.ev he
   ·rename_i hj
    rw[if_neg hj] at hv
    exact hrc _ g v hg hv) hcon
  unfold Oper.wp
  have:(execOp a.eval ⟨some d,.call ⟨.value x,xs,ts⟩,ty,pos,after,guard⟩).run P w=.ok (.enter f (xs.toList.map a.eval++us).toArray) w:=by
   have e:xs.map a.eval++us.toArray=(xs.toList.map a.eval++us).toArray:=by rw[←nX,←eg]
   simp[execOp,resolve,invoke,Deferred.ofValue,hav,hc,e]
  rw[this]
  refine hcall.mono ?_
  rintro e w' (⟨v,r,st',μ',rfl,hq,hC,hrv⟩ | ⟨_,_,_,_,h,_⟩)
  ·obtain⟨bk,s2,r',hb,hren,hT⟩:=hres r st' hq
   obtain⟨q1,q2,q3,_⟩:=uh hr hl (lL cP) hC hb
   exact hK _ _ _ w' (q1.put (hN d rfl) (q2 r r' v hrv hren)) hT (q3 W (xN hW))
  ·exact h.elim
def isSome {α:Type}:Option α→Bool
 | some _=>true
 | none=>false
def A0 (con:cr S) (s:ah S) (xs:List Operand) (vs:List (TV S)):Option (ah S×List (TV S)):=
 match pX con.aA||TV.imp.go vs with
 | true=>some (s,vs)
 | false=>match pW (TV.KB.go vs) s with
  | some s'=>match sd s' xs with
   | some vs'=>match TV.imp.go vs' with
    | true=>some (s',vs')
    | false=>none
   | none=>none
  | none=>none
def fits (s:ah S) (xs:List Operand) (vs:List (TV S)) (con:cr S):Bool:=
 match oi con with
 | true=>match A0 con s xs vs with
  | some (s',vs')=>isSome (jW s' con.args vs')
  | none=>false
 | false=>match yw s.bg con.aZ 1000 (sQ con.args vs) with
  | some H=>isSome (jH s con.vw H con.args vs)&&isSome (na s con.vw H H con.aZ)
  | none=>false
def xk (p:cr S→Bool) (f:FuncId):List (cr S)→Option (cr S)
 | []=>none
 | c::r=>match Nat.beq c.f f&&p c with
  | true=>some c
  | false=>xk p f r
theorem tU {p:cr S→Bool}{f:FuncId}:∀{l:List (cr S)}{c:cr S},xk p f l=some c→c∈l∧c.f=f
 | [],_,h=>by cases h
 | x::r,c,h=>by
  simp only[xk] at h
  split at h
  ·rename_i hb
   simp only[aj] at hb
   cases h
   exact⟨av,aa hb.1⟩
  ·obtain⟨h1,h2⟩:=tU h
   exact⟨ao _ h1,h2⟩
def Lj (tbl:List (cr S)) (ok:Nat→Bool) (A:Type) (s:ah S) (dst:Option Nat) (c:Call) (k:ah S→Option A):Option A:=
 match dst with
 | some d=>match c.callee with
  | .value (.func f)=>match sd s c.args.toList with
   | some vs=>match xk (fits s c.args.toList vs) f tbl with
    | some con=>match oi con with
     | true=>match A0 con s c.args.toList vs with
      | some (s',vs')=>Li con s' d vs' k
      | none=>none
     | false=>C0 ok con s d vs k
    | none=>none
   | none=>none
  | .value x=>match cm s x with
   | some (.aE f caps)=>match sd s c.args.toList with
    | some vs=>match xk (fits s [] (vs++caps)) f tbl with
     | some con=>match oi con with
      | true=>xA con s d (vs++caps) k
      | false=>C0 ok con s d (vs++caps) k
     | none=>none
    | none=>none
   | _=>none
  | _=>none
 | none=>none
theorem OM {P:Program}{N:Nat}{tbl:List (cr S)}(ht:∀c∈tbl,aP P c):∀(ok:Nat→Bool) (W:List Nat),(∀h,ok h=true→W.contains h=true)→∀(A:Type) (r:A),FO P N W (Lj tbl ok A) r:=by
 intro ok W hW A r s dst c k hl _ h ty pos after guard
 obtain⟨cal,args,ts⟩:=c
 unfold Lj at h
 split at h
 ·rename_i d
  dsimp only at h
  split at h
  ·split at h
   ·rename_i vs hv
    split at h
    ·rename_i con hcon
     obtain⟨hm,hf⟩:=tU hcon
     subst hf
     have C:=ht con hm
     split at h
     ·split at h
      ·rename_i s' vs' hp
       unfold A0 at hp
       split at hp
       ·cases hp
        exact Iq (N:=N) C hl h hv
       ·split at hp
        ·rename_i s2 hz
         obtain⟨z1,z2,z3⟩:=lQ hl hz
         split at hp
         ·rename_i vs2 hv2
          split at hp
          ·cases hp
           exact fA.gh z1 z3 (Iq (N:=N) C z2 h hv2)
          ·cases hp
         ·cases hp
        ·cases hp
      ·cases h
     ·exact Bw hW C hl h fun H vw h1 h2 h3 h4 h5 h6=>EF.R9 H vw C.call (kX hv).2 h1 h2 h3 h4 h5 h6
    ·cases h
   ·cases h
  ·rename_i x _
   split at h
   ·rename_i f caps hx
    split at h
    ·rename_i vs hv
     split at h
     ·rename_i con hcon
      obtain⟨hm,hf⟩:=tU hcon
      subst hf
      have C:=ht con hm
      split at h
      ·exact Ip (N:=N) C hl h hx hv
      ·exact Bw hW C hl h fun H vw h1 h2 h3 h4 h5 h6=>EF.MC H vw C.call (bf hx) (kX hv).2 (by rw[←pk];exact h1) h2 h3 h4 h5 h6
     ·cases h
    ·cases h
   ·cases h
  ·cases h
 ·cases h
def Nd (tbl:List (cr S)) (ok:Nat→Bool){A:Type}(s:ah S) (d:Nat) (c:Call) (f:FuncId) (caps:List (TV S)) (k:ah S→Option A):Option A:=
 match sd s c.args.toList with
 | some vs=>match xk (fits s [] (vs++caps)) f tbl with
  | some con=>match oi con with
   | true=>xA con s d (vs++caps) k
   | false=>C0 ok con s d (vs++caps) k
  | none=>none
 | none=>none
def Fv {A:Type}:List FuncId→FuncId→(FuncId→Option A)→Option A
 | [],_,_=>none
 | g::r,f,k=>cond (Nat.beq f g) (k g) (Fv r f k)
theorem GU {A:Type}{f:FuncId}{k:FuncId→Option A}{r:A}:∀{l:List FuncId},Fv l f k=some r→k f=some r
 | [],h=>by cases h
 | g::l,h=>by
  simp only[Fv] at h
  cases hb:Nat.beq f g with
  | true=>
   rw[hb] at h
   have:=aa hb
   subst this
   exact h
  | false=>rw[hb] at h;exact GU h
def Rc:List (Nat×List FuncId)→Nat→Option (List FuncId)
 | [],_=>none
 | (k,h)::r,p=>bif Nat.beq k p then some h else Rc r p
def u9 (tbl:List (cr S)) (ns:List (Nat×List FuncId)) (ok:Nat→Bool) (A:Type) (s:ah S) (dst:Option Nat) (c:Call) (k:ah S→Option A):Option A:=
 match dst with
 | some d=>match Rc ns d with
  | some fs=>match c.callee with
   | .value x=>match cm s x with
    | some (.aE f [])=>Fv fs f fun f=>Nd tbl ok s d c f [] k
    | _=>none
   | _=>none
  | none=>Lj tbl ok A s (some d) c k
 | none=>none
theorem Io {P:Program}{N:Nat}{tbl:List (cr S)}{ns:List (Nat×List FuncId)}(ht:∀c∈tbl,aP P c):∀(ok:Nat→Bool) (W:List Nat),(∀h,ok h=true→W.contains h=true)→∀(A:Type) (r:A),FO P N W (u9 tbl ns ok A) r:=by
 intro ok W hW A r s dst c k hl hy h ty pos after guard
 unfold u9 at h
 split at h
 ·rename_i d
  split at h
  ·obtain⟨cal,args,ts⟩:=c
   dsimp only at h
   split at h
   ·rename_i x _
    split at h
    ·rename_i f hx
     have h2:=GU h
     clear h
     unfold Nd at h2
     split at h2
     ·rename_i vs hv
      split at h2
      ·rename_i con hcon
       obtain⟨hm,hf⟩:=tU hcon
       subst hf
       have C:=ht con hm
       split at h2
       ·exact Ip (N:=N) C hl h2 hx hv
       ·exact Bw hW C hl h2 fun H vw h1 h2 h3 h4 h5 h6=>EF.MC H vw C.call (bf hx) (kX hv).2 (by rw[←pk];exact h1) h2 h3 h4 h5 h6
      ·cases h2
     ·cases h2
    ·cases h
   ·cases h
  ·exact OM (N:=N) ht ok W hW A r s (some d) c k hl hy h ty pos after guard
 ·cases h
def RE (tbl:List (cr S)) (ns:List (Nat×List FuncId)):Cl S where
 call:=fun ok A _ s dst c k=>match vT s c with
  | true=>none
  | false=>u9 tbl ns ok A s dst c k
 rf:=fun _ _ _ _ _ _=>none
theorem Na {P:Program}{N:Nat}{tbl:List (cr S)}{ns:List (Nat×List FuncId)}(ht:∀c∈tbl,aP P c):Ac P N (RE tbl ns) where
 call:=fun ok W hW A kp r s dst c k hl hy h=>by
  have h:(match vT s c with
   | true=>none
   | false=>u9 tbl ns ok A s dst c k)=some r:=h
  rw[hy] at h
  exact(Io (N:=N) ht ok W hW A r).p s dst c k hl hy h
 cq:=fun ok A kp r cx s dst c k hl hy h=>by
  have h:(match vT s c with
   | true=>none
   | false=>u9 tbl ns ok A s dst c k)=some r:=h
  rw[hy] at h
  cases h
 rf:=fun cx _ key hd g _ s B K r hl h=>by cases h
theorem zx {N:Nat}{H:List (Nat×mq)}{l:List (Nat×Array Tmp×Code×Code)}(h:isNil l=true):oF S N H l:=by
 cases l with
 | nil=>trivial
 | cons x r=>cases h
theorem aP.of {P:Program}{N fu:Nat}{H:List (Nat×mq)}{tbl:List (cr S)}{con:cr S}{fn:Func}{c:Code}(hm:P.follows .mixedOrders=true) (ht:∀c∈tbl,aP P c)
  (hf:P.funcs[con.f]?=some fn) (hcall:∀args w,(callFunc con.f args).run P w=.ok (.enter con.f args) w) (hb:fn.body=some c) (hN:fn.ntmps=N)
  (hle:tB N con.args con.aA con.outs=true)
  {mvs:List Nat}{ns:List (Nat×List FuncId)}(h:∀q,Ib P N fu H (RE tbl ns) c mvs fn.results.toList con.args con.aZ con.aA con.outs q=con.F q) (hn:isNil (lF c 0)=true:=by kernel_rfl):aP P con:=
 aP.Sm hm (Na ht) hf hcall hb hN hle (zx hn) h
theorem aP.law {P:Program}{con:cr S}(C:aP P con){gs:List G}{q:bj S.α (j9 con.args con.aZ)}{r:bj S.α (JH.dg ⟨con.aA,con.outs⟩)}(hr:con.F q=some r) (hgs:TV.er.go (eV con.args con.aZ (leaves _ q)).ln (cX con.args (leaves _ q)).1=gs)
  (hst:(eV con.args con.aZ (leaves _ q)).er.st=[]) (hres:(lG con.aA (leaves _ r)).er (bZ (ca con.outs (cv con.aA (leaves _ r)).2).1)=.val (.bool true)) (ho:b8 (bZ (ca con.outs (cv con.aA (leaves _ r)).2).1) (ca con.outs (cv con.aA (leaves _ r)).2).1=[]):
  GM P con.f gs [] (fun g st=>g=.val (.bool true)∧st=[]):=by
 have h:=C.ok q r hr
 rw[hgs,hst] at h
 exact h.mono fun g st hg=>⟨hg.1.trans hres,hg.2.trans ho⟩
end
end Go.DN
/-
 DN,part Zb:loops dz functions:rounds by ep,calls of yield.
-/
namespace Go.DN
open Go.AM
section
variable {S:eC}
theorem Jm {s:ah S}{vw:Bool}{H:List Nat}{args:List Sh}{aZ:List Oh}{vs:List (TV S)}{xl yl:List (bo S.α)}{q:bj S.α (j9 args aZ)}(hx:jH s vw H args vs=some xl) (hy:na s vw H H aZ=some yl) (hq:lA (j9 args aZ) (xl++yl)=some q):
  cg.go H (ey s.er.st H vw) (TV.er.go s.ln vs)=some (TV.er.go (eV args aZ (leaves _ q)).ln (cX args (leaves _ q)).1)∧fD H (ey s.er.st H vw) s.er.st H 0=some (eV args aZ (leaves _ q)).er.st:=by
 have hlq:=fY hq
 have hrest:(cX args (leaves _ q)).2=yl:=by
  rw[hlq]
  exact(ie (lnC:=fun k=>s.ln ((H[k-1000]?).getD 0)) (fun i h hi=>by simp[ec hi]) hx yl).1
 have hst:(eV args aZ (leaves _ q)).bg=(ca (mg aZ 1000) yl).1:=by
  show(ca (mg aZ 1000) (cX args (leaves _ q)).2).1++[]=_
  rw[b9,hrest]
 obtain⟨o1,o2,o3⟩:=yO 0 hy []
 rw[b9] at o1 o2 o3
 have hln:∀i h,dr H h=some i→(eV args aZ (leaves _ q)).ln (1000+i)=s.ln h:=by
  intro i h hi
  have:=o2 i h (ec hi)
  rw[bQ] at this
  unfold ah.ln
  rw[hst]
  exact this
 have hargs:=(ie hln hx yl).2
 rw[←hlq] at hargs
 have hobjs:=o3 _ hln
 have hst2:(eV args aZ (leaves _ q)).er.st=b8 (eV args aZ (leaves _ q)).ln (ca (mg aZ 1000) yl).1:=by
  show b8 _ _=_
  rw[hst]
 exact⟨hargs,by rw[hst2];exact hobjs⟩
theorem Ht {s:ah S}{vw:Bool}{H js bk:List Nat}{O sb:List (Nat×TO S)}{n:Nat}{A:Type}{k:Option A}{r:A}(hO:aF O=js) (c3:apart H (aF s.bL)=true) (hf:qP s H (cM js H 0) js bk=true)
  (hsb:mJ vw (jk (b8 (bZ O) O) bk) (jq s.er.st (b8 (bZ O) O) H 0) s.er.st O bk=some sb) (h:mZ s sb (qP.minus H (cM js H 0)) k=some r):
  k=some r∧nR vw s.er H (b8 (bZ O) O) bk=some (dM s H (cM js H 0) sb n).er∧(∀a b,jk (b8 (bZ O) O) bk a=some b→(dM s H (cM js H 0) sb n).ln b=bZ O a):=by
 simp only[qP,aj] at hf
 obtain⟨f1,f2,f3,f4,f5⟩:=hf
 obtain⟨k1,k2⟩:=mY h
 have hkeys:aF sb=bk:=qy hsb
 have hd:∀h,h∈H→h∉cM js H 0→h∈bk:=fun h h1 h2=>l9 f2 h (pi h1 h2)
 have her:=Fa (n:=n) f1 hkeys c3 (fun h h1 h2=>k2 h (pi h1 h2)) hd f3 f4 f5
 have f1':=f1
 rw[←hO] at f1'
 obtain⟨b1,b2⟩:=BL (ln:=bZ O) f1'
 have hlnB:∀a b,jk (b8 (bZ O) O) bk a=some b→(dM s H (cM js H 0) sb n).ln b=bZ O a:=by
  intro a b hab
  obtain⟨_,o,o',g1,g2,g3⟩:=zt hsb b2 a b hab
  unfold ah.ln bZ
  show(match aw ((sb++jZ H s.st)++s.bL) b with | some o=>o.len | none=>0)=_
  rw[aC,db,g2,g1]
  exact g3
 have hds:dP (b8 (bZ O) O) H 0=cM js H 0:=by rw[xr,hO]
 refine⟨k1,?_,hlnB⟩
 unfold nR
 have hb:kf vw (jk (b8 (bZ O) O) bk) (jq s.er.st (b8 (bZ O) O) H 0) s.er.st (b8 (bZ O) O) bk=some (b8 (dM s H (cM js H 0) sb n).ln sb):=rj hlnB hsb
 have hdf:s.er.df.all (fun g=>!(o5 (dP (b8 (bZ O) O) H 0) g))=true:=by
  rw[hds];exact xx f5
 show(bif ob s.er H (b8 (bZ O) O) bk&&s.er.df.all (fun g=>!(o5 (dP (b8 (bZ O) O) H 0) g)) then _ else none)=_
 rw[b1,hdf]
 show(match kf vw (jk (b8 (bZ O) O) bk) (jq s.er.st (b8 (bZ O) O) H 0) s.er.st (b8 (bZ O) O) bk with
  | some sb=>some ({fr:=l7 (dP (b8 (bZ O) O) H 0) s.er.fr,st:=sb++fo (dP (b8 (bZ O) O) H 0) (fw H s.er.st),df:=s.er.df}:St)
  | none=>none)=_
 rw[hb,hds,her]
def tA (lv:Bool):List (Nat×Sh):=match lv with
 | true=>[(0,.ab true (.int .i64))]
 | false=>[]
def KG (lv:Bool) (n:Int):List (bo S.α):=match lv with
 | true=>[⟨.int .i64,n⟩]
 | false=>[]
def EG (lv:Bool) (ls:List (bo S.α)):Int:=match lv with
 | true=>match ls with
  | ⟨.int _,n⟩::_=>n
  | _=>0
 | false=>0
theorem Mo {lv:Bool}(h:lv=false) (ls:List (bo S.α)):EG lv ls=0:=by subst h;rfl
structure o6 (S:eC) where
 key:Nat
 args:List Sh
 cells:List Sh
 aZ:List Oh
 outs:List (Nat×Oh)
 lv:Bool
 F:bj S.α (j9 (args++cells) aZ)→Option (bj S.α (JH.dg ⟨tA lv,outs⟩))
def oz (Y:o6 S) (r:bj S.α (JH.dg ⟨tA Y.lv,Y.outs⟩)):List (Nat×TO S):=(ca Y.outs (cv (tA Y.lv) (leaves _ r)).2).1
def Ai (Y:o6 S) (q:bj S.α (j9 (Y.args++Y.cells) Y.aZ)):List (TV S):=(cX (Y.args++Y.cells) (leaves _ q)).1
structure Dc (P:Program) (Y:o6 S):Prop where
 ps:(S.eT Y.key).ps.size=Y.args.length∧nT (S.eT Y.key).ps.toList=true∧(S.eT Y.key).ps.toList.all (Nat.blt · (S.eT Y.key).N)=true
 ok:∀q r,Y.F q=some r→GY P (S.lp Y.key 0) (TV.er.go (eV (Y.args++Y.cells) Y.aZ (leaves _ q)).ln ((Ai Y q).drop Y.args.length)) (TV.er.go (eV (Y.args++Y.cells) Y.aZ (leaves _ q)).ln ((Ai Y q).take Y.args.length))
  (eV (Y.args++Y.cells) Y.aZ (leaves _ q)).er.st (fun j st'=>j=Bg (S.eT Y.key).id (EG Y.lv (leaves _ r))∧st'=b8 (bZ (oz Y r)) (oz Y r))
def FH (key:Nat):List (o6 S)→Option (o6 S)
 | []=>none
 | y::r=>match Nat.beq y.key key with
  | true=>some y
  | false=>FH key r
theorem HU {key:Nat}:∀{l:List (o6 S)}{y:o6 S},FH key l=some y→y∈l∧y.key=key
 | [],_,h=>by cases h
 | x::r,y,h=>by
  simp only[FH] at h
  split at h
  ·rename_i hb
   cases h
   exact⟨av,aa hb⟩
  ·obtain⟨h1,h2⟩:=HU h
   exact⟨ao _ h1,h2⟩
def Q6 (lv:Bool) (n:Int){A:Type}(k:Option A):Option A:=match lv with
 | true=>(bq (n=0)).bind fun _=>k
 | false=>match decEq n 0 with
  | isTrue _=>k
  | isFalse _=>none
theorem Q5 {lv:Bool}{n:Int}{A:Type}{k:Option A}{r:A}(h:Q6 lv n k=some r):n=0∧k=some r:=by
 unfold Q6 at h
 split at h
 ·obtain⟨_,h1,h2⟩:=bind_some h
  exact⟨cj h1,h2⟩
 ·split at h
  ·rename_i e _;exact⟨e,h⟩
  ·cases h
def FI (t:ah S) (h key:Nat) (cs:List (TV S)) (d:Nat) (lv:Bool) (n:Int){A:Type}(k:ah S→Option A):Option A:=match lv with
 | true=>cond (n==0) (k ((t.set h (.lp key 0 cs)).put d (.ab true .bool true))) (k ((t.set h (.lp key n cs)).put d (.ab true .bool false)))
 | false=>k ((t.set h (.lp key 0 cs)).put d (.ab true .bool true))
def FR (ys:List (o6 S)) (N:Nat) (A:Type) (s:ah S) (dst:Option Nat) (c:Call) (k:ah S→Option A):Option A:=
 match dst with
 | some d=>match Nat.blt d N with
  | true=>match c.callee with
   | .value x=>match cm s x with
    | some (.cq h)=>match aw s.st h with
     | some (.lp key n cs)=>match sd s c.args.toList with
      | some vs=>match FH key ys with
       | some Y=>Q6 Y.lv n (match yw s.bg Y.aZ 1000 (sQ (Y.args++Y.cells) (vs++cs)) with
        | some H=>match nT H&&(apart H (aF s.bL)&&(!(br h H)&&Nat.beq vs.length Y.args.length)) with
         | true=>match jH s false H (Y.args++Y.cells) (vs++cs) with
          | some xs=>match na s false H H Y.aZ with
           | some ys=>match lA (j9 (Y.args++Y.cells) Y.aZ) (xs++ys) with
            | some q=>(Y.F q).bind fun r=>match Ng s H d (aF Y.outs) [] with
             | some bk=>match qP s H (cM (aF Y.outs) H 0) (aF Y.outs) bk with
              | true=>match mJ false (jk (b8 (bZ (oz Y r)) (oz Y r)) bk) (jq s.er.st (b8 (bZ (oz Y r)) (oz Y r)) H 0) s.er.st (oz Y r) bk with
               | some sb=>mZ s sb (qP.minus H (cM (aF Y.outs) H 0)) (match Y.lv with
                | true=>FI (dM s H (cM (aF Y.outs) H 0) sb Y.outs.length) h key cs d true (EG Y.lv (leaves _ r)) k
                | false=>FI (dM s H (cM (aF Y.outs) H 0) sb Y.outs.length) h key cs d false 0 k)
               | none=>none
              | false=>none
             | none=>none
            | none=>none
           | none=>none
          | none=>none
         | false=>none
        | none=>none)
       | none=>none
      | none=>none
     | _=>none
    | _=>none
   | _=>none
  | false=>none
 | none=>none
theorem HP {H:List Nat}{stv:List (Nat×ap)}:∀{a b c:List G},cg.go H stv (a++b)=some c→cg.go H stv a=some (c.take a.length)∧cg.go H stv b=some (c.drop a.length)
 | [],b,c,h=>⟨rfl,h⟩
 | g::a,b,c,h=>by
  simp only[bx,cg.go] at h
  split at h
  ·rename_i g' r' h1 h2
   cases h
   obtain⟨i1,i2⟩:=HP h2
   refine⟨?_,i2⟩
   simp only[cg.go,h1,i1,bN,List.take_succ_cons]
  ·cases h
theorem MI {id:Nat}{n:Int}:(Bg id n).isNone=(n==0):=by
 unfold Bg
 cases n==0 with
 | true=>rfl
 | false=>cases n==1 <;> rfl
theorem MZ (ln:Nat→Nat) (l:List (TV S)):(TV.er.go ln l).length=l.length:=by rw[cR,a5]
theorem Ps {P:Program}{N:Nat}{ys:List (o6 S)}(hy:∀y∈ys,Dc P y) (ok:Nat→Bool) (A:Type) (r:A):O2 P N (FR ys N A) r:=by
 intro cx s dst c k hl hisy h ty pos after ops rest Q hk
 obtain⟨cal,args,ts⟩:=c
 unfold FR at h
 split at h
 rotate_left
 ·cases h
 rename_i d
 split at h
 rotate_left
 ·cases h
 rename_i hdN
 dsimp only at h
 split at h
 rotate_left
 ·cases h
 rename_i x
 split at h
 rotate_left
 ·cases h
 rename_i hh hx
 split at h
 rotate_left
 ·cases h
 rename_i key n cs ho
 split at h
 rotate_left
 ·cases h
 rename_i vs hvs
 split at h
 rotate_left
 ·cases h
 rename_i Y hY
 have hon:=Q5 h
 clear h
 obtain⟨hn0,h⟩:=hon
 subst hn0
 obtain⟨hYm,hYk⟩:=HU hY
 have C:=hy Y hYm
 subst hYk
 split at h
 rotate_left
 ·cases h
 rename_i H hH
 split at h
 rotate_left
 ·cases h
 rename_i hc
 simp only[aj,a6] at hc
 obtain⟨c1,c3,c4,c5⟩:=hc
 have c5:=aa c5
 split at h
 rotate_left
 ·cases h
 rename_i xl hxl
 split at h
 rotate_left
 ·cases h
 rename_i yl hyl
 split at h
 rotate_left
 ·cases h
 rename_i q hq
 obtain⟨hin,hst⟩:=Jm hxl hyl hq
 rw[pk] at hin
 obtain⟨hinA,hinC⟩:=HP hin
 rw[MZ,c5] at hinA hinC
 obtain⟨res,h1,h2⟩:=bind_some h
 have hcon:=C.ok q res h1
 have hoA:aw s.bg hh=some (.lp Y.key 0 cs):=G8 ho
 have htk:∀ln,TV.er.go ln ((Ai Y q).take Y.args.length)=(TV.er.go ln (Ai Y q)).take Y.args.length:=fun ln=>by rw[cR,cR,List.map_take]
 have hdr:∀ln,TV.er.go ln ((Ai Y q).drop Y.args.length)=(TV.er.go ln (Ai Y q)).drop Y.args.length:=fun ln=>by rw[cR,cR,List.map_drop]
 rw[htk,hdr] at hcon
 split at h2
 rotate_left
 ·cases h2
 rename_i bk hbk
 split at h2
 rotate_left
 ·cases h2
 rename_i hf
 split at h2
 rotate_left
 ·cases h2
 rename_i sb hsb
 have hO:aF (oz Y res)=aF Y.outs:=jM _ _
 obtain⟨k1,hback,_⟩:=Ht (n:=Y.outs.length) hO c3 hf hsb h2
 have hidx:dr H hh=none:=by
  cases hi:dr H hh with
  | none=>rfl
  | some i=>rw[bO.2 (ar (ec hi))] at c4;cases c4
 have hlp:aw (dM s H (cM (aF Y.outs) H 0) sb Y.outs.length).st hh=some (.lp Y.key 0 cs):=by
  show aw (sb++jZ H s.st) hh=_
  have hnb:hh∉bk:=fun hm=>by
   simp only[qP,aj] at hf
   rcases zp hf.1 hh hm with h1 | h1
   ·rw[bO.2 h1] at c4;cases c4
   ·rw[(free_spec h1).1] at hoA;cases hoA
  rw[db,lc (by rw[qy hsb];exact hnb),wR hidx]
  exact ho
 have fin:∀(lv:Bool) (nn:Int),EG Y.lv (leaves _ res)=nn→FI (dM s H (cM (aF Y.outs) H 0) sb Y.outs.length) hh Y.key cs d lv nn k=some r→(lv=false→nn=0)→
   GL P N cx ops Q rest (({(dM s H (cM (aF Y.outs) H 0) sb Y.outs.length).er with st:=bw (dM s H (cM (aF Y.outs) H 0) sb Y.outs.length).er.st hh {((TO.lp Y.key 0 cs:TO S).er (dM s H (cM (aF Y.outs) H 0) sb Y.outs.length).ln) with lp:=some (.loop (S.lp Y.key nn))}}:St).put d (.val (.bool (nn==0)))):=by
  intro lv nn hnn hend hlv
  have ht1:(dM s H (cM (aF Y.outs) H 0) sb Y.outs.length).last=[]:=rfl
  have ht2:bz s (dM s H (cM (aF Y.outs) H 0) sb Y.outs.length):=⟨rfl,rfl,rfl⟩
  generalize dM s H (cM (aF Y.outs) H 0) sb Y.outs.length=t at hlp hend ht1 ht2⊢
  have step:∀m:Int,m=nn→k ((t.set hh (.lp Y.key m cs)).put d (.ab true .bool (nn==0)))=some r→
    GL P N cx ops Q rest (({t.er with st:=bw t.er.st hh {((TO.lp Y.key 0 cs:TO S).er t.ln) with lp:=some (.loop (S.lp Y.key nn))}}:St).put d (.val (.bool (nn==0)))):=by
   intro m hm hkr
   subst hm
   obtain⟨s1,s2⟩:=k6 (o':=(.lp Y.key m cs:TO S)) hlp rfl
   have hli:aY (t.set hh (.lp Y.key m cs)):=gH (by show yx hh t.last=[];rw[ht1];rfl)
   have:=hk _ (hli.put d _) ⟨ht2.lo,ht2.bL,ht2.df⟩ hkr
   rw[fC,s1] at this
   have e:(TV.ab true .bool (m==0):TV S).er (t.set hh (.lp Y.key m cs)).ln=.val (.bool (m==0)):=fZ true _
   rw[e] at this
   exact this
  cases lv with
  | false=>
   have:=hlv rfl
   subst this
   exact step 0 rfl hend
  | true=>
   simp only[FI] at hend
   cases hb:nn==0 with
   | true=>
    rw[hb] at hend step
    have e:nn=0:=by simpa using hb
    exact step 0 e.symm hend
   | false=>
    rw[hb] at hend step
    exact step nn rfl hend
 have hx':=bf hx
 refine GL.cq (lp:=S.lp Y.key 0) H bk hx' (kX hvs).2 (show aq s.er.st hh=some _ from fK hoA) rfl rfl hidx hinA hinC hst c1 (by
   rw[aV,MZ]
   have:(Ai Y q).length=(Y.args++Y.cells).length:=y8 _ _
   show min Y.args.length (Ai Y q).length=(S.eT Y.key).ps.size
   rw[this,C.ps.1,ak]
   omega) C.ps.2.1 C.ps.2.2 hcon rfl hdN ?_
 rintro j st' ⟨rfl,rfl⟩
 refine⟨_,hback,_,fK (dQ hlp),?_,(EG Y.lv (leaves _ res)==0),MI,?_⟩
 ·rfl
 ·split at k1
  ·rename_i hlv
   exact fin true _ rfl k1 (fun h=>by cases h)
  ·rename_i hlv
   have e0:EG Y.lv (leaves _ res)=0:=Mo hlv _
   have:=fin false 0 e0 k1 (fun _=>rfl)
   rw[e0]
   exact this
end
end Go.DN
/-
 DN,part Zc:rounds out of a run of their code;the loop itself.
-/
namespace Go.DN
open Go.AM
section
variable {S:eC}
def AK:List Nat→List (TV S)→List (Nat×TV S)
 | t::ts,v::vs=>(t,v)::AK ts vs
 | _,_=>[]
theorem Dj (ln:Nat→Nat):∀(ts:List Nat) (vs:List (TV S)),gf ln (AK ts vs)=nZ ts (TV.er.go ln vs)
 | [],_=>rfl
 | _::_,[]=>rfl
 | t::ts,v::vs=>by simp only[AK,gf,TV.er.go,nZ,Dj ln ts vs]
theorem JG (ln:Nat→Nat):∀(a b:List (Nat×TV S)),gf ln (a++b)=gf ln a++gf ln b
 | [],_=>rfl
 | (t,v)::r,b=>by simp only[bx,gf,JG ln r b]
def RJ (L:Pq) (args cells:List Sh) (aZ:List Oh) (ls:List (bo S.α)):ah S:=
 {fr:=AK L.ps.toList ((cX (args++cells) ls).1.take args.length)++AK L.aA ((cX (args++cells) ls).1.drop args.length),lo:=[],st:=(ca (mg aZ 1000) (cX (args++cells) ls).2).1,bL:=[],df:=[],nx:=300,last:=[]}
def H7 (P:Program) (t:ah S) (lv:Bool) (n:Int) (outs:List (Nat×Oh)):Option (bj S.α (JH.dg ⟨tA lv,outs⟩)):=
 match lv||n==0 with
 | true=>match D2 P t [] [] outs with
  | some q=>lA (JH.dg ⟨tA lv,outs⟩) (KG lv n++leaves _ q)
  | none=>none
 | false=>none
noncomputable def Rz (P:Program) (fu:Nat) (H:List (Nat×mq)) (cl:Cl S) (L:Pq) (mvs:List Nat) (args cells:List Sh) (aZ:List Oh) (outs:List (Nat×Oh)) (lv:Bool) (q:bj S.α (j9 (args++cells) aZ)):Option (bj S.α (JH.dg ⟨tA lv,outs⟩)):=
 match Cw mvs (RJ L args cells aZ (leaves _ q)) with
 | some s=>gG P L.N fu H cl L.lj 0 s _ fun e t=>match e with
  | .normal=>gG P L.N fu H cl L.body (jx L.lj) t _ fun e t=>match e with
   | .normal=>H7 P t lv 0 outs
   | .exit id=>match Nat.beq id L.id with
    | true=>H7 P t lv 1 outs
    | false=>none
   | .ret=>H7 P t lv 2 outs
   | _=>none
  | _=>none
 | none=>none
theorem NT {lv : Bool} {n : Int} (h : (lv || n == 0) = true) (r : List (bo S.α)) : EG lv (KG lv n ++ r) = n := by
  cases lv with
  | true => rfl
  | false => have : n = 0 := by simpa using h
             rw [this]; rfl
theorem MW (lv:Bool) (n:Int) (r:List (bo S.α)):(cv (tA lv) (KG lv n++r)).2=r:=by cases lv <;> rfl
theorem Dc.of {P:Program}{fu:Nat}{H:List (Nat×mq)}{tbl:List (cr S)}{Y:o6 S}(hm:P.follows .mixedOrders=true) (ht:∀c∈tbl,aP P c)
  (hps:(Nat.beq (S.eT Y.key).ps.size Y.args.length&&(nT (S.eT Y.key).ps.toList&&((S.eT Y.key).ps.toList.all (Nat.blt · (S.eT Y.key).N)&&Mn (aF Y.outs))))=true)
  (hna:isNil (lF (S.eT Y.key).lj 0)=true) (hnb:isNil (lF (S.eT Y.key).body (jx (S.eT Y.key).lj))=true)
  {mvs:List Nat}{ns:List (Nat×List FuncId)}(h:∀q,Rz P fu H (RE tbl ns) (S.eT Y.key) mvs Y.args Y.cells Y.aZ Y.outs Y.lv q=Y.F q):Dc P Y:=by
 simp only[aj] at hps
 obtain⟨p1,p2,p3,p4⟩:=hps
 have hcl:=Na (N:=(S.eT Y.key).N) (ns:=ns) ht
 have nilA:lF (S.eT Y.key).lj 0=[]:=by cases hx:lF (S.eT Y.key).lj 0 with | nil=>rfl | cons x r=>rw[hx] at hna;cases hna
 have nilB:lF (S.eT Y.key).body (jx (S.eT Y.key).lj)=[]:=by cases hx:lF (S.eT Y.key).body (jx (S.eT Y.key).lj) with | nil=>rfl | cons x r=>rw[hx] at hnb;cases hnb
 refine⟨⟨aa p1,p2,p3⟩,fun q r hr=>?_⟩
 have hr:=(h q).trans hr
 refine GY.of (lj:=(S.eT Y.key).lj) (body:=(S.eT Y.key).body) rfl rfl fun cx=>?_
 have e0:(⟨nZ (S.lp Y.key 0).ps.toList (TV.er.go (eV (Y.args++Y.cells) Y.aZ (leaves _ q)).ln ((Ai Y q).take Y.args.length))++nZ (S.lp Y.key 0).aA (TV.er.go (eV (Y.args++Y.cells) Y.aZ (leaves _ q)).ln ((Ai Y q).drop Y.args.length)),
   (eV (Y.args++Y.cells) Y.aZ (leaves _ q)).er.st,[]⟩:St)=(RJ (S.eT Y.key) Y.args Y.cells Y.aZ (leaves _ q)).er:=by
  show _=St.mk (gf _ ((AK _ _++AK _ _)++[])) _ _
  rw[b9,JG,Dj,Dj]
  rfl
 rw[e0]
 unfold Rz at hr
 split at hr
 rotate_left
 ·cases hr
 rename_i s0 hmv
 refine Ba (gH rfl) hmv fun hl0=>?_
 refine ju hm hcl _ 0 (zx hna) (.inl nilA) _ _ _ r hl0 hr _ fun e t hlt hk hK=>?_
 split at hK
 rotate_left
 ·cases hK
 refine⟨rfl,fun cx'=>?_⟩
 refine GW.Cf (Q':=fun e s'=>∃n:Int,∃t:ah S,Gh s' t.er∧aY t∧H7 P t Y.lv n Y.outs=some r∧((e=.normal∧n=0)∨(e=.exit (S.eT Y.key).id∧n=1)∨(e=.ret∧n=2)))
  (ju hm hcl _ _ (zx hnb) (.inl nilB) _ _ _ r hlt hK _ fun e t hlt hk hK=>?_) fun e s' hq=>?_
 ·split at hK
  ·exact⟨0,t,Gh.refl _,hlt,hK,.inl ⟨rfl,rfl⟩⟩
  ·split at hK
   ·rename_i hb
    have:=aa hb
    subst this
    exact⟨1,t,Gh.refl _,hlt,hK,.inr (.inl ⟨rfl,rfl⟩)⟩
   ·cases hK
  ·exact⟨2,t,Gh.refl _,hlt,hK,.inr (.inr ⟨rfl,rfl⟩)⟩
  ·cases hK
 ·obtain⟨n,t,hg0,hlt,hE,he⟩:=hq
  unfold H7 at hE
  split at hE
  rotate_left
  ·cases hE
  rename_i hlv
  split at hE
  rotate_left
  ·cases hE
  rename_i q' hq'
  obtain⟨u,hg,hdf,_,O',eu,hln,hown⟩:=JI hlt hq'
  have hls:=fY hE
  have hn:EG Y.lv (leaves _ r)=n:=by rw[hls];exact NT hlv _
  have hO:oz Y r=(ca Y.outs (leaves _ q')).1:=by unfold oz;rw[hls,MW]
  have hout:(ca Y.outs (cv [] (leaves (JH.dg ⟨[],Y.outs⟩) q')).2).1=(ca Y.outs (leaves _ q')).1:=rfl
  rw[hout] at eu hln
  have hk:aF (ca Y.outs (leaves (JH.dg ⟨[],Y.outs⟩) q')).1=aF Y.outs:=jM _ _
  have hsub:km u.er.st (b8 (bZ (oz Y r)) (oz Y r)):=by
   rw[hO]
   refine AQ fun j o hm=>?_
   have e1:aw (ca Y.outs (leaves (JH.dg ⟨[],Y.outs⟩) q')).1 j=some o:=DH (by rw[hk];exact p4) j o hm
   have e2:aw u.bg j=some o:=by rw[eu,db,e1]
   rw[show aq u.er.st j=_ from fK e2]
   have hj:o.er u.ln=o.er (bZ (ca Y.outs (leaves (JH.dg ⟨[],Y.outs⟩) q')).1):=TO.li hln o (sU (aF Y.outs) Y.outs _ hown j o e1)
   rw[hj]
  refine⟨u.er,hg0.trans hg,?_⟩
  ·refine⟨hdf,_,hsub,?_⟩
   rcases he with ⟨h,h2⟩ | ⟨h,h2⟩ | ⟨h,h2⟩
   ·subst h;subst h2
    exact⟨by rw[hn];rfl,rfl⟩
   ·subst h;subst h2
    exact⟨by rw[hn];rfl,rfl⟩
   ·subst h;subst h2
    exact⟨by rw[hn];rfl,rfl⟩
end
end Go.DN
/-
 DN,part Zd:the loop dz a function;contracts of functions that have such loops,or that go through them.
-/
namespace Go.DN
open Go.AM
section
variable {S:eC}
def Fq (fr:List (Nat×TV S)):List Nat→Option (List (TV S))
 | []=>some []
 | t::r=>match bc fr t with
  | some v=>match Fq fr r with
   | some vs=>some (v::vs)
   | none=>none
  | none=>none
theorem F6 {fr:List (Nat×TV S)}(ln:Nat→Nat):∀{ts:List Nat}{vs:List (TV S)},Fq fr ts=some vs→getAll (gf ln fr) ts=some (TV.er.go ln vs)
 | [],vs,h=>by cases h;rfl
 | t::r,vs,h=>by
  simp only[Fq] at h
  split at h
  ·rename_i v hv
   split at h
   ·rename_i vs' hvs
    cases h
    simp only[getAll,fc hv,F6 ln hvs,TV.er.go]
   ·cases h
  ·cases h
def GC (k:Nat):List (Nat×TO S)→List (Nat×TO S)
 | []=>[]
 | (h,o)::r=>bif Nat.beq h k then GC k r else(h,o)::GC k r
theorem Dx {k:Nat}:∀{st:List (Nat×TO S)}{h:Nat},aw (GC k st) h=bif Nat.beq k h then none else aw st h
 | [],h=>by cases Nat.beq k h <;> rfl
 | (x,o)::r,h=>by
  simp only[GC]
  cases hx:Nat.beq x k with
  | true=>
   have e:=aa hx
   subst e
   rw[cond_true,Dx]
   cases hb:Nat.beq x h with
   | true=>rfl
   | false=>simp only[aw,hb,cond_false]
  | false=>
   rw[cond_false]
   simp only[aw]
   rw[Dx]
   cases hb:Nat.beq x h with
   | true=>
    have e:=aa hb
    subst e
    have:Nat.beq k x=false:=by
     cases hq:Nat.beq k x with
     | false=>rfl
     | true=>have:=aa hq;subst this;rw[aH] at hx;cases hx
    rw[this];rfl
   | false=>rfl
def SH (con:cr S):Bool:=match con.aZ with
 | .lp _ lv _::_=>lv
 | _=>false
def Lc (con:cr S) (id:Nat) (t:ah S) (n:Int){A:Type}(K:Exit→ah S→Option A):Option A:=match SH con with
 | true=>cond (n==0) (K .normal t) (cond (n==1) (K (.exit id) t) (K .ret t))
 | false=>match decEq n 0 with
  | isTrue _=>K .normal t
  | isFalse _=>none
theorem Oy {con:cr S}{id:Nat}{t:ah S}{n:Int}{A:Type}{K:Exit→ah S→Option A}{r:A}(h:Lc con id t n K=some r){R:Exit→St→Prop}{s:St}(hR:∀e,(∀ch,e≠.panic ch)→K e t=some r→R e s):FN R s (Bg id n):=by
 unfold Lc at h
 split at h
 ·unfold Bg
  cases h0:n==0 with
  | true=>rw[h0] at h;exact hR _ (fun ch e=>by cases e) h
  | false=>
   rw[h0] at h
   cases h1:n==1 with
   | true=>rw[h1] at h;exact hR _ (fun ch e=>by cases e) h
   | false=>rw[h1] at h;exact hR _ (fun ch e=>by cases e) h
 ·split at h
  ·rename_i e _
   subst e
   exact hR _ (fun ch e=>by cases e) h
  ·cases h
def GK (tbl:List (cr S)) (key hd:Nat) (s:ah S) (g:Operand) (A:Type) (K:Exit→ah S→Option A):Option A:=
 match cm s g with
 | some (.aE f caps)=>match Fq s.bW (S.eT key).aA with
  | some cs=>match s.free hd&&!(TV.has.go hd cs) with
   | true=>match xk (fits (s.add hd (.lp key 0 cs)) [] (.cq hd::caps)) f tbl with
    | some con=>match yw (s.add hd (.lp key 0 cs)).bg con.aZ 1000 (sQ con.args (.cq hd::caps)) with
     | some H=>match nT H&&(apart H (aF s.bL)&&br hd H) with
      | true=>match jH (s.add hd (.lp key 0 cs)) con.vw H con.args (.cq hd::caps) with
       | some xs=>match na (s.add hd (.lp key 0 cs)) con.vw H H con.aZ with
        | some ys=>match lA (j9 con.args con.aZ) (xs++ys) with
         | some q=>(con.F q).bind fun r=>match Ng (s.add hd (.lp key 0 cs)) H hd (aF con.outs) [] with
          | some bk=>match qP (s.add hd (.lp key 0 cs)) H (cM (aF con.outs) H 0) (aF con.outs) bk&&!(br hd (cM (aF con.outs) H 0)) with
           | true=>match Pp (s.add hd (.lp key 0 cs)) H con r bk with
            | some sb=>mZ (s.add hd (.lp key 0 cs)) sb (qP.minus H (cM (aF con.outs) H 0)) (match aw (dM (s.add hd (.lp key 0 cs)) H (cM (aF con.outs) H 0) sb con.outs.length).st hd with
             | some (.lp key' n _)=>match Nat.beq key' key&&!(br hd (aF s.bL)) with
              | true=>Lc con (S.eT key).id {dM (s.add hd (.lp key 0 cs)) H (cM (aF con.outs) H 0) sb con.outs.length with st:=GC hd (dM (s.add hd (.lp key 0 cs)) H (cM (aF con.outs) H 0) sb con.outs.length).st} n K
              | false=>none
             | _=>none)
            | none=>none
           | false=>none
          | none=>none
         | none=>none
        | none=>none
       | none=>none
      | false=>none
     | none=>none
    | none=>none
   | false=>none
  | none=>none
 | _=>none
theorem D5 {H js:List Nat}{hd:Nat}(h:br hd (cM js H 0)=false):(cM js H 0).contains hd=false:=by rw[sm];exact h
theorem Me {P:Program}{N:Nat}{tbl:List (cr S)}(ht:∀c∈tbl,aP P c) (cx:Cx) (hro:cx.ro=none) (key hd:Nat) (g:Operand) (hN:(S.eT key).N=N) (s:ah S) (B:Type) (K:Exit→ah S→Option B) (r:B) (hl:aY s) (h:GK tbl key hd s g B K=some r)
  (Q:Exit→St→Prop) (hQ:∀e t,aY t→bz s t→K e t=some r→(∀ch,e≠.panic ch)→Q e t.er):GW P N cx (.rangeFunc g (S.eT key).ps (S.eT key).lj (S.eT key).body) Q s.er:=by
 unfold GK at h
 split at h
 rotate_left
 ·cases h
 rename_i f caps hg
 split at h
 rotate_left
 ·cases h
 rename_i cs hcs
 split at h
 rotate_left
 ·cases h
 rename_i hfree
 simp only[aj,a6] at hfree
 obtain⟨hfr,hnh⟩:=hfree
 obtain⟨ha1,ha2⟩:=ow hfr (.lp key 0 cs:TO S) hnh
 split at h
 rotate_left
 ·cases h
 rename_i con hcon
 obtain⟨hm,hf⟩:=tU hcon
 subst hf
 have C:=ht con hm
 generalize hs1:s.add hd (.lp key 0 cs)=s1 at h ha1 ha2
 have hlst:s1.bL=s.bL:=by rw[←hs1];rfl
 have hlo:s1.lo=s.lo:=by rw[←hs1];rfl
 have hdf:s1.df=s.df:=by rw[←hs1];rfl
 have hoh:aw s1.bg hd=some (.lp key 0 cs):=by rw[←hs1];show(bif Nat.beq hd hd then some (TO.lp key 0 cs) else aw s.bg hd)=_;rw[aH];rfl
 split at h
 rotate_left
 ·cases h
 rename_i H hH
 split at h
 rotate_left
 ·cases h
 rename_i hc
 simp only[aj] at hc
 obtain⟨c1,c3,c4⟩:=hc
 rw[←hlst] at c3
 split at h
 rotate_left
 ·cases h
 rename_i xl hxl
 split at h
 rotate_left
 ·cases h
 rename_i yl hyl
 split at h
 rotate_left
 ·cases h
 rename_i q hq
 obtain⟨hin,hst⟩:=Jm hxl hyl hq
 obtain⟨res,h1,h2⟩:=bind_some h
 have hcn:=C.ok q res h1
 split at h2
 rotate_left
 ·cases h2
 rename_i bk hbk
 split at h2
 rotate_left
 ·cases h2
 rename_i hff
 simp only[aj,a6] at hff
 obtain⟨hfit,cP⟩:=hff
 split at h2
 rotate_left
 ·cases h2
 rename_i sb hsb
 have hO:aF (dT con res)=aF con.outs:=w9 con res
 obtain⟨k1,hback,_⟩:=Ht (n:=con.outs.length) hO c3 hfit hsb h2
 generalize hT:dM s1 H (cM (aF con.outs) H 0) sb con.outs.length=T at k1 hback
 have hTl:T.last=[]:=by rw[←hT];rfl
 have hTk:bz s1 T:=by rw[←hT];exact⟨rfl,rfl,rfl⟩
 split at k1
 rotate_left
 ·cases k1
 rename_i key' n cs' hlp
 split at k1
 rotate_left
 ·cases k1
 rename_i hk
 simp only[aj,a6] at hk
 obtain⟨hk,hnl⟩:=hk
 have e1:=aa hk
 subst e1
 have hlpA:aw T.bg hd=some (.lp key' n cs'):=dQ hlp
 have hnl':aw T.bL hd=none:=by
  refine lc fun hm=>?_
  rw[hTk.bL,hlst] at hm
  rw[bO.2 hm] at hnl;cases hnl
 generalize hU:({T with st:=GC hd T.st}:ah S)=U at k1
 have hUst:∀k,aw U.bg k=bif Nat.beq hd k then none else aw T.bg k:=by
  intro k
  rw[←hU]
  show aw (GC hd T.st++T.bL) k=_
  rw[db,Dx]
  show _=bif Nat.beq hd k then none else aw (T.st++T.bL) k
  rw[db]
  cases hb:Nat.beq hd k with
  | true=>have:=aa hb;subst this;exact hnl'
  | false=>rfl
 have hUln:U.ln=T.ln:=by
  funext k
  show bZ U.bg k=bZ T.bg k
  unfold bZ
  rw[hUst]
  cases hb:Nat.beq hd k with
  | true=>have:=aa hb;subst this;rw[hlpA];rfl
  | false=>rfl
 have hUfr:U.bW=T.bW:=by subst hU;rfl
 have hUdf:U.df=T.df:=by subst hU;rfl
 have hsgU:∀k b,aq U.er.st k=some b→aq T.er.st k=some b:=by
  intro k b hb
  obtain⟨o,ho,rfl⟩:=pb hb
  rw[hUst] at ho
  cases hq:Nat.beq hd k with
  | true=>rw[hq] at ho;cases ho
  | false=>
   rw[hq] at ho
   rw[show aq T.er.st k=_ from fK ho,hUln]
 have hUE:Lq T.er U.er:=by
  refine⟨fun t g hg'=>?_,hsgU,?_⟩
  ·have:U.er.fr=T.er.fr:=by show gf U.ln U.bW=gf T.ln T.bW;rw[hUln,hUfr]
   rw[this] at hg';exact hg'
  ·show TV.er.go T.ln T.df=TV.er.go U.ln U.df
   rw[hUln,hUdf]
 have hUn:aq U.er.st hd=none:=by
  refine pC ?_
  rw[hUst,aH];rfl
 have hcaps:TV.er.go s.ln caps=TV.er.go s1.ln caps:=by
  have e1:=bf hg
  have hg1:cm s1 g=some (.aE con.f caps):=by
   rw[←hg,←hs1]
   cases g <;> rfl
  have e2:=bf hg1
  have hfe:s1.er.fr=s.er.fr:=by rw[ha1]
  have e3:ev s1.er g=ev s.er g:=by
   cases g with
   | tmp t=>show AM.get s1.er.fr t=AM.get s.er.fr t;rw[hfe]
   | _=>rfl
  rw[e3,e1] at e2
  have:=kv e2
  simp only[TV.er,G.aE.injEq] at this
  exact this.2
 subst hN
 have hst0:s1.er.st=(hd,sT (TV.er.go s.ln cs) (S.lp key' 0))::s.er.st:=by rw[ha1];rfl
 have hs1e:s1.er={fr:=s.er.fr,st:=(hd,sT (TV.er.go s.ln cs) (S.lp key' 0))::s.er.st,df:=s.er.df}:=by rw[ha1];rfl
 refine GW.rangeFunc (f0:=0) (f:=con.f) (caps:=TV.er.go s.ln caps) (cells:=TV.er.go s.ln cs) hro (fun j=>⟨0,(S.eT key').N,(S.eT key').aA,(S.eT key').ps,(S.eT key').lj,(S.eT key').body,j⟩) hd (S.eT key').aA H con.vw bk
  (fun _=>rfl) (bf hg) C.call (F6 s.ln hcs) (gn hfr) ?_ c1 (bO.1 c4) hcn ?_ ?_
 ·have:=hst
  rw[hst0] at this
  exact this
 ·have:=hin
  rw[hst0] at this
  rw[hcaps]
  exact this
 ·rintro r' st' ⟨_,rfl⟩
  refine⟨T.er,U.er,Bg (S.eT key').id n,_,?_,?_,fK hlpA,rfl,hUE,hUn,?_⟩
  ·show nR con.vw ⟨s.er.fr,(hd,sT (TV.er.go s.ln cs) (S.lp key' 0))::s.er.st,s.er.df⟩ H _ bk=_
   rw[←hs1e];exact hback
  ·show(dP (b8 (bZ (dT con res)) (dT con res)) H 0).contains hd=false
   rw[xr,hO]
   exact D5 cP
  ·refine Oy k1 fun e hp hK=>hQ e U (gH (by rw[←hU];exact hTl)) ⟨?_,?_,?_⟩ hK hp
   ·rw[←hU];exact hTk.lo.trans hlo
   ·rw[←hU];exact hTk.bL.trans hlst
   ·rw[←hU];exact hTk.df.trans hdf
def Sn (N:Nat) (tbl tbr:List (cr S)) (ys:List (o6 S)) (ns:List (Nat×List FuncId)):Cl S where
 call:=fun ok A _ s dst c k=>match vT s c with
  | true=>FR ys N A s dst c k
  | false=>u9 tbl ns ok A s dst c k
 rf:=GK tbr
theorem RD {P:Program}{N:Nat}{tbl tbr:List (cr S)}{ys:List (o6 S)}{ns:List (Nat×List FuncId)}(ht:∀c∈tbl,aP P c) (hr:∀c∈tbr,aP P c) (hy:∀y∈ys,Dc P y):Ac P N (Sn N tbl tbr ys ns) where
 call:=fun ok W hW A kp r s dst c k hl hi h=>by
  have h:(match vT s c with
   | true=>FR ys N A s dst c k
   | false=>u9 tbl ns ok A s dst c k)=some r:=h
  rw[hi] at h
  exact(Io (N:=N) ht ok W hW A r).p s dst c k hl hi h
 cq:=fun ok A kp r cx s dst c k hl hi h=>by
  have h:(match vT s c with
   | true=>FR ys N A s dst c k
   | false=>u9 tbl ns ok A s dst c k)=some r:=h
  rw[hi] at h
  exact Ps hy ok A r cx s dst c k hl hi h
 rf:=fun cx hro key hd g hN s B K r hl h Q hQ=>Me hr cx hro key hd g hN s B K r hl h Q fun e t a b c _=>hQ e t a b c
def Rk (S:eC):List (Nat×Nat)→List (Nat×Array Tmp×Code×Code)
 | []=>[]
 | (p,k)::r=>(p,(S.eT k).ps,(S.eT k).lj,(S.eT k).body)::Rk S r
def Pd (S:eC) (N:Nat) (H:List (Nat×mq)):List (Nat×Nat)→Bool
 | []=>true
 | (p,k)::r=>(match fh H p with
  | some (.L7 key _)=>Nat.beq key k&&Nat.beq (S.eT k).N N
  | _=>true)&&Pd S N H r
theorem MF {N:Nat}{H:List (Nat×mq)}:∀{ks:List (Nat×Nat)},Pd S N H ks=true→oF S N H (Rk S ks)
 | [],_=>trivial
 | (p,k)::r,h=>by
  simp only[Pd,aj] at h
  refine⟨?_,MF h.2⟩
  have h1:=h.1
  split
  ·rename_i key hd hh
   rw[hh] at h1
   simp only[aj] at h1
   have e1:=aa h1.1
   have e2:=aa h1.2
   subst e1
   exact⟨e2,rfl,rfl,rfl⟩
  ·trivial
theorem aP.O8 {P:Program}{N fu:Nat}{H:List (Nat×mq)}{tbl tbr:List (cr S)}{ys:List (o6 S)}{con:cr S}{fn:Func}{c:Code}(ks:List (Nat×Nat)) (hm:P.follows .mixedOrders=true) (ht:∀c∈tbl,aP P c) (hr:∀c∈tbr,aP P c) (hy:∀y∈ys,Dc P y)
  (hf:P.funcs[con.f]?=some fn) (hcall:∀args w,(callFunc con.f args).run P w=.ok (.enter con.f args) w) (hb:fn.body=some c) (hN:fn.ntmps=N)
  (hle:tB N con.args con.aA con.outs=true) (hk:lF c 0=Rk S ks) (hkn:Pd S N H ks=true)
  {mvs:List Nat}{ns:List (Nat×List FuncId)}(h:∀q,Ib P N fu H (Sn N tbl tbr ys ns) c mvs fn.results.toList con.args con.aZ con.aA con.outs q=con.F q):aP P con:=
 aP.Sm hm (RD ht hr hy) hf hcall hb hN hle (hk▸MF hkn) h
def O7 (P:Program) (f i id:Nat) (aA:List Nat):Pq:=match P.funcs[f]? with
 | some fn=>match fn.body with
  | some c=>match (lF c 0)[i]? with
   | some (_,ps,a,b)=>⟨fn.ntmps,aA,ps,a,b,id⟩
   | none=>⟨0,[],#[],.skip,.skip,0⟩
  | none=>⟨0,[],#[],.skip,.skip,0⟩
 | none=>⟨0,[],#[],.skip,.skip,0⟩
end
end Go.DN
