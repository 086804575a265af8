/-
  DN, fourth part.
-/
import Derived.Test.YtfkigaldejbeiaaMgD
import Derived.KernelRfl
set_option linter.unusedSectionVars false
set_option linter.unusedSimpArgs false
set_option linter.unusedVariables false
/-
 DN,part Vb:a call whose arguments all lead to what the caller's call has made:so does its answer.
-/
namespace Go.DN
open Go.AM
def qb:G→Bool
 | .val _=>true
 | .fr _=>true
 | .agg gs=>go gs
 | .aF _ gs=>go gs
 | _=>false
where go:List G→Bool
 | []=>true
 | g::r=>qb g&&go r
theorem ud:∀{gs:List G},qb.go gs=true→∀(j:Nat) (g:G),gs[j]?=some g→qb g=true
 | [],_,j,g,hg=>by simp at hg
 | x::r,h,j,g,hg=>by
  simp only[qb.go,aj] at h
  cases j with
  | zero=>cases hg;exact h.1
  | succ j=>exact ud h.2 j g hg
def qy:G→G
 | .val v=>.val v
 | .sl n cs=>.fr (.sl n cs)
 | .ptr cs=>.fr (.ptr cs)
 | .agg gs=>.agg (go gs)
 | .bl gs=>.bl (go gs)
 | .aF f gs=>.aF f (go gs)
 | g=>g
where go:List G→List G
 | []=>[]
 | g::r=>qy g::go r
theorem vN:∀(gs:List G),(qy.go gs).length=gs.length
 | []=>rfl
 | _::r=>congrArg (·+1) (vN r)
theorem yB:∀{gs:List G}{j:Nat}{g':G},(qy.go gs)[j]?=some g'→∃g,gs[j]?=some g∧g'=qy g
 | [],_,_,h=>by simp[qy.go] at h
 | x::r,j,g',h=>by
  cases j with
  | zero=>simp only[qy.go,List.getElem?_cons_zero,fQ] at h;exact⟨x,rfl,h.symm⟩
  | succ j=>exact yB (gs:=r) (by simpa[qy.go] using h)
theorem Ng {O X:Nat→Prop}{base:Nat}{μ μ':Mu}{w:World}{g g':G}{v:Value}(h:bG O w g v) (hX:∀b,X b→b<w.heap.size→eA O base b) (hg:qb g=true) (hf:fS g=some g'):aY X w.heap.size w μ' g' v:=by
 induction h generalizing g' with
 | any v=>cases hg
 | val v=>
  cases hf
  unfold iE
  split
  ·exact .aH .nil
  ·exact .aH (.val _)
 | nil=>cases hg
 | gQ a c=>cases hg
 | sl n cells b off cap us h1 h2 h3 h4 h5 ih=>cases hg
 | ptr cells b off us h1 h2 h3 h4 ih=>cases hg
 | agg cells us hl hr ih=>
  simp only[fS,av] at hf
  obtain⟨gs',h1,rfl⟩:=hf
  obtain⟨h2,h3⟩:=oO h1
  refine .agg gs' us (by omega) fun j g v hg' hv=>?_
  obtain⟨g0,h4,h5⟩:=h3 j g hg'
  exact ih j g0 v h4 hv (ud hg j g0 h4) h5
theorem Nh {O X:Nat→Prop}{base:Nat}{μ μ':Mu}{w:World}{g g':G}{v:Value}(h:aY O base w μ g v) (hX:∀b,X b→b<w.heap.size→eA O base b) (hg:qb g=true) (hf:fS g=some g'):aY X w.heap.size w μ' g' v:=by
 induction h generalizing g' with
 | aH h=>exact Ng (base:=base) (μ:=μ) h hX hg hf
 | fr h=>cases hf;exact .aH (h.mono (Kept.refl _ _) fun b hb hn hx=>hn (hX b hx hb))
 | agg cells us hl hr ih=>
  simp only[fS,av] at hf
  obtain⟨gs',h1,rfl⟩:=hf
  obtain⟨h2,h3⟩:=oO h1
  refine .agg gs' us (by omega) fun j g v hg' hv=>?_
  obtain⟨g0,h4,h5⟩:=h3 j g hg'
  exact ih j g0 v h4 hv (ud hg j g0 h4) h5
 | aF f caps us hl hr ih=>
  simp only[fS,av] at hf
  obtain⟨gs',h1,rfl⟩:=hf
  obtain⟨h2,h3⟩:=oO h1
  refine .aF f gs' us (by omega) fun j g v hg' hv=>?_
  obtain⟨g0,h4,h5⟩:=h3 j g hg'
  exact ih j g0 v h4 hv (ud hg j g0 h4) h5
 | _=>cases hg
theorem NV {X O:Nat→Prop}{base:Nat}{μ:Mu}{w:World}{g:G}{v:Value}(h:bG X w g v) (hO:∀b,b<w.heap.size→eA O base b→X b) (hi:lr g=true):aY O base w μ (qy g) v:=by
 have key:∀{g:G}{v:Value},bG X w g v→bG (eA O base) w g v:=fun h=>h.mono (Kept.refl _ _) fun b hb hn ho=>hn (hO b hb ho)
 induction h with
 | any v=>cases hi
 | val v=>exact .aH (.val _)
 | nil=>exact .fr .nil
 | gQ a c=>exact .fr (.gQ a c)
 | sl n cells b off cap us h1 h2 h3 h4 h5 ih=>exact .fr (key (.sl n cells b off cap us h1 h2 h3 h4 h5))
 | ptr cells b off us h1 h2 h3 h4 ih=>exact .fr (key (.ptr cells b off us h1 h2 h3 h4))
 | agg cells us hl hr ih=>
  refine .agg _ us (by rw[vN];exact hl) fun j g v hg hv=>?_
  obtain⟨g0,h1,rfl⟩:=yB hg
  exact ih j g0 v h1 hv (qU hi j g0 h1)
theorem NW {X O:Nat→Prop}{bX base:Nat}{μX μ:Mu}{w:World}{g:G}{v:Value}(h:aY X bX w μX g v) (hO:∀b,b<w.heap.size→eA O base b→X b) (hi:lr g=true):aY O base w μ (qy g) v:=by
 induction h with
 | aH h=>exact NV h hO hi
 | fr h=>exact .fr (h.mono (Kept.refl _ _) fun b hb hn ho=>hn (.inr (hO b hb ho)))
 | agg cells us hl hr ih=>
  refine .agg _ us (by rw[vN];exact hl) fun j g v hg hv=>?_
  obtain⟨g0,h1,rfl⟩:=yB hg
  exact ih j g0 v h1 hv (qU hi j g0 h1)
 | bl cells us hl hr ih=>
  refine .bl _ us (by rw[vN];exact hl) fun j g v hg hv=>?_
  obtain⟨g0,h1,rfl⟩:=yB hg
  exact ih j g0 v h1 hv (qU hi j g0 h1)
 | aF f cells us hl hr ih=>
  refine .aF f _ us (by rw[vN];exact hl) fun j g v hg hv=>?_
  obtain⟨g0,h1,rfl⟩:=yB hg
  exact ih j g0 v h1 hv (qU hi j g0 h1)
 | _=>cases hi
section
variable {P:Program}{N:Nat}{cx:Cx}{s:St}
variable {ty:TypeId}{pos:String}{after:Array Edge}{guard:Option (Nat×Bool)}{W:List Nat}{d:Nat}
theorem LI {f:FuncId}{vs:List Value}{gs gs':List G}{Q:G→List (Nat×ap)→Prop}{μ:Mu}{a:Act}{w:World}(hr:Rel N cx μ s a w) (hfre:qb.go gs=true) (hv:dY fS gs=some gs')
  (hvs:vs.length=gs.length) (hrep:∀(j:Nat) (g:G) (v:Value),gs[j]?=some g→vs[j]?=some v→aY (cx.O s.st μ) cx.base w μ g v)
  (hcon:GM P f gs' [] Q) (hres:∀r st',Q r st'→lr r=true∧st'=[]):
  Calls P f vs.toArray w fun e w'=>∃v r st',e=.returned v∧Q r st'∧Rel N cx μ s a w'∧aY (cx.O s.st μ) cx.base w' μ (qy r) v∧Step W s.st μ s.st μ w w':=by
 obtain⟨h1,h2⟩:=oR hv
 have hXO:∀b,cx.O s.st μ b→b<w.heap.size:=fun b hb=>by
  rcases hb with hb | hb
  ·have:=hr.st.eg b hb;have:=hr.st.hb;omega
  ·exact ox hr.st hb
 have hX:∀b,(eA (cx.O s.st μ) cx.base b∧b<w.heap.size)→b<w.heap.size:=fun b hb=>hb.2
 refine(hcon.returned (fun b=>eA (cx.O s.st μ) cx.base b∧b<w.heap.size) (fun _=>none) w vs hX (yT hX) (by omega) fun j g v hg hv=>?_).mono ?_
 ·obtain⟨g0,h3,h4⟩:=h2 j g hg
  refine Nh (O:=cx.O s.st μ) (base:=cx.base) (hrep j g0 v h3 hv) ?_ (ud hfre j g0 h3) h4
  rintro b (hb | hb) _
  ·exact hb.1
  ·exact absurd hb tA
 ·rintro e w' ⟨v,r,st',μ',rfl,hq,hst,hrv⟩
  have hkeep:∀b,b<w.heap.size→w'.heap[b]?=w.heap[b]?:=fun b hb=>hst.da b hb tA
  obtain⟨hf,hs⟩:=hres r st' hq
  subst hs
  refine⟨v,r,[],rfl,hq,hr.kept hst.hb hkeep hst.os hst.tape hst.output,?_,⟨hst.hb,fun b hb _=>hkeep b hb,fun h k c m b hw h1 h2 hi=>.inl ⟨h,k,c,m,hw,h1,h2,hi⟩⟩⟩
  refine NW hrv ?_ hf
  intro b _ hb
  refine .inl ⟨hb,?_⟩
  rcases hb with hb | hb
  ·exact bW hb hr.st.hb
  ·exact hXO b hb
theorem EF.R9 {f:FuncId}{xs:Array Operand}{ts:Array TypeId}{gs gs':List G}{Q:G→List (Nat×ap)→Prop}(hc:∀args w,(callFunc f args).run P w=.ok (.enter f args) w)
  (hx:uf s xs.toList=some gs) (hfre:qb.go gs=true) (hv:dY fS gs=some gs') (hcon:GM P f gs' [] Q) (hres:∀r st',Q r st'→lr r=true∧st'=[]):
  bN P W s ⟨some d,.call ⟨.value (.func f),xs,ts⟩,ty,pos,after,guard⟩ (fun s'=>∃r st',Q r st'∧s'=s.put d (qy r)):=by
 refine⟨(fun _ h=>by cases h),?_⟩
 intro N cx μ a w hr hN K Q' hK
 obtain⟨h1,h2⟩:=mq hx
 have hcall:=LI (vs:=xs.toList.map a.eval) (W:=W) hr hfre hv (by simp[h1]) (fun j g v hg hv=>by
  obtain⟨x,hxj,he⟩:=h2 j g hg
  rw[ay,hxj] at hv
  cases hv
  exact hr.ev he) hcon hres
 unfold Oper.wp
 have:(execOp a.eval ⟨some d,.call ⟨.value (.func f),xs,ts⟩,ty,pos,after,guard⟩).run P w=.ok (.enter f (xs.toList.map a.eval).toArray) w:=by
  have e:xs.map a.eval=(xs.toList.map a.eval).toArray:=by rw[←en]
  simp[execOp,resolve,invoke,Deferred.ofValue,Act.eval,hc,e]
 rw[this]
 refine hcall.mono ?_
 rintro e w' ⟨v,r,st',rfl,hq,hr',hrv,hst⟩
 exact hK μ _ _ w' (hr'.put (hN d rfl) hrv) ⟨r,st',hq,rfl⟩ hst
end
section
variable {S:eE}
def TV.Fi:TV S→Bool
 | .ab f τ _=>f||τ.fZ
 | .ptr f _ _=>f
 | .val _=>true
 | .agg l=>go l
 | .aF _ l=>go l
 | _=>false
where go:List (TV S)→Bool
 | []=>true
 | x::r=>x.Fi&&go r
theorem OW {g:G}(h:(∃u,g=.val u)∨∃n cs,g=.sl n cs):qb (dw true g)=true:=by
 rcases h with ⟨u,rfl⟩ | ⟨n,cs,rfl⟩ <;> rfl
mutual
theorem OV (ln:Nat→Nat):∀v:TV S,v.Fi=true→qb (v.er ln)=true
 | .ab f τ a,hf=>by
  have hf:(f||τ.fZ)=true:=hf
  cases τ with
  | st n=>
   have e:f=true:=by simpa[Ty.fZ] using hf
   subst e
   show qb.go ((aN S (.st n) a).map (dw true))=true
   have h:=sf (S:=S) (.st n) a
   generalize aN S (.st n) a=l at h
   induction l with
   | nil=>rfl
   | cons x r ih=>
    simp only[aJ,qb.go,OW (h x au),ih fun y hy=>h y (ao _ hy),fK]
  | list τ=>
   have e:f=true:=by simpa[Ty.fZ] using hf
   subst e;rfl
  | _=>cases f <;> rfl
 | .ptr f τ a,hf=>by
  have e:f=true:=hf
  subst e;rfl
 | .val _,_=>rfl
 | .agg l,h=>va ln l h
 | .aF _ l,h=>va ln l h
 | .bl _,h=>by cases h
 | .loc _ _,h=>by cases h
 | .gK _ _ _ _,h=>by cases h
 | .aR _ _,h=>by cases h
 | .sub _ _ _ _,h=>by cases h
 | .ct _,h=>by cases h
 | .mp _,h=>by cases h
 | .ks _ _ _ _,h=>by cases h
 | .kp _ _ _ _,h=>by cases h
 | .fD _ _ _ _ _,h=>by cases h
 | .any,h=>by cases h
theorem va (ln:Nat→Nat):∀l:List (TV S),TV.Fi.go l=true→qb.go (TV.er.go ln l)=true
 | [],_=>rfl
 | x::r,h=>by
  simp only[TV.Fi.go,aj] at h
  simp only[TV.er.go,qb.go,OV ln x h.1,va ln r h.2,fK]
end
mutual
theorem QN:∀v:TV S,v.Fi=true→v.imp=true
 | .ab f τ a,_=>rfl
 | .ptr f τ a,_=>rfl
 | .val _,_=>rfl
 | .agg l,h=>xB l h
 | .aF _ l,h=>xB l h
 | .bl _,h=>by cases h
 | .loc _ _,h=>by cases h
 | .gK _ _ _ _,h=>by cases h
 | .aR _ _,h=>by cases h
 | .sub _ _ _ _,h=>by cases h
 | .ct _,h=>by cases h
 | .mp _,h=>by cases h
 | .ks _ _ _ _,h=>by cases h
 | .kp _ _ _ _,h=>by cases h
 | .fD _ _ _ _ _,h=>by cases h
 | .any,h=>by cases h
theorem xB:∀l:List (TV S),TV.Fi.go l=true→TV.imp.go l=true
 | [],_=>rfl
 | x::r,h=>by
  simp only[TV.Fi.go,aj] at h
  simp only[TV.imp.go,QN x h.1,xB r h.2,fK]
end
def TV.up:TV S→TV S
 | .ab _ τ a=>.ab true τ a
 | .bl l=>.bl (go l)
 | v=>v
where go:List (TV S)→List (TV S)
 | []=>[]
 | .ab _ τ a::r=>.ab true τ a::go r
 | v::r=>v::go r
theorem L4 {f:Bool}{g:G}(h:(∃u,g=.val u)∨∃n cs,g=.sl n cs):qy (dw f g)=dw true g:=by
 rcases h with ⟨u,rfl⟩ | ⟨n,cs,rfl⟩ <;> cases f <;> rfl
theorem L5 (f:Bool) (τ:Ty) (a:S.D τ):qy (nq f τ a)=nq true τ a:=by
 cases τ with
 | st n=>
  show G.agg (qy.go ((aN S (.st n) a).map (dw f)))=G.agg ((aN S (.st n) a).map (dw true))
  congr 1
  have h:=sf (S:=S) (.st n) a
  generalize aN S (.st n) a=l at h
  induction l with
  | nil=>rfl
  | cons x r ih=>
   simp only[aJ,qy.go,L4 (h x au),ih fun y hy=>h y (ao _ hy)]
 | _=>exact L4 (wz rfl a)
theorem Pw (ln:Nat→Nat):∀(aA:List (Nat×Sh)) (ls:List (br S.α)),lY aA=true→ls.length=(iM aA).length→TV.er.go ln (TV.up.go ((cy aA ls).1.map (·.2)))=qy.go (TV.er.go ln ((cy aA ls).1.map (·.2)))
 | [],_,_,_=>rfl
 | (d,.ab f τ)::r,ls,h,hl=>by
  cases ls with
  | nil=>simp[iM,Sh.dl] at hl
  | cons x xs=>
   simp only[cy,ir,aJ,TV.up.go,TV.er.go,qy.go]
   rw[Pw ln r xs h (by simpa[iM,Sh.dl] using hl)]
   exact congrArg (·::_) (L5 f x.τ x.a).symm
 | (d,.own h τ)::r,ls,h',_=>by cases h'
 | (d,.ptr _ _)::r,ls,h',_=>by cases h'
 | (d,.loc _ _)::r,ls,h',_=>by cases h'
 | (d,.aF _ _)::r,ls,h',_=>by cases h'
 | (d,.agg _)::r,ls,h',_=>by cases h'
 | (d,.ct _)::r,ls,h',_=>by cases h'
 | (d,.mp _)::r,ls,h',_=>by cases h'
 | (d,.fD _ _)::r,ls,h',_=>by cases h'
 | (d,.ks _ _)::r,ls,h',_=>by cases h'
 | (d,.any)::r,ls,h',_=>by cases h'
 | (d,.lZ)::r,ls,h',_=>by cases h'
 | (d,.sub _ _)::r,ls,h',_=>by cases h'
theorem Sl (ln:Nat→Nat){aA:List (Nat×Sh)}{ls:List (br S.α)}(h:lY aA=true) (hl:ls.length=(iM aA).length):((lL aA ls).up).er ln=qy ((lL aA ls).er ln):=by
 have hg:=Pw ln aA ls h hl
 match aA,h with
 | [],_=>rfl
 | [(d,.ab f τ)],_=>cases ls with
  | nil=>simp[iM,Sh.dl] at hl
  | cons x xs=>exact(L5 f x.τ x.a).symm
 | (d,.ab f τ)::(d',sh)::r,_=>exact congrArg G.bl hg
def LJ (con:cq S) (s:ah S) (d:Nat) (vs:List (TV S)){A:Type}(k:ah S→Option A):Option A:=
 match ow con&&(!(qa con.aA)&&TV.Fi.go vs) with
 | true=>match jZ s con.args vs with
  | some ls=>match lG (kj con.args con.a6) ls with
   | some q=>(con.F q).bind fun r=>k (s.put d (lL con.aA (leaves _ r)).up)
   | none=>none
  | none=>none
 | false=>xQ con s d vs k
theorem IM {P:Program}{N:Nat}{W:List Nat}{con:cq S}(C:aP P con){s:ah S}{d:Nat}{vs:List (TV S)}{A:Type}{k:ah S→Option A}{r:A}(hl:a5 s) (h:LJ con s d vs k=some r)
  {xs:Array Operand}{ts:Array TypeId}{ty:TypeId}{pos:String}{after:Array Edge}{guard:Option (Nat×Bool)}(hv:ss s xs.toList=some vs):
  ∃T:St→Prop,bN P W s.er ⟨some d,.call ⟨.value (.func con.f),xs,ts⟩,ty,pos,after,guard⟩ T∧∀s',T s'→∃t:ah S,Gh s' t.er∧a5 t∧bF s t∧k t=some r:=by
 unfold LJ at h
 split at h
 ·rename_i hc
  simp only[aj,a8] at hc
  obtain⟨hp,_,hfr⟩:=hc
  obtain⟨C1,C2,C3⟩:=w7 C hp
  split at h
  ·rename_i ls hls
   split at h
   ·rename_i q hq
    obtain⟨res,h1,h2⟩:=bind_some h
    have hview:=(uI 1 (fun _=>0) C1 hls []).2
    rw[cc,←gd hq] at hview
    have hlen:=zZ res (sW hp)
    have himp:=nQ s.ln vs (xB vs hfr)
    refine⟨_,EF.R9 (P:=P) (W:=W) C.call (k5 hv).2 (va s.ln vs hfr) (xn himp hview) (C3 q res h1) (fun g st hg=>⟨by rw[hg.1];exact D8 C2 hlen _,hg.2⟩),?_⟩
    intro s' hs'
    obtain⟨g,st,⟨hg,_⟩,e⟩:=hs'
    subst e;subst hg
    refine⟨_,?_,hl.put d _,⟨rfl,rfl,rfl⟩,h2⟩
    rw[fE,Sl s.ln C2 hlen,G6 s.ln (fun _=>0) C2]
    exact Gh.refl _
   ·cases h
  ·cases h
 ·exact Pc (N:=N) C hl h hv
end
end Go.DN
/-
 DN,part W:calls to which all objects are lent,and what comes back.
-/
namespace Go.DN
open Go.AM
section
variable {P:Program}{W:List Nat}{s:St}{d:Nat}{ty:TypeId}{pos:String}{after:Array Edge}{guard:Option (Nat×Bool)}
theorem EF.SG {f:FuncId}{xs:Array Operand}{ts:Array TypeId}{gs gs':List G}{stC:List (Nat×ap)}{Q:G→List (Nat×ap)→Prop}{T:St→Prop}(H:List Nat) (vw:Bool) (hc:∀args w,(callFunc f args).run P w=.ok (.enter f args) w)
  (hx:uf s xs.toList=some gs) (hv:cj.go H (ez s.st H vw) gs=some gs') (hl:fF H (ez s.st H vw) s.st H 0=some stC) (cR:n4 H=true) (hcon:GM P f gs' stC Q)
  (hres:∀r st',Q r st'→∃bk s2 r',nY vw s H st' bk=some s2∧dL vw (jn st' bk) r=some r'∧T (s2.put d r')) (hW:ye H W=true):
  bN P W s ⟨some d,.call ⟨.value (.func f),xs,ts⟩,ty,pos,after,guard⟩ T:=by
 refine⟨(fun _ h=>by cases h),?_⟩
 intro N cx μ a w hr hN K Q' hK
 obtain⟨h1,h2⟩:=mq hx
 have hcall:=uY (vs:=xs.toList.map a.eval) hr hv hl cR (by simp[h1]) (fun j g v hg hv=>by
  obtain⟨x,hxj,he⟩:=h2 j g hg
  rw[ay,hxj] at hv
  cases hv
  exact hr.ev he) hcon
 unfold Oper.wp
 have:(execOp a.eval ⟨some d,.call ⟨.value (.func f),xs,ts⟩,ty,pos,after,guard⟩).run P w=.ok (.enter f (xs.toList.map a.eval).toArray) w:=by
  have e:xs.map a.eval=(xs.toList.map a.eval).toArray:=by rw[←en]
  simp[execOp,resolve,invoke,Deferred.ofValue,Act.eval,hc,e]
 rw[this]
 refine hcall.mono ?_
 rintro e w' (⟨v,r,st',μ',rfl,hq,hC,hrv⟩ | ⟨_,_,_,_,h,_⟩)
 ·obtain⟨bk,s2,r',hb,hren,hT⟩:=hres r st' hq
  obtain⟨q1,q2,q3,_⟩:=uv hr hl (lQ cR) hC hb
  exact hK _ _ _ w' (q1.put (hN d rfl) (q2 r r' v hrv hren)) hT (q3 W (yd hW))
 ·exact h.elim
end
section
variable {S:eE}
def Ah (s:ah S) (vw:Bool) (H:List Nat) (τ:Ty):TV S→Option (S.D τ)
 | .ab _ τ' a=>match τ'.fP with
  | true=>none
  | false=>iw τ' τ a
 | .val (.slice none 0 0)=>match τ with
  | .list _=>some []
  | _=>none
 | .aR h τ2=>match vw with
  | true=>match dx H h with
   | none=>match aw s.bi h with
    | some (.aV _ _ _ τ' l)=>match decEq τ' τ2 with
     | isTrue _=>iw (.list τ') τ l
     | isFalse _=>none
    | _=>none
   | some _=>none
  | false=>none
 | _=>none
def FW (s:ah S) (vw:Bool) (H:List Nat):List Ty→List (TV S)→Option (List (br S.α))
 | [],[]=>some []
 | τ::ts,v::vs=>match Ah s vw H τ v with
  | some a=>match FW s vw H ts vs with
   | some l=>some (⟨τ,a⟩::l)
   | none=>none
  | none=>none
 | _,_=>none
def Le (s:ah S) (vw:Bool) (H:List Nat) (τ:Ty) (v:TV S):Option (S.D τ):=
 match v with
 | .ab _ τ' a=>iw τ' τ a
 | .agg vs=>match τ with
  | .st n=>match FW s vw H (S.dl n) vs with
   | some l=>S.put n l
   | none=>none
  | _=>none
 | v=>Ah s vw H τ v
mutual
def kV (s:ah S) (vw:Bool) (H:List Nat):Sh→TV S→Option (List (br S.α))
 | .ab false τ,v=>match Le s vw H τ v with
  | some a=>some [⟨τ,a⟩]
  | none=>none
 | .ptr false τ,v=>match v with
  | .ptr _ τ' a=>match iw τ' τ a with
   | some b=>some [⟨τ,b⟩]
   | none=>none
  | _=>none
 | .own r τ,v=>match v with
  | .aR h τ'=>match dx H h with
   | some i=>match Nat.beq (1000+i) r with
    | true=>match decEq τ' τ with
     | isTrue _=>some []
     | isFalse _=>none
    | false=>none
   | none=>none
  | _=>none
 | .loc r o,v=>match v with
  | .loc h o'=>match dx H h with
   | some i=>match Nat.beq (1000+i) r&&Nat.beq o' o with
    | true=>some []
    | false=>none
   | none=>none
  | _=>none
 | .aF f l,v=>match v with
  | .aF f' vs=>match Nat.beq f' f with
   | true=>jK s vw H l vs
   | false=>none
  | _=>none
 | .agg l,v=>match v with
  | .agg vs=>jK s vw H l vs
  | _=>none
 | .ct r,v=>match v with
  | .ct h=>match dx H h with
   | some i=>match Nat.beq (1000+i) r with
    | true=>some []
    | false=>none
   | none=>none
  | _=>none
 | .mp r,v=>match v with
  | .mp h=>match dx H h with
   | some i=>match Nat.beq (1000+i) r with
    | true=>some []
    | false=>none
   | none=>none
  | _=>none
 | .lZ,v=>match v with
  | .aF f []=>some [⟨.int .i64,(f:Int)⟩]
  | _=>none
 | .ks r τ,v=>match v with
  | .ks h τ' z n=>match dx H h with
   | some i=>match Nat.beq (1000+i) r with
    | true=>match decEq τ' τ with
     | isTrue _=>some [⟨.int .i64,(z:Int)⟩,⟨.int .i64,(n:Int)⟩]
     | isFalse _=>none
    | false=>none
   | none=>none
  | _=>none
 | .sub r τ,v=>match v with
  | .sub h τ' o n=>match dx H h with
   | some i=>match Nat.beq (1000+i) r with
    | true=>match decEq τ' τ with
     | isTrue _=>some [⟨.int .i64,(o:Int)⟩,⟨.int .i64,(n:Int)⟩]
     | isFalse _=>none
    | false=>none
   | none=>none
  | _=>none
 | _,_=>none
def jK (s:ah S) (vw:Bool) (H:List Nat):List Sh→List (TV S)→Option (List (br S.α))
 | [],[]=>some []
 | x::r,v::vs=>match kV s vw H x v with
  | some a=>match jK s vw H r vs with
   | some l=>some (a++l)
   | none=>none
  | none=>none
 | _,_=>none
end
theorem E6 (H:List Nat) (stv:List (Nat×ap)) (f:Bool){τ:Ty}(h:τ.fP=false) (a:S.D τ):cj H stv (dw f (dC S τ a))=some (dC S τ a):=by
 cases τ with
 | st n=>cases h
 | _=>cases f <;> rfl
theorem HP {s:ah S}{vw:Bool}{H:List Nat}{τ:Ty}{v:TV S}{a:S.D τ}(h:Ah s vw H τ v=some a):cj H (ez s.er.st H vw) (v.er s.ln)=some (dC S τ a)∧τ.fP=false:=by
 unfold Ah at h
 split at h
 ·split at h
  ·cases h
  ·rename_i hs
   have:=ec h
   cases this
   refine⟨?_,hs⟩
   rw[nT hs]
   exact E6 H _ _ hs _
 ·split at h
  ·cases h;exact⟨rfl,rfl⟩
  ·cases h
 ·rename_i hh τ2
  split at h
  ·split at h
   ·rename_i hi
    split at h
    ·rename_i e m f τ' l ho
     split at h
     ·rename_i e1 _
      subst e1
      have:=ec h
      cases this
      refine⟨?_,rfl⟩
      show cj H (ez s.er.st H true) (.aR hh (S.sz τ') 0 (s.ln hh))=_
      simp only[cj,hi,ez,cond_true,view,xc hi (cQ ho),TO.er]
      rw[mf ho,eH,b8 (by rw[eR];exact az _)]
      rfl
     ·cases h
    ·cases h
   ·cases h
  ·cases h
 ·cases h
theorem HO {s:ah S}{vw:Bool}{H:List Nat}:∀{ts:List Ty}{vs:List (TV S)}{l:List (br S.α)},FW s vw H ts vs=some l→cj.go H (ez s.er.st H vw) (TV.er.go s.ln vs)=some (l.map fun x=>dC S x.τ x.a)
 | [],[],_,h=>by cases h;rfl
 | τ::ts,v::vs,l,h=>by
  simp only[FW] at h
  split at h
  ·rename_i a ha
   split at h
   ·rename_i l' hl
    cases h
    simp only[TV.er.go,cj.go,(HP ha).1,HO hl,aJ]
   ·cases h
  ·cases h
 | [],_::_,_,h=>by cases h
 | _::_,[],_,h=>by cases h
theorem OB {s:ah S}{vw:Bool}{H:List Nat}{τ:Ty}{v:TV S}{a:S.D τ}(h:Le s vw H τ v=some a) (ln:Nat→Nat):cj H (ez s.er.st H vw) (v.er s.ln)=some ((TV.ab false τ a:TV S).er ln):=by
 have one:Ah s vw H τ v=some a→cj H (ez s.er.st H vw) (v.er s.ln)=some ((TV.ab false τ a:TV S).er ln):=by
  intro h
  obtain⟨h1,h2⟩:=HP h
  rw[h1,nT h2];rfl
 unfold Le at h
 split at h
 ·rename_i f τ' a'
  have:=ec h
  cases this
  cases τ with
  | st k=>
   show(cj.go H _ ((aN S (.st k) a).map (dw f))).map G.agg=some (.agg ((aN S (.st k) a).map (dw false)))
   have key:cj.go H (ez s.er.st H vw) ((aN S (.st k) a).map (dw f))=some ((aN S (.st k) a).map (dw false)):=by
    rw[gv]
    have h:=jU k a
    generalize S.cells k a=l at h
    induction l with
    | nil=>rfl
    | cons x r ih=>
     simp only[aJ,cj.go]
     rw[E6 H _ f (h x au) x.a,ih fun y hy=>h y (ao _ hy)]
     rfl
   rw[key];rfl
  | _=>exact one (by unfold Ah;exact h)
 ·rename_i vs
  split at h
  ·rename_i k
   split at h
   ·rename_i l hl
    have hp:=S.kI _ _ _ h
    show(cj.go H _ (TV.er.go s.ln vs)).map G.agg=some (.agg ((aN S (.st k) a).map (dw false)))
    have e:(dw false)=(id:G→G):=rfl
    rw[e,List.map_id,gv,hp,HO hl];rfl
   ·cases h
  ·cases h
 ·exact one h
mutual
theorem OA {s:ah S}{vw:Bool}{H:List Nat}{lnC:Nat→Nat}(hln:∀i h,dx H h=some i→lnC (1000+i)=s.ln h):∀{sh:Sh}{v:TV S}{xs:List (br S.α)},kV s vw H sh v=some xs→∀r,(ir sh (xs++r)).2=r∧cj H (ez s.er.st H vw) (v.er s.ln)=some ((ir sh (xs++r)).1.er lnC)
 | .ab true τ,v,xs,h,r=>by simp[kV] at h
 | .ab false τ,v,xs,h,r=>by
  simp only[kV] at h
  split at h
  ·rename_i a ha
   cases h
   exact⟨rfl,OB ha lnC⟩
  ·cases h
 | .ptr true τ,v,xs,h,r=>by simp[kV] at h
 | .ptr false τ,v,xs,h,r=>by
  simp only[kV] at h
  split at h
  ·rename_i f τ' a
   split at h
   ·rename_i b hb
    cases h
    have:=ec hb
    cases this
    refine⟨rfl,?_⟩
    cases f <;> rfl
   ·cases h
  ·cases h
 | .own k τ,v,xs,h,r=>by
  simp only[kV] at h
  split at h
  ·rename_i hh τ'
   split at h
   ·rename_i i hi
    split at h
    ·rename_i hb
     split at h
     ·rename_i e _
      cases h
      subst e
      have:=aa hb
      subst this
      refine⟨rfl,?_⟩
      show cj H _ (.aR hh (S.sz τ') 0 (s.ln hh))=some (.aR (1000+i) (S.sz τ') 0 (lnC (1000+i)))
      simp only[cj,hi,hln i hh hi]
     ·cases h
    ·cases h
   ·cases h
  ·cases h
 | .loc k o,v,xs,h,r=>by
  simp only[kV] at h
  split at h
  ·rename_i hh o'
   split at h
   ·rename_i i hi
    split at h
    ·rename_i hb
     simp only[aj] at hb
     cases h
     have e1:=aa hb.1
     have e2:=aa hb.2
     subst e1;subst e2
     refine⟨rfl,?_⟩
     show cj H _ (.loc hh o')=some (.loc (1000+i) o')
     simp only[cj,hi]
    ·cases h
   ·cases h
  ·cases h
 | .aF f l,v,xs,h,r=>by
  simp only[kV] at h
  split at h
  ·rename_i f' vs
   split at h
   ·rename_i hb
    have e:=aa hb
    subst e
    obtain⟨i1,i2⟩:=ij hln h r
    refine⟨i1,?_⟩
    show(cj.go H _ (TV.er.go s.ln vs)).map (G.aF f')=_
    rw[i2];rfl
   ·cases h
  ·cases h
 | .agg l,v,xs,h,r=>by
  simp only[kV] at h
  split at h
  ·rename_i vs
   obtain⟨i1,i2⟩:=ij hln h r
   refine⟨i1,?_⟩
   show(cj.go H _ (TV.er.go s.ln vs)).map G.agg=_
   rw[i2];rfl
  ·cases h
 | .ct k,v,xs,h,r=>by
  simp only[kV] at h
  split at h
  ·rename_i hh
   split at h
   ·rename_i i hi
    split at h
    ·rename_i hb
     cases h
     have:=aa hb
     subst this
     refine⟨rfl,?_⟩
     show cj H _ (.ct hh)=some (.ct (1000+i))
     simp only[cj,hi]
    ·cases h
   ·cases h
  ·cases h
 | .mp k,v,xs,h,r=>by
  simp only[kV] at h
  split at h
  ·rename_i hh
   split at h
   ·rename_i i hi
    split at h
    ·rename_i hb
     cases h
     have:=aa hb
     subst this
     refine⟨rfl,?_⟩
     show cj H _ (.dV hh)=some (.dV (1000+i))
     simp only[cj,hi]
    ·cases h
   ·cases h
  ·cases h
 | .any,v,xs,h,r=>by simp[kV] at h
 | .lZ,v,xs,h,r=>by
  simp only[kV] at h
  split at h
  ·cases h
   exact⟨rfl,rfl⟩
  ·cases h
 | .ks k τ,v,xs,h,r=>by
  simp only[kV] at h
  split at h
  ·rename_i hh τ' o n
   split at h
   ·rename_i i hi
    split at h
    ·rename_i hb
     split at h
     ·rename_i e _
      cases h
      subst e
      have:=aa hb
      subst this
      refine⟨rfl,?_⟩
      show cj H _ (.ks hh o (S.sz τ') n)=some (.ks (1000+i) o (S.sz τ') n)
      simp only[cj,hi]
     ·cases h
    ·cases h
   ·cases h
  ·cases h
 | .sub k τ,v,xs,h,r=>by
  simp only[kV] at h
  split at h
  ·rename_i hh τ' o n
   split at h
   ·rename_i i hi
    split at h
    ·rename_i hb
     split at h
     ·rename_i e _
      cases h
      subst e
      have:=aa hb
      subst this
      refine⟨rfl,?_⟩
      show cj H _ (.aR hh (S.sz τ') (o*S.sz τ') n)=some (.aR (1000+i) (S.sz τ') (o*S.sz τ') n)
      simp only[cj,hi]
     ·cases h
    ·cases h
   ·cases h
  ·cases h
theorem ij {s:ah S}{vw:Bool}{H:List Nat}{lnC:Nat→Nat}(hln:∀i h,dx H h=some i→lnC (1000+i)=s.ln h):∀{l:List Sh}{vs:List (TV S)}{xs:List (br S.α)},jK s vw H l vs=some xs→∀r,(cZ l (xs++r)).2=r∧cj.go H (ez s.er.st H vw) (TV.er.go s.ln vs)=some (TV.er.go lnC (cZ l (xs++r)).1)
 | [],[],xs,h,r=>by simp only[jK] at h;cases h;exact⟨rfl,rfl⟩
 | x::l,v::vs,xs,h,r=>by
  simp only[jK] at h
  split at h
  ·rename_i a ha
   split at h
   ·rename_i l' hl
    cases h
    rw[aC]
    obtain⟨i1,i2⟩:=OA hln ha (l'++r)
    obtain⟨j1,j2⟩:=ij hln hl r
    simp only[cZ]
    rw[i1]
    refine⟨j1,?_⟩
    simp only[TV.er.go,cj.go,i2,j2]
   ·cases h
  ·cases h
 | [],_::_,_,h,_=>by simp[jK] at h
 | _::_,[],_,h,_=>by simp[jK] at h
end
def HN (s:ah S) (vw:Bool) (H:List Nat) (oh:Oh) (o:TO S):Option (List (br S.α)):=
 match oh with
 | .aV e m f τ=>match o with
  | .aV e' _ _ τ' l=>match Nat.beq e' e&&(!m&&!f) with
   | true=>match iw (.list τ') (.list τ) l with
    | some l=>some [⟨.list τ,l⟩]
    | none=>none
   | false=>none
  | _=>none
 | .box e m cs=>match o with
  | .box e' _ vs=>match Nat.beq e' e&&!m with
   | true=>jK s vw H cs vs
   | false=>none
  | _=>none
 | .deep e m f dk τ=>match o with
  | .deep e' _ _ dk' τ' a=>match Nat.beq e' e&&(!m&&!f) with
   | true=>match decEq dk' dk with
    | isTrue _=>match iw τ' τ a with
     | some a=>some [⟨τ,a⟩]
     | none=>none
    | isFalse _=>none
   | false=>none
  | _=>none
 | .lp key lv cs=>match o with
  | .lp key' n vs=>match Nat.beq key' key with
   | true=>match lv with
    | true=>match jK s vw H cs vs with
     | some xs=>some (⟨.int .i64,n⟩::xs)
     | none=>none
    | false=>match decEq n 0 with
     | isTrue _=>jK s vw H cs vs
     | isFalse _=>none
   | false=>none
  | _=>none
def nh (s:ah S) (vw:Bool) (H:List Nat):List Nat→List Oh→Option (List (br S.α))
 | [],[]=>some []
 | h::hs,oh::r=>match aw s.bi h with
  | some o=>match HN s vw H oh o with
   | some a=>match nh s vw H hs r with
    | some l=>some (a++l)
    | none=>none
   | none=>none
  | none=>none
 | _,_=>none
theorem Jb {s:ah S}{vw:Bool}{H:List Nat}{oh:Oh}{o:TO S}{xs:List (br S.α)}(h:HN s vw H oh o=some xs) (r:List (br S.α)):(kX oh (xs++r)).2=r∧(kX oh (xs++r)).1.len=o.len∧
  ∀lnC:Nat→Nat,(∀i h,dx H h=some i→lnC (1000+i)=s.ln h)→pZ H (ez s.er.st H vw) (o.er s.ln)=some ((kX oh (xs++r)).1.er lnC):=by
 unfold HN at h
 split at h
 ·split at h
  ·split at h
   ·rename_i hc
    simp only[aj,a8] at hc
    obtain⟨c1,c2,c3⟩:=hc
    split at h
    ·rename_i l' hl
     cases h
     obtain⟨e,hl⟩:=nW hl
     subst e
     cases hl
     have c1:=aa c1
     subst c1;subst c2;subst c3
     exact⟨rfl,rfl,fun _ _=>rfl⟩
    ·cases h
   ·cases h
  ·cases h
 ·split at h
  ·split at h
   ·rename_i hc
    simp only[aj,a8] at hc
    have c1:=aa hc.1
    have c2:=hc.2
    subst c1;subst c2
    have i1:(cZ _ (xs++r)).2=r:=(ij (lnC:=fun k=>s.ln ((H[k-1000]?).getD 0)) (fun i h hi=>by simp[ej hi]) h r).1
    refine⟨i1,rfl,fun lnC hln=>?_⟩
    obtain⟨_,i2⟩:=ij hln h r
    simp only[pZ,TO.er,cond_false,i2,kX]
   ·cases h
  ·cases h
 ·split at h
  ·split at h
   ·rename_i hc
    simp only[aj,a8] at hc
    obtain⟨c1,c2,c3⟩:=hc
    split at h
    ·rename_i e _
     subst e
     split at h
     ·rename_i l' hl
      cases h
      have:=ec hl
      cases this
      have c1:=aa c1
      subst c1;subst c2;subst c3
      exact⟨rfl,rfl,fun _ _=>rfl⟩
     ·cases h
    ·cases h
   ·cases h
  ·cases h
 ·split at h
  ·split at h
   ·rename_i hc
    have c1:=aa hc
    subst c1
    split at h
    ·split at h
     ·rename_i xs' hx
      cases h
      have i1:(cZ _ (xs'++r)).2=r:=(ij (lnC:=fun k=>s.ln ((H[k-1000]?).getD 0)) (fun i h hi=>by simp[ej hi]) hx r).1
      refine⟨i1,rfl,fun lnC hln=>?_⟩
      obtain⟨_,i2⟩:=ij hln hx r
      simp only[pZ,TO.er,cond_false,i2,kX]
      rfl
     ·cases h
    ·split at h
     ·rename_i hn _
      subst hn
      have i1:(cZ _ (xs++r)).2=r:=(ij (lnC:=fun k=>s.ln ((H[k-1000]?).getD 0)) (fun i h hi=>by simp[ej hi]) h r).1
      refine⟨i1,rfl,fun lnC hln=>?_⟩
      obtain⟨_,i2⟩:=ij hln h r
      simp only[pZ,TO.er,cond_false,i2,kX]
     ·cases h
   ·cases h
  ·cases h
theorem zh {s:ah S}{vw:Bool}{H:List Nat}:∀{hs:List Nat}{l:List Oh}{xs:List (br S.α)}(i:Nat),nh s vw H hs l=some xs→∀r,(cd (mr l (1000+i)) (xs++r)).2=r∧
  (∀n h,hs[n]?=some h→b6 (cd (mr l (1000+i)) (xs++r)).1 (1000+(i+n))=s.ln h)∧
  ∀lnC:Nat→Nat,(∀i h,dx H h=some i→lnC (1000+i)=s.ln h)→fF H (ez s.er.st H vw) s.er.st hs i=some (ca lnC (cd (mr l (1000+i)) (xs++r)).1)
 | [],[],xs,i,h,r=>by simp only[nh] at h;cases h;exact⟨rfl,fun n h hn=>by simp at hn,fun _ _=>rfl⟩
 | h0::hs,oh::l,xs,i,h,r=>by
  simp only[nh] at h
  split at h
  ·rename_i o ho
   split at h
   ·rename_i a ha
    split at h
    ·rename_i l' hl
     cases h
     rw[aC]
     obtain⟨i1,i2,i3⟩:=Jb ha (l'++r)
     obtain⟨j1,j2,j3⟩:=zh (i+1) hl r
     simp only[mr,cd]
     rw[i1]
     refine⟨j1,fun n h hn=>?_,fun lnC hln=>?_⟩
     ·cases n with
      | zero=>
       cases hn
       unfold b6 ah.ln b6
       simp only[dq,aw,aI,cond_true,ho,i2]
      | succ n=>
       have:=j2 n h (by simpa using hn)
       rw[←this]
       have e:1000+(i+(n+1))=1000+(i+1+n):=by omega
       rw[e]
       unfold b6
       rw[ju _ _ (by omega)]
       rfl
     ·simp only[fF,cQ ho,i3 lnC hln,ca]
      have:=j3 lnC hln
      rw[show 1000+(i+1)=1000+i+1 by omega] at this
      rw[this]
    ·cases h
   ·cases h
  ·cases h
 | [],_::_,_,_,h,_=>by simp[nh] at h
 | _::_,[],_,_,h,_=>by simp[nh] at h
def TV.lf (vw:Bool) (f:Nat→Option Nat):TV S→Option (TV S)
 | .ab b τ a=>match !vw||(b||τ.fZ) with
  | true=>some (.ab b τ a)
  | false=>none
 | .ptr b τ a=>match !vw||b with
  | true=>some (.ptr b τ a)
  | false=>none
 | .loc h o=>match f h with
  | some h'=>some (.loc h' o)
  | none=>none
 | .aR h τ=>match f h with
  | some h'=>some (.aR h' τ)
  | none=>none
 | .sub h τ o n=>match f h with
  | some h'=>some (.sub h' τ o n)
  | none=>none
 | .gK h τ a j=>match f h with
  | some h'=>some (.gK h' τ a j)
  | none=>none
 | .agg l=>match go f l with
  | some l'=>some (.agg l')
  | none=>none
 | .bl l=>match go f l with
  | some l'=>some (.bl l')
  | none=>none
 | .aF g l=>match go f l with
  | some l'=>some (.aF g l')
  | none=>none
 | .val u=>some (.val u)
 | .any=>some .any
 | .ct h=>match f h with
  | some h'=>some (.ct h')
  | none=>none
 | .mp h=>match f h with
  | some h'=>some (.mp h')
  | none=>none
 | .ks h τ i n=>match f h with
  | some h'=>some (.ks h' τ i n)
  | none=>none
 | .kp h τ i j=>match f h with
  | some h'=>some (.kp h' τ i j)
  | none=>none
 | .fD b h τ i j=>match f h with
  | some h'=>some (.fD b h' τ i j)
  | none=>none
where go (f:Nat→Option Nat):List (TV S)→Option (List (TV S))
 | []=>some []
 | x::r=>match x.lf vw f with
  | some y=>match go f r with
   | some ys=>some (y::ys)
   | none=>none
  | none=>none
theorem G8 (vw:Bool) (fm:Nat→Option Nat) (f:Bool){τ:Ty}(h:τ.fP=false) (hv:(!vw||(f||τ.fZ))=true) (a:S.D τ):dL vw fm (dw f (dC S τ a))=some (dw f (dC S τ a)):=by
 cases τ with
 | st n=>cases h
 | list t=>
  cases f with
  | true=>rfl
  | false=>
   cases vw with
   | true=>cases hv
   | false=>rfl
 | _=>cases f <;> rfl
mutual
theorem MD {vw:Bool}{f:Nat→Option Nat}{ln ln':Nat→Nat}(hln:∀k k',f k=some k'→ln' k'=ln k):∀(v v':TV S),v.lf vw f=some v'→dL vw f (v.er ln)=some (v'.er ln')
 | .ab b τ a,v',h=>by
  simp only[TV.lf] at h
  split at h
  ·rename_i hv
   cases h
   cases τ with
   | st n=>
    show(dL.go vw f ((aN S (.st n) a).map (dw b))).map G.agg=some (.agg ((aN S (.st n) a).map (dw b)))
    have hv:(!vw||b)=true:=by simpa[Ty.fZ] using hv
    have:dL.go vw f ((aN S (.st n) a).map (dw b))=some ((aN S (.st n) a).map (dw b)):=by
     rw[gv]
     have h:=jU n a
     generalize S.cells n a=l at h
     induction l with
     | nil=>rfl
     | cons x r ih=>
      simp only[aJ,dL.go]
      rw[G8 vw f b (h x au) (by rw[←Bool.or_assoc,hv];rfl) x.a,ih fun y hy=>h y (ao _ hy)]
    rw[this];rfl
   | _=>exact G8 vw f b rfl hv a
  ·cases h
 | .ptr b τ a,v',h=>by
  simp only[TV.lf] at h
  split at h
  ·rename_i hv
   cases h
   cases b with
   | true=>rfl
   | false=>
    cases vw with
    | true=>cases hv
    | false=>rfl
  ·cases h
 | .loc hh o,v',h=>by
  simp only[TV.lf] at h
  split at h
  ·rename_i i hi
   cases h
   simp only[TV.er,dL,hi,bL]
  ·cases h
 | .aR hh τ,v',h=>by
  simp only[TV.lf] at h
  split at h
  ·rename_i i hi
   cases h
   simp only[TV.er,dL,hi,bL,hln hh i hi]
  ·cases h
 | .sub hh τ o n,v',h=>by
  simp only[TV.lf] at h
  split at h
  ·rename_i i hi
   cases h
   simp only[TV.er,dL,hi,bL]
  ·cases h
 | .gK hh τ a j,v',h=>by
  simp only[TV.lf] at h
  split at h
  ·rename_i i hi
   cases h
   simp only[TV.er,dL,hi,bL]
  ·cases h
 | .agg l,v',h=>by
  simp only[TV.lf] at h
  split at h
  ·rename_i l' hl
   cases h
   simp only[TV.er,dL,tw hln l l' hl,bL]
  ·cases h
 | .bl l,v',h=>by
  simp only[TV.lf] at h
  split at h
  ·rename_i l' hl
   cases h
   simp only[TV.er,dL,tw hln l l' hl,bL]
  ·cases h
 | .aF g l,v',h=>by
  simp only[TV.lf] at h
  split at h
  ·rename_i l' hl
   cases h
   simp only[TV.er,dL,tw hln l l' hl,bL]
  ·cases h
 | .val u,v',h=>by simp only[TV.lf] at h;cases h;rfl
 | .any,v',h=>by simp only[TV.lf] at h;cases h;rfl
 | .ct hh,v',h=>by
  simp only[TV.lf] at h
  split at h
  ·rename_i i hi
   cases h
   simp only[TV.er,dL,hi,bL]
  ·cases h
 | .mp hh,v',h=>by
  simp only[TV.lf] at h
  split at h
  ·rename_i i hi
   cases h
   simp only[TV.er,dL,hi,bL]
  ·cases h
 | .ks hh _ _ _,v',h=>by
  simp only[TV.lf] at h
  split at h
  ·rename_i i hi
   cases h
   simp only[TV.er,dL,hi,bL]
  ·cases h
 | .kp hh _ _ _,v',h=>by
  simp only[TV.lf] at h
  split at h
  ·rename_i i hi
   cases h
   simp only[TV.er,dL,hi,bL]
  ·cases h
 | .fD b hh _ _ _,v',h=>by
  simp only[TV.lf] at h
  split at h
  ·rename_i i hi
   cases h
   cases b with
   | true=>rfl
   | false=>simp only[TV.er,cond_false,dL,hi,bL]
  ·cases h
theorem tw {vw:Bool}{f:Nat→Option Nat}{ln ln':Nat→Nat}(hln:∀k k',f k=some k'→ln' k'=ln k):∀(l l':List (TV S)),TV.lf.go vw f l=some l'→dL.go vw f (TV.er.go ln l)=some (TV.er.go ln' l')
 | [],l',h=>by cases h;rfl
 | x::r,l',h=>by
  simp only[TV.lf.go] at h
  split at h
  ·rename_i y hy
   split at h
   ·rename_i ys hys
    cases h
    simp only[TV.er.go,dL.go,MD hln x y hy,tw hln r ys hys]
   ·cases h
  ·cases h
end
end
end Go.DN
/-
 DN,part X:what comes back of a call to which objects were lent.
-/
namespace Go.DN
open Go.AM
section
variable {S:eE}
def mO (vw:Bool) (f:Nat→Option Nat) (A:Bool) (gst:List (Nat×ap)):List (Nat×TO S)→List Nat→Option (List (Nat×TO S))
 | [],[]=>some []
 | (j,o)::r,h::hs=>match o with
  | .box e m cs=>match TV.lf.go vw f cs with
   | some cs'=>match mO vw f A gst r hs with
    | some r'=>some ((h,.box e (bif pinned j then zg gst h else m||A) cs')::r')
    | none=>none
   | none=>none
  | .aV e m b τ l=>match !vw||b with
   | true=>match mO vw f A gst r hs with
    | some r'=>some ((h,.aV e (bif pinned j then zg gst h else m||A) b τ l)::r')
    | none=>none
   | false=>none
  | .lp key n cs=>match TV.lf.go vw f cs with
   | some cs'=>match mO vw f A gst r hs with
    | some r'=>some ((h,.lp key n cs')::r')
    | none=>none
   | none=>none
  | .deep e m b dk τ l=>match !vw||b with
   | true=>match mO vw f A gst r hs with
    | some r'=>some ((h,.deep e (bif pinned j then zg gst h else m||A) b dk τ l)::r')
    | none=>none
   | false=>none
 | _,_=>none
theorem rz {vw:Bool}{f:Nat→Option Nat}{ln ln':Nat→Nat}(hln:∀k k',f k=some k'→ln' k'=ln k){A:Bool}{gst:List (Nat×ap)}:∀{outs:List (Nat×TO S)}{bk:List Nat}{sb:List (Nat×TO S)},mO vw f A gst outs bk=some sb→kl vw f A gst (ca ln outs) bk=some (ca ln' sb)
 | [],[],sb,h=>by cases h;rfl
 | (j,o)::r,h0::hs,sb,h=>by
  simp only[mO] at h
  cases o with
  | lp p n cs=>
   dsimp only at h
   split at h
   ·rename_i cs' hcs
    split at h
    ·rename_i r' hr
     cases h
     simp only[ca,kl,rz hln hr,TO.er]
     simp only[tO,cond_false,tw hln cs cs' hcs,nc,p7,cond_true]
    ·cases h
   ·cases h
  | aV e m b τ l=>
   dsimp only at h
   split at h
   ·rename_i hv
    split at h
    ·rename_i r' hr
     cases h
     simp only[ca,kl,rz hln hr,TO.er]
     have hv:(vw&&!b)=false:=by cases vw <;> cases b <;> first | rfl | cases hv
     simp only[tO,cond_true,hv,cond_false,nc,p7]
     cases pinned j <;> rfl
    ·cases h
   ·cases h
  | deep e m b dk τ l=>
   dsimp only at h
   split at h
   ·rename_i hv
    split at h
    ·rename_i r' hr
     cases h
     simp only[ca,kl,rz hln hr,TO.er]
     have hv:(vw&&!b)=false:=by cases vw <;> cases b <;> first | rfl | cases hv
     simp only[tO,cond_true,hv,cond_false,nc,p7]
     cases pinned j <;> rfl
    ·cases h
   ·cases h
  | box e m cs=>
   dsimp only at h
   split at h
   ·rename_i cs' hcs
    split at h
    ·rename_i r' hr
     cases h
     simp only[ca,kl,rz hln hr,TO.er]
     simp only[tO,cond_false,tw hln cs cs' hcs,nc,p7,cond_true]
     cases pinned j <;> rfl
    ·cases h
   ·cases h
 | [],_::_,_,h=>by cases h
 | _::_,[],_,h=>by cases h
theorem zN {vw:Bool}{f:Nat→Option Nat}{A:Bool}{gst:List (Nat×ap)}{ln:Nat→Nat}:∀{outs:List (Nat×TO S)}{bk:List Nat}{sb:List (Nat×TO S)},mO vw f A gst outs bk=some sb→n4 bk=true→
  ∀k k',jn (ca ln outs) bk k=some k'→k'∈bk∧∃o o',aw outs k=some o∧aw sb k'=some o'∧o'.len=o.len
 | [],[],sb,h,_,k,k',hk=>by cases hk
 | (j,o)::r,h0::hs,sb,h,hn,k,k',hk=>by
  simp only[n4,aj,a8] at hn
  have hsb:∃o' r',sb=(h0,o')::r'∧o'.len=o.len∧mO vw f A gst r hs=some r':=by
   simp only[mO] at h
   cases o with
   | lp p n cs=>
    dsimp only at h
    split at h
    ·split at h
     ·rename_i r' hr;cases h;exact⟨_,_,rfl,rfl,hr⟩
     ·cases h
    ·cases h
   | aV e m b τ l=>
    dsimp only at h
    split at h
    ·split at h
     ·rename_i r' hr;cases h;exact⟨_,_,rfl,rfl,hr⟩
     ·cases h
    ·cases h
   | deep e m b dk τ l=>
    dsimp only at h
    split at h
    ·split at h
     ·rename_i r' hr;cases h;exact⟨_,_,rfl,rfl,hr⟩
     ·cases h
    ·cases h
   | box e m cs=>
    dsimp only at h
    split at h
    ·split at h
     ·rename_i r' hr;cases h;exact⟨_,_,rfl,rfl,hr⟩
     ·cases h
    ·cases h
  obtain⟨o',r',rfl,hlen,hr⟩:=hsb
  simp only[ca,jn] at hk
  cases hb:Nat.beq j k with
  | true=>
   rw[hb] at hk
   cases hk
   have:=aa hb
   subst this
   exact⟨au,o,o',by simp only[aw,aI,cond_true],by simp only[aw,aI,cond_true],hlen⟩
  | false=>
   rw[hb] at hk
   obtain⟨i1,a,b,i2,i3,i4⟩:=zN (ln:=ln) hr hn.2 k k' hk
   refine⟨ao _ i1,a,b,by simp only[aw,hb,cond_false];exact i2,?_,i4⟩
   have hne:Nat.beq h0 k'=false:=by
    cases hq:Nat.beq h0 k' with
    | false=>rfl
    | true=>
     have:=aa hq
     subst this
     have h2:=hn.1
     rw[fL.2 i1] at h2
     cases h2
   simp only[aw,hne,cond_false];exact i3
 | [],_::_,_,h,_,_,_,_=>by cases h
 | _::_,[],_,h,_,_,_,_=>by cases h
end
end Go.DN
/-
 DN,part Y:a call to which objects are lent:the caller's state behind it.
-/
namespace Go.DN
open Go.AM
section
variable {S:eE}
mutual
def SC:Sh→TV S→List (Nat×Nat)
 | .own r _,v=>match v with
  | .aR h _=>[(r,h)]
  | _=>[]
 | .loc r _,v=>match v with
  | .loc h _=>[(r,h)]
  | _=>[]
 | .aF _ l,v=>match v with
  | .aF _ vs=>sX l vs
  | _=>[]
 | .agg l,v=>match v with
  | .agg vs=>sX l vs
  | _=>[]
 | .ct r,v=>match v with
  | .ct h=>[(r,h)]
  | _=>[]
 | .mp r,v=>match v with
  | .mp h=>[(r,h)]
  | _=>[]
 | .ks r _,v=>match v with
  | .ks h _ _ _=>[(r,h)]
  | _=>[]
 | .sub r _,v=>match v with
  | .sub h _ _ _=>[(r,h)]
  | _=>[]
 | _,_=>[]
def sX:List Sh→List (TV S)→List (Nat×Nat)
 | x::r,v::vs=>SC x v++sX r vs
 | _,_=>[]
end
def look:List (Nat×Nat)→Nat→Option Nat
 | [],_=>none
 | (k,h)::r,j=>bif Nat.beq k j then some h else look r j
def yQ (st:List (Nat×TO S)):List Oh→Nat→List (Nat×Nat)→Option (List Nat)
 | [],_,_=>some []
 | oh::r,j,ps=>match look ps j with
  | some h=>match yQ st r (j+1) (match oh with
    | .box _ _ cs=>match aw st h with
     | some (.box _ _ vs)=>ps++sX cs vs
     | _=>ps
    | .lp _ _ cs=>match aw st h with
     | some (.lp _ _ vs)=>ps++sX cs vs
     | _=>ps
    | _=>ps) with
   | some hs=>some (h::hs)
   | none=>none
  | none=>none
def RD (s:ah S) (used:List Nat):Nat→Nat→Nat
 | k,0=>k
 | k,n+1=>bif s.free k&&!(bw k used) then k else RD s used (k+1) n
def SV (H:List Nat) (j:Nat) (used:List Nat) (h:Nat):Nat:=match Nat.ble 480 j with
 | true=>match H[j-480]? with
  | some h'=>bif Nat.blt h' 1000&&!(bw h' used) then h' else h
  | none=>h
 | false=>h
def NG (s:ah S) (H:List Nat) (d:Nat):List Nat→List Nat→Option (List Nat)
 | [],_=>some []
 | j::r,used=>match pinned j with
  | true=>match H[j-1000]? with
   | some h=>match NG s H d r (h::used) with
    | some hs=>some (h::hs)
    | none=>none
   | none=>none
  | false=>match SV H j used (bif s.free d&&!(bw d used) then d else RD s used s.nx 8) with
   | h=>match NG s H d r (h::used) with
    | some hs=>some (h::hs)
    | none=>none
def vA (s:ah S) (H:List Nat):List Nat→List Nat→Bool
 | [],[]=>true
 | j::r,h::hs=>!(bw j r)&&(!(bw h hs)&&((bif pinned j then PK H (j-1000) h else Nat.blt h 1000&&((dx H h).isSome||s.free h))&&vA s H r hs))
 | _,_=>false
theorem xu {ln:Nat→Nat}{j:Nat}:∀l:List (Nat×TO S),gn (ca ln l) j=bw j (aG l)
 | []=>rfl
 | (k,o)::r=>by
  simp only[ca,gn,aG,bw,xu r]
  cases Nat.beq k j <;> rfl
theorem sy {h:Nat}{l:List Nat}:l.contains h=bw h l:=by
 cases hb:bw h l with
 | true=>exact fL.2 (bQ.1 hb)
 | false=>
  cases hc:l.contains h with
  | false=>rfl
  | true=>rw[bQ.2 (fL.1 hc)] at hb;cases hb
theorem B7 {s:ah S}{H:List Nat}{ln:Nat→Nat}:∀{O:List (Nat×TO S)}{bk:List Nat},vA s H (aG O) bk=true→oo s.er H (ca ln O) bk=true∧n4 bk=true
 | [],[],_=>⟨rfl,rfl⟩
 | (j,o)::r,h::hs,e=>by
  simp only[aG,vA,aj,a8] at e
  obtain⟨e1,e2,e3,e4⟩:=e
  obtain⟨i1,i2⟩:=B7 (ln:=ln) e4
  refine⟨?_,?_⟩
  ·simp only[ca,oo,xu,sy,e1,e2,i1,iD,jb,Bool.true_and]
   cases hp:pinned j with
   | true=>rw[hp] at e3;exact e3
   | false=>
    rw[hp] at e3
    simp only[cond_false,aj,dG] at e3⊢
    exact⟨e3.1,e3.2.imp id gq⟩
  ·simp only[n4,sy,e2,i2,iD,jb]
 | [],_::_,e=>by cases e
 | _::_,[],e=>by cases e
theorem zK {s:ah S}{H:List Nat}:∀{js bk:List Nat},vA s H js bk=true→∀k,k∈bk→k∈H∨s.free k=true
 | [],[],_,k,hk=>by cases hk
 | j::r,h::hs,e,k,hk=>by
  simp only[vA,aj] at e
  obtain⟨_,_,e3,e4⟩:=e
  rcases aZ.1 hk with rfl | hk
  ·cases hp:pinned j with
   | true=>rw[hp] at e3;exact .inl (ar (Nc e3))
   | false=>
    rw[hp] at e3
    simp only[cond_false,aj,dG] at e3
    rcases e3.2 with h | h
    ·obtain⟨i,hi⟩:=Option.isSome_iff_exists.1 h
     exact .inl (ar (ej hi))
    ·exact .inr h
  ·exact zK e4 k hk
 | [],_::_,e,_,_=>by cases e
 | _::_,[],e,_,_=>by cases e
def cM (js:List Nat):List Nat→Nat→List Nat
 | [],_=>[]
 | h::r,i=>bif bw (1000+i) js then cM js r (i+1) else h::cM js r (i+1)
theorem xI {ln:Nat→Nat}{O:List (Nat×TO S)}:∀(H:List Nat) (i:Nat),dT (ca ln O) H i=cM (aG O) H i
 | [],_=>rfl
 | h::r,i=>by simp only[dT,cM,xu,xI r (i+1)]
def ya:List Nat→TV S→Bool
 | [],_=>false
 | h::r,v=>v.has h||ya r v
theorem Dt (ln:Nat→Nat) (v:TV S):∀ds:List Nat,pb ds (v.er ln)=ya ds v
 | []=>rfl
 | h::r=>by simp only[pb,ya,ub,Dt ln v r]
def qf (ds:List Nat):List (Nat×TV S)→List (Nat×TV S)
 | []=>[]
 | (t,v)::r=>(t,bif ya ds v then .any else v)::qf ds r
def nt (ds:List Nat):List (TV S)→Bool
 | []=>true
 | v::r=>!(ya ds v)&&nt ds r
def zE (ds:List Nat):List (Nat×TV S)→Bool
 | []=>true
 | (_,v)::r=>!(ya ds v)&&zE ds r
def nr (ds:List Nat):List (Nat×TO S)→Bool
 | []=>true
 | (_,.box _ _ cs)::r=>nt ds cs&&nr ds r
 | (_,.aV ..)::r=>nr ds r
 | (_,.deep ..)::r=>nr ds r
 | (_,.lp _ _ cs)::r=>nt ds cs&&nr ds r
def j9 (H:List Nat):List (Nat×TO S)→List (Nat×TO S)
 | []=>[]
 | (h,o)::r=>match dx H h with
  | some _=>j9 H r
  | none=>(h,o)::j9 H r
def ng (s:ah S) (sb:List (Nat×TO S)){A:Type}:List Nat→Option A→Option A
 | [],k=>k
 | h::r,k=>match aw sb h with
  | none=>ng s sb r k
  | some o'=>match aw s.bi h with
   | some (.aV _ _ _ τ l)=>match o' with
    | .aV _ _ _ τ' l'=>bif Nat.beq (List.length l') (List.length l) then ng s sb r k else none
    | _=>none
   | some (.box _ _ _)=>match o' with
    | .box _ _ _=>ng s sb r k
    | _=>none
   | some (.lp _ _ _)=>match o' with
    | .lp _ _ _=>ng s sb r k
    | _=>none
   | some (.deep _ _ _ _ τ l)=>match o' with
    | .deep _ _ _ _ τ' l'=>bif Nat.beq (sq τ' l') (sq τ l) then ng s sb r k else none
    | _=>none
   | _=>none
theorem nf {s:ah S}{sb:List (Nat×TO S)}{A:Type}{k:Option A}{r:A}:∀{H:List Nat},ng s sb H k=some r→k=some r∧∀h,h∈H→∀o',aw sb h=some o'→o'.len=s.ln h
 | [],e=>⟨e,fun h hm=>by cases hm⟩
 | h0::hs,e=>by
  simp only[ng] at e
  split at e
  ·rename_i hn
   obtain⟨i1,i2⟩:=nf e
   refine⟨i1,fun h hm o' ho=>?_⟩
   rcases aZ.1 hm with rfl | hm
   ·rw[hn] at ho;cases ho
   ·exact i2 h hm o' ho
  ·rename_i o1 ho1
   split at e
   ·rename_i a b c τ l hs1
    split at e
    ·rename_i τ' l'
     cases hb:Nat.beq (List.length l') (List.length l) with
     | false=>rw[hb] at e;cases e
     | true=>
      rw[hb] at e
      obtain⟨i1,i2⟩:=nf e
      refine⟨i1,fun h hm o' ho=>?_⟩
      rcases aZ.1 hm with rfl | hm
      ·rw[ho1] at ho
       cases ho
       unfold ah.ln b6
       rw[hs1]
       exact aa hb
      ·exact i2 h hm o' ho
    ·cases e
   ·rename_i a b c hs1
    split at e
    ·obtain⟨i1,i2⟩:=nf e
     refine⟨i1,fun h hm o' ho=>?_⟩
     rcases aZ.1 hm with rfl | hm
     ·rw[ho1] at ho
      cases ho
      unfold ah.ln b6
      rw[hs1]
      rfl
     ·exact i2 h hm o' ho
    ·cases e
   ·rename_i a b c hs1
    split at e
    ·obtain⟨i1,i2⟩:=nf e
     refine⟨i1,fun h hm o' ho=>?_⟩
     rcases aZ.1 hm with rfl | hm
     ·rw[ho1] at ho
      cases ho
      unfold ah.ln b6
      rw[hs1]
      rfl
     ·exact i2 h hm o' ho
    ·cases e
   ·rename_i a b c dk τ l hs1
    split at e
    ·rename_i τ' l'
     cases hb:Nat.beq (sq τ' l') (sq τ l) with
     | false=>rw[hb] at e;cases e
     | true=>
      rw[hb] at e
      obtain⟨i1,i2⟩:=nf e
      refine⟨i1,fun h hm o' ho=>?_⟩
      rcases aZ.1 hm with rfl | hm
      ·rw[ho1] at ho
       cases ho
       unfold ah.ln b6
       rw[hs1]
       exact aa hb
      ·exact i2 h hm o' ho
    ·cases e
   ·cases e
theorem qF {vw A:Bool}{f:Nat→Option Nat}{gst:List (Nat×ap)}:∀{outs:List (Nat×TO S)}{bk:List Nat}{sb:List (Nat×TO S)},mO vw f A gst outs bk=some sb→aG sb=bk
 | [],[],sb,h=>by cases h;rfl
 | (j,o)::r,h0::hs,sb,h=>by
  simp only[mO] at h
  cases o with
  | lp p n cs=>
   dsimp only at h
   split at h
   ·split at h
    ·rename_i r' hr;cases h;simp only[aG,qF hr]
    ·cases h
   ·cases h
  | aV e m b τ l=>
   dsimp only at h
   split at h
   ·split at h
    ·rename_i r' hr;cases h;simp only[aG,qF hr]
    ·cases h
   ·cases h
  | deep e m b dk τ l=>
   dsimp only at h
   split at h
   ·split at h
    ·rename_i r' hr;cases h;simp only[aG,qF hr]
    ·cases h
   ·cases h
  | box e m cs=>
   dsimp only at h
   split at h
   ·split at h
    ·rename_i r' hr;cases h;simp only[aG,qF hr]
    ·cases h
   ·cases h
 | [],_::_,_,h=>by cases h
 | _::_,[],_,h=>by cases h
theorem xd {H:List Nat}{h:Nat}(hi:dx H h=none):∀{st:List (Nat×TO S)},aw (j9 H st) h=aw st h
 | []=>rfl
 | (x,o)::r=>by
  simp only[j9]
  cases hx:dx H x with
  | some i=>
   simp only[]
   rw[xd hi]
   refine(ju o r fun e=>?_).symm
   subst e;rw[hi] at hx;cases hx
  | none=>
   simp only[aw]
   rw[xd hi]
theorem DW {H:List Nat}{ln:Nat→Nat}:∀st:List (Nat×TO S),fA H (ca ln st)=ca ln (j9 H st)
 | []=>rfl
 | (x,o)::r=>by
  simp only[ca,fA,j9]
  cases dx H x with
  | some i=>exact DW r
  | none=>simp only[ca,DW r]
theorem xe {H:List Nat}:∀(a b:List (Nat×TO S)),j9 H (a++b)=j9 H a++j9 H b
 | [],_=>rfl
 | (x,o)::r,b=>by
  simp only[bx,j9]
  cases dx H x with
  | some i=>exact xe r b
  | none=>simp only[bx,xe r b]
theorem DV {H:List Nat}:∀{l:List (Nat×TO S)},apart (aG l) H=true→j9 H l=l
 | [],_=>rfl
 | (x,o)::r,e=>by
  have h1:=apart_spec e
  simp only[j9]
  have:dx H x=none:=by
   cases hx:dx H x with
   | none=>rfl
   | some i=>exact absurd (ar (ej hx)) (h1 x (by simp[aG]))
  rw[this]
  simp only[]
  rw[DV]
  simp only[aG,apart] at e
  split at e
  ·cases e
  ·exact e
def dP (s:ah S) (H ds:List Nat) (sb:List (Nat×TO S)) (n:Nat):ah S:={fr:=qf ds s.fr,lo:=s.lo,st:=sb++j9 H s.st,bO:=s.bO,df:=s.df,nx:=s.nx+n,last:=[]}
theorem SF {s:ah S}{H js bk ds:List Nat}{sb:List (Nat×TO S)}{n:Nat}(hb:vA s H js bk=true) (hk:aG sb=bk) (hH:apart H (aG s.bO)=true) (hl:∀h,h∈H→h∉ds→∀o',aw sb h=some o'→o'.len=s.ln h)
  (hd:∀h,h∈H→h∉ds→h∈bk) (k:Nat) (h1:k∉ds) (h2:s.free k=false∨k∈H):(dP s H ds sb n).ln k=s.ln k:=by
 unfold ah.ln
 have key:∀o,aw sb k=some o→b6 (sb++j9 H s.st++s.bO) k=o.len:=by
  intro o ho
  unfold b6
  rw[aC,di,ho]
 show b6 (sb++j9 H s.st++s.bO) k=b6 s.bi k
 by_cases hkH:k∈H
 ·have hkb:=hd k hkH h1
  rw[←hk] at hkb
  obtain⟨o,ho⟩:=mZ hkb
  rw[key o ho]
  exact hl k hkH h1 o ho
 ·have hkb:k∉bk:=fun hm=>by
   rcases zK hb k hm with h | h
   ·exact hkH h
   ·rcases h2 with h2 | h2
    ·rw[h2] at h;cases h
    ·exact hkH h2
  have hi:dx H k=none:=by
   cases hx:dx H k with
   | none=>rfl
   | some i=>exact absurd (ar (ej hx)) hkH
  unfold b6
  rw[aC,di,lj (by rw[hk];exact hkb),di,xd hi]
  unfold ah.bi
  rw[di]
theorem Ce {ds:List Nat}{v:TV S}(h:ya ds v=false):∀k,v.has k=true→k∉ds:=by
 induction ds with
 | nil=>intro k _ hm;cases hm
 | cons x r ih=>
  simp only[ya,bI] at h
  intro k hk hm
  rcases aZ.1 hm with rfl | hm
  ·rw[h.1] at hk;cases hk
  ·exact ih h.2 k hk hm
theorem IB {ds:List Nat}{ln ln':Nat→Nat}:∀{fr:List (Nat×TV S)},(∀k,k∉ds→gr k fr=true→ln' k=ln k)→gi ln' (qf ds fr)=mg ds (gi ln fr)
 | [],_=>rfl
 | (t,v)::r,h=>by
  simp only[qf,gi,mg,vk,Dt]
  rw[IB fun k h1 h2=>h k h1 (by simp[gr,h2])]
  cases ha:ya ds v with
  | true=>rfl
  | false=>
   simp only[cond_false]
   rw[oY v fun k hk=>h k (Ce ha k hk) (by simp[gr,hk])]
theorem zD {ds:List Nat}:∀{fr:List (Nat×TV S)},zE ds fr=true→qf ds fr=fr
 | [],_=>rfl
 | (t,v)::r,h=>by
  simp only[zE,aj,a8] at h
  simp only[qf,h.1,cond_false,zD h.2]
theorem Fm {ds:List Nat}:∀(a b:List (Nat×TV S)),qf ds (a++b)=qf ds a++qf ds b
 | [],_=>rfl
 | (t,v)::r,b=>by simp only[bx,qf,Fm r b]
theorem BX {ds:List Nat}{ln ln':Nat→Nat}:∀{l:List (TV S)},nt ds l=true→(∀k,k∉ds→TV.has.go k l=true→ln' k=ln k)→TV.er.go ln' l=(TV.er.go ln l).map (vk ds)
 | [],_,_=>rfl
 | v::r,e,h=>by
  simp only[nt,aj,a8] at e
  simp only[TV.er.go,aJ,vk,Dt,e.1,cond_false]
  rw[oY (ln':=ln) v fun k hk=>h k (Ce e.1 k hk) (by simp[TV.has.go,hk]),BX e.2 fun k h1 h2=>h k h1 (by simp[TV.has.go,h2])]
theorem ug {ds:List Nat}{ln ln':Nat→Nat}:∀{st:List (Nat×TO S)},nr ds st=true→(∀k,k∉ds→eL k st=true→ln' k=ln k)→ca ln' st=fq ds (ca ln st)
 | [],_,_=>rfl
 | (x,.aV e m f τ l)::r,hc,h=>by
  simp only[nr] at hc
  simp only[ca,fq,TO.er,rK,cond_true]
  rw[ug hc fun k h1 h2=>h k h1 (by simp[eL,h2])]
 | (x,.deep e m f dk τ l)::r,hc,h=>by
  simp only[nr] at hc
  simp only[ca,fq,TO.er,rK,cond_true]
  rw[ug hc fun k h1 h2=>h k h1 (by simp[eL,h2])]
 | (x,.box e m cs)::r,hc,h=>by
  simp only[nr,aj] at hc
  simp only[ca,fq,TO.er,rK,cond_false]
  rw[ug hc.2 fun k h1 h2=>h k h1 (by simp[eL,h2]),BX hc.1 fun k h1 h2=>h k h1 (by simp[eL,TO.has,h2])]
 | (x,.lp p n cs)::r,hc,h=>by
  simp only[nr,aj] at hc
  simp only[ca,fq,TO.er,rK,cond_false]
  rw[ug hc.2 fun k h1 h2=>h k h1 (by simp[eL,h2]),BX hc.1 fun k h1 h2=>h k h1 (by simp[eL,TO.has,h2])]
theorem wW {H:List Nat}{k:Nat}:∀{st:List (Nat×TO S)},eL k (j9 H st)=true→eL k st=true
 | [],h=>h
 | (x,o)::r,h=>by
  simp only[j9] at h
  simp only[eL,dG]
  split at h
  ·exact .inr (wW h)
  ·simp only[eL,dG] at h
   exact h.imp id wW
theorem Ir (ln:Nat→Nat):∀(a b:List (Nat×TO S)),ca ln (a++b)=ca ln a++ca ln b
 | [],_=>rfl
 | (x,o)::r,b=>by simp only[bx,ca,Ir ln r b]
def named (s:ah S) (k:Nat):Bool:=gr k s.bZ||(eL k s.bi||TV.has.go k s.df)
theorem K4 {s:ah S}{k:Nat}(h:named s k=true):s.free k=false:=by
 cases hf:s.free k with
 | false=>rfl
 | true=>
  obtain⟨_,h2,h3,h4,_⟩:=free_spec hf
  unfold named at h
  rw[h2,h3,h4] at h
  cases h
theorem Fv {s:ah S}{H js bk ds:List Nat}{sb:List (Nat×TO S)}{n:Nat}(hb:vA s H js bk=true) (hk:aG sb=bk) (hH:apart H (aG s.bO)=true) (hl:∀h,h∈H→h∉ds→∀o',aw sb h=some o'→o'.len=s.ln h)
  (hd:∀h,h∈H→h∉ds→h∈bk) (c1:zE ds s.lo=true) (c2:nr ds (j9 H s.st++s.bO)=true) (c3:nt ds s.df=true):
  (dP s H ds sb n).er=⟨mg ds s.er.fr,ca (dP s H ds sb n).ln sb++fq ds (fA H s.er.st),s.er.df⟩:=by
 have key:∀k,k∉ds→named s k=true→(dP s H ds sb n).ln k=s.ln k:=fun k h1 h2=>SF hb hk hH hl hd k h1 (.inl (K4 h2))
 have e1:gi (dP s H ds sb n).ln (dP s H ds sb n).bZ=mg ds s.er.fr:=by
  show gi _ (qf ds s.fr++s.lo)=mg ds (gi s.ln (s.fr++s.lo))
  rw[←zD c1,←Fm]
  rw[zD c1]
  exact IB fun k h1 h2=>key k h1 (by unfold named ah.bZ;rw[h2];rfl)
 have hap:apart (aG s.bO) H=true:=by
  have h:=apart_spec hH
  have:∀(l:List Nat),(∀x,x∈l→x∉H)→apart l H=true:=by
   intro l
   induction l with
   | nil=>intro _;rfl
   | cons x r ih=>
    intro hh
    simp only[apart]
    cases hm:bw x H with
    | true=>exact absurd (bQ.1 hm) (hh x au)
    | false=>exact ih fun y hy=>hh y (ao _ hy)
  exact this _ fun x hx hxH=>h x hxH hx
 have e2:ca (dP s H ds sb n).ln (dP s H ds sb n).bi=ca (dP s H ds sb n).ln sb++fq ds (fA H s.er.st):=by
  show ca _ ((sb++j9 H s.st)++s.bO)=_++fq ds (fA H (ca s.ln (s.st++s.bO)))
  rw[aC,Ir,DW,xe,DV hap]
  congr 1
  refine ug c2 fun k h1 h2=>key k h1 ?_
  have:eL k s.bi=true:=by
   refine wW (H:=H) ?_
   unfold ah.bi
   rw[xe,DV hap]
   exact h2
  unfold named
  rw[this];simp
 have e3:TV.er.go (dP s H ds sb n).ln s.df=TV.er.go s.ln s.df:=by
  refine lD _ fun k hk=>?_
  have cR:∀(l:List (TV S)),nt ds l=true→TV.has.go k l=true→k∉ds:=by
   intro l
   induction l with
   | nil=>intro _ h;cases h
   | cons x r ih=>
    intro h1 h2
    simp only[nt,aj,a8] at h1
    simp only[TV.has.go,dG] at h2
    rcases h2 with h2 | h2
    ·exact Ce h1.1 k h2
    ·exact ih h1.2 h2
  exact key k (cR _ c3 hk) (by unfold named;rw[hk];simp)
 show St.mk _ _ _=St.mk _ _ _
 rw[e1,e2]
 exact congrArg _ e3
end
end Go.DN
/-
 DN,part Z:calls by ew.
-/
namespace Go.DN
open Go.AM
section
variable {S:eE}
def FU (ok:Nat→Bool):List Nat→Bool
 | []=>true
 | h::r=>ok h&&FU ok r
theorem Hq {ok:Nat→Bool}{W:List Nat}(hW:∀h,ok h=true→W.contains h=true):∀{H:List Nat},FU ok H=true→ye H W=true
 | [],_=>rfl
 | h::r,e=>by
  simp only[FU,aj] at e
  have:=Hq hW e.2
  unfold ye at this⊢
  simp only[List.all_cons,this,hW h e.1,fK]
def dX (con:cq S) (r:bl S.α (JH.dl ⟨con.aA,con.outs⟩)):List (Nat×TO S):=(cd con.outs (cy con.aA (leaves _ r)).2).1
def PQ (s:ah S) (H:List Nat) (con:cq S) (r:bl S.α (JH.dl ⟨con.aA,con.outs⟩)) (bk:List Nat):Option (List (Nat×TO S)):=
 mO con.vw (jn (ca (b6 (dX con r)) (dX con r)) bk) (jv s.er.st (ca (b6 (dX con r)) (dX con r)) H 0) s.er.st (dX con r) bk
def S4 (con:cq S) (r:bl S.α (JH.dl ⟨con.aA,con.outs⟩)) (bk:List Nat):Option (TV S):=
 (lL con.aA (leaves _ r)).lf con.vw (jn (ca (b6 (dX con r)) (dX con r)) bk)
def qV (s:ah S) (H ds:List Nat) (js bk:List Nat):Bool:=
 vA s H js bk&&(within (minus H ds) bk&&(zE ds s.lo&&(nr ds (j9 H s.st++s.bO)&&nt ds s.df)))
where minus (H ds:List Nat):List Nat:=match H with
 | []=>[]
 | h::r=>bif bw h ds then minus r ds else h::minus r ds
theorem pu {ds:List Nat}:∀{H:List Nat}{h:Nat},h∈H→h∉ds→h∈qV.minus H ds
 | x::r,h,hm,hd=>by
  simp only[qV.minus]
  cases hb:bw x ds with
  | true=>
   rw[cond_true]
   rcases aZ.1 hm with rfl | hm
   ·exact absurd (bQ.1 hb) hd
   ·exact pu hm hd
  | false=>
   rw[cond_false]
   rcases aZ.1 hm with rfl | hm
   ·exact au
   ·exact ao _ (pu hm hd)
def Dm (ok:Nat→Bool) (con:cq S) (s:ah S) (d:Nat) (vs:List (TV S)){A:Type}(k:ah S→Option A):Option A:=
 match yQ s.bi con.a6 1000 (sX con.args vs) with
 | some H=>match n4 H&&(FU ok H&&apart H (aG s.bO)) with
  | true=>match jK s con.vw H con.args vs with
   | some xs=>match nh s con.vw H H con.a6 with
    | some ys=>match lG (kj con.args con.a6) (xs++ys) with
     | some q=>(con.F q).bind fun r=>match NG s H d (aG con.outs) [] with
      | some bk=>match qV s H (cM (aG con.outs) H 0) (aG con.outs) bk with
       | true=>match PQ s H con r bk with
        | some sb=>match S4 con r bk with
         | some rv=>ng s sb (qV.minus H (cM (aG con.outs) H 0)) (k ((dP s H (cM (aG con.outs) H 0) sb con.outs.length).put d rv))
         | none=>none
        | none=>none
       | false=>none
      | none=>none
     | none=>none
    | none=>none
   | none=>none
  | false=>none
 | none=>none
theorem xt (con:cq S) (r:bl S.α (JH.dl ⟨con.aA,con.outs⟩)):aG (dX con r)=aG con.outs:=jP _ _
theorem xN {ln:Nat→Nat}{ds:List Nat}:∀{l:List (TV S)},nt ds l=true→(TV.er.go ln l).all (fun g=>!(pb ds g))=true
 | [],_=>rfl
 | v::r,e=>by
  simp only[nt,aj,a8] at e
  simp only[TV.er.go,List.all_cons,Dt,e.1,xN e.2,iD,fK]
theorem BZ {P:Program}{W:List Nat}{ok:Nat→Bool}(hW:∀h,ok h=true→W.contains h=true){con:cq S}(C:aP P con){s:ah S}{d:Nat}{vs:List (TV S)}{A:Type}{k:ah S→Option A}{r:A}(hl:a5 s) (h:Dm ok con s d vs k=some r)
  {o:Oper}(heff:∀{gs':List G}{stC:List (Nat×ap)}{Q:G→List (Nat×ap)→Prop}{T:St→Prop}(H:List Nat) (vw:Bool),cj.go H (ez s.er.st H vw) (TV.er.go s.ln vs)=some gs'→fF H (ez s.er.st H vw) s.er.st H 0=some stC→n4 H=true→GM P con.f gs' stC Q→
   (∀r st',Q r st'→∃bk s2 r',nY vw s.er H st' bk=some s2∧dL vw (jn st' bk) r=some r'∧T (s2.put d r'))→ye H W=true→bN P W s.er o T):
  ∃T:St→Prop,bN P W s.er o T∧∀s',T s'→∃t:ah S,Gh s' t.er∧a5 t∧bF s t∧k t=some r:=by
 unfold Dm at h
 split at h
 ·rename_i H hH
  split at h
  ·rename_i hc
   simp only[aj] at hc
   obtain⟨c1,c2,c3⟩:=hc
   split at h
   ·rename_i xl hx
    split at h
    ·rename_i yl hy
     split at h
     ·rename_i q hq
      have hlq:=gd hq
      have hrest:(cZ con.args (leaves _ q)).2=yl:=by
       rw[hlq]
       exact(ij (lnC:=fun k=>s.ln ((H[k-1000]?).getD 0)) (fun i h hi=>by simp[ej hi]) hx yl).1
      have hst:(eW con.args con.a6 (leaves _ q)).bi=(cd (mr con.a6 1000) yl).1:=by
       show(cd (mr con.a6 1000) (cZ con.args (leaves _ q)).2).1++[]=_
       rw[cc,hrest]
      obtain⟨o1,o2,o3⟩:=zh 0 hy []
      rw[cc] at o1 o2 o3
      have hln:∀i h,dx H h=some i→(eW con.args con.a6 (leaves _ q)).ln (1000+i)=s.ln h:=by
       intro i h hi
       have:=o2 i h (ej hi)
       rw[bT] at this
       unfold ah.ln
       rw[hst]
       exact this
      have hargs:=(ij hln hx yl).2
      rw[←hlq] at hargs
      have hobjs:=o3 _ hln
      have hst2:(eW con.args con.a6 (leaves _ q)).er.st=ca (eW con.args con.a6 (leaves _ q)).ln (cd (mr con.a6 1000) yl).1:=by
       show ca _ _=_
       rw[hst]
      refine⟨fun s'=>∃t:ah S,Gh s' t.er∧a5 t∧bF s t∧k t=some r,?_,fun s' h=>h⟩
      obtain⟨res,h1,h2⟩:=bind_some h
      refine heff (stC:=(eW con.args con.a6 (leaves _ q)).er.st) H con.vw hargs (by rw[hst2];exact hobjs) c1 (C.ok q res h1) ?_ (Hq hW c2)
      rintro g st' ⟨rfl,rfl⟩
      split at h2
      ·rename_i bk hbk
       split at h2
       ·rename_i hf
        simp only[qV,aj] at hf
        obtain⟨f1,f2,f3,f4,f5⟩:=hf
        split at h2
        ·rename_i sb hsb
         split at h2
         ·rename_i rv hrv
          obtain⟨k1,k2⟩:=nf h2
          have hkeys:aG sb=bk:=qF hsb
          have hd:∀h,h∈H→h∉cM (aG con.outs) H 0→h∈bk:=fun h h1 h2=>mj f2 h (pu h1 h2)
          have her:=Fv (n:=con.outs.length) f1 hkeys c3 (fun h h1 h2=>k2 h (pu h1 h2)) hd f3 f4 f5
          have f1':=f1
          rw[←xt con res] at f1'
          obtain⟨b1,b2⟩:=B7 (ln:=b6 (dX con res)) f1'
          have hlnB:∀a b,jn (ca (b6 (dX con res)) (dX con res)) bk a=some b→(dP s H (cM (aG con.outs) H 0) sb con.outs.length).ln b=b6 (dX con res) a:=by
           intro a b hab
           obtain⟨_,o,o',g1,g2,g3⟩:=zN hsb b2 a b hab
           unfold ah.ln b6
           show(match aw ((sb++j9 H s.st)++s.bO) b with | some o=>o.len | none=>0)=_
           rw[aC,di,g2,g1]
           exact g3
          have hds:dT (ca (b6 (dX con res)) (dX con res)) H 0=cM (aG con.outs) H 0:=by rw[xI,xt]
          refine⟨bk,⟨mg (cM (aG con.outs) H 0) s.er.fr,ca (dP s H (cM (aG con.outs) H 0) sb con.outs.length).ln sb++fq (cM (aG con.outs) H 0) (fA H s.er.st),s.er.df⟩,rv.er (dP s H (cM (aG con.outs) H 0) sb con.outs.length).ln,?_,MD hlnB _ _ hrv,_,?_,gJ (t:=(dP s H (cM (aG con.outs) H 0) sb con.outs.length).put d rv) rfl,⟨rfl,rfl,rfl⟩,k1⟩
          ·unfold nY
           have hb:kl con.vw (jn (ca (b6 (dX con res)) (dX con res)) bk) (jv s.er.st (ca (b6 (dX con res)) (dX con res)) H 0) s.er.st (ca (b6 (dX con res)) (dX con res)) bk=some (ca (dP s H (cM (aG con.outs) H 0) sb con.outs.length).ln sb):=rz hlnB hsb
           have hdf:s.er.df.all (fun g=>!(pb (dT (ca (b6 (dX con res)) (dX con res)) H 0) g))=true:=by
            rw[hds];exact xN f5
           show(bif oo s.er H (ca (b6 (dX con res)) (dX con res)) bk&&s.er.df.all (fun g=>!(pb (dT (ca (b6 (dX con res)) (dX con res)) H 0) g)) then _ else none)=_
           rw[b1,hdf]
           show(match kl con.vw (jn (ca (b6 (dX con res)) (dX con res)) bk) (jv s.er.st (ca (b6 (dX con res)) (dX con res)) H 0) s.er.st (ca (b6 (dX con res)) (dX con res)) bk with
            | some sb=>some ({fr:=mg (dT (ca (b6 (dX con res)) (dX con res)) H 0) s.er.fr,st:=sb++fq (dT (ca (b6 (dX con res)) (dX con res)) H 0) (fA H s.er.st),df:=s.er.df}:St)
            | none=>none)=_
           rw[hb,hds]
          ·rw[fE,her]
           exact Gh.refl _
         ·cases h2
        ·cases h2
       ·cases h2
      ·cases h2
     ·cases h
    ·cases h
   ·cases h
  ·cases h
 ·cases h
theorem EF.M2 {P:Program}{W:List Nat}{s:St}{d:Nat}{ty:TypeId}{pos:String}{after:Array Edge}{guard:Option (Nat×Bool)}{f:FuncId}{x:Operand}{xs:Array Operand}{ts:Array TypeId}{gs caps gs':List G}{stC:List (Nat×ap)}{Q:G→List (Nat×ap)→Prop}{T:St→Prop}(H:List Nat) (vw:Bool) (hc:∀args w,(callFunc f args).run P w=.ok (.enter f args) w)
  (hf:ev s x=some (.aF f caps)) (hx:uf s xs.toList=some gs) (hv:cj.go H (ez s.st H vw) (gs++caps)=some gs') (hl:fF H (ez s.st H vw) s.st H 0=some stC) (cR:n4 H=true) (hcon:GM P f gs' stC Q)
  (hres:∀r st',Q r st'→∃bk s2 r',nY vw s H st' bk=some s2∧dL vw (jn st' bk) r=some r'∧T (s2.put d r')) (hW:ye H W=true):
  bN P W s ⟨some d,.call ⟨.value x,xs,ts⟩,ty,pos,after,guard⟩ T:=by
 refine⟨(fun _ h=>by cases h),?_⟩
 intro N cx μ a w hr hN K Q' hK
 obtain⟨h1,h2⟩:=mq hx
 have hcl:=hr.ev hf
 generalize hav:a.eval x=vf at hcl
 cases hcl with
 | aH h=>cases h
 | aF _ _ us hlu hrc=>
  have hcall:=uY (vs:=xs.toList.map a.eval++us) hr hv hl cR (by simp[h1,hlu]) (fun j g v hg hv=>by
   rw[a9] at hg hv
   rw[aW,←h1] at hv
   split at hg
   ·rename_i hj
    rw[if_pos hj] at hv
    obtain⟨x,hxj,he⟩:=h2 j g hg
    rw[ay,hxj] at hv
    cases hv
    exact hr.ev he
   ·rename_i hj
    rw[if_neg hj] at hv
    exact hrc _ g v hg hv) hcon
  unfold Oper.wp
  have:(execOp a.eval ⟨some d,.call ⟨.value x,xs,ts⟩,ty,pos,after,guard⟩).run P w=.ok (.enter f (xs.toList.map a.eval++us).toArray) w:=by
   have e:xs.map a.eval++us.toArray=(xs.toList.map a.eval++us).toArray:=by rw[←oc,←en]
   simp[execOp,resolve,invoke,Deferred.ofValue,hav,hc,e]
  rw[this]
  refine hcall.mono ?_
  rintro e w' (⟨v,r,st',μ',rfl,hq,hC,hrv⟩ | ⟨_,_,_,_,h,_⟩)
  ·obtain⟨bk,s2,r',hb,hren,hT⟩:=hres r st' hq
   obtain⟨q1,q2,q3,_⟩:=uv hr hl (lQ cR) hC hb
   exact hK _ _ _ w' (q1.put (hN d rfl) (q2 r r' v hrv hren)) hT (q3 W (yd hW))
  ·exact h.elim
def isSome {α:Type}:Option α→Bool
 | some _=>true
 | none=>false
def Bl (con:cq S) (s:ah S) (xs:List Operand) (vs:List (TV S)):Option (ah S×List (TV S)):=
 match qa con.aA||TV.imp.go vs with
 | true=>some (s,vs)
 | false=>match p9 (TV.K0.go vs) s with
  | some s'=>match ss s' xs with
   | some vs'=>match TV.imp.go vs' with
    | true=>some (s',vs')
    | false=>none
   | none=>none
  | none=>none
def fits (s:ah S) (xs:List Operand) (vs:List (TV S)) (con:cq S):Bool:=
 match ow con with
 | true=>match Bl con s xs vs with
  | some (s',vs')=>isSome (jZ s' con.args vs')
  | none=>false
 | false=>match yQ s.bi con.a6 1000 (sX con.args vs) with
  | some H=>isSome (jK s con.vw H con.args vs)&&isSome (nh s con.vw H H con.a6)
  | none=>false
def xD (p:cq S→Bool) (f:FuncId):List (cq S)→Option (cq S)
 | []=>none
 | c::r=>match Nat.beq c.f f&&p c with
  | true=>some c
  | false=>xD p f r
theorem ue {p:cq S→Bool}{f:FuncId}:∀{l:List (cq S)}{c:cq S},xD p f l=some c→c∈l∧c.f=f
 | [],_,h=>by cases h
 | x::r,c,h=>by
  simp only[xD] at h
  split at h
  ·rename_i hb
   simp only[aj] at hb
   cases h
   exact⟨au,aa hb.1⟩
  ·obtain⟨h1,h2⟩:=ue h
   exact⟨ao _ h1,h2⟩
def LK (tbl:List (cq S)) (ok:Nat→Bool) (A:Type) (s:ah S) (dst:Option Nat) (c:Call) (k:ah S→Option A):Option A:=
 match dst with
 | some d=>match c.callee with
  | .value (.func f)=>match ss s c.args.toList with
   | some vs=>match xD (fits s c.args.toList vs) f tbl with
    | some con=>match ow con with
     | true=>match Bl con s c.args.toList vs with
      | some (s',vs')=>LJ con s' d vs' k
      | none=>none
     | false=>Dm ok con s d vs k
    | none=>none
   | none=>none
  | .value x=>match cn s x with
   | some (.aF f caps)=>match ss s c.args.toList with
    | some vs=>match xD (fits s [] (vs++caps)) f tbl with
     | some con=>match ow con with
      | true=>xQ con s d (vs++caps) k
      | false=>Dm ok con s d (vs++caps) k
     | none=>none
    | none=>none
   | _=>none
  | _=>none
 | none=>none
theorem Pd {P:Program}{N:Nat}{tbl:List (cq S)}(ht:∀c∈tbl,aP P c):∀(ok:Nat→Bool) (W:List Nat),(∀h,ok h=true→W.contains h=true)→∀(A:Type) (r:A),Ga P N W (LK tbl ok A) r:=by
 intro ok W hW A r s dst c k hl _ h ty pos after guard
 obtain⟨cal,args,ts⟩:=c
 unfold LK at h
 split at h
 ·rename_i d
  dsimp only at h
  split at h
  ·split at h
   ·rename_i vs hv
    split at h
    ·rename_i con hcon
     obtain⟨hm,hf⟩:=ue hcon
     subst hf
     have C:=ht con hm
     split at h
     ·split at h
      ·rename_i s' vs' hp
       unfold Bl at hp
       split at hp
       ·cases hp
        exact IM (N:=N) C hl h hv
       ·split at hp
        ·rename_i s2 hz
         obtain⟨z1,z2,z3⟩:=lW hl hz
         split at hp
         ·rename_i vs2 hv2
          split at hp
          ·cases hp
           exact fC.gh z1 z3 (IM (N:=N) C z2 h hv2)
          ·cases hp
         ·cases hp
        ·cases hp
      ·cases h
     ·exact BZ hW C hl h fun H vw h1 h2 h3 h4 h5 h6=>EF.SG H vw C.call (k5 hv).2 h1 h2 h3 h4 h5 h6
    ·cases h
   ·cases h
  ·rename_i x _
   split at h
   ·rename_i f caps hx
    split at h
    ·rename_i vs hv
     split at h
     ·rename_i con hcon
      obtain⟨hm,hf⟩:=ue hcon
      subst hf
      have C:=ht con hm
      split at h
      ·exact IL (N:=N) C hl h hx hv
      ·exact BZ hW C hl h fun H vw h1 h2 h3 h4 h5 h6=>EF.M2 H vw C.call (bh hx) (k5 hv).2 (by rw[←px];exact h1) h2 h3 h4 h5 h6
     ·cases h
    ·cases h
   ·cases h
  ·cases h
 ·cases h
def NE (tbl:List (cq S)) (ok:Nat→Bool){A:Type}(s:ah S) (d:Nat) (c:Call) (f:FuncId) (caps:List (TV S)) (k:ah S→Option A):Option A:=
 match ss s c.args.toList with
 | some vs=>match xD (fits s [] (vs++caps)) f tbl with
  | some con=>match ow con with
   | true=>xQ con s d (vs++caps) k
   | false=>Dm ok con s d (vs++caps) k
  | none=>none
 | none=>none
def FR {A:Type}:List FuncId→FuncId→(FuncId→Option A)→Option A
 | [],_,_=>none
 | g::r,f,k=>cond (Nat.beq f g) (k g) (FR r f k)
theorem Hf {A:Type}{f:FuncId}{k:FuncId→Option A}{r:A}:∀{l:List FuncId},FR l f k=some r→k f=some r
 | [],h=>by cases h
 | g::l,h=>by
  simp only[FR] at h
  cases hb:Nat.beq f g with
  | true=>
   rw[hb] at h
   have:=aa hb
   subst this
   exact h
  | false=>rw[hb] at h;exact Hf h
def RC:List (Nat×List FuncId)→Nat→Option (List FuncId)
 | [],_=>none
 | (k,h)::r,p=>bif Nat.beq k p then some h else RC r p
def vo (tbl:List (cq S)) (ns:List (Nat×List FuncId)) (ok:Nat→Bool) (A:Type) (s:ah S) (dst:Option Nat) (c:Call) (k:ah S→Option A):Option A:=
 match dst with
 | some d=>match RC ns d with
  | some fs=>match c.callee with
   | .value x=>match cn s x with
    | some (.aF f [])=>FR fs f fun f=>NE tbl ok s d c f [] k
    | _=>none
   | _=>none
  | none=>LK tbl ok A s (some d) c k
 | none=>none
theorem IK {P:Program}{N:Nat}{tbl:List (cq S)}{ns:List (Nat×List FuncId)}(ht:∀c∈tbl,aP P c):∀(ok:Nat→Bool) (W:List Nat),(∀h,ok h=true→W.contains h=true)→∀(A:Type) (r:A),Ga P N W (vo tbl ns ok A) r:=by
 intro ok W hW A r s dst c k hl hy h ty pos after guard
 unfold vo at h
 split at h
 ·rename_i d
  split at h
  ·obtain⟨cal,args,ts⟩:=c
   dsimp only at h
   split at h
   ·rename_i x _
    split at h
    ·rename_i f hx
     have h2:=Hf h
     clear h
     unfold NE at h2
     split at h2
     ·rename_i vs hv
      split at h2
      ·rename_i con hcon
       obtain⟨hm,hf⟩:=ue hcon
       subst hf
       have C:=ht con hm
       split at h2
       ·exact IL (N:=N) C hl h2 hx hv
       ·exact BZ hW C hl h2 fun H vw h1 h2 h3 h4 h5 h6=>EF.M2 H vw C.call (bh hx) (k5 hv).2 (by rw[←px];exact h1) h2 h3 h4 h5 h6
      ·cases h2
     ·cases h2
    ·cases h
   ·cases h
  ·exact Pd (N:=N) ht ok W hW A r s (some d) c k hl hy h ty pos after guard
 ·cases h
def R5 (tbl:List (cq S)) (ns:List (Nat×List FuncId)):Cl S where
 call:=fun ok A _ s dst c k=>match wq s c with
  | true=>none
  | false=>vo tbl ns ok A s dst c k
 rf:=fun _ _ _ _ _ _=>none
theorem NB {P:Program}{N:Nat}{tbl:List (cq S)}{ns:List (Nat×List FuncId)}(ht:∀c∈tbl,aP P c):Ax P N (R5 tbl ns) where
 call:=fun ok W hW A kp r s dst c k hl hy h=>by
  have h:(match wq s c with
   | true=>none
   | false=>vo tbl ns ok A s dst c k)=some r:=h
  rw[hy] at h
  exact(IK (N:=N) ht ok W hW A r).p s dst c k hl hy h
 ct:=fun ok A kp r cx s dst c k hl hy h=>by
  have h:(match wq s c with
   | true=>none
   | false=>vo tbl ns ok A s dst c k)=some r:=h
  rw[hy] at h
  cases h
 rf:=fun cx _ key hd g _ s B K r hl h=>by cases h
theorem zQ {N:Nat}{H:List (Nat×mA)}{l:List (Nat×Array Tmp×Code×Code)}(h:isNil l=true):oN S N H l:=by
 cases l with
 | nil=>trivial
 | cons x r=>cases h
theorem aP.of {P:Program}{N fu:Nat}{H:List (Nat×mA)}{tbl:List (cq S)}{con:cq S}{fn:Func}{c:Code}(hm:P.follows .mixedOrders=true) (ht:∀c∈tbl,aP P c)
  (hf:P.funcs[con.f]?=some fn) (hcall:∀args w,(callFunc con.f args).run P w=.ok (.enter con.f args) w) (hb:fn.body=some c) (hN:fn.ntmps=N)
  (hle:tL N con.args con.aA con.outs=true)
  {mvs:List Nat}{ns:List (Nat×List FuncId)}(h:∀q,Iz P N fu H (R5 tbl ns) c mvs fn.results.toList con.args con.a6 con.aA con.outs q=con.F q) (hn:isNil (lK c 0)=true:=by kernel_rfl):aP P con:=
 aP.SQ hm (NB ht) hf hcall hb hN hle (zQ hn) h
theorem aP.law {P:Program}{con:cq S}(C:aP P con){gs:List G}{q:bl S.α (kj con.args con.a6)}{r:bl S.α (JH.dl ⟨con.aA,con.outs⟩)}(hr:con.F q=some r) (hgs:TV.er.go (eW con.args con.a6 (leaves _ q)).ln (cZ con.args (leaves _ q)).1=gs)
  (hst:(eW con.args con.a6 (leaves _ q)).er.st=[]) (hres:(lL con.aA (leaves _ r)).er (b6 (cd con.outs (cy con.aA (leaves _ r)).2).1)=.val (.bool true)) (ho:ca (b6 (cd con.outs (cy con.aA (leaves _ r)).2).1) (cd con.outs (cy con.aA (leaves _ r)).2).1=[]):
  GM P con.f gs [] (fun g st=>g=.val (.bool true)∧st=[]):=by
 have h:=C.ok q r hr
 rw[hgs,hst] at h
 exact h.mono fun g st hg=>⟨hg.1.trans hres,hg.2.trans ho⟩
end
end Go.DN
/-
 DN,part Zb:loops dm functions:rounds by ew,calls of yield.
-/
namespace Go.DN
open Go.AM
section
variable {S:eE}
theorem JM {s:ah S}{vw:Bool}{H:List Nat}{args:List Sh}{a6:List Oh}{vs:List (TV S)}{xl yl:List (br S.α)}{q:bl S.α (kj args a6)}(hx:jK s vw H args vs=some xl) (hy:nh s vw H H a6=some yl) (hq:lG (kj args a6) (xl++yl)=some q):
  cj.go H (ez s.er.st H vw) (TV.er.go s.ln vs)=some (TV.er.go (eW args a6 (leaves _ q)).ln (cZ args (leaves _ q)).1)∧fF H (ez s.er.st H vw) s.er.st H 0=some (eW args a6 (leaves _ q)).er.st:=by
 have hlq:=gd hq
 have hrest:(cZ args (leaves _ q)).2=yl:=by
  rw[hlq]
  exact(ij (lnC:=fun k=>s.ln ((H[k-1000]?).getD 0)) (fun i h hi=>by simp[ej hi]) hx yl).1
 have hst:(eW args a6 (leaves _ q)).bi=(cd (mr a6 1000) yl).1:=by
  show(cd (mr a6 1000) (cZ args (leaves _ q)).2).1++[]=_
  rw[cc,hrest]
 obtain⟨o1,o2,o3⟩:=zh 0 hy []
 rw[cc] at o1 o2 o3
 have hln:∀i h,dx H h=some i→(eW args a6 (leaves _ q)).ln (1000+i)=s.ln h:=by
  intro i h hi
  have:=o2 i h (ej hi)
  rw[bT] at this
  unfold ah.ln
  rw[hst]
  exact this
 have hargs:=(ij hln hx yl).2
 rw[←hlq] at hargs
 have hobjs:=o3 _ hln
 have hst2:(eW args a6 (leaves _ q)).er.st=ca (eW args a6 (leaves _ q)).ln (cd (mr a6 1000) yl).1:=by
  show ca _ _=_
  rw[hst]
 exact⟨hargs,by rw[hst2];exact hobjs⟩
theorem HM {s:ah S}{vw:Bool}{H js bk:List Nat}{O sb:List (Nat×TO S)}{n:Nat}{A:Type}{k:Option A}{r:A}(hO:aG O=js) (c3:apart H (aG s.bO)=true) (hf:qV s H (cM js H 0) js bk=true)
  (hsb:mO vw (jn (ca (b6 O) O) bk) (jv s.er.st (ca (b6 O) O) H 0) s.er.st O bk=some sb) (h:ng s sb (qV.minus H (cM js H 0)) k=some r):
  k=some r∧nY vw s.er H (ca (b6 O) O) bk=some (dP s H (cM js H 0) sb n).er∧(∀a b,jn (ca (b6 O) O) bk a=some b→(dP s H (cM js H 0) sb n).ln b=b6 O a):=by
 simp only[qV,aj] at hf
 obtain⟨f1,f2,f3,f4,f5⟩:=hf
 obtain⟨k1,k2⟩:=nf h
 have hkeys:aG sb=bk:=qF hsb
 have hd:∀h,h∈H→h∉cM js H 0→h∈bk:=fun h h1 h2=>mj f2 h (pu h1 h2)
 have her:=Fv (n:=n) f1 hkeys c3 (fun h h1 h2=>k2 h (pu h1 h2)) hd f3 f4 f5
 have f1':=f1
 rw[←hO] at f1'
 obtain⟨b1,b2⟩:=B7 (ln:=b6 O) f1'
 have hlnB:∀a b,jn (ca (b6 O) O) bk a=some b→(dP s H (cM js H 0) sb n).ln b=b6 O a:=by
  intro a b hab
  obtain⟨_,o,o',g1,g2,g3⟩:=zN hsb b2 a b hab
  unfold ah.ln b6
  show(match aw ((sb++j9 H s.st)++s.bO) b with | some o=>o.len | none=>0)=_
  rw[aC,di,g2,g1]
  exact g3
 have hds:dT (ca (b6 O) O) H 0=cM js H 0:=by rw[xI,hO]
 refine⟨k1,?_,hlnB⟩
 unfold nY
 have hb:kl vw (jn (ca (b6 O) O) bk) (jv s.er.st (ca (b6 O) O) H 0) s.er.st (ca (b6 O) O) bk=some (ca (dP s H (cM js H 0) sb n).ln sb):=rz hlnB hsb
 have hdf:s.er.df.all (fun g=>!(pb (dT (ca (b6 O) O) H 0) g))=true:=by
  rw[hds];exact xN f5
 show(bif oo s.er H (ca (b6 O) O) bk&&s.er.df.all (fun g=>!(pb (dT (ca (b6 O) O) H 0) g)) then _ else none)=_
 rw[b1,hdf]
 show(match kl vw (jn (ca (b6 O) O) bk) (jv s.er.st (ca (b6 O) O) H 0) s.er.st (ca (b6 O) O) bk with
  | some sb=>some ({fr:=mg (dT (ca (b6 O) O) H 0) s.er.fr,st:=sb++fq (dT (ca (b6 O) O) H 0) (fA H s.er.st),df:=s.er.df}:St)
  | none=>none)=_
 rw[hb,hds,her]
def tK (lv:Bool):List (Nat×Sh):=match lv with
 | true=>[(0,.ab true (.int .i64))]
 | false=>[]
def K5 (lv:Bool) (n:Int):List (br S.α):=match lv with
 | true=>[⟨.int .i64,n⟩]
 | false=>[]
def EY (lv:Bool) (ls:List (br S.α)):Int:=match lv with
 | true=>match ls with
  | ⟨.int _,n⟩::_=>n
  | _=>0
 | false=>0
theorem MP {lv:Bool}(h:lv=false) (ls:List (br S.α)):EY lv ls=0:=by subst h;rfl
structure pe (S:eE) where
 key:Nat
 args:List Sh
 cells:List Sh
 a6:List Oh
 outs:List (Nat×Oh)
 lv:Bool
 F:bl S.α (kj (args++cells) a6)→Option (bl S.α (JH.dl ⟨tK lv,outs⟩))
def oH (Y:pe S) (r:bl S.α (JH.dl ⟨tK Y.lv,Y.outs⟩)):List (Nat×TO S):=(cd Y.outs (cy (tK Y.lv) (leaves _ r)).2).1
def AE (Y:pe S) (q:bl S.α (kj (Y.args++Y.cells) Y.a6)):List (TV S):=(cZ (Y.args++Y.cells) (leaves _ q)).1
structure Dx (P:Program) (Y:pe S):Prop where
 ps:(S.eV Y.key).ps.size=Y.args.length∧n4 (S.eV Y.key).ps.toList=true∧(S.eV Y.key).ps.toList.all (Nat.blt · (S.eV Y.key).N)=true
 ok:∀q r,Y.F q=some r→GY P (S.lp Y.key 0) (TV.er.go (eW (Y.args++Y.cells) Y.a6 (leaves _ q)).ln ((AE Y q).drop Y.args.length)) (TV.er.go (eW (Y.args++Y.cells) Y.a6 (leaves _ q)).ln ((AE Y q).take Y.args.length))
  (eW (Y.args++Y.cells) Y.a6 (leaves _ q)).er.st (fun j st'=>j=Bz (S.eV Y.key).id (EY Y.lv (leaves _ r))∧st'=ca (b6 (oH Y r)) (oH Y r))
def F3 (key:Nat):List (pe S)→Option (pe S)
 | []=>none
 | y::r=>match Nat.beq y.key key with
  | true=>some y
  | false=>F3 key r
theorem Ig {key:Nat}:∀{l:List (pe S)}{y:pe S},F3 key l=some y→y∈l∧y.key=key
 | [],_,h=>by cases h
 | x::r,y,h=>by
  simp only[F3] at h
  split at h
  ·rename_i hb
   cases h
   exact⟨au,aa hb⟩
  ·obtain⟨h1,h2⟩:=Ig h
   exact⟨ao _ h1,h2⟩
def Rw (lv:Bool) (n:Int){A:Type}(k:Option A):Option A:=match lv with
 | true=>(bo (n=0)).bind fun _=>k
 | false=>match decEq n 0 with
  | isTrue _=>k
  | isFalse _=>none
theorem Rv {lv:Bool}{n:Int}{A:Type}{k:Option A}{r:A}(h:Rw lv n k=some r):n=0∧k=some r:=by
 unfold Rw at h
 split at h
 ·obtain⟨_,h1,h2⟩:=bind_some h
  exact⟨cm h1,h2⟩
 ·split at h
  ·rename_i e _;exact⟨e,h⟩
  ·cases h
def F4 (t:ah S) (h key:Nat) (cs:List (TV S)) (d:Nat) (lv:Bool) (n:Int){A:Type}(k:ah S→Option A):Option A:=match lv with
 | true=>cond (n==0) (k ((t.set h (.lp key 0 cs)).put d (.ab true .bool true))) (k ((t.set h (.lp key n cs)).put d (.ab true .bool false)))
 | false=>k ((t.set h (.lp key 0 cs)).put d (.ab true .bool true))
def Gc (ys:List (pe S)) (N:Nat) (A:Type) (s:ah S) (dst:Option Nat) (c:Call) (k:ah S→Option A):Option A:=
 match dst with
 | some d=>match Nat.blt d N with
  | true=>match c.callee with
   | .value x=>match cn s x with
    | some (.ct h)=>match aw s.st h with
     | some (.lp key n cs)=>match ss s c.args.toList with
      | some vs=>match F3 key ys with
       | some Y=>Rw Y.lv n (match yQ s.bi Y.a6 1000 (sX (Y.args++Y.cells) (vs++cs)) with
        | some H=>match n4 H&&(apart H (aG s.bO)&&(!(bw h H)&&Nat.beq vs.length Y.args.length)) with
         | true=>match jK s false H (Y.args++Y.cells) (vs++cs) with
          | some xs=>match nh s false H H Y.a6 with
           | some ys=>match lG (kj (Y.args++Y.cells) Y.a6) (xs++ys) with
            | some q=>(Y.F q).bind fun r=>match NG s H d (aG Y.outs) [] with
             | some bk=>match qV s H (cM (aG Y.outs) H 0) (aG Y.outs) bk with
              | true=>match mO false (jn (ca (b6 (oH Y r)) (oH Y r)) bk) (jv s.er.st (ca (b6 (oH Y r)) (oH Y r)) H 0) s.er.st (oH Y r) bk with
               | some sb=>ng s sb (qV.minus H (cM (aG Y.outs) H 0)) (match Y.lv with
                | true=>F4 (dP s H (cM (aG Y.outs) H 0) sb Y.outs.length) h key cs d true (EY Y.lv (leaves _ r)) k
                | false=>F4 (dP s H (cM (aG Y.outs) H 0) sb Y.outs.length) h key cs d false 0 k)
               | none=>none
              | false=>none
             | none=>none
            | none=>none
           | none=>none
          | none=>none
         | false=>none
        | none=>none)
       | none=>none
      | none=>none
     | _=>none
    | _=>none
   | _=>none
  | false=>none
 | none=>none
theorem H9 {H:List Nat}{stv:List (Nat×ap)}:∀{a b c:List G},cj.go H stv (a++b)=some c→cj.go H stv a=some (c.take a.length)∧cj.go H stv b=some (c.drop a.length)
 | [],b,c,h=>⟨rfl,h⟩
 | g::a,b,c,h=>by
  simp only[bx,cj.go] at h
  split at h
  ·rename_i g' r' h1 h2
   cases h
   obtain⟨i1,i2⟩:=H9 h2
   refine⟨?_,i2⟩
   simp only[cj.go,h1,i1,bA,List.take_succ_cons]
  ·cases h
theorem M7 {id:Nat}{n:Int}:(Bz id n).isNone=(n==0):=by
 unfold Bz
 cases n==0 with
 | true=>rfl
 | false=>cases n==1 <;> rfl
theorem Nq (ln:Nat→Nat) (l:List (TV S)):(TV.er.go ln l).length=l.length:=by rw[cU,aW]
theorem PT {P:Program}{N:Nat}{ys:List (pe S)}(hy:∀y∈ys,Dx P y) (ok:Nat→Bool) (A:Type) (r:A):Pv P N (Gc ys N A) r:=by
 intro cx s dst c k hl hisy h ty pos after ops rest Q hk
 obtain⟨cal,args,ts⟩:=c
 unfold Gc at h
 split at h
 rotate_left
 ·cases h
 rename_i d
 split at h
 rotate_left
 ·cases h
 rename_i hdN
 dsimp only at h
 split at h
 rotate_left
 ·cases h
 rename_i x
 split at h
 rotate_left
 ·cases h
 rename_i hh hx
 split at h
 rotate_left
 ·cases h
 rename_i key n cs ho
 split at h
 rotate_left
 ·cases h
 rename_i vs hvs
 split at h
 rotate_left
 ·cases h
 rename_i Y hY
 have hon:=Rv h
 clear h
 obtain⟨hn0,h⟩:=hon
 subst hn0
 obtain⟨hYm,hYk⟩:=Ig hY
 have C:=hy Y hYm
 subst hYk
 split at h
 rotate_left
 ·cases h
 rename_i H hH
 split at h
 rotate_left
 ·cases h
 rename_i hc
 simp only[aj,a8] at hc
 obtain⟨c1,c3,c4,c5⟩:=hc
 have c5:=aa c5
 split at h
 rotate_left
 ·cases h
 rename_i xl hxl
 split at h
 rotate_left
 ·cases h
 rename_i yl hyl
 split at h
 rotate_left
 ·cases h
 rename_i q hq
 obtain⟨hin,hst⟩:=JM hxl hyl hq
 rw[px] at hin
 obtain⟨hinA,hinC⟩:=H9 hin
 rw[Nq,c5] at hinA hinC
 obtain⟨res,h1,h2⟩:=bind_some h
 have hcon:=C.ok q res h1
 have hoA:aw s.bi hh=some (.lp Y.key 0 cs):=Hs ho
 have htk:∀ln,TV.er.go ln ((AE Y q).take Y.args.length)=(TV.er.go ln (AE Y q)).take Y.args.length:=fun ln=>by rw[cU,cU,List.map_take]
 have hdr:∀ln,TV.er.go ln ((AE Y q).drop Y.args.length)=(TV.er.go ln (AE Y q)).drop Y.args.length:=fun ln=>by rw[cU,cU,List.map_drop]
 rw[htk,hdr] at hcon
 split at h2
 rotate_left
 ·cases h2
 rename_i bk hbk
 split at h2
 rotate_left
 ·cases h2
 rename_i hf
 split at h2
 rotate_left
 ·cases h2
 rename_i sb hsb
 have hO:aG (oH Y res)=aG Y.outs:=jP _ _
 obtain⟨k1,hback,_⟩:=HM (n:=Y.outs.length) hO c3 hf hsb h2
 have hidx:dx H hh=none:=by
  cases hi:dx H hh with
  | none=>rfl
  | some i=>rw[bQ.2 (ar (ej hi))] at c4;cases c4
 have hlp:aw (dP s H (cM (aG Y.outs) H 0) sb Y.outs.length).st hh=some (.lp Y.key 0 cs):=by
  show aw (sb++j9 H s.st) hh=_
  have hnb:hh∉bk:=fun hm=>by
   simp only[qV,aj] at hf
   rcases zK hf.1 hh hm with h1 | h1
   ·rw[bQ.2 h1] at c4;cases c4
   ·rw[(free_spec h1).1] at hoA;cases hoA
  rw[di,lj (by rw[qF hsb];exact hnb),xd hidx]
  exact ho
 have fin:∀(lv:Bool) (nn:Int),EY Y.lv (leaves _ res)=nn→F4 (dP s H (cM (aG Y.outs) H 0) sb Y.outs.length) hh Y.key cs d lv nn k=some r→(lv=false→nn=0)→
   GL P N cx ops Q rest (({(dP s H (cM (aG Y.outs) H 0) sb Y.outs.length).er with st:=bD (dP s H (cM (aG Y.outs) H 0) sb Y.outs.length).er.st hh {((TO.lp Y.key 0 cs:TO S).er (dP s H (cM (aG Y.outs) H 0) sb Y.outs.length).ln) with lp:=some (.loop (S.lp Y.key nn))}}:St).put d (.val (.bool (nn==0)))):=by
  intro lv nn hnn hend hlv
  have ht1:(dP s H (cM (aG Y.outs) H 0) sb Y.outs.length).last=[]:=rfl
  have ht2:bF s (dP s H (cM (aG Y.outs) H 0) sb Y.outs.length):=⟨rfl,rfl,rfl⟩
  generalize dP s H (cM (aG Y.outs) H 0) sb Y.outs.length=t at hlp hend ht1 ht2⊢
  have step:∀m:Int,m=nn→k ((t.set hh (.lp Y.key m cs)).put d (.ab true .bool (nn==0)))=some r→
    GL P N cx ops Q rest (({t.er with st:=bD t.er.st hh {((TO.lp Y.key 0 cs:TO S).er t.ln) with lp:=some (.loop (S.lp Y.key nn))}}:St).put d (.val (.bool (nn==0)))):=by
   intro m hm hkr
   subst hm
   obtain⟨s1,s2⟩:=lc (o':=(.lp Y.key m cs:TO S)) hlp rfl
   have hli:a5 (t.set hh (.lp Y.key m cs)):=gJ (by show yR hh t.last=[];rw[ht1];rfl)
   have:=hk _ (hli.put d _) ⟨ht2.lo,ht2.bO,ht2.df⟩ hkr
   rw[fE,s1] at this
   have e:(TV.ab true .bool (m==0):TV S).er (t.set hh (.lp Y.key m cs)).ln=.val (.bool (m==0)):=gf true _
   rw[e] at this
   exact this
  cases lv with
  | false=>
   have:=hlv rfl
   subst this
   exact step 0 rfl hend
  | true=>
   simp only[F4] at hend
   cases hb:nn==0 with
   | true=>
    rw[hb] at hend step
    have e:nn=0:=by simpa using hb
    exact step 0 e.symm hend
   | false=>
    rw[hb] at hend step
    exact step nn rfl hend
 have hx':=bh hx
 refine GL.ct (lp:=S.lp Y.key 0) H bk hx' (k5 hvs).2 (show aq s.er.st hh=some _ from fM hoA) rfl rfl hidx hinA hinC hst c1 (by
   rw[aX,Nq]
   have:(AE Y q).length=(Y.args++Y.cells).length:=zt _ _
   show min Y.args.length (AE Y q).length=(S.eV Y.key).ps.size
   rw[this,C.ps.1,ak]
   omega) C.ps.2.1 C.ps.2.2 hcon rfl hdN ?_
 rintro j st' ⟨rfl,rfl⟩
 refine⟨_,hback,_,fM (dU hlp),?_,(EY Y.lv (leaves _ res)==0),M7,?_⟩
 ·rfl
 ·split at k1
  ·rename_i hlv
   exact fin true _ rfl k1 (fun h=>by cases h)
  ·rename_i hlv
   have e0:EY Y.lv (leaves _ res)=0:=MP hlv _
   have:=fin false 0 e0 k1 (fun _=>rfl)
   rw[e0]
   exact this
end
end Go.DN
/-
 DN,part Zc:rounds out of a run of their code;the loop itself.
-/
namespace Go.DN
open Go.AM
section
variable {S:eE}
def A6:List Nat→List (TV S)→List (Nat×TV S)
 | t::ts,v::vs=>(t,v)::A6 ts vs
 | _,_=>[]
theorem DD (ln:Nat→Nat):∀(ts:List Nat) (vs:List (TV S)),gi ln (A6 ts vs)=oe ts (TV.er.go ln vs)
 | [],_=>rfl
 | _::_,[]=>rfl
 | t::ts,v::vs=>by simp only[A6,gi,TV.er.go,oe,DD ln ts vs]
theorem J7 (ln:Nat→Nat):∀(a b:List (Nat×TV S)),gi ln (a++b)=gi ln a++gi ln b
 | [],_=>rfl
 | (t,v)::r,b=>by simp only[bx,gi,J7 ln r b]
def Sa (L:PR) (args cells:List Sh) (a6:List Oh) (ls:List (br S.α)):ah S:=
 {fr:=A6 L.ps.toList ((cZ (args++cells) ls).1.take args.length)++A6 L.aA ((cZ (args++cells) ls).1.drop args.length),lo:=[],st:=(cd (mr a6 1000) (cZ (args++cells) ls).2).1,bO:=[],df:=[],nx:=300,last:=[]}
def Iv (P:Program) (t:ah S) (lv:Bool) (n:Int) (outs:List (Nat×Oh)):Option (bl S.α (JH.dl ⟨tK lv,outs⟩)):=
 match lv||n==0 with
 | true=>match Ej P t [] [] outs with
  | some q=>lG (JH.dl ⟨tK lv,outs⟩) (K5 lv n++leaves _ q)
  | none=>none
 | false=>none
noncomputable def R0 (P:Program) (fu:Nat) (H:List (Nat×mA)) (cl:Cl S) (L:PR) (mvs:List Nat) (args cells:List Sh) (a6:List Oh) (outs:List (Nat×Oh)) (lv:Bool) (q:bl S.α (kj (args++cells) a6)):Option (bl S.α (JH.dl ⟨tK lv,outs⟩)):=
 match CP mvs (Sa L args cells a6 (leaves _ q)) with
 | some s=>gI P L.N fu H cl L.ly 0 s _ fun e t=>match e with
  | .normal=>gI P L.N fu H cl L.body (jA L.ly) t _ fun e t=>match e with
   | .normal=>Iv P t lv 0 outs
   | .exit id=>match Nat.beq id L.id with
    | true=>Iv P t lv 1 outs
    | false=>none
   | .ret=>Iv P t lv 2 outs
   | _=>none
  | _=>none
 | none=>none
theorem Oo {lv : Bool} {n : Int} (h : (lv || n == 0) = true) (r : List (br S.α)) : EY lv (K5 lv n ++ r) = n := by
  cases lv with
  | true => rfl
  | false => have : n = 0 := by simpa using h
             rw [this]; rfl
theorem Nm (lv:Bool) (n:Int) (r:List (br S.α)):(cy (tK lv) (K5 lv n++r)).2=r:=by cases lv <;> rfl
theorem Dx.of {P:Program}{fu:Nat}{H:List (Nat×mA)}{tbl:List (cq S)}{Y:pe S}(hm:P.follows .mixedOrders=true) (ht:∀c∈tbl,aP P c)
  (hps:(Nat.beq (S.eV Y.key).ps.size Y.args.length&&(n4 (S.eV Y.key).ps.toList&&((S.eV Y.key).ps.toList.all (Nat.blt · (S.eV Y.key).N)&&MO (aG Y.outs))))=true)
  (hna:isNil (lK (S.eV Y.key).ly 0)=true) (hnb:isNil (lK (S.eV Y.key).body (jA (S.eV Y.key).ly))=true)
  {mvs:List Nat}{ns:List (Nat×List FuncId)}(h:∀q,R0 P fu H (R5 tbl ns) (S.eV Y.key) mvs Y.args Y.cells Y.a6 Y.outs Y.lv q=Y.F q):Dx P Y:=by
 simp only[aj] at hps
 obtain⟨p1,p2,p3,p4⟩:=hps
 have hcl:=NB (N:=(S.eV Y.key).N) (ns:=ns) ht
 have nilA:lK (S.eV Y.key).ly 0=[]:=by cases hx:lK (S.eV Y.key).ly 0 with | nil=>rfl | cons x r=>rw[hx] at hna;cases hna
 have nilB:lK (S.eV Y.key).body (jA (S.eV Y.key).ly)=[]:=by cases hx:lK (S.eV Y.key).body (jA (S.eV Y.key).ly) with | nil=>rfl | cons x r=>rw[hx] at hnb;cases hnb
 refine⟨⟨aa p1,p2,p3⟩,fun q r hr=>?_⟩
 have hr:=(h q).trans hr
 refine GY.of (ly:=(S.eV Y.key).ly) (body:=(S.eV Y.key).body) rfl rfl fun cx=>?_
 have e0:(⟨oe (S.lp Y.key 0).ps.toList (TV.er.go (eW (Y.args++Y.cells) Y.a6 (leaves _ q)).ln ((AE Y q).take Y.args.length))++oe (S.lp Y.key 0).aA (TV.er.go (eW (Y.args++Y.cells) Y.a6 (leaves _ q)).ln ((AE Y q).drop Y.args.length)),
   (eW (Y.args++Y.cells) Y.a6 (leaves _ q)).er.st,[]⟩:St)=(Sa (S.eV Y.key) Y.args Y.cells Y.a6 (leaves _ q)).er:=by
  show _=St.mk (gi _ ((A6 _ _++A6 _ _)++[])) _ _
  rw[cc,J7,DD,DD]
  rfl
 rw[e0]
 unfold R0 at hr
 split at hr
 rotate_left
 ·cases hr
 rename_i s0 hmv
 refine Bt (gJ rfl) hmv fun hl0=>?_
 refine jy hm hcl _ 0 (zQ hna) (.inl nilA) _ _ _ r hl0 hr _ fun e t hlt hk hK=>?_
 split at hK
 rotate_left
 ·cases hK
 refine⟨rfl,fun cx'=>?_⟩
 refine GW.CA (Q':=fun e s'=>∃n:Int,∃t:ah S,Gh s' t.er∧a5 t∧Iv P t Y.lv n Y.outs=some r∧((e=.normal∧n=0)∨(e=.exit (S.eV Y.key).id∧n=1)∨(e=.ret∧n=2)))
  (jy hm hcl _ _ (zQ hnb) (.inl nilB) _ _ _ r hlt hK _ fun e t hlt hk hK=>?_) fun e s' hq=>?_
 ·split at hK
  ·exact⟨0,t,Gh.refl _,hlt,hK,.inl ⟨rfl,rfl⟩⟩
  ·split at hK
   ·rename_i hb
    have:=aa hb
    subst this
    exact⟨1,t,Gh.refl _,hlt,hK,.inr (.inl ⟨rfl,rfl⟩)⟩
   ·cases hK
  ·exact⟨2,t,Gh.refl _,hlt,hK,.inr (.inr ⟨rfl,rfl⟩)⟩
  ·cases hK
 ·obtain⟨n,t,hg0,hlt,hE,he⟩:=hq
  unfold Iv at hE
  split at hE
  rotate_left
  ·cases hE
  rename_i hlv
  split at hE
  rotate_left
  ·cases hE
  rename_i q' hq'
  obtain⟨u,hg,hdf,_,O',eu,hln,hown⟩:=J8 hlt hq'
  have hls:=gd hE
  have hn:EY Y.lv (leaves _ r)=n:=by rw[hls];exact Oo hlv _
  have hO:oH Y r=(cd Y.outs (leaves _ q')).1:=by unfold oH;rw[hls,Nm]
  have hout:(cd Y.outs (cy [] (leaves (JH.dl ⟨[],Y.outs⟩) q')).2).1=(cd Y.outs (leaves _ q')).1:=rfl
  rw[hout] at eu hln
  have hk:aG (cd Y.outs (leaves (JH.dl ⟨[],Y.outs⟩) q')).1=aG Y.outs:=jP _ _
  have hsub:kr u.er.st (ca (b6 (oH Y r)) (oH Y r)):=by
   rw[hO]
   refine Bb fun j o hm=>?_
   have e1:aw (cd Y.outs (leaves (JH.dl ⟨[],Y.outs⟩) q')).1 j=some o:=D0 (by rw[hk];exact p4) j o hm
   have e2:aw u.bi j=some o:=by rw[eu,di,e1]
   rw[show aq u.er.st j=_ from fM e2]
   have hj:o.er u.ln=o.er (b6 (cd Y.outs (leaves (JH.dl ⟨[],Y.outs⟩) q')).1):=TO.lu hln o (ta (aG Y.outs) Y.outs _ hown j o e1)
   rw[hj]
  refine⟨u.er,hg0.trans hg,?_⟩
  ·refine⟨hdf,_,hsub,?_⟩
   rcases he with ⟨h,h2⟩ | ⟨h,h2⟩ | ⟨h,h2⟩
   ·subst h;subst h2
    exact⟨by rw[hn];rfl,rfl⟩
   ·subst h;subst h2
    exact⟨by rw[hn];rfl,rfl⟩
   ·subst h;subst h2
    exact⟨by rw[hn];rfl,rfl⟩
end
end Go.DN
/-
 DN,part Zd:the loop dm a function;contracts of functions that have such loops,or that go through them.
-/
namespace Go.DN
open Go.AM
section
variable {S:eE}
def FM (fr:List (Nat×TV S)):List Nat→Option (List (TV S))
 | []=>some []
 | t::r=>match bg fr t with
  | some v=>match FM fr r with
   | some vs=>some (v::vs)
   | none=>none
  | none=>none
theorem Gr {fr:List (Nat×TV S)}(ln:Nat→Nat):∀{ts:List Nat}{vs:List (TV S)},FM fr ts=some vs→getAll (gi ln fr) ts=some (TV.er.go ln vs)
 | [],vs,h=>by cases h;rfl
 | t::r,vs,h=>by
  simp only[FM] at h
  split at h
  ·rename_i v hv
   split at h
   ·rename_i vs' hvs
    cases h
    simp only[getAll,fh hv,Gr ln hvs,TV.er.go]
   ·cases h
  ·cases h
def G2 (k:Nat):List (Nat×TO S)→List (Nat×TO S)
 | []=>[]
 | (h,o)::r=>bif Nat.beq h k then G2 k r else(h,o)::G2 k r
theorem DQ {k:Nat}:∀{st:List (Nat×TO S)}{h:Nat},aw (G2 k st) h=bif Nat.beq k h then none else aw st h
 | [],h=>by cases Nat.beq k h <;> rfl
 | (x,o)::r,h=>by
  simp only[G2]
  cases hx:Nat.beq x k with
  | true=>
   have e:=aa hx
   subst e
   rw[cond_true,DQ]
   cases hb:Nat.beq x h with
   | true=>rfl
   | false=>simp only[aw,hb,cond_false]
  | false=>
   rw[cond_false]
   simp only[aw]
   rw[DQ]
   cases hb:Nat.beq x h with
   | true=>
    have e:=aa hb
    subst e
    have:Nat.beq k x=false:=by
     cases hq:Nat.beq k x with
     | false=>rfl
     | true=>have:=aa hq;subst this;rw[aI] at hx;cases hx
    rw[this];rfl
   | false=>rfl
def Tb (con:cq S):Bool:=match con.a6 with
 | .lp _ lv _::_=>lv
 | _=>false
def LC (con:cq S) (id:Nat) (t:ah S) (n:Int){A:Type}(K:Exit→ah S→Option A):Option A:=match Tb con with
 | true=>cond (n==0) (K .normal t) (cond (n==1) (K (.exit id) t) (K .ret t))
 | false=>match decEq n 0 with
  | isTrue _=>K .normal t
  | isFalse _=>none
theorem O0 {con:cq S}{id:Nat}{t:ah S}{n:Int}{A:Type}{K:Exit→ah S→Option A}{r:A}(h:LC con id t n K=some r){R:Exit→St→Prop}{s:St}(hR:∀e,(∀ch,e≠.panic ch)→K e t=some r→R e s):F9 R s (Bz id n):=by
 unfold LC at h
 split at h
 ·unfold Bz
  cases h0:n==0 with
  | true=>rw[h0] at h;exact hR _ (fun ch e=>by cases e) h
  | false=>
   rw[h0] at h
   cases h1:n==1 with
   | true=>rw[h1] at h;exact hR _ (fun ch e=>by cases e) h
   | false=>rw[h1] at h;exact hR _ (fun ch e=>by cases e) h
 ·split at h
  ·rename_i e _
   subst e
   exact hR _ (fun ch e=>by cases e) h
  ·cases h
def G9 (tbl:List (cq S)) (key hd:Nat) (s:ah S) (g:Operand) (A:Type) (K:Exit→ah S→Option A):Option A:=
 match cn s g with
 | some (.aF f caps)=>match FM s.bZ (S.eV key).aA with
  | some cs=>match s.free hd&&!(TV.has.go hd cs) with
   | true=>match xD (fits (s.add hd (.lp key 0 cs)) [] (.ct hd::caps)) f tbl with
    | some con=>match yQ (s.add hd (.lp key 0 cs)).bi con.a6 1000 (sX con.args (.ct hd::caps)) with
     | some H=>match n4 H&&(apart H (aG s.bO)&&bw hd H) with
      | true=>match jK (s.add hd (.lp key 0 cs)) con.vw H con.args (.ct hd::caps) with
       | some xs=>match nh (s.add hd (.lp key 0 cs)) con.vw H H con.a6 with
        | some ys=>match lG (kj con.args con.a6) (xs++ys) with
         | some q=>(con.F q).bind fun r=>match NG (s.add hd (.lp key 0 cs)) H hd (aG con.outs) [] with
          | some bk=>match qV (s.add hd (.lp key 0 cs)) H (cM (aG con.outs) H 0) (aG con.outs) bk&&!(bw hd (cM (aG con.outs) H 0)) with
           | true=>match PQ (s.add hd (.lp key 0 cs)) H con r bk with
            | some sb=>ng (s.add hd (.lp key 0 cs)) sb (qV.minus H (cM (aG con.outs) H 0)) (match aw (dP (s.add hd (.lp key 0 cs)) H (cM (aG con.outs) H 0) sb con.outs.length).st hd with
             | some (.lp key' n _)=>match Nat.beq key' key&&!(bw hd (aG s.bO)) with
              | true=>LC con (S.eV key).id {dP (s.add hd (.lp key 0 cs)) H (cM (aG con.outs) H 0) sb con.outs.length with st:=G2 hd (dP (s.add hd (.lp key 0 cs)) H (cM (aG con.outs) H 0) sb con.outs.length).st} n K
              | false=>none
             | _=>none)
            | none=>none
           | false=>none
          | none=>none
         | none=>none
        | none=>none
       | none=>none
      | false=>none
     | none=>none
    | none=>none
   | false=>none
  | none=>none
 | _=>none
theorem Em {H js:List Nat}{hd:Nat}(h:bw hd (cM js H 0)=false):(cM js H 0).contains hd=false:=by rw[sy];exact h
theorem MG {P:Program}{N:Nat}{tbl:List (cq S)}(ht:∀c∈tbl,aP P c) (cx:Cx) (hro:cx.ro=none) (key hd:Nat) (g:Operand) (hN:(S.eV key).N=N) (s:ah S) (B:Type) (K:Exit→ah S→Option B) (r:B) (hl:a5 s) (h:G9 tbl key hd s g B K=some r)
  (Q:Exit→St→Prop) (hQ:∀e t,a5 t→bF s t→K e t=some r→(∀ch,e≠.panic ch)→Q e t.er):GW P N cx (.rangeFunc g (S.eV key).ps (S.eV key).ly (S.eV key).body) Q s.er:=by
 unfold G9 at h
 split at h
 rotate_left
 ·cases h
 rename_i f caps hg
 split at h
 rotate_left
 ·cases h
 rename_i cs hcs
 split at h
 rotate_left
 ·cases h
 rename_i hfree
 simp only[aj,a8] at hfree
 obtain⟨hfr,hnh⟩:=hfree
 obtain⟨ha1,ha2⟩:=oE hfr (.lp key 0 cs:TO S) hnh
 split at h
 rotate_left
 ·cases h
 rename_i con hcon
 obtain⟨hm,hf⟩:=ue hcon
 subst hf
 have C:=ht con hm
 generalize hs1:s.add hd (.lp key 0 cs)=s1 at h ha1 ha2
 have hlst:s1.bO=s.bO:=by rw[←hs1];rfl
 have hlo:s1.lo=s.lo:=by rw[←hs1];rfl
 have hdf:s1.df=s.df:=by rw[←hs1];rfl
 have hoh:aw s1.bi hd=some (.lp key 0 cs):=by rw[←hs1];show(bif Nat.beq hd hd then some (TO.lp key 0 cs) else aw s.bi hd)=_;rw[aI];rfl
 split at h
 rotate_left
 ·cases h
 rename_i H hH
 split at h
 rotate_left
 ·cases h
 rename_i hc
 simp only[aj] at hc
 obtain⟨c1,c3,c4⟩:=hc
 rw[←hlst] at c3
 split at h
 rotate_left
 ·cases h
 rename_i xl hxl
 split at h
 rotate_left
 ·cases h
 rename_i yl hyl
 split at h
 rotate_left
 ·cases h
 rename_i q hq
 obtain⟨hin,hst⟩:=JM hxl hyl hq
 obtain⟨res,h1,h2⟩:=bind_some h
 have hcn:=C.ok q res h1
 split at h2
 rotate_left
 ·cases h2
 rename_i bk hbk
 split at h2
 rotate_left
 ·cases h2
 rename_i hff
 simp only[aj,a8] at hff
 obtain⟨hfit,cR⟩:=hff
 split at h2
 rotate_left
 ·cases h2
 rename_i sb hsb
 have hO:aG (dX con res)=aG con.outs:=xt con res
 obtain⟨k1,hback,_⟩:=HM (n:=con.outs.length) hO c3 hfit hsb h2
 generalize hT:dP s1 H (cM (aG con.outs) H 0) sb con.outs.length=T at k1 hback
 have hTl:T.last=[]:=by rw[←hT];rfl
 have hTk:bF s1 T:=by rw[←hT];exact⟨rfl,rfl,rfl⟩
 split at k1
 rotate_left
 ·cases k1
 rename_i key' n cs' hlp
 split at k1
 rotate_left
 ·cases k1
 rename_i hk
 simp only[aj,a8] at hk
 obtain⟨hk,hnl⟩:=hk
 have e1:=aa hk
 subst e1
 have hlpA:aw T.bi hd=some (.lp key' n cs'):=dU hlp
 have hnl':aw T.bO hd=none:=by
  refine lj fun hm=>?_
  rw[hTk.bO,hlst] at hm
  rw[bQ.2 hm] at hnl;cases hnl
 generalize hU:({T with st:=G2 hd T.st}:ah S)=U at k1
 have hUst:∀k,aw U.bi k=bif Nat.beq hd k then none else aw T.bi k:=by
  intro k
  rw[←hU]
  show aw (G2 hd T.st++T.bO) k=_
  rw[di,DQ]
  show _=bif Nat.beq hd k then none else aw (T.st++T.bO) k
  rw[di]
  cases hb:Nat.beq hd k with
  | true=>have:=aa hb;subst this;exact hnl'
  | false=>rfl
 have hUln:U.ln=T.ln:=by
  funext k
  show b6 U.bi k=b6 T.bi k
  unfold b6
  rw[hUst]
  cases hb:Nat.beq hd k with
  | true=>have:=aa hb;subst this;rw[hlpA];rfl
  | false=>rfl
 have hUfr:U.bZ=T.bZ:=by subst hU;rfl
 have hUdf:U.df=T.df:=by subst hU;rfl
 have hsgU:∀k b,aq U.er.st k=some b→aq T.er.st k=some b:=by
  intro k b hb
  obtain⟨o,ho,rfl⟩:=pk hb
  rw[hUst] at ho
  cases hq:Nat.beq hd k with
  | true=>rw[hq] at ho;cases ho
  | false=>
   rw[hq] at ho
   rw[show aq T.er.st k=_ from fM ho,hUln]
 have hUE:LQ T.er U.er:=by
  refine⟨fun t g hg'=>?_,hsgU,?_⟩
  ·have:U.er.fr=T.er.fr:=by show gi U.ln U.bZ=gi T.ln T.bZ;rw[hUln,hUfr]
   rw[this] at hg';exact hg'
  ·show TV.er.go T.ln T.df=TV.er.go U.ln U.df
   rw[hUln,hUdf]
 have hUn:aq U.er.st hd=none:=by
  refine pJ ?_
  rw[hUst,aI];rfl
 have hcaps:TV.er.go s.ln caps=TV.er.go s1.ln caps:=by
  have e1:=bh hg
  have hg1:cn s1 g=some (.aF con.f caps):=by
   rw[←hg,←hs1]
   cases g <;> rfl
  have e2:=bh hg1
  have hfe:s1.er.fr=s.er.fr:=by rw[ha1]
  have e3:ev s1.er g=ev s.er g:=by
   cases g with
   | tmp t=>show AM.get s1.er.fr t=AM.get s.er.fr t;rw[hfe]
   | _=>rfl
  rw[e3,e1] at e2
  have:=kA e2
  simp only[TV.er,G.aF.injEq] at this
  exact this.2
 subst hN
 have hst0:s1.er.st=(hd,s9 (TV.er.go s.ln cs) (S.lp key' 0))::s.er.st:=by rw[ha1];rfl
 have hs1e:s1.er={fr:=s.er.fr,st:=(hd,s9 (TV.er.go s.ln cs) (S.lp key' 0))::s.er.st,df:=s.er.df}:=by rw[ha1];rfl
 refine GW.rangeFunc (f0:=0) (f:=con.f) (caps:=TV.er.go s.ln caps) (cells:=TV.er.go s.ln cs) hro (fun j=>⟨0,(S.eV key').N,(S.eV key').aA,(S.eV key').ps,(S.eV key').ly,(S.eV key').body,j⟩) hd (S.eV key').aA H con.vw bk
  (fun _=>rfl) (bh hg) C.call (Gr s.ln hcs) (gq hfr) ?_ c1 (bQ.1 c4) hcn ?_ ?_
 ·have:=hst
  rw[hst0] at this
  exact this
 ·have:=hin
  rw[hst0] at this
  rw[hcaps]
  exact this
 ·rintro r' st' ⟨_,rfl⟩
  refine⟨T.er,U.er,Bz (S.eV key').id n,_,?_,?_,fM hlpA,rfl,hUE,hUn,?_⟩
  ·show nY con.vw ⟨s.er.fr,(hd,s9 (TV.er.go s.ln cs) (S.lp key' 0))::s.er.st,s.er.df⟩ H _ bk=_
   rw[←hs1e];exact hback
  ·show(dT (ca (b6 (dX con res)) (dX con res)) H 0).contains hd=false
   rw[xI,hO]
   exact Em cR
  ·refine O0 k1 fun e hp hK=>hQ e U (gJ (by rw[←hU];exact hTl)) ⟨?_,?_,?_⟩ hK hp
   ·rw[←hU];exact hTk.lo.trans hlo
   ·rw[←hU];exact hTk.bO.trans hlst
   ·rw[←hU];exact hTk.df.trans hdf
def SR (N:Nat) (tbl tbr:List (cq S)) (ys:List (pe S)) (ns:List (Nat×List FuncId)):Cl S where
 call:=fun ok A _ s dst c k=>match wq s c with
  | true=>Gc ys N A s dst c k
  | false=>vo tbl ns ok A s dst c k
 rf:=G9 tbr
theorem R4 {P:Program}{N:Nat}{tbl tbr:List (cq S)}{ys:List (pe S)}{ns:List (Nat×List FuncId)}(ht:∀c∈tbl,aP P c) (hr:∀c∈tbr,aP P c) (hy:∀y∈ys,Dx P y):Ax P N (SR N tbl tbr ys ns) where
 call:=fun ok W hW A kp r s dst c k hl hi h=>by
  have h:(match wq s c with
   | true=>Gc ys N A s dst c k
   | false=>vo tbl ns ok A s dst c k)=some r:=h
  rw[hi] at h
  exact(IK (N:=N) ht ok W hW A r).p s dst c k hl hi h
 ct:=fun ok A kp r cx s dst c k hl hi h=>by
  have h:(match wq s c with
   | true=>Gc ys N A s dst c k
   | false=>vo tbl ns ok A s dst c k)=some r:=h
  rw[hi] at h
  exact PT hy ok A r cx s dst c k hl hi h
 rf:=fun cx hro key hd g hN s B K r hl h Q hQ=>MG hr cx hro key hd g hN s B K r hl h Q fun e t a b c _=>hQ e t a b c
def RK (S:eE):List (Nat×Nat)→List (Nat×Array Tmp×Code×Code)
 | []=>[]
 | (p,k)::r=>(p,(S.eV k).ps,(S.eV k).ly,(S.eV k).body)::RK S r
def PF (S:eE) (N:Nat) (H:List (Nat×mA)):List (Nat×Nat)→Bool
 | []=>true
 | (p,k)::r=>(match fo H p with
  | some (.My key _)=>Nat.beq key k&&Nat.beq (S.eV k).N N
  | _=>true)&&PF S N H r
theorem M4 {N:Nat}{H:List (Nat×mA)}:∀{ks:List (Nat×Nat)},PF S N H ks=true→oN S N H (RK S ks)
 | [],_=>trivial
 | (p,k)::r,h=>by
  simp only[PF,aj] at h
  refine⟨?_,M4 h.2⟩
  have h1:=h.1
  split
  ·rename_i key hd hh
   rw[hh] at h1
   simp only[aj] at h1
   have e1:=aa h1.1
   have e2:=aa h1.2
   subst e1
   exact⟨e2,rfl,rfl,rfl⟩
  ·trivial
theorem aP.PB {P:Program}{N fu:Nat}{H:List (Nat×mA)}{tbl tbr:List (cq S)}{ys:List (pe S)}{con:cq S}{fn:Func}{c:Code}(ks:List (Nat×Nat)) (hm:P.follows .mixedOrders=true) (ht:∀c∈tbl,aP P c) (hr:∀c∈tbr,aP P c) (hy:∀y∈ys,Dx P y)
  (hf:P.funcs[con.f]?=some fn) (hcall:∀args w,(callFunc con.f args).run P w=.ok (.enter con.f args) w) (hb:fn.body=some c) (hN:fn.ntmps=N)
  (hle:tL N con.args con.aA con.outs=true) (hk:lK c 0=RK S ks) (hkn:PF S N H ks=true)
  {mvs:List Nat}{ns:List (Nat×List FuncId)}(h:∀q,Iz P N fu H (SR N tbl tbr ys ns) c mvs fn.results.toList con.args con.a6 con.aA con.outs q=con.F q):aP P con:=
 aP.SQ hm (R4 ht hr hy) hf hcall hb hN hle (hk▸M4 hkn) h
def PA (P:Program) (f i id:Nat) (aA:List Nat):PR:=match P.funcs[f]? with
 | some fn=>match fn.body with
  | some c=>match (lK c 0)[i]? with
   | some (_,ps,a,b)=>⟨fn.ntmps,aA,ps,a,b,id⟩
   | none=>⟨0,[],#[],.skip,.skip,0⟩
  | none=>⟨0,[],#[],.skip,.skip,0⟩
 | none=>⟨0,[],#[],.skip,.skip,0⟩
end
end Go.DN
