/-
  DN, fourth part.
-/
import Derived.Test.YtmhbeopldeccmaaDoorMgD
import Derived.KernelRfl
import Derived.Test.YtmhbeopldeccmaaDoorMgI
set_option linter.unusedSectionVars false
set_option linter.unusedSimpArgs false
set_option linter.unusedVariables false
/-
 DN,part Vb:a call whose arguments all lead to what the caller's call has made:so does its answer.
-/
namespace Go.DN
open Go.AM
def qx:G→Bool
 | .val _=>true
 | .cQ _=>true
 | .fr _=>true
 | .agg gs=>go gs
 | .aR _ gs=>go gs
 | _=>false
where go:List G→Bool
 | []=>true
 | g::r=>qx g&&go r
theorem tG:∀{gs:List G},qx.go gs=true→∀(j:Nat) (g:G),gs[j]?=some g→qx g=true
 | [],_,j,g,hg=>by simp at hg
 | x::r,h,j,g,hg=>by
  simp only[qx.go,ah] at h
  cases j with
  | zero=>cases hg;exact h.1
  | succ j=>exact tG h.2 j g hg
def qP:G→G
 | .val v=>.val v
 | .cQ b=>.fr (.cQ b)
 | .sl n cs=>.fr (.sl n cs)
 | .ptr cs=>.fr (.ptr cs)
 | .agg gs=>.agg (go gs)
 | .aT gs=>.aT (go gs)
 | .aR f gs=>.aR f (go gs)
 | g=>g
where go:List G→List G
 | []=>[]
 | g::r=>qP g::go r
theorem u9:∀(gs:List G),(qP.go gs).length=gs.length
 | []=>rfl
 | _::r=>congrArg (·+1) (u9 r)
theorem xm:∀{gs:List G}{j:Nat}{g':G},(qP.go gs)[j]?=some g'→∃g,gs[j]?=some g∧g'=qP g
 | [],_,_,h=>by simp[qP.go] at h
 | x::r,j,g',h=>by
  cases j with
  | zero=>simp only[qP.go,lR,jS] at h;exact⟨x,rfl,h.symm⟩
  | succ j=>exact xm (gs:=r) (by simpa[qP.go] using h)
theorem K8 {O X:Nat→Prop}{base:Nat}{μ μ':Mu}{w:World}{g g':G}{v:Value}(h:bp O w g v) (hX:∀b,X b→b<w.heap.size→gm O base b) (hg:qx g=true) (hf:fI g=some g'):aN X w.heap.size w μ' g' v:=by
 induction h generalizing g' with
 | any v=>cases hg
 | val v=>
  cases hf
  unfold ny
  split
  ·exact .aD .nil
  ·exact .aD (.val _)
 | cQ b v h=>cases hf;exact .aD (.cQ b v h)
 | nil=>cases hg
 | iw a c=>cases hg
 | sl n cells b off cap us h1 h2 h3 h4 h5 ih=>cases hg
 | ptr cells b off us h1 h2 h3 h4 ih=>cases hg
 | agg cells us hl hr ih=>
  simp only[fI,au] at hf
  obtain⟨gs',h1,rfl⟩:=hf
  obtain⟨h2,h3⟩:=pf h1
  refine .agg gs' us (by omega) fun j g v hg' hv=>?_
  obtain⟨g0,h4,h5⟩:=h3 j g hg'
  exact ih j g0 v h4 hv (tG hg j g0 h4) h5
theorem K9 {O X:Nat→Prop}{base:Nat}{μ μ':Mu}{w:World}{g g':G}{v:Value}(h:aN O base w μ g v) (hX:∀b,X b→b<w.heap.size→gm O base b) (hg:qx g=true) (hf:fI g=some g'):aN X w.heap.size w μ' g' v:=by
 induction h generalizing g' with
 | aD h=>exact K8 (base:=base) (μ:=μ) h hX hg hf
 | fr h=>cases hf;exact .aD (h.mono (Kept.refl _ _) fun b hb hn hx=>hn (hX b hx hb))
 | agg cells us hl hr ih=>
  simp only[fI,au] at hf
  obtain⟨gs',h1,rfl⟩:=hf
  obtain⟨h2,h3⟩:=pf h1
  refine .agg gs' us (by omega) fun j g v hg' hv=>?_
  obtain⟨g0,h4,h5⟩:=h3 j g hg'
  exact ih j g0 v h4 hv (tG hg j g0 h4) h5
 | aR f caps us hl hr ih=>
  simp only[fI,au] at hf
  obtain⟨gs',h1,rfl⟩:=hf
  obtain⟨h2,h3⟩:=pf h1
  refine .aR f gs' us (by omega) fun j g v hg' hv=>?_
  obtain⟨g0,h4,h5⟩:=h3 j g hg'
  exact ih j g0 v h4 hv (tG hg j g0 h4) h5
 | _=>cases hg
theorem L9 {X O:Nat→Prop}{base:Nat}{μ:Mu}{w:World}{g:G}{v:Value}(h:bp X w g v) (hO:∀b,b<w.heap.size→gm O base b→X b) (hi:lV g=true):aN O base w μ (qP g) v:=by
 have key:∀{g:G}{v:Value},bp X w g v→bp (gm O base) w g v:=fun h=>h.mono (Kept.refl _ _) fun b hb hn ho=>hn (hO b hb ho)
 induction h with
 | any v=>cases hi
 | val v=>exact .aD (.val _)
 | cQ b v h=>exact .fr (.cQ b v h)
 | nil=>exact .fr .nil
 | iw a c=>exact .fr (.iw a c)
 | sl n cells b off cap us h1 h2 h3 h4 h5 ih=>exact .fr (key (.sl n cells b off cap us h1 h2 h3 h4 h5))
 | ptr cells b off us h1 h2 h3 h4 ih=>exact .fr (key (.ptr cells b off us h1 h2 h3 h4))
 | agg cells us hl hr ih=>
  refine .agg _ us (by rw[u9];exact hl) fun j g v hg hv=>?_
  obtain⟨g0,h1,rfl⟩:=xm hg
  exact ih j g0 v h1 hv (rj hi j g0 h1)
theorem Ma {X O:Nat→Prop}{bX base:Nat}{μX μ:Mu}{w:World}{g:G}{v:Value}(h:aN X bX w μX g v) (hO:∀b,b<w.heap.size→gm O base b→X b) (hi:lV g=true):aN O base w μ (qP g) v:=by
 induction h with
 | aD h=>exact L9 h hO hi
 | fr h=>exact .fr (h.mono (Kept.refl _ _) fun b hb hn ho=>hn (.inr (hO b hb ho)))
 | agg cells us hl hr ih=>
  refine .agg _ us (by rw[u9];exact hl) fun j g v hg hv=>?_
  obtain⟨g0,h1,rfl⟩:=xm hg
  exact ih j g0 v h1 hv (rj hi j g0 h1)
 | aT cells us hl hr ih=>
  refine .aT _ us (by rw[u9];exact hl) fun j g v hg hv=>?_
  obtain⟨g0,h1,rfl⟩:=xm hg
  exact ih j g0 v h1 hv (rj hi j g0 h1)
 | aR f cells us hl hr ih=>
  refine .aR f _ us (by rw[u9];exact hl) fun j g v hg hv=>?_
  obtain⟨g0,h1,rfl⟩:=xm hg
  exact ih j g0 v h1 hv (rj hi j g0 h1)
 | _=>cases hi
section
variable {P:Program}{N:Nat}{cx:Cx}{s:St}
variable {ty:TypeId}{pos:String}{after:Array Edge}{guard:Option (Nat×Bool)}{W:List Nat}{d:Nat}
theorem JC {f:FuncId}{vs:List Value}{gs gs':List G}{Q:G→List (Nat×aq)→Prop}{μ:Mu}{a:Act}{w:World}(hr:Rel N cx μ s a w) (hfre:qx.go gs=true) (hv:dT fI gs=some gs')
  (hvs:vs.length=gs.length) (hrep:∀(j:Nat) (g:G) (v:Value),gs[j]?=some g→vs[j]?=some v→aN (cx.O s.st μ) cx.base w μ g v)
  (hcon:GM P f gs' [] Q) (hres:∀r st',Q r st'→lV r=true∧st'=[]):
  Calls P f vs.toArray w fun e w'=>∃v r st',e=.returned v∧Q r st'∧Rel N cx μ s a w'∧aN (cx.O s.st μ) cx.base w' μ (qP r) v∧Step W s.st μ s.st μ w w':=by
 obtain⟨h1,h2⟩:=pn hv
 have hXO:∀b,cx.O s.st μ b→b<w.heap.size:=fun b hb=>by
  rcases hb with hb | hb
  ·have:=hr.st.fo b hb;have:=hr.st.hb;omega
  ·exact rQ hr.st hb
 have hX:∀b,(gm (cx.O s.st μ) cx.base b∧b<w.heap.size)→b<w.heap.size:=fun b hb=>hb.2
 refine(hcon.returned (fun b=>gm (cx.O s.st μ) cx.base b∧b<w.heap.size) (fun _=>none) w vs hX (xA hX (hr.st.Oj fun _ h=>(mV h).elim)) (by omega) fun j g v hg hv=>?_).mono ?_
 ·obtain⟨g0,h3,h4⟩:=h2 j g hg
  refine K9 (O:=cx.O s.st μ) (base:=cx.base) (hrep j g0 v h3 hv) ?_ (tG hfre j g0 h3) h4
  rintro b (hb | hb) _
  ·exact hb.1
  ·exact absurd hb mV
 ·rintro e w' ⟨v,r,st',μ',rfl,hq,hst,hrv⟩
  have hkeep:∀b,b<w.heap.size→w'.heap[b]?=w.heap[b]?:=fun b hb=>hst.ec b hb mV
  obtain⟨hf,hs⟩:=hres r st' hq
  subst hs
  refine⟨v,r,[],rfl,hq,hr.kept hst.hb hkeep hst.os hst.tape hst.output,?_,⟨hst.hb,fun b hb _=>hkeep b hb,fun h k c m b hw h1 h2 hi=>.inl ⟨h,k,c,m,hw,h1,h2,hi⟩⟩⟩
  refine Ma hrv ?_ hf
  intro b _ hb
  refine .inl ⟨hb,?_⟩
  rcases hb with hb | hb
  ·exact cm hb hr.st.hb
  ·exact hXO b hb
theorem EF.QN {f:FuncId}{xs:Array Operand}{ts:Array TypeId}{gs gs':List G}{Q:G→List (Nat×aq)→Prop}(hc:∀args w,(callFunc f args).run P w=.ok (.enter f args) w)
  (hx:tI s xs.toList=some gs) (hfre:qx.go gs=true) (hv:dT fI gs=some gs') (hcon:GM P f gs' [] Q) (hres:∀r st',Q r st'→lV r=true∧st'=[]):
  bW P W s ⟨some d,.call ⟨.value (.func f),xs,ts⟩,ty,pos,after,guard⟩ (fun s'=>∃r st',Q r st'∧s'=s.put d (qP r)):=by
 refine⟨(fun _ h=>by cases h),?_⟩
 intro N cx μ a w hr hN K Q' hK
 obtain⟨h1,h2⟩:=mX hx
 have hcall:=JC (vs:=xs.toList.map a.eval) (W:=W) hr hfre hv (by simp[h1]) (fun j g v hg hv=>by
  obtain⟨x,hxj,he⟩:=h2 j g hg
  rw[ak,hxj] at hv
  cases hv
  exact hr.ev he) hcon hres
 unfold Oper.wp
 have:(execOp a.eval ⟨some d,.call ⟨.value (.func f),xs,ts⟩,ty,pos,after,guard⟩).run P w=.ok (.enter f (xs.toList.map a.eval).toArray) w:=by
  have e:xs.map a.eval=(xs.toList.map a.eval).toArray:=by rw[←hG]
  simp[execOp,resolve,invoke,Deferred.ofValue,Act.eval,hc,e]
 rw[this]
 refine hcall.mono ?_
 rintro e w' ⟨v,r,st',rfl,hq,hr',hrv,hst⟩
 exact hK μ _ _ w' (hr'.put (hN d rfl) hrv) ⟨r,st',hq,rfl⟩ hst
end
section
variable {S:dr}
def TV.Dy:TV S→Bool
 | .ae f τ _=>f||τ.gW
 | .ptr f _ _=>f
 | .val _=>true
 | .agg l=>go l
 | .aR _ l=>go l
 | _=>false
where go:List (TV S)→Bool
 | []=>true
 | x::r=>x.Dy&&go r
theorem Nf {g:G}(h:Pl g):qx (dc true g)=true:=by
 rcases h with ⟨u,rfl⟩ | ⟨n,cs,rfl⟩ | ⟨b,rfl⟩ | ⟨cs,rfl⟩ <;> rfl
mutual
theorem Nd (ln:Nat→Nat):∀v:TV S,v.Dy=true→qx (v.er ln)=true
 | .ae f τ a,hf=>by
  have hf:(f||τ.gW)=true:=hf
  cases τ with
  | st n=>
   have e:f=true:=by simpa[Ty.gW] using hf
   subst e
   show qx.go ((aP S (.st n) a).map (dc true))=true
   have h:=rW (S:=S) (.st n) a
   generalize aP S (.st n) a=l at h
   induction l with
   | nil=>rfl
   | cons x r ih=>
    simp only[az,qx.go,Nf (h x aC),ih fun y hy=>h y (aw _ hy),eV]
  | list τ=>
   have e:f=true:=by simpa[Ty.gW] using hf
   subst e;rfl
  | pt n=>
   have e:f=true:=by simpa[Ty.gW] using hf
   subst e
   cases a <;> rfl
  | _=>cases f <;> rfl
 | .ptr f τ a,hf=>by
  have e:f=true:=hf
  subst e;rfl
 | .val _,_=>rfl
 | .agg l,h=>uE ln l h
 | .aR _ l,h=>uE ln l h
 | .aT _,h=>by cases h
 | .loc _ _,h=>by cases h
 | .ia _ _ _ _,h=>by cases h
 | .aM _ _,h=>by cases h
 | .sub _ _ _ _,h=>by cases h
 | .cT _,h=>by cases h
 | .mp _,h=>by cases h
 | .ks _ _ _ _,h=>by cases h
 | .kp _ _ _ _,h=>by cases h
 | .gH _ _ _ _ _,h=>by cases h
 | .bP _ _ _,h=>by cases h
 | .any,h=>by cases h
theorem uE (ln:Nat→Nat):∀l:List (TV S),TV.Dy.go l=true→qx.go (TV.er.go ln l)=true
 | [],_=>rfl
 | x::r,h=>by
  simp only[TV.Dy.go,ah] at h
  simp only[TV.er.go,qx.go,Nd ln x h.1,uE ln r h.2,eV]
end
mutual
theorem Ph:∀v:TV S,v.Dy=true→v.imp=true
 | .ae f τ a,_=>rfl
 | .ptr f τ a,_=>rfl
 | .val _,_=>rfl
 | .agg l,h=>wy l h
 | .aR _ l,h=>wy l h
 | .aT _,h=>by cases h
 | .loc _ _,h=>by cases h
 | .ia _ _ _ _,h=>by cases h
 | .aM _ _,h=>by cases h
 | .sub _ _ _ _,h=>by cases h
 | .cT _,h=>by cases h
 | .mp _,h=>by cases h
 | .ks _ _ _ _,h=>by cases h
 | .kp _ _ _ _,h=>by cases h
 | .gH _ _ _ _ _,h=>by cases h
 | .bP _ _ _,h=>by cases h
 | .any,h=>by cases h
theorem wy:∀l:List (TV S),TV.Dy.go l=true→TV.imp.go l=true
 | [],_=>rfl
 | x::r,h=>by
  simp only[TV.Dy.go,ah] at h
  simp only[TV.imp.go,Ph x h.1,wy r h.2,eV]
end
def TV.up:TV S→TV S
 | .ae _ τ a=>.ae true τ a
 | .aT l=>.aT (go l)
 | v=>v
where go:List (TV S)→List (TV S)
 | []=>[]
 | .ae _ τ a::r=>.ae true τ a::go r
 | v::r=>v::go r
theorem JW {f:Bool}{g:G}(h:Pl g):qP (dc f g)=dc true g:=by
 rcases h with ⟨u,rfl⟩ | ⟨n,cs,rfl⟩ | ⟨b,rfl⟩ | ⟨cs,rfl⟩ <;> cases f <;> rfl
theorem JX (f:Bool) (τ:Ty) (a:S.D τ):qP (nh f τ a)=nh true τ a:=by
 cases τ with
 | st n=>
  show G.agg (qP.go ((aP S (.st n) a).map (dc f)))=G.agg ((aP S (.st n) a).map (dc true))
  congr 1
  have h:=rW (S:=S) (.st n) a
  generalize aP S (.st n) a=l at h
  induction l with
  | nil=>rfl
  | cons x r ih=>
   simp only[az,qP.go,JW (h x aC),ih fun y hy=>h y (aw _ hy)]
 | _=>exact JW (vB rfl a)
theorem N0 (ln:Nat→Nat):∀(aj:List (Nat×Sh)) (ls:List (aY S.α)),mr aj=true→ls.length=(jb aj).length→TV.er.go ln (TV.up.go ((bT aj ls).1.map (·.2)))=qP.go (TV.er.go ln ((bT aj ls).1.map (·.2)))
 | [],_,_,_=>rfl
 | (d,.ae f τ)::r,ls,h,hl=>by
  cases ls with
  | nil=>simp[jb,Sh.cg] at hl
  | cons x xs=>
   simp only[bT,gI,az,TV.up.go,TV.er.go,qP.go]
   rw[N0 ln r xs h (by simpa[jb,Sh.cg] using hl)]
   exact congrArg (·::_) (JX f x.τ x.a).symm
 | (d,.own h τ)::r,ls,h',_=>by cases h'
 | (d,.ptr _ _)::r,ls,h',_=>by cases h'
 | (d,.loc _ _)::r,ls,h',_=>by cases h'
 | (d,.aR _ _)::r,ls,h',_=>by cases h'
 | (d,.agg _)::r,ls,h',_=>by cases h'
 | (d,.cT _)::r,ls,h',_=>by cases h'
 | (d,.mp _)::r,ls,h',_=>by cases h'
 | (d,.gH _ _)::r,ls,h',_=>by cases h'
 | (d,.bP _ _)::r,ls,h',_=>by cases h'
 | (d,.ks _ _)::r,ls,h',_=>by cases h'
 | (d,.any)::r,ls,h',_=>by cases h'
 | (d,.mu)::r,ls,h',_=>by cases h'
 | (d,.sub _ _)::r,ls,h',_=>by cases h'
theorem QZ (ln:Nat→Nat){aj:List (Nat×Sh)}{ls:List (aY S.α)}(h:mr aj=true) (hl:ls.length=(jb aj).length):((lF aj ls).up).er ln=qP ((lF aj ls).er ln):=by
 have hg:=N0 ln aj ls h hl
 match aj,h with
 | [],_=>rfl
 | [(d,.ae f τ)],_=>cases ls with
  | nil=>simp[jb,Sh.cg] at hl
  | cons x xs=>exact(JX f x.τ x.a).symm
 | (d,.ae f τ)::(d',sh)::r,_=>exact congrArg G.aT hg
def JD (con:de S) (s:ag S) (d:Nat) (vs:List (TV S)){A:Type}(k:ag S→Option A):Option A:=
 match oO con&&(!(qw con.aj)&&TV.Dy.go vs) with
 | true=>match kK s con.args vs with
  | some ls=>match nz (iQ con.args con.aI) ls with
   | some q=>(con.F q).bind fun r=>k (s.put d (lF con.aj (leaves _ r)).up)
   | none=>none
  | none=>none
 | false=>wO con s d vs k
theorem Gy {P:Program}{N:Nat}{W:List Nat}{con:de S}(C:bf P con){s:ag S}{d:Nat}{vs:List (TV S)}{A:Type}{k:ag S→Option A}{r:A}(hl:aJ s) (h:JD con s d vs k=some r)
  {xs:Array Operand}{ts:Array TypeId}{ty:TypeId}{pos:String}{after:Array Edge}{guard:Option (Nat×Bool)}(hv:si s xs.toList=some vs):
  ∃T:St→Prop,bW P W s.er ⟨some d,.call ⟨.value (.func con.f),xs,ts⟩,ty,pos,after,guard⟩ T∧∀s',T s'→∃t:ag S,Gh s' t.er∧aJ t∧bj s t∧k t=some r:=by
 unfold JD at h
 split at h
 ·rename_i hc
  simp only[ah,aZ] at hc
  obtain⟨hp,_,hfr⟩:=hc
  obtain⟨C1,C2,C3⟩:=vS C hp
  split at h
  ·rename_i ls hls
   split at h
   ·rename_i q hq
    obtain⟨res,h1,h2⟩:=bind_some h
    have hview:=(ug 1 (fun _=>0) C1 hls []).2
    rw[cH,←gP hq] at hview
    have hlen:=yy res (sE hp)
    have himp:=oo s.ln vs (wy vs hfr)
    refine⟨_,EF.QN (P:=P) (W:=W) C.call (lf hv).2 (uE s.ln vs hfr) (wc himp hview) (C3 q res h1) (fun g st hg=>⟨by rw[hg.1];exact Ct C2 hlen _,hg.2⟩),?_⟩
    intro s' hs'
    obtain⟨g,st,⟨hg,_⟩,e⟩:=hs'
    subst e;subst hg
    refine⟨_,?_,hl.put d _,⟨rfl,rfl,rfl⟩,h2⟩
    rw[hP,QZ s.ln C2 hlen,Fe s.ln (fun _=>0) C2]
    exact Gh.refl _
   ·cases h
  ·cases h
 ·exact NB (N:=N) C hl h hv
end
end Go.DN
/-
 DN,part W:calls to which all objects are lent,and what comes back.
-/
namespace Go.DN
open Go.AM
section
variable {P:Program}{W:List Nat}{s:St}{d:Nat}{ty:TypeId}{pos:String}{after:Array Edge}{guard:Option (Nat×Bool)}
theorem EF.Ri {f:FuncId}{xs:Array Operand}{ts:Array TypeId}{gs gs':List G}{dQ:List (Nat×aq)}{Q:G→List (Nat×aq)→Prop}{T:St→Prop}(H:List Nat) (vw:Bool) (hc:∀args w,(callFunc f args).run P w=.ok (.enter f args) w)
  (hx:tI s xs.toList=some gs) (hv:bV.go H (dO s.st H vw) gs=some gs') (hl:fM H (dO s.st H vw) s.st H 0=some dQ) (cZ:qQ H=true) (hcon:GM P f gs' dQ Q)
  (hres:∀r st',Q r st'→∃bk s2 r',kY vw s H st' bk=some s2∧dw vw (iP st' bk) r=some r'∧T (s2.put d r')) (hW:sQ H W=true):
  bW P W s ⟨some d,.call ⟨.value (.func f),xs,ts⟩,ty,pos,after,guard⟩ T:=by
 refine⟨(fun _ h=>by cases h),?_⟩
 intro N cx μ a w hr hN K Q' hK
 obtain⟨h1,h2⟩:=mX hx
 have hcall:=ux (vs:=xs.toList.map a.eval) hr hv hl cZ (by simp[h1]) (fun j g v hg hv=>by
  obtain⟨x,hxj,he⟩:=h2 j g hg
  rw[ak,hxj] at hv
  cases hv
  exact hr.ev he) hcon
 unfold Oper.wp
 have:(execOp a.eval ⟨some d,.call ⟨.value (.func f),xs,ts⟩,ty,pos,after,guard⟩).run P w=.ok (.enter f (xs.toList.map a.eval).toArray) w:=by
  have e:xs.map a.eval=(xs.toList.map a.eval).toArray:=by rw[←hG]
  simp[execOp,resolve,invoke,Deferred.ofValue,Act.eval,hc,e]
 rw[this]
 refine hcall.mono ?_
 rintro e w' (⟨v,r,st',μ',rfl,hq,hC,hrv⟩ | ⟨_,_,_,_,h,_⟩)
 ·obtain⟨bk,s2,r',hb,hren,hT⟩:=hres r st' hq
  obtain⟨q1,q2,q3,_⟩:=pz hr hl (lG cZ) hC hb
  exact hK _ _ _ w' (q1.put (hN d rfl) (q2 r r' v hrv hren)) hT (q3 W (sP hW))
 ·exact h.elim
end
section
variable {S:dr}
def yH (s:ag S) (vw:Bool) (H:List Nat) (τ:Ty):TV S→Option (S.D τ)
 | .ae _ τ' a=>match τ'.fq with
  | true=>none
  | false=>iN τ' τ a
 | .val (.slice none 0 0)=>match τ with
  | .list _=>some []
  | _=>none
 | .aM h τ2=>match vw with
  | true=>match dm H h with
   | none=>match aA s.a7 h with
    | some (.arr _ _ _ τ' l)=>match decEq τ' τ2 with
     | isTrue _=>iN (.list τ') τ l
     | isFalse _=>none
    | _=>none
   | some _=>none
  | false=>none
 | _=>none
def Ek (s:ag S) (vw:Bool) (H:List Nat):List Ty→List (TV S)→Option (List (aY S.α))
 | [],[]=>some []
 | τ::ts,v::vs=>match yH s vw H τ v with
  | some a=>match Ek s vw H ts vs with
   | some l=>some (⟨τ,a⟩::l)
   | none=>none
  | none=>none
 | _,_=>none
def I4 (s:ag S) (vw:Bool) (H:List Nat) (τ:Ty) (v:TV S):Option (S.D τ):=
 match v with
 | .ae _ τ' a=>iN τ' τ a
 | .agg vs=>match τ with
  | .st n=>match Ek s vw H (S.cg n) vs with
   | some l=>S.put n l
   | none=>none
  | _=>none
 | v=>yH s vw H τ v
mutual
def lu (s:ag S) (vw:Bool) (H:List Nat):Sh→TV S→Option (List (aY S.α))
 | .ae false τ,v=>match I4 s vw H τ v with
  | some a=>some [⟨τ,a⟩]
  | none=>none
 | .ptr false τ,v=>match v with
  | .ptr _ τ' a=>match iN τ' τ a with
   | some b=>some [⟨τ,b⟩]
   | none=>none
  | _=>none
 | .own r τ,v=>match v with
  | .aM h τ'=>match dm H h with
   | some i=>match Nat.beq (1000+i) r with
    | true=>match decEq τ' τ with
     | isTrue _=>some []
     | isFalse _=>none
    | false=>none
   | none=>none
  | _=>none
 | .loc r o,v=>match v with
  | .loc h o'=>match dm H h with
   | some i=>match Nat.beq (1000+i) r&&Nat.beq o' o with
    | true=>some []
    | false=>none
   | none=>none
  | _=>none
 | .aR f l,v=>match v with
  | .aR f' vs=>match Nat.beq f' f with
   | true=>kN s vw H l vs
   | false=>none
  | _=>none
 | .agg l,v=>match v with
  | .agg vs=>kN s vw H l vs
  | _=>none
 | .cT r,v=>match v with
  | .cT h=>match dm H h with
   | some i=>match Nat.beq (1000+i) r with
    | true=>some []
    | false=>none
   | none=>none
  | _=>none
 | .mp r,v=>match v with
  | .mp h=>match dm H h with
   | some i=>match Nat.beq (1000+i) r with
    | true=>some []
    | false=>none
   | none=>none
  | _=>none
 | .bP r o,v=>match v with
  | .loc h o'=>match dm H h with
   | some i=>match Nat.beq (1000+i) r&&Nat.beq o' o with
    | true=>some [⟨.bool,false⟩]
    | false=>none
   | none=>none
  | .val (.pointer none)=>some [⟨.bool,true⟩]
  | .bP b h o'=>match dm H h with
   | some i=>match Nat.beq (1000+i) r&&Nat.beq o' o with
    | true=>some [⟨.bool,b⟩]
    | false=>none
   | none=>none
  | _=>none
 | .mu,v=>match v with
  | .aR f []=>some [⟨.int .i64,(f:Int)⟩]
  | _=>none
 | .ks r τ,v=>match v with
  | .ks h τ' z n=>match dm H h with
   | some i=>match Nat.beq (1000+i) r with
    | true=>match decEq τ' τ with
     | isTrue _=>some [⟨.int .i64,(z:Int)⟩,⟨.int .i64,(n:Int)⟩]
     | isFalse _=>none
    | false=>none
   | none=>none
  | _=>none
 | .sub r τ,v=>match v with
  | .sub h τ' o n=>match dm H h with
   | some i=>match Nat.beq (1000+i) r with
    | true=>match decEq τ' τ with
     | isTrue _=>some [⟨.int .i64,(o:Int)⟩,⟨.int .i64,(n:Int)⟩]
     | isFalse _=>none
    | false=>none
   | none=>none
  | _=>none
 | _,_=>none
def kN (s:ag S) (vw:Bool) (H:List Nat):List Sh→List (TV S)→Option (List (aY S.α))
 | [],[]=>some []
 | x::r,v::vs=>match lu s vw H x v with
  | some a=>match kN s vw H r vs with
   | some l=>some (a++l)
   | none=>none
  | none=>none
 | _,_=>none
end
theorem Ds (H:List Nat) (stv:List (Nat×aq)) (f:Bool){τ:Ty}(h:τ.fq=false) (a:S.D τ):bV H stv (dc f (da S τ a))=some (da S τ a):=by
 cases τ with
 | st n=>cases h
 | pt n=>cases a <;> cases f <;> rfl
 | _=>cases f <;> rfl
theorem FK {s:ag S}{vw:Bool}{H:List Nat}{τ:Ty}{v:TV S}{a:S.D τ}(h:yH s vw H τ v=some a):bV H (dO s.er.st H vw) (v.er s.ln)=some (da S τ a)∧τ.fq=false:=by
 unfold yH at h
 split at h
 ·split at h
  ·cases h
  ·rename_i hs
   have:=dW h
   cases this
   refine⟨?_,hs⟩
   rw[ot hs]
   exact Ds H _ _ hs _
 ·split at h
  ·cases h;exact⟨rfl,rfl⟩
  ·cases h
 ·rename_i hh τ2
  split at h
  ·split at h
   ·rename_i hi
    split at h
    ·rename_i e m f τ' l ho
     split at h
     ·rename_i e1 _
      subst e1
      have:=dW h
      cases this
      refine⟨?_,rfl⟩
      show bV H (dO s.er.st H true) (.aM hh (S.sz τ') 0 (s.ln hh))=_
      simp only[bV,hi,dO,cond_true,view,zG hi (dJ ho),TO.er]
      rw[nS ho,iC,dz (by rw[jP];exact ar _)]
      rfl
     ·cases h
    ·cases h
   ·cases h
  ·cases h
 ·cases h
theorem FJ {s:ag S}{vw:Bool}{H:List Nat}:∀{ts:List Ty}{vs:List (TV S)}{l:List (aY S.α)},Ek s vw H ts vs=some l→bV.go H (dO s.er.st H vw) (TV.er.go s.ln vs)=some (l.map fun x=>da S x.τ x.a)
 | [],[],_,h=>by cases h;rfl
 | τ::ts,v::vs,l,h=>by
  simp only[Ek] at h
  split at h
  ·rename_i a ha
   split at h
   ·rename_i l' hl
    cases h
    simp only[TV.er.go,bV.go,(FK ha).1,FJ hl,az]
   ·cases h
  ·cases h
 | [],_::_,_,h=>by cases h
 | _::_,[],_,h=>by cases h
theorem MZ {s:ag S}{vw:Bool}{H:List Nat}{τ:Ty}{v:TV S}{a:S.D τ}(h:I4 s vw H τ v=some a) (ln:Nat→Nat):bV H (dO s.er.st H vw) (v.er s.ln)=some ((TV.ae false τ a:TV S).er ln):=by
 have one:yH s vw H τ v=some a→bV H (dO s.er.st H vw) (v.er s.ln)=some ((TV.ae false τ a:TV S).er ln):=by
  intro h
  obtain⟨h1,h2⟩:=FK h
  rw[h1,ot h2];rfl
 unfold I4 at h
 split at h
 ·rename_i f τ' a'
  have:=dW h
  cases this
  cases τ with
  | st k=>
   show(bV.go H _ ((aP S (.st k) a).map (dc f))).map G.agg=some (.agg ((aP S (.st k) a).map (dc false)))
   have key:bV.go H (dO s.er.st H vw) ((aP S (.st k) a).map (dc f))=some ((aP S (.st k) a).map (dc false)):=by
    rw[fZ]
    have h:=kB k a
    generalize S.cells k a=l at h
    induction l with
    | nil=>rfl
    | cons x r ih=>
     simp only[az,bV.go]
     rw[Ds H _ f (h x aC) x.a,ih fun y hy=>h y (aw _ hy)]
     rfl
   rw[key];rfl
  | _=>exact one (by unfold yH;exact h)
 ·rename_i vs
  split at h
  ·rename_i k
   split at h
   ·rename_i l hl
    have hp:=S.hU _ _ _ h
    show(bV.go H _ (TV.er.go s.ln vs)).map G.agg=some (.agg ((aP S (.st k) a).map (dc false)))
    have e:(dc false)=(id:G→G):=rfl
    rw[e,List.map_id,fZ,hp,FJ hl];rfl
   ·cases h
  ·cases h
 ·exact one h
mutual
theorem MY {s:ag S}{vw:Bool}{H:List Nat}{lnC:Nat→Nat}(hln:∀i h,dm H h=some i→lnC (1000+i)=s.ln h):∀{sh:Sh}{v:TV S}{xs:List (aY S.α)},lu s vw H sh v=some xs→∀r,(gI sh (xs++r)).2=r∧bV H (dO s.er.st H vw) (v.er s.ln)=some ((gI sh (xs++r)).1.er lnC)
 | .ae true τ,v,xs,h,r=>by simp[lu] at h
 | .ae false τ,v,xs,h,r=>by
  simp only[lu] at h
  split at h
  ·rename_i a ha
   cases h
   exact⟨rfl,MZ ha lnC⟩
  ·cases h
 | .ptr true τ,v,xs,h,r=>by simp[lu] at h
 | .ptr false τ,v,xs,h,r=>by
  simp only[lu] at h
  split at h
  ·rename_i f τ' a
   split at h
   ·rename_i b hb
    cases h
    have:=dW hb
    cases this
    refine⟨rfl,?_⟩
    cases f <;> rfl
   ·cases h
  ·cases h
 | .own k τ,v,xs,h,r=>by
  simp only[lu] at h
  split at h
  ·rename_i hh τ'
   split at h
   ·rename_i i hi
    split at h
    ·rename_i hb
     split at h
     ·rename_i e _
      cases h
      subst e
      have:=ab hb
      subst this
      refine⟨rfl,?_⟩
      show bV H _ (.aM hh (S.sz τ') 0 (s.ln hh))=some (.aM (1000+i) (S.sz τ') 0 (lnC (1000+i)))
      simp only[bV,hi,hln i hh hi]
     ·cases h
    ·cases h
   ·cases h
  ·cases h
 | .loc k o,v,xs,h,r=>by
  simp only[lu] at h
  split at h
  ·rename_i hh o'
   split at h
   ·rename_i i hi
    split at h
    ·rename_i hb
     simp only[ah] at hb
     cases h
     have e1:=ab hb.1
     have e2:=ab hb.2
     subst e1;subst e2
     refine⟨rfl,?_⟩
     show bV H _ (.loc hh o')=some (.loc (1000+i) o')
     simp only[bV,hi]
    ·cases h
   ·cases h
  ·cases h
 | .aR f l,v,xs,h,r=>by
  simp only[lu] at h
  split at h
  ·rename_i f' vs
   split at h
   ·rename_i hb
    have e:=ab hb
    subst e
    obtain⟨i1,i2⟩:=hY hln h r
    refine⟨i1,?_⟩
    show(bV.go H _ (TV.er.go s.ln vs)).map (G.aR f')=_
    rw[i2];rfl
   ·cases h
  ·cases h
 | .agg l,v,xs,h,r=>by
  simp only[lu] at h
  split at h
  ·rename_i vs
   obtain⟨i1,i2⟩:=hY hln h r
   refine⟨i1,?_⟩
   show(bV.go H _ (TV.er.go s.ln vs)).map G.agg=_
   rw[i2];rfl
  ·cases h
 | .cT k,v,xs,h,r=>by
  simp only[lu] at h
  split at h
  ·rename_i hh
   split at h
   ·rename_i i hi
    split at h
    ·rename_i hb
     cases h
     have:=ab hb
     subst this
     refine⟨rfl,?_⟩
     show bV H _ (.cT hh)=some (.cT (1000+i))
     simp only[bV,hi]
    ·cases h
   ·cases h
  ·cases h
 | .mp k,v,xs,h,r=>by
  simp only[lu] at h
  split at h
  ·rename_i hh
   split at h
   ·rename_i i hi
    split at h
    ·rename_i hb
     cases h
     have:=ab hb
     subst this
     refine⟨rfl,?_⟩
     show bV H _ (.eY hh)=some (.eY (1000+i))
     simp only[bV,hi]
    ·cases h
   ·cases h
  ·cases h
 | .any,v,xs,h,r=>by simp[lu] at h
 | .bP k o,v,xs,h,r=>by
  simp only[lu] at h
  split at h
  ·rename_i hh o'
   split at h
   ·rename_i i hi
    split at h
    ·rename_i hb
     rw[ah] at hb
     cases h
     have e1:=ab hb.1
     have e2:=ab hb.2
     subst e1;subst e2
     refine⟨rfl,?_⟩
     show bV H _ (.loc hh o')=some (.loc (1000+i) o')
     simp only[bV,hi]
    ·cases h
   ·cases h
  ·cases h
   exact⟨rfl,rfl⟩
  ·rename_i b hh o'
   split at h
   ·rename_i i hi
    split at h
    ·rename_i hb
     rw[ah] at hb
     cases h
     have e1:=ab hb.1
     have e2:=ab hb.2
     subst e1;subst e2
     refine⟨rfl,?_⟩
     cases b with
     | true=>rfl
     | false=>
      show bV H _ (.loc hh o')=some (.loc (1000+i) o')
      simp only[bV,hi]
    ·cases h
   ·cases h
  ·cases h
 | .mu,v,xs,h,r=>by
  simp only[lu] at h
  split at h
  ·cases h
   exact⟨rfl,rfl⟩
  ·cases h
 | .ks k τ,v,xs,h,r=>by
  simp only[lu] at h
  split at h
  ·rename_i hh τ' o n
   split at h
   ·rename_i i hi
    split at h
    ·rename_i hb
     split at h
     ·rename_i e _
      cases h
      subst e
      have:=ab hb
      subst this
      refine⟨rfl,?_⟩
      show bV H _ (.ks hh o (S.sz τ') n)=some (.ks (1000+i) o (S.sz τ') n)
      simp only[bV,hi]
     ·cases h
    ·cases h
   ·cases h
  ·cases h
 | .sub k τ,v,xs,h,r=>by
  simp only[lu] at h
  split at h
  ·rename_i hh τ' o n
   split at h
   ·rename_i i hi
    split at h
    ·rename_i hb
     split at h
     ·rename_i e _
      cases h
      subst e
      have:=ab hb
      subst this
      refine⟨rfl,?_⟩
      show bV H _ (.aM hh (S.sz τ') (o*S.sz τ') n)=some (.aM (1000+i) (S.sz τ') (o*S.sz τ') n)
      simp only[bV,hi]
     ·cases h
    ·cases h
   ·cases h
  ·cases h
theorem hY {s:ag S}{vw:Bool}{H:List Nat}{lnC:Nat→Nat}(hln:∀i h,dm H h=some i→lnC (1000+i)=s.ln h):∀{l:List Sh}{vs:List (TV S)}{xs:List (aY S.α)},kN s vw H l vs=some xs→∀r,(cw l (xs++r)).2=r∧bV.go H (dO s.er.st H vw) (TV.er.go s.ln vs)=some (TV.er.go lnC (cw l (xs++r)).1)
 | [],[],xs,h,r=>by simp only[kN] at h;cases h;exact⟨rfl,rfl⟩
 | x::l,v::vs,xs,h,r=>by
  simp only[kN] at h
  split at h
  ·rename_i a ha
   split at h
   ·rename_i l' hl
    cases h
    rw[aL]
    obtain⟨i1,i2⟩:=MY hln ha (l'++r)
    obtain⟨j1,j2⟩:=hY hln hl r
    simp only[cw]
    rw[i1]
    refine⟨j1,?_⟩
    simp only[TV.er.go,bV.go,i2,j2]
   ·cases h
  ·cases h
 | [],_::_,_,h,_=>by simp[kN] at h
 | _::_,[],_,h,_=>by simp[kN] at h
end
def FI (s:ag S) (vw:Bool) (H:List Nat) (oh:Oh) (o:TO S):Option (List (aY S.α)):=
 match oh with
 | .arr e m f τ=>match o with
  | .arr e' _ _ τ' l=>match Nat.beq e' e&&(!m&&!f) with
   | true=>match iN (.list τ') (.list τ) l with
    | some l=>some [⟨.list τ,l⟩]
    | none=>none
   | false=>none
  | _=>none
 | .box e m cs=>match o with
  | .box e' _ vs=>match Nat.beq e' e&&!m with
   | true=>kN s vw H cs vs
   | false=>none
  | _=>none
 | .deep e m f dk τ=>match o with
  | .deep e' _ _ dk' τ' a=>match Nat.beq e' e&&(!m&&!f) with
   | true=>match decEq dk' dk with
    | isTrue _=>match iN τ' τ a with
     | some a=>some [⟨τ,a⟩]
     | none=>none
    | isFalse _=>none
   | false=>none
  | _=>none
 | .lp key lv cs=>match o with
  | .lp key' n vs=>match Nat.beq key' key with
   | true=>match lv with
    | true=>match kN s vw H cs vs with
     | some xs=>some (⟨.int .i64,n⟩::xs)
     | none=>none
    | false=>match decEq n 0 with
     | isTrue _=>kN s vw H cs vs
     | isFalse _=>none
   | false=>none
  | _=>none
def oR (s:ag S) (vw:Bool) (H:List Nat):List Nat→List Oh→Option (List (aY S.α))
 | [],[]=>some []
 | h::hs,oh::r=>match aA s.a7 h with
  | some o=>match FI s vw H oh o with
   | some a=>match oR s vw H hs r with
    | some l=>some (a++l)
    | none=>none
   | none=>none
  | none=>none
 | _,_=>none
theorem G7 {s:ag S}{vw:Bool}{H:List Nat}{oh:Oh}{o:TO S}{xs:List (aY S.α)}(h:FI s vw H oh o=some xs) (r:List (aY S.α)):(lO oh (xs++r)).2=r∧(lO oh (xs++r)).1.len=o.len∧
  ∀lnC:Nat→Nat,(∀i h,dm H h=some i→lnC (1000+i)=s.ln h)→qp H (dO s.er.st H vw) (o.er s.ln)=some ((lO oh (xs++r)).1.er lnC):=by
 unfold FI at h
 split at h
 ·split at h
  ·split at h
   ·rename_i hc
    simp only[ah,aZ] at hc
    obtain⟨c1,c2,c3⟩:=hc
    split at h
    ·rename_i l' hl
     cases h
     obtain⟨e,hl⟩:=qC hl
     subst e
     cases hl
     have c1:=ab c1
     subst c1;subst c2;subst c3
     exact⟨rfl,rfl,fun _ _=>rfl⟩
    ·cases h
   ·cases h
  ·cases h
 ·split at h
  ·split at h
   ·rename_i hc
    simp only[ah,aZ] at hc
    have c1:=ab hc.1
    have c2:=hc.2
    subst c1;subst c2
    have i1:(cw _ (xs++r)).2=r:=(hY (lnC:=fun k=>s.ln ((H[k-1000]?).getD 0)) (fun i h hi=>by simp[ep hi]) h r).1
    refine⟨i1,rfl,fun lnC hln=>?_⟩
    obtain⟨_,i2⟩:=hY hln h r
    simp only[qp,TO.er,cond_false,i2,lO]
   ·cases h
  ·cases h
 ·split at h
  ·split at h
   ·rename_i hc
    simp only[ah,aZ] at hc
    obtain⟨c1,c2,c3⟩:=hc
    split at h
    ·rename_i e _
     subst e
     split at h
     ·rename_i l' hl
      cases h
      have:=dW hl
      cases this
      have c1:=ab c1
      subst c1;subst c2;subst c3
      exact⟨rfl,rfl,fun _ _=>rfl⟩
     ·cases h
    ·cases h
   ·cases h
  ·cases h
 ·split at h
  ·split at h
   ·rename_i hc
    have c1:=ab hc
    subst c1
    split at h
    ·split at h
     ·rename_i xs' hx
      cases h
      have i1:(cw _ (xs'++r)).2=r:=(hY (lnC:=fun k=>s.ln ((H[k-1000]?).getD 0)) (fun i h hi=>by simp[ep hi]) hx r).1
      refine⟨i1,rfl,fun lnC hln=>?_⟩
      obtain⟨_,i2⟩:=hY hln hx r
      simp only[qp,TO.er,cond_false,i2,lO]
      rfl
     ·cases h
    ·split at h
     ·rename_i hn _
      subst hn
      have i1:(cw _ (xs++r)).2=r:=(hY (lnC:=fun k=>s.ln ((H[k-1000]?).getD 0)) (fun i h hi=>by simp[ep hi]) h r).1
      refine⟨i1,rfl,fun lnC hln=>?_⟩
      obtain⟨_,i2⟩:=hY hln h r
      simp only[qp,TO.er,cond_false,i2,lO]
     ·cases h
   ·cases h
  ·cases h
theorem xL {s:ag S}{vw:Bool}{H:List Nat}:∀{hs:List Nat}{l:List Oh}{xs:List (aY S.α)}(i:Nat),oR s vw H hs l=some xs→∀r,(bS (mg l (1000+i)) (xs++r)).2=r∧
  (∀n h,hs[n]?=some h→bG (bS (mg l (1000+i)) (xs++r)).1 (1000+(i+n))=s.ln h)∧
  ∀lnC:Nat→Nat,(∀i h,dm H h=some i→lnC (1000+i)=s.ln h)→fM H (dO s.er.st H vw) s.er.st hs i=some (bA lnC (bS (mg l (1000+i)) (xs++r)).1)
 | [],[],xs,i,h,r=>by simp only[oR] at h;cases h;exact⟨rfl,fun n h hn=>by simp at hn,fun _ _=>rfl⟩
 | h0::hs,oh::l,xs,i,h,r=>by
  simp only[oR] at h
  split at h
  ·rename_i o ho
   split at h
   ·rename_i a ha
    split at h
    ·rename_i l' hl
     cases h
     rw[aL]
     obtain⟨i1,i2,i3⟩:=G7 ha (l'++r)
     obtain⟨j1,j2,j3⟩:=xL (i+1) hl r
     simp only[mg,bS]
     rw[i1]
     refine⟨j1,fun n h hn=>?_,fun lnC hln=>?_⟩
     ·cases n with
      | zero=>
       cases hn
       unfold bG ag.ln bG
       simp only[fG,aA,aK,cond_true,ho,i2]
      | succ n=>
       have:=j2 n h (by simpa using hn)
       rw[←this]
       have e:1000+(i+(n+1))=1000+(i+1+n):=by omega
       rw[e]
       unfold bG
       rw[jW _ _ (by omega)]
       rfl
     ·simp only[fM,dJ ho,i3 lnC hln,bA]
      have:=j3 lnC hln
      rw[show 1000+(i+1)=1000+i+1 by omega] at this
      rw[this]
    ·cases h
   ·cases h
  ·cases h
 | [],_::_,_,_,h,_=>by simp[oR] at h
 | _::_,[],_,_,h,_=>by simp[oR] at h
def TV.lm (vw:Bool) (f:Nat→Option Nat):TV S→Option (TV S)
 | .ae b τ a=>match !vw||(b||τ.gW) with
  | true=>some (.ae b τ a)
  | false=>none
 | .ptr b τ a=>match !vw||b with
  | true=>some (.ptr b τ a)
  | false=>none
 | .loc h o=>match f h with
  | some h'=>some (.loc h' o)
  | none=>none
 | .aM h τ=>match f h with
  | some h'=>some (.aM h' τ)
  | none=>none
 | .sub h τ o n=>match f h with
  | some h'=>some (.sub h' τ o n)
  | none=>none
 | .ia h τ a j=>match f h with
  | some h'=>some (.ia h' τ a j)
  | none=>none
 | .agg l=>match go f l with
  | some l'=>some (.agg l')
  | none=>none
 | .aT l=>match go f l with
  | some l'=>some (.aT l')
  | none=>none
 | .aR g l=>match go f l with
  | some l'=>some (.aR g l')
  | none=>none
 | .val u=>some (.val u)
 | .any=>some .any
 | .cT h=>match f h with
  | some h'=>some (.cT h')
  | none=>none
 | .mp h=>match f h with
  | some h'=>some (.mp h')
  | none=>none
 | .ks h τ i n=>match f h with
  | some h'=>some (.ks h' τ i n)
  | none=>none
 | .kp h τ i j=>match f h with
  | some h'=>some (.kp h' τ i j)
  | none=>none
 | .gH b h τ i j=>match f h with
  | some h'=>some (.gH b h' τ i j)
  | none=>none
 | .bP b h o=>match f h with
  | some h'=>some (.bP b h' o)
  | none=>none
where go (f:Nat→Option Nat):List (TV S)→Option (List (TV S))
 | []=>some []
 | x::r=>match x.lm vw f with
  | some y=>match go f r with
   | some ys=>some (y::ys)
   | none=>none
  | none=>none
theorem Fg (vw:Bool) (fm:Nat→Option Nat) (f:Bool){τ:Ty}(h:τ.fq=false) (hv:(!vw||(f||τ.gW))=true) (a:S.D τ):dw vw fm (dc f (da S τ a))=some (dc f (da S τ a)):=by
 cases τ with
 | st n=>cases h
 | list t=>
  cases f with
  | true=>rfl
  | false=>
   cases vw with
   | true=>cases hv
   | false=>rfl
 | pt n=>
  cases f with
  | true=>cases a <;> rfl
  | false=>
   cases vw with
   | true=>cases hv
   | false=>cases a <;> rfl
 | _=>cases f <;> rfl
mutual
theorem Ff {vw:Bool}{f:Nat→Option Nat}{ln ln':Nat→Nat}(hln:∀k k',f k=some k'→ln' k'=ln k):∀(v v':TV S),v.lm vw f=some v'→dw vw f (v.er ln)=some (v'.er ln')
 | .ae b τ a,v',h=>by
  simp only[TV.lm] at h
  split at h
  ·rename_i hv
   cases h
   cases τ with
   | st n=>
    show(dw.go vw f ((aP S (.st n) a).map (dc b))).map G.agg=some (.agg ((aP S (.st n) a).map (dc b)))
    have hv:(!vw||b)=true:=by simpa[Ty.gW] using hv
    have:dw.go vw f ((aP S (.st n) a).map (dc b))=some ((aP S (.st n) a).map (dc b)):=by
     rw[fZ]
     have h:=kB n a
     generalize S.cells n a=l at h
     induction l with
     | nil=>rfl
     | cons x r ih=>
      simp only[az,dw.go]
      rw[Fg vw f b (h x aC) (by rw[←kA,hv];rfl) x.a,ih fun y hy=>h y (aw _ hy)]
    rw[this];rfl
   | _=>exact Fg vw f b rfl hv a
  ·cases h
 | .ptr b τ a,v',h=>by
  simp only[TV.lm] at h
  split at h
  ·rename_i hv
   cases h
   cases b with
   | true=>rfl
   | false=>
    cases vw with
    | true=>cases hv
    | false=>rfl
  ·cases h
 | .loc hh o,v',h=>by
  simp only[TV.lm] at h
  split at h
  ·rename_i i hi
   cases h
   simp only[TV.er,dw,hi,bY]
  ·cases h
 | .aM hh τ,v',h=>by
  simp only[TV.lm] at h
  split at h
  ·rename_i i hi
   cases h
   simp only[TV.er,dw,hi,bY,hln hh i hi]
  ·cases h
 | .sub hh τ o n,v',h=>by
  simp only[TV.lm] at h
  split at h
  ·rename_i i hi
   cases h
   simp only[TV.er,dw,hi,bY]
  ·cases h
 | .ia hh τ a j,v',h=>by
  simp only[TV.lm] at h
  split at h
  ·rename_i i hi
   cases h
   simp only[TV.er,dw,hi,bY]
  ·cases h
 | .agg l,v',h=>by
  simp only[TV.lm] at h
  split at h
  ·rename_i l' hl
   cases h
   simp only[TV.er,dw,sX hln l l' hl,bY]
  ·cases h
 | .aT l,v',h=>by
  simp only[TV.lm] at h
  split at h
  ·rename_i l' hl
   cases h
   simp only[TV.er,dw,sX hln l l' hl,bY]
  ·cases h
 | .aR g l,v',h=>by
  simp only[TV.lm] at h
  split at h
  ·rename_i l' hl
   cases h
   simp only[TV.er,dw,sX hln l l' hl,bY]
  ·cases h
 | .val u,v',h=>by simp only[TV.lm] at h;cases h;rfl
 | .any,v',h=>by simp only[TV.lm] at h;cases h;rfl
 | .cT hh,v',h=>by
  simp only[TV.lm] at h
  split at h
  ·rename_i i hi
   cases h
   simp only[TV.er,dw,hi,bY]
  ·cases h
 | .mp hh,v',h=>by
  simp only[TV.lm] at h
  split at h
  ·rename_i i hi
   cases h
   simp only[TV.er,dw,hi,bY]
  ·cases h
 | .ks hh _ _ _,v',h=>by
  simp only[TV.lm] at h
  split at h
  ·rename_i i hi
   cases h
   simp only[TV.er,dw,hi,bY]
  ·cases h
 | .kp hh _ _ _,v',h=>by
  simp only[TV.lm] at h
  split at h
  ·rename_i i hi
   cases h
   simp only[TV.er,dw,hi,bY]
  ·cases h
 | .gH b hh _ _ _,v',h=>by
  simp only[TV.lm] at h
  split at h
  ·rename_i i hi
   cases h
   cases b with
   | true=>rfl
   | false=>simp only[TV.er,cond_false,dw,hi,bY]
  ·cases h
 | .bP b hh _,v',h=>by
  simp only[TV.lm] at h
  split at h
  ·rename_i i hi
   cases h
   cases b with
   | true=>rfl
   | false=>simp only[TV.er,cond_false,dw,hi,bY]
  ·cases h
theorem sX {vw:Bool}{f:Nat→Option Nat}{ln ln':Nat→Nat}(hln:∀k k',f k=some k'→ln' k'=ln k):∀(l l':List (TV S)),TV.lm.go vw f l=some l'→dw.go vw f (TV.er.go ln l)=some (TV.er.go ln' l')
 | [],l',h=>by cases h;rfl
 | x::r,l',h=>by
  simp only[TV.lm.go] at h
  split at h
  ·rename_i y hy
   split at h
   ·rename_i ys hys
    cases h
    simp only[TV.er.go,dw.go,Ff hln x y hy,sX hln r ys hys]
   ·cases h
  ·cases h
end
end
end Go.DN
/-
 DN,part X:what comes back of a call to which objects were lent.
-/
namespace Go.DN
open Go.AM
section
variable {S:dr}
def nG (vw:Bool) (f:Nat→Option Nat) (A:Bool) (gst:List (Nat×aq)):List (Nat×TO S)→List Nat→Option (List (Nat×TO S))
 | [],[]=>some []
 | (j,o)::r,h::hs=>match o with
  | .box e m cs=>match TV.lm.go vw f cs with
   | some cs'=>match nG vw f A gst r hs with
    | some r'=>some ((h,.box e (bif pinned j then xJ gst h else m||A) cs')::r')
    | none=>none
   | none=>none
  | .arr e m b τ l=>match !vw||b with
   | true=>match nG vw f A gst r hs with
    | some r'=>some ((h,.arr e (bif pinned j then xJ gst h else m||A) b τ l)::r')
    | none=>none
   | false=>none
  | .lp key n cs=>match TV.lm.go vw f cs with
   | some cs'=>match nG vw f A gst r hs with
    | some r'=>some ((h,.lp key n cs')::r')
    | none=>none
   | none=>none
  | .deep e m b dk τ l=>match !vw||b with
   | true=>match nG vw f A gst r hs with
    | some r'=>some ((h,.deep e (bif pinned j then xJ gst h else m||A) b dk τ l)::r')
    | none=>none
   | false=>none
 | _,_=>none
theorem rz {vw:Bool}{f:Nat→Option Nat}{ln ln':Nat→Nat}(hln:∀k k',f k=some k'→ln' k'=ln k){A:Bool}{gst:List (Nat×aq)}:∀{outs:List (Nat×TO S)}{bk:List Nat}{sb:List (Nat×TO S)},nG vw f A gst outs bk=some sb→kP vw f A gst (bA ln outs) bk=some (bA ln' sb)
 | [],[],sb,h=>by cases h;rfl
 | (j,o)::r,h0::hs,sb,h=>by
  simp only[nG] at h
  cases o with
  | lp p n cs=>
   dsimp only at h
   split at h
   ·rename_i cs' hcs
    split at h
    ·rename_i r' hr
     cases h
     simp only[bA,kP,rz hln hr,TO.er]
     simp only[tv,cond_false,sX hln cs cs' hcs,nR,qt,cond_true]
    ·cases h
   ·cases h
  | arr e m b τ l=>
   dsimp only at h
   split at h
   ·rename_i hv
    split at h
    ·rename_i r' hr
     cases h
     simp only[bA,kP,rz hln hr,TO.er]
     have hv:(vw&&!b)=false:=by cases vw <;> cases b <;> first | rfl | cases hv
     simp only[tv,cond_true,hv,cond_false,nR,qt]
     cases pinned j <;> rfl
    ·cases h
   ·cases h
  | deep e m b dk τ l=>
   dsimp only at h
   split at h
   ·rename_i hv
    split at h
    ·rename_i r' hr
     cases h
     simp only[bA,kP,rz hln hr,TO.er]
     have hv:(vw&&!b)=false:=by cases vw <;> cases b <;> first | rfl | cases hv
     simp only[tv,cond_true,hv,cond_false,nR,qt]
     cases pinned j <;> rfl
    ·cases h
   ·cases h
  | box e m cs=>
   dsimp only at h
   split at h
   ·rename_i cs' hcs
    split at h
    ·rename_i r' hr
     cases h
     simp only[bA,kP,rz hln hr,TO.er]
     simp only[tv,cond_false,sX hln cs cs' hcs,nR,qt,cond_true]
     cases pinned j <;> rfl
    ·cases h
   ·cases h
 | [],_::_,_,h=>by cases h
 | _::_,[],_,h=>by cases h
theorem yk {vw:Bool}{f:Nat→Option Nat}{A:Bool}{gst:List (Nat×aq)}{ln:Nat→Nat}:∀{outs:List (Nat×TO S)}{bk:List Nat}{sb:List (Nat×TO S)},nG vw f A gst outs bk=some sb→qQ bk=true→
  ∀k k',iP (bA ln outs) bk k=some k'→k'∈bk∧∃o o',aA outs k=some o∧aA sb k'=some o'∧o'.len=o.len
 | [],[],sb,h,_,k,k',hk=>by cases hk
 | (j,o)::r,h0::hs,sb,h,hn,k,k',hk=>by
  simp only[qQ,ah,aZ] at hn
  have hsb:∃o' r',sb=(h0,o')::r'∧o'.len=o.len∧nG vw f A gst r hs=some r':=by
   simp only[nG] at h
   cases o with
   | lp p n cs=>
    dsimp only at h
    split at h
    ·split at h
     ·rename_i r' hr;cases h;exact⟨_,_,rfl,rfl,hr⟩
     ·cases h
    ·cases h
   | arr e m b τ l=>
    dsimp only at h
    split at h
    ·split at h
     ·rename_i r' hr;cases h;exact⟨_,_,rfl,rfl,hr⟩
     ·cases h
    ·cases h
   | deep e m b dk τ l=>
    dsimp only at h
    split at h
    ·split at h
     ·rename_i r' hr;cases h;exact⟨_,_,rfl,rfl,hr⟩
     ·cases h
    ·cases h
   | box e m cs=>
    dsimp only at h
    split at h
    ·split at h
     ·rename_i r' hr;cases h;exact⟨_,_,rfl,rfl,hr⟩
     ·cases h
    ·cases h
  obtain⟨o',r',rfl,hlen,hr⟩:=hsb
  simp only[bA,iP] at hk
  cases hb:Nat.beq j k with
  | true=>
   rw[hb] at hk
   cases hk
   have:=ab hb
   subst this
   exact⟨aC,o,o',by simp only[aA,aK,cond_true],by simp only[aA,aK,cond_true],hlen⟩
  | false=>
   rw[hb] at hk
   obtain⟨i1,a,b,i2,i3,i4⟩:=yk (ln:=ln) hr hn.2 k k' hk
   refine⟨aw _ i1,a,b,by simp only[aA,hb,cond_false];exact i2,?_,i4⟩
   have hne:Nat.beq h0 k'=false:=by
    cases hq:Nat.beq h0 k' with
    | false=>rfl
    | true=>
     have:=ab hq
     subst this
     have h2:=hn.1
     rw[fC.2 i1] at h2
     cases h2
   simp only[aA,hne,cond_false];exact i3
 | [],_::_,_,h,_,_,_,_=>by cases h
 | _::_,[],_,h,_,_,_,_=>by cases h
end
end Go.DN
/-
 DN,part Y:a call to which objects are lent:the caller's state behind it.
-/
namespace Go.DN
open Go.AM
section
variable {S:dr}
mutual
def Q8:Sh→TV S→List (Nat×Nat)
 | .own r _,v=>match v with
  | .aM h _=>[(r,h)]
  | _=>[]
 | .loc r _,v=>match v with
  | .loc h _=>[(r,h)]
  | _=>[]
 | .aR _ l,v=>match v with
  | .aR _ vs=>uq l vs
  | _=>[]
 | .agg l,v=>match v with
  | .agg vs=>uq l vs
  | _=>[]
 | .cT r,v=>match v with
  | .cT h=>[(r,h)]
  | _=>[]
 | .mp r,v=>match v with
  | .mp h=>[(r,h)]
  | _=>[]
 | .bP r _,v=>match v with
  | .loc h _=>[(r,h)]
  | .bP _ h _=>[(r,h)]
  | _=>[]
 | .ks r _,v=>match v with
  | .ks h _ _ _=>[(r,h)]
  | _=>[]
 | .sub r _,v=>match v with
  | .sub h _ _ _=>[(r,h)]
  | _=>[]
 | _,_=>[]
def uq:List Sh→List (TV S)→List (Nat×Nat)
 | x::r,v::vs=>Q8 x v++uq r vs
 | _,_=>[]
end
def look:List (Nat×Nat)→Nat→Option Nat
 | [],_=>none
 | (k,h)::r,j=>bif Nat.beq k j then some h else look r j
def AA (st:List (Nat×TO S)):List Oh→Nat→List (Nat×Nat)→Option (List Nat)
 | [],_,_=>some []
 | oh::r,j,ps=>match look ps j with
  | some h=>match AA st r (j+1) (match oh with
    | .box _ _ cs=>match aA st h with
     | some (.box _ _ vs)=>ps++uq cs vs
     | _=>ps
    | .lp _ _ cs=>match aA st h with
     | some (.lp _ _ vs)=>ps++uq cs vs
     | _=>ps
    | _=>ps) with
   | some hs=>some (h::hs)
   | none=>none
  | none=>none
def Qj (s:ag S) (used:List Nat):Nat→Nat→Nat
 | k,0=>k
 | k,n+1=>bif s.free k&&!(bo k used) then k else Qj s used (k+1) n
def Rz (H:List Nat) (j:Nat) (used:List Nat) (h:Nat):Nat:=match Nat.ble 480 j with
 | true=>match H[j-480]? with
  | some h'=>bif Nat.blt h' 1000&&!(bo h' used) then h' else h
  | none=>h
 | false=>h
def Ov (s:ag S) (H:List Nat) (d:Nat):List Nat→List Nat→Option (List Nat)
 | [],_=>some []
 | j::r,used=>match pinned j with
  | true=>match H[j-1000]? with
   | some h=>match Ov s H d r (h::used) with
    | some hs=>some (h::hs)
    | none=>none
   | none=>none
  | false=>match Rz H j used (bif s.free d&&!(bo d used) then d else Qj s used s.nx 8) with
   | h=>match Ov s H d r (h::used) with
    | some hs=>some (h::hs)
    | none=>none
def uO (s:ag S) (H:List Nat):List Nat→List Nat→Bool
 | [],[]=>true
 | j::r,h::hs=>!(bo j r)&&(!(bo h hs)&&((bif pinned j then Og H (j-1000) h else Nat.blt h 1000&&((dm H h).isSome||s.free h))&&uO s H r hs))
 | _,_=>false
theorem wm {ln:Nat→Nat}{j:Nat}:∀l:List (Nat×TO S),gr (bA ln l) j=bo j (aH l)
 | []=>rfl
 | (k,o)::r=>by
  simp only[bA,gr,aH,bo,wm r]
  cases Nat.beq k j <;> rfl
theorem xb {h:Nat}{l:List Nat}:l.contains h=bo h l:=by
 cases hb:bo h l with
 | true=>exact fC.2 (bJ.1 hb)
 | false=>
  cases hc:l.contains h with
  | false=>rfl
  | true=>rw[bJ.2 (fC.1 hc)] at hb;cases hb
theorem Ac {s:ag S}{H:List Nat}{ln:Nat→Nat}:∀{O:List (Nat×TO S)}{bk:List Nat},uO s H (aH O) bk=true→oI s.er H (bA ln O) bk=true∧qQ bk=true
 | [],[],_=>⟨rfl,rfl⟩
 | (j,o)::r,h::hs,e=>by
  simp only[aH,uO,ah,aZ] at e
  obtain⟨e1,e2,e3,e4⟩:=e
  obtain⟨i1,i2⟩:=Ac (ln:=ln) e4
  refine⟨?_,?_⟩
  ·simp only[bA,oI,wm,xb,e1,e2,i1,eE,jF,lD]
   cases hp:pinned j with
   | true=>rw[hp] at e3;exact e3
   | false=>
    rw[hp] at e3
    simp only[cond_false,ah,cf] at e3⊢
    exact⟨e3.1,e3.2.imp id iM⟩
  ·simp only[qQ,xb,e2,i2,eE,jF]
 | [],_::_,e=>by cases e
 | _::_,[],e=>by cases e
theorem DT {s:ag S}{H:List Nat}:∀{js bk:List Nat},uO s H js bk=true→∀k,k∈bk→k∈H∨s.free k=true
 | [],[],_,k,hk=>by cases hk
 | j::r,h::hs,e,k,hk=>by
  simp only[uO,ah] at e
  obtain⟨_,_,e3,e4⟩:=e
  rcases bU.1 hk with rfl | hk
  ·cases hp:pinned j with
   | true=>rw[hp] at e3;exact .inl (aQ (K6 e3))
   | false=>
    rw[hp] at e3
    simp only[cond_false,ah,cf] at e3
    rcases e3.2 with h | h
    ·obtain⟨i,hi⟩:=Option.isSome_iff_exists.1 h
     exact .inl (aQ (ep hi))
    ·exact .inr h
  ·exact DT e4 k hk
 | [],_::_,e,_,_=>by cases e
 | _::_,[],e,_,_=>by cases e
def eM (js:List Nat):List Nat→Nat→List Nat
 | [],_=>[]
 | h::r,i=>bif bo (1000+i) js then eM js r (i+1) else h::eM js r (i+1)
theorem z6 {ln:Nat→Nat}{O:List (Nat×TO S)}:∀(H:List Nat) (i:Nat),ee (bA ln O) H i=eM (aH O) H i
 | [],_=>rfl
 | h::r,i=>by simp only[ee,eM,wm,z6 r (i+1)]
def tX:List Nat→TV S→Bool
 | [],_=>false
 | h::r,v=>v.has h||tX r v
theorem ym (ln:Nat→Nat) (v:TV S):∀ds:List Nat,pB ds (v.er ln)=tX ds v
 | []=>rfl
 | h::r=>by simp only[pB,tX,vr,ym ln v r]
def qA (ds:List Nat):List (Nat×TV S)→List (Nat×TV S)
 | []=>[]
 | (t,v)::r=>(t,bif tX ds v then .any else v)::qA ds r
def mR (ds:List Nat):List (TV S)→Bool
 | []=>true
 | v::r=>!(tX ds v)&&mR ds r
def yd (ds:List Nat):List (Nat×TV S)→Bool
 | []=>true
 | (_,v)::r=>!(tX ds v)&&yd ds r
def mQ (ds:List Nat):List (Nat×TO S)→Bool
 | []=>true
 | (_,.box _ _ cs)::r=>mR ds cs&&mQ ds r
 | (_,.arr ..)::r=>mQ ds r
 | (_,.deep ..)::r=>mQ ds r
 | (_,.lp _ _ cs)::r=>mR ds cs&&mQ ds r
def nW (ds:List Nat):List (Nat×TO S)→Bool
 | []=>true
 | (_,.box _ _ _)::r=>nW ds r
 | (_,.arr ..)::r=>nW ds r
 | (_,.deep ..)::r=>nW ds r
 | (_,.lp _ _ cs)::r=>mR ds cs&&nW ds r
def Gs (ds:List Nat) (a b:List (Nat×TO S)):Bool:=nW ds a&&mQ ds b
def Ev (ds:List Nat):List (TV S)→List (TV S)
 | []=>[]
 | v::r=>(bif tX ds v then .any else v)::Ev ds r
def tN (ds:List Nat):TO S→TO S
 | .box e m cs=>.box e m (Ev ds cs)
 | o=>o
def nD (ds:List Nat):List (Nat×TO S)→List (Nat×TO S)
 | []=>[]
 | (h,o)::r=>(h,tN ds o)::nD ds r
def ko (H:List Nat):List (Nat×TO S)→List (Nat×TO S)
 | []=>[]
 | (h,o)::r=>match dm H h with
  | some _=>ko H r
  | none=>(h,o)::ko H r
def oQ (s:ag S) (sb:List (Nat×TO S)){A:Type}:List Nat→Option A→Option A
 | [],k=>k
 | h::r,k=>match aA sb h with
  | none=>oQ s sb r k
  | some o'=>match aA s.a7 h with
   | some (.arr _ _ _ τ l)=>match o' with
    | .arr _ _ _ τ' l'=>bif Nat.beq (List.length l') (List.length l) then oQ s sb r k else none
    | _=>none
   | some (.box _ _ _)=>match o' with
    | .box _ _ _=>oQ s sb r k
    | _=>none
   | some (.lp _ _ _)=>match o' with
    | .lp _ _ _=>oQ s sb r k
    | _=>none
   | some (.deep _ _ _ _ τ l)=>match o' with
    | .deep _ _ _ _ τ' l'=>bif Nat.beq (uS τ' l') (uS τ l) then oQ s sb r k else none
    | _=>none
   | _=>none
theorem nT {s:ag S}{sb:List (Nat×TO S)}{A:Type}{k:Option A}{r:A}:∀{H:List Nat},oQ s sb H k=some r→k=some r∧∀h,h∈H→∀o',aA sb h=some o'→o'.len=s.ln h
 | [],e=>⟨e,fun h hm=>by cases hm⟩
 | h0::hs,e=>by
  simp only[oQ] at e
  split at e
  ·rename_i hn
   obtain⟨i1,i2⟩:=nT e
   refine⟨i1,fun h hm o' ho=>?_⟩
   rcases bU.1 hm with rfl | hm
   ·rw[hn] at ho;cases ho
   ·exact i2 h hm o' ho
  ·rename_i o1 ho1
   split at e
   ·rename_i a b c τ l hs1
    split at e
    ·rename_i τ' l'
     cases hb:Nat.beq (List.length l') (List.length l) with
     | false=>rw[hb] at e;cases e
     | true=>
      rw[hb] at e
      obtain⟨i1,i2⟩:=nT e
      refine⟨i1,fun h hm o' ho=>?_⟩
      rcases bU.1 hm with rfl | hm
      ·rw[ho1] at ho
       cases ho
       unfold ag.ln bG
       rw[hs1]
       exact ab hb
      ·exact i2 h hm o' ho
    ·cases e
   ·rename_i a b c hs1
    split at e
    ·obtain⟨i1,i2⟩:=nT e
     refine⟨i1,fun h hm o' ho=>?_⟩
     rcases bU.1 hm with rfl | hm
     ·rw[ho1] at ho
      cases ho
      unfold ag.ln bG
      rw[hs1]
      rfl
     ·exact i2 h hm o' ho
    ·cases e
   ·rename_i a b c hs1
    split at e
    ·obtain⟨i1,i2⟩:=nT e
     refine⟨i1,fun h hm o' ho=>?_⟩
     rcases bU.1 hm with rfl | hm
     ·rw[ho1] at ho
      cases ho
      unfold ag.ln bG
      rw[hs1]
      rfl
     ·exact i2 h hm o' ho
    ·cases e
   ·rename_i a b c dk τ l hs1
    split at e
    ·rename_i τ' l'
     cases hb:Nat.beq (uS τ' l') (uS τ l) with
     | false=>rw[hb] at e;cases e
     | true=>
      rw[hb] at e
      obtain⟨i1,i2⟩:=nT e
      refine⟨i1,fun h hm o' ho=>?_⟩
      rcases bU.1 hm with rfl | hm
      ·rw[ho1] at ho
       cases ho
       unfold ag.ln bG
       rw[hs1]
       exact ab hb
      ·exact i2 h hm o' ho
    ·cases e
   ·cases e
theorem sV {vw A:Bool}{f:Nat→Option Nat}{gst:List (Nat×aq)}:∀{outs:List (Nat×TO S)}{bk:List Nat}{sb:List (Nat×TO S)},nG vw f A gst outs bk=some sb→aH sb=bk
 | [],[],sb,h=>by cases h;rfl
 | (j,o)::r,h0::hs,sb,h=>by
  simp only[nG] at h
  cases o with
  | lp p n cs=>
   dsimp only at h
   split at h
   ·split at h
    ·rename_i r' hr;cases h;simp only[aH,sV hr]
    ·cases h
   ·cases h
  | arr e m b τ l=>
   dsimp only at h
   split at h
   ·split at h
    ·rename_i r' hr;cases h;simp only[aH,sV hr]
    ·cases h
   ·cases h
  | deep e m b dk τ l=>
   dsimp only at h
   split at h
   ·split at h
    ·rename_i r' hr;cases h;simp only[aH,sV hr]
    ·cases h
   ·cases h
  | box e m cs=>
   dsimp only at h
   split at h
   ·split at h
    ·rename_i r' hr;cases h;simp only[aH,sV hr]
    ·cases h
   ·cases h
 | [],_::_,_,h=>by cases h
 | _::_,[],_,h=>by cases h
theorem zH {H:List Nat}{h:Nat}(hi:dm H h=none):∀{st:List (Nat×TO S)},aA (ko H st) h=aA st h
 | []=>rfl
 | (x,o)::r=>by
  simp only[ko]
  cases hx:dm H x with
  | some i=>
   simp only[]
   rw[zH hi]
   refine(jW o r fun e=>?_).symm
   subst e;rw[hi] at hx;cases hx
  | none=>
   simp only[aA]
   rw[zH hi]
theorem Ce {H:List Nat}{ln:Nat→Nat}:∀st:List (Nat×TO S),fg H (bA ln st)=bA ln (ko H st)
 | []=>rfl
 | (x,o)::r=>by
  simp only[bA,fg,ko]
  cases dm H x with
  | some i=>exact Ce r
  | none=>simp only[bA,Ce r]
theorem vW {H:List Nat}:∀(a b:List (Nat×TO S)),ko H (a++b)=ko H a++ko H b
 | [],_=>rfl
 | (x,o)::r,b=>by
  simp only[ca,ko]
  cases dm H x with
  | some i=>exact vW r b
  | none=>simp only[ca,vW r b]
theorem Cd {H:List Nat}:∀{l:List (Nat×TO S)},apart (aH l) H=true→ko H l=l
 | [],_=>rfl
 | (x,o)::r,e=>by
  have h1:=apart_spec e
  simp only[ko]
  have:dm H x=none:=by
   cases hx:dm H x with
   | none=>rfl
   | some i=>exact absurd (aQ (ep hx)) (h1 x (by simp[aH]))
  rw[this]
  simp only[]
  rw[Cd]
  simp only[aH,apart] at e
  split at e
  ·cases e
  ·exact e
def gg (s:ag S) (H ds:List Nat) (sb:List (Nat×TO S)) (n:Nat):ag S:={fr:=qA ds s.fr,lo:=s.lo,st:=sb++nD ds (ko H s.st),bF:=s.bF,df:=s.df,nx:=s.nx+n,last:=[]}
theorem AL {ds:List Nat}{k:Nat}:∀{l:List (Nat×TO S)},aA (nD ds l) k=(aA l k).map (tN ds)
 | []=>rfl
 | (h,o)::r=>by
  simp only[nD,aA]
  cases Nat.beq h k with
  | true=>rfl
  | false=>exact AL
theorem Jy {ds:List Nat}(o:TO S):(tN ds o).len=o.len:=by cases o <;> rfl
theorem Rh {s:ag S}{H js bk ds:List Nat}{sb:List (Nat×TO S)}{n:Nat}(hb:uO s H js bk=true) (hk:aH sb=bk) (hH:apart H (aH s.bF)=true) (hl:∀h,h∈H→h∉ds→∀o',aA sb h=some o'→o'.len=s.ln h)
  (hd:∀h,h∈H→h∉ds→h∈bk) (k:Nat) (h1:k∉ds) (h2:s.free k=false∨k∈H):(gg s H ds sb n).ln k=s.ln k:=by
 unfold ag.ln
 have key:∀o,aA sb k=some o→bG (sb++nD ds (ko H s.st)++s.bF) k=o.len:=by
  intro o ho
  unfold bG
  rw[aL,eo,ho]
 show bG (sb++nD ds (ko H s.st)++s.bF) k=bG s.a7 k
 by_cases hkH:k∈H
 ·have hkb:=hd k hkH h1
  rw[←hk] at hkb
  obtain⟨o,ho⟩:=nO hkb
  rw[key o ho]
  exact hl k hkH h1 o ho
 ·have hkb:k∉bk:=fun hm=>by
   rcases DT hb k hm with h | h
   ·exact hkH h
   ·rcases h2 with h2 | h2
    ·rw[h2] at h;cases h
    ·exact hkH h2
  have hi:dm H k=none:=by
   cases hx:dm H k with
   | none=>rfl
   | some i=>exact absurd (aQ (ep hx)) hkH
  unfold bG
  rw[aL,eo,qn (by rw[hk];exact hkb),eo,AL,zH hi]
  unfold ag.a7
  rw[eo]
  cases aA s.st k with
  | none=>rfl
  | some o=>exact Jy o
theorem wW {ds:List Nat}{v:TV S}(h:tX ds v=false):∀k,v.has k=true→k∉ds:=by
 induction ds with
 | nil=>intro k _ hm;cases hm
 | cons x r ih=>
  simp only[tX,bO] at h
  intro k hk hm
  rcases bU.1 hm with rfl | hm
  ·rw[h.1] at hk;cases hk
  ·exact ih h.2 k hk hm
theorem Gl {ds:List Nat}{ln ln':Nat→Nat}:∀{fr:List (Nat×TV S)},(∀k,k∉ds→fT k fr=true→ln' k=ln k)→jq ln' (qA ds fr)=mP ds (jq ln fr)
 | [],_=>rfl
 | (t,v)::r,h=>by
  simp only[qA,jq,mP,rG,ym]
  rw[Gl fun k h1 h2=>h k h1 (by simp[fT,h2])]
  cases ha:tX ds v with
  | true=>rfl
  | false=>
   simp only[cond_false]
   rw[rk v fun k hk=>h k (wW ha k hk) (by simp[fT,hk])]
theorem yc {ds:List Nat}:∀{fr:List (Nat×TV S)},yd ds fr=true→qA ds fr=fr
 | [],_=>rfl
 | (t,v)::r,h=>by
  simp only[yd,ah,aZ] at h
  simp only[qA,h.1,cond_false,yc h.2]
theorem DH {ds:List Nat}:∀(a b:List (Nat×TV S)),qA ds (a++b)=qA ds a++qA ds b
 | [],_=>rfl
 | (t,v)::r,b=>by simp only[ca,qA,DH r b]
theorem wG {ds:List Nat}{ln ln':Nat→Nat}:∀{l:List (TV S)},mR ds l=true→(∀k,k∉ds→TV.has.go k l=true→ln' k=ln k)→TV.er.go ln' l=(TV.er.go ln l).map (rG ds)
 | [],_,_=>rfl
 | v::r,e,h=>by
  simp only[mR,ah,aZ] at e
  simp only[TV.er.go,az,rG,ym,e.1,cond_false]
  rw[rk (ln':=ln) v fun k hk=>h k (wW e.1 k hk) (by simp[TV.has.go,hk]),wG e.2 fun k h1 h2=>h k h1 (by simp[TV.has.go,h2])]
theorem tO {ds:List Nat}{ln ln':Nat→Nat}:∀{st:List (Nat×TO S)},mQ ds st=true→(∀k,k∉ds→cW k st=true→ln' k=ln k)→bA ln' st=dB ds (bA ln st)
 | [],_,_=>rfl
 | (x,.arr e m f τ l)::r,hc,h=>by
  simp only[mQ] at hc
  simp only[bA,dB,TO.er,nE,cond_true]
  rw[tO hc fun k h1 h2=>h k h1 (by simp[cW,h2])]
 | (x,.deep e m f dk τ l)::r,hc,h=>by
  simp only[mQ] at hc
  simp only[bA,dB,TO.er,nE,cond_true]
  rw[tO hc fun k h1 h2=>h k h1 (by simp[cW,h2])]
 | (x,.box e m cs)::r,hc,h=>by
  simp only[mQ,ah] at hc
  simp only[bA,dB,TO.er,nE,cond_false]
  rw[tO hc.2 fun k h1 h2=>h k h1 (by simp[cW,h2]),wG hc.1 fun k h1 h2=>h k h1 (by simp[cW,TO.has,h2])]
 | (x,.lp p n cs)::r,hc,h=>by
  simp only[mQ,ah] at hc
  simp only[bA,dB,TO.er,nE,cond_false]
  rw[tO hc.2 fun k h1 h2=>h k h1 (by simp[cW,h2]),wG hc.1 fun k h1 h2=>h k h1 (by simp[cW,TO.has,h2])]
theorem DG {ds:List Nat}{ln ln':Nat→Nat}:∀{l:List (TV S)},(∀k,k∉ds→TV.has.go k l=true→ln' k=ln k)→TV.er.go ln' (Ev ds l)=(TV.er.go ln l).map (rG ds)
 | [],_=>rfl
 | v::r,h=>by
  simp only[Ev,TV.er.go,az,rG,ym]
  rw[DG fun k h1 h2=>h k h1 (by simp[TV.has.go,h2])]
  cases ha:tX ds v with
  | true=>rfl
  | false=>
   simp only[cond_false]
   rw[rk v fun k hk=>h k (wW ha k hk) (by simp[TV.has.go,hk])]
theorem tM {ds:List Nat}{ln ln':Nat→Nat}:∀{st:List (Nat×TO S)},nW ds st=true→(∀k,k∉ds→cW k st=true→ln' k=ln k)→bA ln' (nD ds st)=dB ds (bA ln st)
 | [],_,_=>rfl
 | (x,.arr e m f τ l)::r,hc,h=>by
  simp only[nW] at hc
  simp only[bA,nD,tN,dB,TO.er,nE,cond_true]
  rw[tM hc fun k h1 h2=>h k h1 (by simp[cW,h2])]
 | (x,.deep e m f dk τ l)::r,hc,h=>by
  simp only[nW] at hc
  simp only[bA,nD,tN,dB,TO.er,nE,cond_true]
  rw[tM hc fun k h1 h2=>h k h1 (by simp[cW,h2])]
 | (x,.box e m cs)::r,hc,h=>by
  simp only[nW] at hc
  simp only[bA,nD,tN,dB,TO.er,nE,cond_false]
  rw[tM hc fun k h1 h2=>h k h1 (by simp[cW,h2]),DG fun k h1 h2=>h k h1 (by simp[cW,TO.has,h2])]
 | (x,.lp p n cs)::r,hc,h=>by
  simp only[nW,ah] at hc
  simp only[bA,nD,tN,dB,TO.er,nE,cond_false]
  rw[tM hc.2 fun k h1 h2=>h k h1 (by simp[cW,h2]),wG hc.1 fun k h1 h2=>h k h1 (by simp[cW,TO.has,h2])]
theorem vM {H:List Nat}{k:Nat}:∀{st:List (Nat×TO S)},cW k (ko H st)=true→cW k st=true
 | [],h=>h
 | (x,o)::r,h=>by
  simp only[ko] at h
  simp only[cW,cf]
  split at h
  ·exact .inr (vM h)
  ·simp only[cW,cf] at h
   exact h.imp id vM
theorem wD (ln:Nat→Nat):∀(a b:List (Nat×TO S)),bA ln (a++b)=bA ln a++bA ln b
 | [],_=>rfl
 | (x,o)::r,b=>by simp only[ca,bA,wD ln r b]
theorem vN (k:Nat):∀(a b:List (Nat×TO S)),cW k (a++b)=(cW k a||cW k b)
 | [],b=>rfl
 | (_,o)::r,b=>by simp only[ca,cW,vN k r b,kA]
theorem Bs {ds:List Nat}:∀(a b:List (Nat×aq)),dB ds (a++b)=dB ds a++dB ds b
 | [],_=>rfl
 | (h,k)::r,b=>by simp only[ca,dB,Bs r b]
def named (s:ag S) (k:Nat):Bool:=fT k s.bN||(cW k s.a7||TV.has.go k s.df)
theorem IQ {s:ag S}{k:Nat}(h:named s k=true):s.free k=false:=by
 cases hf:s.free k with
 | false=>rfl
 | true=>
  obtain⟨_,h2,h3,h4,_⟩:=free_spec hf
  unfold named at h
  rw[h2,h3,h4] at h
  cases h
theorem DV {s:ag S}{H js bk ds:List Nat}{sb:List (Nat×TO S)}{n:Nat}(hb:uO s H js bk=true) (hk:aH sb=bk) (hH:apart H (aH s.bF)=true) (hl:∀h,h∈H→h∉ds→∀o',aA sb h=some o'→o'.len=s.ln h)
  (hd:∀h,h∈H→h∉ds→h∈bk) (c1:yd ds s.lo=true) (c2:Gs ds (ko H s.st) s.bF=true) (c3:mR ds s.df=true):
  (gg s H ds sb n).er=⟨mP ds s.er.fr,bA (gg s H ds sb n).ln sb++dB ds (fg H s.er.st),s.er.df⟩:=by
 have key:∀k,k∉ds→named s k=true→(gg s H ds sb n).ln k=s.ln k:=fun k h1 h2=>Rh hb hk hH hl hd k h1 (.inl (IQ h2))
 have e1:jq (gg s H ds sb n).ln (gg s H ds sb n).bN=mP ds s.er.fr:=by
  show jq _ (qA ds s.fr++s.lo)=mP ds (jq s.ln (s.fr++s.lo))
  rw[←yc c1,←DH]
  rw[yc c1]
  exact Gl fun k h1 h2=>key k h1 (by unfold named ag.bN;rw[h2];rfl)
 have hap:apart (aH s.bF) H=true:=by
  have h:=apart_spec hH
  have:∀(l:List Nat),(∀x,x∈l→x∉H)→apart l H=true:=by
   intro l
   induction l with
   | nil=>intro _;rfl
   | cons x r ih=>
    intro hh
    simp only[apart]
    cases hm:bo x H with
    | true=>exact absurd (bJ.1 hm) (hh x aC)
    | false=>exact ih fun y hy=>hh y (aw _ hy)
  exact this _ fun x hx hxH=>h x hxH hx
 have e2:bA (gg s H ds sb n).ln (gg s H ds sb n).a7=bA (gg s H ds sb n).ln sb++dB ds (fg H s.er.st):=by
  show bA _ ((sb++nD ds (ko H s.st))++s.bF)=_++dB ds (fg H (bA s.ln (s.st++s.bF)))
  rw[aL,wD,Ce,vW,Cd hap]
  congr 1
  rw[wD,wD,Bs]
  have c2:nW ds (ko H s.st)=true∧mQ ds s.bF=true:=by simpa only[Gs,ah] using c2
  have go:∀k,k∉ds→cW k (ko H s.st++s.bF)=true→(gg s H ds sb n).ln k=s.ln k:=fun k h1 h2=>key k h1 (by
   have:cW k s.a7=true:=by
    refine vM (H:=H) ?_
    unfold ag.a7
    rw[vW,Cd hap]
    exact h2
   unfold named
   rw[this];simp)
  rw[tM c2.1 fun k h1 h2=>go k h1 (by rw[vN,h2];rfl),tO c2.2 fun k h1 h2=>go k h1 (by rw[vN,h2,Bool.or_true])]
 have e3:TV.er.go (gg s H ds sb n).ln s.df=TV.er.go s.ln s.df:=by
  refine pP _ fun k hk=>?_
  have cZ:∀(l:List (TV S)),mR ds l=true→TV.has.go k l=true→k∉ds:=by
   intro l
   induction l with
   | nil=>intro _ h;cases h
   | cons x r ih=>
    intro h1 h2
    simp only[mR,ah,aZ] at h1
    simp only[TV.has.go,cf] at h2
    rcases h2 with h2 | h2
    ·exact wW h1.1 k h2
    ·exact ih h1.2 h2
  exact key k (cZ _ c3 hk) (by unfold named;rw[hk];simp)
 show St.mk _ _ _=St.mk _ _ _
 rw[e1,e2]
 exact congrArg _ e3
end
end Go.DN
/-
 DN,part Z:calls by dM.
-/
namespace Go.DN
open Go.AM
section
variable {S:dr}
def AK (ok:Nat→Bool):List Nat→Bool
 | []=>true
 | h::r=>ok h&&AK ok r
theorem zI {ok:Nat→Bool}{W:List Nat}(hW:∀h,ok h=true→W.contains h=true):∀{H:List Nat},AK ok H=true→sQ H W=true
 | [],_=>rfl
 | h::r,e=>by
  simp only[AK,ah] at e
  have:=zI hW e.2
  unfold sQ at this⊢
  simp only[List.all_cons,this,hW h e.1,eV]
def eC (con:de S) (r:aT S.α (JH.cg ⟨con.aj,con.outs⟩)):List (Nat×TO S):=(bS con.outs (bT con.aj (leaves _ r)).2).1
def Rq (s:ag S) (H:List Nat) (con:de S) (r:aT S.α (JH.cg ⟨con.aj,con.outs⟩)) (bk:List Nat):Option (List (Nat×TO S)):=
 nG con.vw (iP (bA (bG (eC con r)) (eC con r)) bk) (jY s.er.st (bA (bG (eC con r)) (eC con r)) H 0) s.er.st (eC con r) bk
def RD (con:de S) (r:aT S.α (JH.cg ⟨con.aj,con.outs⟩)) (bk:List Nat):Option (TV S):=
 (lF con.aj (leaves _ r)).lm con.vw (iP (bA (bG (eC con r)) (eC con r)) bk)
def u0 (s:ag S) (H ds:List Nat) (js bk:List Nat):Bool:=
 uO s H js bk&&(within (minus H ds) bk&&(yd ds s.lo&&(Gs ds (ko H s.st) s.bF&&mR ds s.df)))
where minus (H ds:List Nat):List Nat:=match H with
 | []=>[]
 | h::r=>bif bo h ds then minus r ds else h::minus r ds
theorem pK {ds:List Nat}:∀{H:List Nat}{h:Nat},h∈H→h∉ds→h∈u0.minus H ds
 | x::r,h,hm,hd=>by
  simp only[u0.minus]
  cases hb:bo x ds with
  | true=>
   rw[cond_true]
   rcases bU.1 hm with rfl | hm
   ·exact absurd (bJ.1 hb) hd
   ·exact pK hm hd
  | false=>
   rw[cond_false]
   rcases bU.1 hm with rfl | hm
   ·exact aC
   ·exact aw _ (pK hm hd)
def Bz (ok:Nat→Bool) (con:de S) (s:ag S) (d:Nat) (vs:List (TV S)){A:Type}(k:ag S→Option A):Option A:=
 match AA s.a7 con.aI 1000 (uq con.args vs) with
 | some H=>match qQ H&&(AK ok H&&apart H (aH s.bF)) with
  | true=>match kN s con.vw H con.args vs with
   | some xs=>match oR s con.vw H H con.aI with
    | some ys=>match nz (iQ con.args con.aI) (xs++ys) with
     | some q=>(con.F q).bind fun r=>match Ov s H d (aH con.outs) [] with
      | some bk=>match u0 s H (eM (aH con.outs) H 0) (aH con.outs) bk with
       | true=>match Rq s H con r bk with
        | some sb=>match RD con r bk with
         | some rv=>oQ s sb (u0.minus H (eM (aH con.outs) H 0)) (k ((gg s H (eM (aH con.outs) H 0) sb con.outs.length).put d rv))
         | none=>none
        | none=>none
       | false=>none
      | none=>none
     | none=>none
    | none=>none
   | none=>none
  | false=>none
 | none=>none
theorem A2 (con:de S) (r:aT S.α (JH.cg ⟨con.aj,con.outs⟩)):aH (eC con r)=aH con.outs:=ku _ _
theorem wK {ln:Nat→Nat}{ds:List Nat}:∀{l:List (TV S)},mR ds l=true→(TV.er.go ln l).all (fun g=>!(pB ds g))=true
 | [],_=>rfl
 | v::r,e=>by
  simp only[mR,ah,aZ] at e
  simp only[TV.er.go,List.all_cons,ym,e.1,wK e.2,eE,eV]
theorem z8 {P:Program}{W:List Nat}{ok:Nat→Bool}(hW:∀h,ok h=true→W.contains h=true){con:de S}(C:bf P con){s:ag S}{d:Nat}{vs:List (TV S)}{A:Type}{k:ag S→Option A}{r:A}(hl:aJ s) (h:Bz ok con s d vs k=some r)
  {o:Oper}(heff:∀{gs':List G}{dQ:List (Nat×aq)}{Q:G→List (Nat×aq)→Prop}{T:St→Prop}(H:List Nat) (vw:Bool),bV.go H (dO s.er.st H vw) (TV.er.go s.ln vs)=some gs'→fM H (dO s.er.st H vw) s.er.st H 0=some dQ→qQ H=true→GM P con.f gs' dQ Q→
   (∀r st',Q r st'→∃bk s2 r',kY vw s.er H st' bk=some s2∧dw vw (iP st' bk) r=some r'∧T (s2.put d r'))→sQ H W=true→bW P W s.er o T):
  ∃T:St→Prop,bW P W s.er o T∧∀s',T s'→∃t:ag S,Gh s' t.er∧aJ t∧bj s t∧k t=some r:=by
 unfold Bz at h
 split at h
 ·rename_i H hH
  split at h
  ·rename_i hc
   simp only[ah] at hc
   obtain⟨c1,c2,c3⟩:=hc
   split at h
   ·rename_i xl hx
    split at h
    ·rename_i yl hy
     split at h
     ·rename_i q hq
      have hlq:=gP hq
      have hrest:(cw con.args (leaves _ q)).2=yl:=by
       rw[hlq]
       exact(hY (lnC:=fun k=>s.ln ((H[k-1000]?).getD 0)) (fun i h hi=>by simp[ep hi]) hx yl).1
      have hst:(dd con.args con.aI (leaves _ q)).a7=(bS (mg con.aI 1000) yl).1:=by
       show(bS (mg con.aI 1000) (cw con.args (leaves _ q)).2).1++[]=_
       rw[cH,hrest]
      obtain⟨o1,o2,o3⟩:=xL 0 hy []
      rw[cH] at o1 o2 o3
      have hln:∀i h,dm H h=some i→(dd con.args con.aI (leaves _ q)).ln (1000+i)=s.ln h:=by
       intro i h hi
       have:=o2 i h (ep hi)
       rw[cN] at this
       unfold ag.ln
       rw[hst]
       exact this
      have hargs:=(hY hln hx yl).2
      rw[←hlq] at hargs
      have hobjs:=o3 _ hln
      have hst2:(dd con.args con.aI (leaves _ q)).er.st=bA (dd con.args con.aI (leaves _ q)).ln (bS (mg con.aI 1000) yl).1:=by
       show bA _ _=_
       rw[hst]
      refine⟨fun s'=>∃t:ag S,Gh s' t.er∧aJ t∧bj s t∧k t=some r,?_,fun s' h=>h⟩
      obtain⟨res,h1,h2⟩:=bind_some h
      refine heff (dQ:=(dd con.args con.aI (leaves _ q)).er.st) H con.vw hargs (by rw[hst2];exact hobjs) c1 (C.ok q res h1) ?_ (zI hW c2)
      rintro g st' ⟨rfl,rfl⟩
      split at h2
      ·rename_i bk hbk
       split at h2
       ·rename_i hf
        simp only[u0,ah] at hf
        obtain⟨f1,f2,f3,f4,f5⟩:=hf
        split at h2
        ·rename_i sb hsb
         split at h2
         ·rename_i rv hrv
          obtain⟨k1,k2⟩:=nT h2
          have hkeys:aH sb=bk:=sV hsb
          have hd:∀h,h∈H→h∉eM (aH con.outs) H 0→h∈bk:=fun h h1 h2=>mU f2 h (pK h1 h2)
          have her:=DV (n:=con.outs.length) f1 hkeys c3 (fun h h1 h2=>k2 h (pK h1 h2)) hd f3 f4 f5
          have f1':=f1
          rw[←A2 con res] at f1'
          obtain⟨b1,b2⟩:=Ac (ln:=bG (eC con res)) f1'
          have hlnB:∀a b,iP (bA (bG (eC con res)) (eC con res)) bk a=some b→(gg s H (eM (aH con.outs) H 0) sb con.outs.length).ln b=bG (eC con res) a:=by
           intro a b hab
           obtain⟨_,o,o',g1,g2,g3⟩:=yk hsb b2 a b hab
           unfold ag.ln bG
           show(match aA ((sb++nD _ (ko H s.st))++s.bF) b with | some o=>o.len | none=>0)=_
           rw[aL,eo,g2,g1]
           exact g3
          have hds:ee (bA (bG (eC con res)) (eC con res)) H 0=eM (aH con.outs) H 0:=by rw[z6,A2]
          refine⟨bk,⟨mP (eM (aH con.outs) H 0) s.er.fr,bA (gg s H (eM (aH con.outs) H 0) sb con.outs.length).ln sb++dB (eM (aH con.outs) H 0) (fg H s.er.st),s.er.df⟩,rv.er (gg s H (eM (aH con.outs) H 0) sb con.outs.length).ln,?_,Ff hlnB _ _ hrv,_,?_,gY (t:=(gg s H (eM (aH con.outs) H 0) sb con.outs.length).put d rv) rfl,⟨rfl,rfl,rfl⟩,k1⟩
          ·unfold kY
           have hb:kP con.vw (iP (bA (bG (eC con res)) (eC con res)) bk) (jY s.er.st (bA (bG (eC con res)) (eC con res)) H 0) s.er.st (bA (bG (eC con res)) (eC con res)) bk=some (bA (gg s H (eM (aH con.outs) H 0) sb con.outs.length).ln sb):=rz hlnB hsb
           have hdf:s.er.df.all (fun g=>!(pB (ee (bA (bG (eC con res)) (eC con res)) H 0) g))=true:=by
            rw[hds];exact wK f5
           show(bif oI s.er H (bA (bG (eC con res)) (eC con res)) bk&&s.er.df.all (fun g=>!(pB (ee (bA (bG (eC con res)) (eC con res)) H 0) g)) then _ else none)=_
           rw[b1,hdf]
           show(match kP con.vw (iP (bA (bG (eC con res)) (eC con res)) bk) (jY s.er.st (bA (bG (eC con res)) (eC con res)) H 0) s.er.st (bA (bG (eC con res)) (eC con res)) bk with
            | some sb=>some ({fr:=mP (ee (bA (bG (eC con res)) (eC con res)) H 0) s.er.fr,st:=sb++dB (ee (bA (bG (eC con res)) (eC con res)) H 0) (fg H s.er.st),df:=s.er.df}:St)
            | none=>none)=_
           rw[hb,hds]
          ·rw[hP,her]
           exact Gh.refl _
         ·cases h2
        ·cases h2
       ·cases h2
      ·cases h2
     ·cases h
    ·cases h
   ·cases h
  ·cases h
 ·cases h
theorem EF.KY {P:Program}{W:List Nat}{s:St}{d:Nat}{ty:TypeId}{pos:String}{after:Array Edge}{guard:Option (Nat×Bool)}{f:FuncId}{x:Operand}{xs:Array Operand}{ts:Array TypeId}{gs caps gs':List G}{dQ:List (Nat×aq)}{Q:G→List (Nat×aq)→Prop}{T:St→Prop}(H:List Nat) (vw:Bool) (hb:rH f xs.toList=true) (hc:∀args w,(callFunc f args).run P w=.ok (.enter f args) w)
  (hf:ev s x=some (.aR f caps)) (hx:tI s xs.toList=some gs) (hv:bV.go H (dO s.st H vw) (gs++caps)=some gs') (hl:fM H (dO s.st H vw) s.st H 0=some dQ) (cZ:qQ H=true) (hcon:GM P f gs' dQ Q)
  (hres:∀r st',Q r st'→∃bk s2 r',kY vw s H st' bk=some s2∧dw vw (iP st' bk) r=some r'∧T (s2.put d r')) (hW:sQ H W=true):
  bW P W s ⟨some d,.call ⟨.value x,xs,ts⟩,ty,pos,after,guard⟩ T:=by
 refine⟨(fun _ h=>by cases h),?_⟩
 intro N cx μ a w hr hN K Q' hK
 obtain⟨h1,h2⟩:=mX hx
 have hcl:=hr.ev hf
 generalize hav:a.eval x=vf at hcl
 cases hcl with
 | aD h=>cases h
 | aR _ _ us hlu hrc=>
  have hcall:=ux (vs:=xs.toList.map a.eval++us) hr hv hl cZ (by simp[h1,hlu]) (fun j g v hg hv=>by
   rw[bC] at hg hv
   rw[aU,←h1] at hv
   split at hg
   ·rename_i hj
    rw[if_pos hj] at hv
    obtain⟨x,hxj,he⟩:=h2 j g hg
    rw[ak,hxj] at hv
    cases hv
    exact hr.ev he
   ·rename_i hj
    rw[if_neg hj] at hv
    exact hrc _ g v hg hv) hcon
  unfold Oper.wp
  have:=um (P:=P) (w:=w) (d:=d) (ty:=ty) (pos:=pos) (after:=after) (guard:=guard) (ts:=ts) hb hc hav
  rw[this]
  refine hcall.mono ?_
  rintro e w' (⟨v,r,st',μ',rfl,hq,hC,hrv⟩ | ⟨_,_,_,_,h,_⟩)
  ·obtain⟨bk,s2,r',hb,hren,hT⟩:=hres r st' hq
   obtain⟨q1,q2,q3,_⟩:=pz hr hl (lG cZ) hC hb
   exact hK _ _ _ w' (q1.put (hN d rfl) (q2 r r' v hrv hren)) hT (q3 W (sP hW))
  ·exact h.elim
def isSome {α:Type}:Option α→Bool
 | some _=>true
 | none=>false
def zD (con:de S) (s:ag S) (xs:List Operand) (vs:List (TV S)):Option (ag S×List (TV S)):=
 match qw con.aj||TV.imp.go vs with
 | true=>some (s,vs)
 | false=>match qv (TV.IL.go vs) s with
  | some s'=>match si s' xs with
   | some vs'=>match TV.imp.go vs' with
    | true=>some (s',vs')
    | false=>none
   | none=>none
  | none=>none
def fits (s:ag S) (xs:List Operand) (vs:List (TV S)) (con:de S):Bool:=
 match oO con with
 | true=>match zD con s xs vs with
  | some (s',vs')=>isSome (kK s' con.args vs')
  | none=>false
 | false=>match AA s.a7 con.aI 1000 (uq con.args vs) with
  | some H=>isSome (kN s con.vw H con.args vs)&&isSome (oR s con.vw H H con.aI)
  | none=>false
def yN (p:de S→Bool) (f:FuncId):List (de S)→Option (de S)
 | []=>none
 | c::r=>match Nat.beq c.f f&&p c with
  | true=>some c
  | false=>yN p f r
theorem wA {p:de S→Bool}{f:FuncId}:∀{l:List (de S)}{c:de S},yN p f l=some c→c∈l∧c.f=f
 | [],_,h=>by cases h
 | x::r,c,h=>by
  simp only[yN] at h
  split at h
  ·rename_i hb
   simp only[ah] at hb
   cases h
   exact⟨aC,ab hb.1⟩
  ·obtain⟨h1,h2⟩:=wA h
   exact⟨aw _ h1,h2⟩
def Il (s:ag S) (x:Operand) (xs:List Operand):Option (FuncId×List (TV S)):=match cq s x with
 | some (.aR f caps)=>match rH f xs with
  | true=>some (f,caps)
  | false=>none
 | _=>none
theorem Hi {s:ag S}{x:Operand}{xs:List Operand}{f:FuncId}{caps:List (TV S)}(h:Il s x xs=some (f,caps)):cq s x=some (.aR f caps)∧rH f xs=true:=by
 unfold Il at h
 split at h
 ·rename_i h1
  split at h
  ·rename_i h2
   cases h
   exact⟨h1,h2⟩
  ·cases h
 ·cases h
def JE (tbl:List (de S)) (ok:Nat→Bool) (A:Type) (s:ag S) (dst:Option Nat) (c:Call) (k:ag S→Option A):Option A:=
 match dst with
 | some d=>match c.callee with
  | .value (.func f)=>match si s c.args.toList with
   | some vs=>match yN (fits s c.args.toList vs) f tbl with
    | some con=>match oO con with
     | true=>match zD con s c.args.toList vs with
      | some (s',vs')=>JD con s' d vs' k
      | none=>none
     | false=>Bz ok con s d vs k
    | none=>none
   | none=>none
  | .value x=>match Il s x c.args.toList with
   | some (f,caps)=>match si s c.args.toList with
    | some vs=>match yN (fits s [] (vs++caps)) f tbl with
     | some con=>match oO con with
      | true=>wO con s d (vs++caps) k
      | false=>Bz ok con s d (vs++caps) k
     | none=>none
    | none=>none
   | _=>none
  | _=>none
 | none=>none
theorem ND {P:Program}{N:Nat}{tbl:List (de S)}(ht:∀c∈tbl,bf P c):∀(ok:Nat→Bool) (W:List Nat),(∀h,ok h=true→W.contains h=true)→∀(A:Type) (r:A),EA P N W (JE tbl ok A) r:=by
 intro ok W hW A r s dst c k hl _ h ty pos after guard
 obtain⟨cal,args,ts⟩:=c
 unfold JE at h
 split at h
 ·rename_i d
  dsimp only at h
  split at h
  ·split at h
   ·rename_i vs hv
    split at h
    ·rename_i con hcon
     obtain⟨hm,hf⟩:=wA hcon
     subst hf
     have C:=ht con hm
     split at h
     ·split at h
      ·rename_i s' vs' hp
       unfold zD at hp
       split at hp
       ·cases hp
        exact Gy (N:=N) C hl h hv
       ·split at hp
        ·rename_i s2 hz
         obtain⟨z1,z2,z3⟩:=mq hl hz
         split at hp
         ·rename_i vs2 hv2
          split at hp
          ·cases hp
           exact eU.gh z1 z3 (Gy (N:=N) C z2 h hv2)
          ·cases hp
         ·cases hp
        ·cases hp
      ·cases h
     ·exact z8 hW C hl h fun H vw h1 h2 h3 h4 h5 h6=>EF.Ri H vw C.call (lf hv).2 h1 h2 h3 h4 h5 h6
    ·cases h
   ·cases h
  ·rename_i x _
   split at h
   ·rename_i f caps hx
    obtain⟨hx,hb⟩:=Hi hx
    split at h
    ·rename_i vs hv
     split at h
     ·rename_i con hcon
      obtain⟨hm,hf⟩:=wA hcon
      subst hf
      have C:=ht con hm
      split at h
      ·exact Gx (N:=N) C hl h hx hb hv
      ·exact z8 hW C hl h fun H vw h1 h2 h3 h4 h5 h6=>EF.KY H vw hb C.call (bc hx) (lf hv).2 (by rw[←pN];exact h1) h2 h3 h4 h5 h6
     ·cases h
    ·cases h
   ·cases h
  ·cases h
 ·cases h
def Lw (tbl:List (de S)) (ok:Nat→Bool){A:Type}(s:ag S) (d:Nat) (c:Call) (f:FuncId) (caps:List (TV S)) (k:ag S→Option A):Option A:=
 match si s c.args.toList with
 | some vs=>match yN (fits s [] (vs++caps)) f tbl with
  | some con=>match rH f c.args.toList with
   | true=>match oO con with
    | true=>wO con s d (vs++caps) k
    | false=>Bz ok con s d (vs++caps) k
   | false=>none
  | none=>none
 | none=>none
def Eg {A:Type}:List FuncId→FuncId→(FuncId→Option A)→Option A
 | [],_,_=>none
 | g::r,f,k=>cond (Nat.beq f g) (k g) (Eg r f k)
theorem Fo {A:Type}{f:FuncId}{k:FuncId→Option A}{r:A}:∀{l:List FuncId},Eg l f k=some r→k f=some r
 | [],h=>by cases h
 | g::l,h=>by
  simp only[Eg] at h
  cases hb:Nat.beq f g with
  | true=>
   rw[hb] at h
   have:=ab hb
   subst this
   exact h
  | false=>rw[hb] at h;exact Fo h
def Qi:List (Nat×List FuncId)→Nat→Option (List FuncId)
 | [],_=>none
 | (k,h)::r,p=>bif Nat.beq k p then some h else Qi r p
def By (tbl:List (de S)) (ns:List (Nat×List FuncId)) (ok:Nat→Bool) (A:Type) (s:ag S) (dst:Option Nat) (c:Call) (k:ag S→Option A):Option A:=
 match dst with
 | some d=>match Qi ns d with
  | some fs=>match c.callee with
   | .value x=>match cq s x with
    | some (.aR f [])=>Eg fs f fun f=>Lw tbl ok s d c f [] k
    | _=>none
   | _=>none
  | none=>JE tbl ok A s (some d) c k
 | none=>none
theorem NA {P:Program}{N:Nat}{tbl:List (de S)}{ns:List (Nat×List FuncId)}(ht:∀c∈tbl,bf P c):∀(ok:Nat→Bool) (W:List Nat),(∀h,ok h=true→W.contains h=true)→∀(A:Type) (r:A),EA P N W (By tbl ns ok A) r:=by
 intro ok W hW A r s dst c k hl hy h ty pos after guard
 unfold By at h
 split at h
 ·rename_i d
  split at h
  ·obtain⟨cal,args,ts⟩:=c
   dsimp only at h
   split at h
   ·rename_i x _
    split at h
    ·rename_i f hx
     have h2:=Fo h
     clear h
     unfold Lw at h2
     split at h2
     ·rename_i vs hv
      split at h2
      ·rename_i con hcon
       obtain⟨hm,hf⟩:=wA hcon
       subst hf
       have C:=ht con hm
       split at h2
       ·rename_i hb
        split at h2
        ·exact Gx (N:=N) C hl h2 hx hb hv
        ·exact z8 hW C hl h2 fun H vw h1 h2 h3 h4 h5 h6=>EF.KY H vw hb C.call (bc hx) (lf hv).2 (by rw[←pN];exact h1) h2 h3 h4 h5 h6
       ·cases h2
      ·cases h2
     ·cases h2
    ·cases h
   ·cases h
  ·exact ND (N:=N) ht ok W hW A r s (some d) c k hl hy h ty pos after guard
 ·cases h
def tQ (tbl:List (de S)) (ns:List (Nat×List FuncId)):Cl S where
 call:=fun ok A _ s dst c k=>match vm s c with
  | true=>none
  | false=>By tbl ns ok A s dst c k
 rf:=fun _ _ _ _ _ _=>none
theorem lA {P:Program}{N:Nat}{tbl:List (de S)}{ns:List (Nat×List FuncId)}(ht:∀c∈tbl,bf P c):qN P N (tQ tbl ns) where
 call:=fun ok W hW A kp r s dst c k hl hy h=>by
  have h:(match vm s c with
   | true=>none
   | false=>By tbl ns ok A s dst c k)=some r:=h
  rw[hy] at h
  exact(NA (N:=N) ht ok W hW A r).p s dst c k hl hy h
 cT:=fun ok A kp r cx s dst c k hl hy h=>by
  have h:(match vm s c with
   | true=>none
   | false=>By tbl ns ok A s dst c k)=some r:=h
  rw[hy] at h
  cases h
 rf:=fun cx _ key hd g _ s B K r hl h=>by cases h
theorem yp {N:Nat}{H:List (Nat×Hint)}{l:List (Nat×Array Tmp×Code×Code)}(h:isNil l=true):nH S N H l:=by
 cases l with
 | nil=>trivial
 | cons x r=>cases h
theorem bf.of {P:Program}{N fu:Nat}{H:List (Nat×Hint)}{tbl:List (de S)}{con:de S}{fn:Func}{c:Code}(hm:P.follows .mixedOrders=true) (ht:∀c∈tbl,bf P c)
  (hf:P.funcs[con.f]?=some fn) (hcall:∀args w,(callFunc con.f args).run P w=.ok (.enter con.f args) w) (hb:fn.body=some c) (hN:fn.ntmps=N)
  (hle:fE N con.args con.aj con.outs=true)
  {mvs:List Nat}{ns:List (Nat×List FuncId)}(h:∀q,CG P N fu H (tQ tbl ns) c mvs fn.results.toList con.args con.aI con.aj con.outs q=con.F q) (hn:isNil (oD c 0)=true:=by kernel_rfl):bf P con:=
 bf.R7 hm (lA ht) hf hcall hb hN hle (yp hn) h
theorem bf.law {P:Program}{con:de S}(C:bf P con){gs:List G}{q:aT S.α (iQ con.args con.aI)}{r:aT S.α (JH.cg ⟨con.aj,con.outs⟩)}(hr:con.F q=some r) (hgs:TV.er.go (dd con.args con.aI (leaves _ q)).ln (cw con.args (leaves _ q)).1=gs)
  (hst:(dd con.args con.aI (leaves _ q)).er.st=[]) (hres:(lF con.aj (leaves _ r)).er (bG (bS con.outs (bT con.aj (leaves _ r)).2).1)=.val (.bool true)) (ho:bA (bG (bS con.outs (bT con.aj (leaves _ r)).2).1) (bS con.outs (bT con.aj (leaves _ r)).2).1=[]):
  GM P con.f gs [] (fun g st=>g=.val (.bool true)∧st=[]):=by
 have h:=C.ok q r hr
 rw[hgs,hst] at h
 exact h.mono fun g st hg=>⟨hg.1.trans hres,hg.2.trans ho⟩
end
end Go.DN
/-
 DN,part Zb:loops over functions:rounds by dM,calls of yield.
-/
namespace Go.DN
open Go.AM
section
variable {S:dr}
theorem O8 {s:ag S}{vw:Bool}{H:List Nat}{args:List Sh}{aI:List Oh}{vs:List (TV S)}{xl yl:List (aY S.α)}{q:aT S.α (iQ args aI)}(hx:kN s vw H args vs=some xl) (hy:oR s vw H H aI=some yl) (hq:nz (iQ args aI) (xl++yl)=some q):
  bV.go H (dO s.er.st H vw) (TV.er.go s.ln vs)=some (TV.er.go (dd args aI (leaves _ q)).ln (cw args (leaves _ q)).1)∧fM H (dO s.er.st H vw) s.er.st H 0=some (dd args aI (leaves _ q)).er.st:=by
 have hlq:=gP hq
 have hrest:(cw args (leaves _ q)).2=yl:=by
  rw[hlq]
  exact(hY (lnC:=fun k=>s.ln ((H[k-1000]?).getD 0)) (fun i h hi=>by simp[ep hi]) hx yl).1
 have hst:(dd args aI (leaves _ q)).a7=(bS (mg aI 1000) yl).1:=by
  show(bS (mg aI 1000) (cw args (leaves _ q)).2).1++[]=_
  rw[cH,hrest]
 obtain⟨o1,o2,o3⟩:=xL 0 hy []
 rw[cH] at o1 o2 o3
 have hln:∀i h,dm H h=some i→(dd args aI (leaves _ q)).ln (1000+i)=s.ln h:=by
  intro i h hi
  have:=o2 i h (ep hi)
  rw[cN] at this
  unfold ag.ln
  rw[hst]
  exact this
 have hargs:=(hY hln hx yl).2
 rw[←hlq] at hargs
 have hobjs:=o3 _ hln
 have hst2:(dd args aI (leaves _ q)).er.st=bA (dd args aI (leaves _ q)).ln (bS (mg aI 1000) yl).1:=by
  show bA _ _=_
  rw[hst]
 exact⟨hargs,by rw[hst2];exact hobjs⟩
theorem MX {s:ag S}{vw:Bool}{H js bk:List Nat}{O sb:List (Nat×TO S)}{n:Nat}{A:Type}{k:Option A}{r:A}(hO:aH O=js) (c3:apart H (aH s.bF)=true) (hf:u0 s H (eM js H 0) js bk=true)
  (hsb:nG vw (iP (bA (bG O) O) bk) (jY s.er.st (bA (bG O) O) H 0) s.er.st O bk=some sb) (h:oQ s sb (u0.minus H (eM js H 0)) k=some r):
  k=some r∧kY vw s.er H (bA (bG O) O) bk=some (gg s H (eM js H 0) sb n).er∧(∀a b,iP (bA (bG O) O) bk a=some b→(gg s H (eM js H 0) sb n).ln b=bG O a):=by
 simp only[u0,ah] at hf
 obtain⟨f1,f2,f3,f4,f5⟩:=hf
 obtain⟨k1,k2⟩:=nT h
 have hkeys:aH sb=bk:=sV hsb
 have hd:∀h,h∈H→h∉eM js H 0→h∈bk:=fun h h1 h2=>mU f2 h (pK h1 h2)
 have her:=DV (n:=n) f1 hkeys c3 (fun h h1 h2=>k2 h (pK h1 h2)) hd f3 f4 f5
 have f1':=f1
 rw[←hO] at f1'
 obtain⟨b1,b2⟩:=Ac (ln:=bG O) f1'
 have hlnB:∀a b,iP (bA (bG O) O) bk a=some b→(gg s H (eM js H 0) sb n).ln b=bG O a:=by
  intro a b hab
  obtain⟨_,o,o',g1,g2,g3⟩:=yk hsb b2 a b hab
  unfold ag.ln bG
  show(match aA ((sb++nD _ (ko H s.st))++s.bF) b with | some o=>o.len | none=>0)=_
  rw[aL,eo,g2,g1]
  exact g3
 have hds:ee (bA (bG O) O) H 0=eM js H 0:=by rw[z6,hO]
 refine⟨k1,?_,hlnB⟩
 unfold kY
 have hb:kP vw (iP (bA (bG O) O) bk) (jY s.er.st (bA (bG O) O) H 0) s.er.st (bA (bG O) O) bk=some (bA (gg s H (eM js H 0) sb n).ln sb):=rz hlnB hsb
 have hdf:s.er.df.all (fun g=>!(pB (ee (bA (bG O) O) H 0) g))=true:=by
  rw[hds];exact wK f5
 show(bif oI s.er H (bA (bG O) O) bk&&s.er.df.all (fun g=>!(pB (ee (bA (bG O) O) H 0) g)) then _ else none)=_
 rw[b1,hdf]
 show(match kP vw (iP (bA (bG O) O) bk) (jY s.er.st (bA (bG O) O) H 0) s.er.st (bA (bG O) O) bk with
  | some sb=>some ({fr:=mP (ee (bA (bG O) O) H 0) s.er.fr,st:=sb++dB (ee (bA (bG O) O) H 0) (fg H s.er.st),df:=s.er.df}:St)
  | none=>none)=_
 rw[hb,hds,her]
def E1 (lv:Bool):List (Nat×Sh):=match lv with
 | true=>[(0,.ae true (.int .i64))]
 | false=>[]
def Re (lv:Bool) (n:Int):List (aY S.α):=match lv with
 | true=>[⟨.int .i64,n⟩]
 | false=>[]
end
end Go.DN
/-
 DN,part Zc:rounds out of a run of their code;the loop itself.
-/
namespace Go.DN
open Go.AM
section
variable {S:dr}
def LW:List Nat→List (TV S)→List (Nat×TV S)
 | t::ts,v::vs=>(t,v)::LW ts vs
 | _,_=>[]
def RY (L:QV) (args cells:List Sh) (aI:List Oh) (ls:List (aY S.α)):ag S:=
 {fr:=LW L.ps.toList ((cw (args++cells) ls).1.take args.length)++LW L.aj ((cw (args++cells) ls).1.drop args.length),lo:=[],st:=(bS (mg aI 1000) (cw (args++cells) ls).2).1,bF:=[],df:=[],nx:=300,last:=[]}
def Nj (P:Program) (t:ag S) (lv:Bool) (n:Int) (outs:List (Nat×Oh)):Option (aT S.α (JH.cg ⟨E1 lv,outs⟩)):=
 match lv||n==0 with
 | true=>match wE P t [] [] outs with
  | some q=>nz (JH.cg ⟨E1 lv,outs⟩) (Re lv n++leaves _ q)
  | none=>none
 | false=>none
noncomputable def Sf (P:Program) (fu:Nat) (H:List (Nat×Hint)) (cl:Cl S) (L:QV) (mvs:List Nat) (args cells:List Sh) (aI:List Oh) (outs:List (Nat×Oh)) (lv:Bool) (q:aT S.α (iQ (args++cells) aI)):Option (aT S.α (JH.cg ⟨E1 lv,outs⟩)):=
 match yF mvs (RY L args cells aI (leaves _ q)) with
 | some s=>gf P L.N fu H cl L.LI 0 s _ fun e t=>match e with
  | .normal=>gf P L.N fu H cl L.body (kX L.LI) t _ fun e t=>match e with
   | .normal=>Nj P t lv 0 outs
   | .exit id=>match Nat.beq id L.id with
    | true=>Nj P t lv 1 outs
    | false=>none
   | .ret=>Nj P t lv 2 outs
   | _=>none
  | _=>none
 | none=>none
end
end Go.DN
/-
 DN,part Zd:the loop over a function;contracts of functions that have such loops,or that go through them.
-/
namespace Go.DN
open Go.AM
section
variable {S:dr}
end
end Go.DN
/-
 DN,part Ze:panics that are Bv,deferred calls.
-/
namespace Go.DN
open Go.AM
def A4 (T:TypeId):Bool:=Nat.ble 1000000 T
def MD (T:TypeId):TypeId:=T-1000000
def EL (T:TypeId) (x:Int×Int):Value:=match A4 T with
 | true=>.iface (MD T) (.agg #[.int .i64 x.1])
 | false=>.iface T (.agg #[.int .i64 x.1,.int .i64 x.2])
def uT (T:TypeId) (x:Int×Int):List PanicEntry:=[{v:=EL T x,recovered:=false}]
def Ie (T:TypeId):List PanicEntry→Option (Int×Int)
 | [⟨.iface T' (.agg ⟨[.int .i64 e,.int .i64 a]⟩),false,false⟩]=>match A4 T with
  | true=>none
  | false=>match Nat.beq T' T with
   | true=>some (e,a)
   | false=>none
 | [⟨.iface T' (.agg ⟨[.int .i64 e]⟩),false,false⟩]=>match A4 T with
  | false=>none
  | true=>match Nat.beq T' (MD T) with
   | true=>some (e,0)
   | false=>none
 | _=>none
theorem Mh {T:TypeId}{e b:Int}(h:A4 T=true):EL T (e,b)=.iface (MD T) (.agg #[.int .i64 e]):=by unfold EL;rw[h]
theorem Mg {T:TypeId}{x:Int×Int}(h:A4 T=false):EL T x=.iface T (.agg #[.int .i64 x.1,.int .i64 x.2]):=by unfold EL;rw[h]
theorem Mb {T:TypeId}{ch:List PanicEntry}{x:Int×Int}(h:Ie T ch=some x):ch=uT T x:=by
 unfold Ie at h
 split at h
 ·split at h
  ·cases h
  ·rename_i hm
   split at h
   ·rename_i hb
    cases h
    have:=ab hb
    subst this
    unfold uT
    rw[Mg hm]
   ·cases h
 ·split at h
  ·cases h
  ·rename_i hm
   split at h
   ·rename_i hb
    cases h
    have ht:=ab hb
    unfold uT
    rw[Mh hm,ht]
   ·cases h
 ·cases h
def aV {α β γ:Type}(o:Option (α⊕β)) (f:α→Option γ) (g:β→Option γ):Option γ:=o.bind fun r=>match r with
 | .inl x=>f x
 | .inr y=>g y
theorem JJ {α β γ:Type}{o:Option (α⊕β)}{f:α→Option γ}{g:β→Option γ}{r:γ}(h:aV o f g=some r):∃x,o=some x∧((∃a,x=.inl a∧f a=some r)∨∃b,x=.inr b∧g b=some r):=by
 obtain⟨x,h1,h2⟩:=bind_some h
 refine⟨x,h1,?_⟩
 cases x with
 | inl a=>exact .inl ⟨a,rfl,h2⟩
 | inr b=>exact .inr ⟨b,rfl,h2⟩
section
variable {S:dr}
def Ej (s:ag S) (args:List Sh) (aI:List Oh) (vw:Bool) (vs:List (TV S)){A:Type}(k:List Nat→aT S.α (iQ args aI)→Option A):Option A:=
 match AA s.a7 aI 1000 (uq args vs) with
 | some H=>match qQ H&&apart H (aH s.bF) with
  | true=>match kN s vw H args vs with
   | some xs=>match oR s vw H H aI with
    | some ys=>match nz (iQ args aI) (xs++ys) with
     | some q=>k H q
     | none=>none
    | none=>none
   | none=>none
  | false=>none
 | none=>none
theorem AZ {s:ag S}{args:List Sh}{aI:List Oh}{vw:Bool}{vs:List (TV S)}{A:Type}{k:List Nat→aT S.α (iQ args aI)→Option A}{r:A}(h:Ej s args aI vw vs k=some r):
  ∃H q,qQ H=true∧apart H (aH s.bF)=true∧k H q=some r∧bV.go H (dO s.er.st H vw) (TV.er.go s.ln vs)=some (TV.er.go (dd args aI (leaves _ q)).ln (cw args (leaves _ q)).1)∧fM H (dO s.er.st H vw) s.er.st H 0=some (dd args aI (leaves _ q)).er.st:=by
 unfold Ej at h
 split at h
 ·rename_i H hH
  split at h
  ·rename_i hc
   simp only[ah] at hc
   split at h
   ·rename_i xs hx
    split at h
    ·rename_i ys hy
     split at h
     ·rename_i q hq
      obtain⟨a1,a2⟩:=O8 hx hy hq
      exact⟨H,q,hc.1,hc.2,h,a1,a2⟩
     ·cases h
    ·cases h
   ·cases h
  ·cases h
 ·cases h
def A9 (s:ag S) (vw:Bool) (H:List Nat) (outs:List (Nat×Oh)) (O:List (Nat×TO S)) (d:Nat){A:Type}(k:List Nat→ag S→Option A):Option A:=
 match Ov s H d (aH outs) [] with
 | some bk=>match u0 s H (eM (aH outs) H 0) (aH outs) bk with
  | true=>match nG vw (iP (bA (bG O) O) bk) (jY s.er.st (bA (bG O) O) H 0) s.er.st O bk with
   | some sb=>oQ s sb (u0.minus H (eM (aH outs) H 0)) (k bk (gg s H (eM (aH outs) H 0) sb outs.length))
   | none=>none
  | false=>none
 | none=>none
theorem wv {s:ag S}{vw:Bool}{H:List Nat}{outs:List (Nat×Oh)}{O:List (Nat×TO S)}{d:Nat}{A:Type}{k:List Nat→ag S→Option A}{r:A}(hO:aH O=aH outs) (c3:apart H (aH s.bF)=true) (h:A9 s vw H outs O d k=some r):
  ∃bk t,k bk t=some r∧aJ t∧bj s t∧kY vw s.er H (bA (bG O) O) bk=some t.er∧∀a b,iP (bA (bG O) O) bk a=some b→t.ln b=bG O a:=by
 unfold A9 at h
 split at h
 ·rename_i bk hbk
  split at h
  ·rename_i hf
   split at h
   ·rename_i sb hsb
    obtain⟨a1,a2,a3⟩:=MX (n:=outs.length) hO c3 hf hsb h
    exact⟨bk,_,a1,gY (t:=gg s H (eM (aH outs) H 0) sb outs.length) rfl,⟨rfl,rfl,rfl⟩,a2,a3⟩
   ·cases h
  ·cases h
 ·cases h
def im (aj:List (Nat×Sh)) (outs:List (Nat×Oh)) (r:aT S.α (JH.cg ⟨aj,outs⟩)):List (Nat×TO S):=(bS outs (bT aj (leaves _ r)).2).1
theorem wk (aj:List (Nat×Sh)) (outs:List (Nat×Oh)) (r:aT S.α (JH.cg ⟨aj,outs⟩)):aH (im aj outs r)=aH outs:=ku _ _
structure iv (S:dr) where
 f:FuncId
 args:List Sh
 aI:List Oh
 vw:Bool
 aj:List (Nat×Sh)
 outs:List (Nat×Oh)
 il:List (Nat×Oh)
 T:TypeId
 F:aT S.α (iQ args aI)→Option (aT S.α (JH.cg ⟨aj,outs⟩)⊕((Int×Int)×aT S.α (JH.cg ⟨[],il⟩)))
def NY {aj:List (Nat×Sh)}{outs il:List (Nat×Oh)}(r:aT S.α (JH.cg ⟨aj,outs⟩)⊕((Int×Int)×aT S.α (JH.cg ⟨[],il⟩))) (g:G) (st:List (Nat×aq)):Prop:=∃x,r=.inl x∧OB aj outs x g st
def QR {aj:List (Nat×Sh)}{outs il:List (Nat×Oh)}(T:TypeId) (r:aT S.α (JH.cg ⟨aj,outs⟩)⊕((Int×Int)×aT S.α (JH.cg ⟨[],il⟩))) (ch:List PanicEntry) (st:List (Nat×aq)):Prop:=
 ∃y,r=.inr y∧ch=uT T y.1∧st=bA (bG (im [] il y.2)) (im [] il y.2)
structure db (P:Program) (con:iv S):Prop where
 call:∀args w,(callFunc con.f args).run P w=.ok (.enter con.f args) w
 ok:∀q r,con.F q=some r→GP P con.f (TV.er.go (dd con.args con.aI (leaves _ q)).ln (cw con.args (leaves _ q)).1) (dd con.args con.aI (leaves _ q)).er.st (NY r) (QR con.T r)
def Lv (ok:Nat→Bool) (con:iv S) (s:ag S) (d:Nat) (vs:List (TV S)){A:Type}(k:ag S→Option A) (kp:List PanicEntry→ag S→Option A):Option A:=
 Ej s con.args con.aI con.vw vs fun H q=>match AK ok H with
  | true=>aV (con.F q) (fun x=>A9 s con.vw H con.outs (im con.aj con.outs x) d fun bk t=>match (lF con.aj (leaves _ x)).lm con.vw (iP (bA (bG (im con.aj con.outs x)) (im con.aj con.outs x)) bk) with
    | some rv=>k (t.put d rv)
    | none=>none)
   fun y=>A9 s con.vw H con.il (im [] con.il y.2) d fun _ t=>kp (uT con.T y.1) t
  | false=>none
theorem DP {P:Program}{W:List Nat}{ok:Nat→Bool}(hW:∀h,ok h=true→W.contains h=true){con:iv S}(C:db P con){s:ag S}{d:Nat}{vs:List (TV S)}{A:Type}{k:ag S→Option A}{kp:List PanicEntry→ag S→Option A}{r:A}(h:Lv ok con s d vs k kp=some r){o:Oper}
  (heff:∀{gs':List G}{dQ:List (Nat×aq)}{Q:G→List (Nat×aq)→Prop}{Qp:List PanicEntry→List (Nat×aq)→Prop}{T:St→Prop}{Tp:List PanicEntry→St→Prop}(H:List Nat) (vw:Bool),bV.go H (dO s.er.st H vw) (TV.er.go s.ln vs)=some gs'→fM H (dO s.er.st H vw) s.er.st H 0=some dQ→qQ H=true→GP P con.f gs' dQ Q Qp→
   (∀r st',Q r st'→∃bk s2 r',kY vw s.er H st' bk=some s2∧dw vw (iP st' bk) r=some r'∧T (s2.put d r'))→(∀ch st',Qp ch st'→∃bk s2,kY vw s.er H st' bk=some s2∧Tp ch s2)→sQ H W=true→j6 P W s.er o T Tp):Ez P W s o k kp r:=by
 obtain⟨H,q,c1,c3,h1,h2,h3⟩:=AZ h
 split at h1
 ·rename_i hok
  obtain⟨x,hF,hx⟩:=JJ h1
  refine⟨fun s'=>∃t:ag S,Gh s' t.er∧aJ t∧bj s t∧k t=some r,fun ch s'=>∃t:ag S,Gh s' t.er∧aJ t∧bj s t∧kp ch t=some r,heff H con.vw h2 h3 c1 (C.ok q x hF) ?_ ?_ (zI hW hok),fun s' h=>h,fun ch s' h=>h⟩
  ·rintro g st' ⟨a,rfl,rfl,rfl⟩
   rcases hx with ⟨a',ha,hx⟩ | ⟨b,hb,_⟩
   ·cases ha
    obtain⟨bk,t,e1,e2,e3,e4,e5⟩:=wv (wk _ _ _) c3 hx
    split at e1
    ·rename_i rv hrv
     refine⟨bk,t.er,rv.er t.ln,e4,Ff e5 _ _ hrv,_,?_,e2.put d rv,⟨e3.lo,e3.bF,e3.df⟩,e1⟩
     rw[hP]
     exact Gh.refl _
    ·cases e1
   ·cases hb
  ·rintro ch st' ⟨y,rfl,rfl,rfl⟩
   rcases hx with ⟨a',ha,_⟩ | ⟨b,hb,hx⟩
   ·cases ha
   ·cases hb
    obtain⟨bk,t,e1,e2,e3,e4,e5⟩:=wv (wk _ _ _) c3 hx
    exact⟨bk,t.er,e4,t,Gh.refl _,e2,e3,e1⟩
 ·cases h1
def Eo (f:FuncId):List (iv S)→Option (iv S)
 | []=>none
 | c::r=>match Nat.beq c.f f with
  | true=>some c
  | false=>Eo f r
theorem F7 {f:FuncId}:∀{l:List (iv S)}{c:iv S},Eo f l=some c→c∈l∧c.f=f
 | [],_,h=>by cases h
 | x::r,c,h=>by
  simp only[Eo] at h
  split at h
  ·rename_i hb
   cases h
   exact⟨aC,ab hb⟩
  ·obtain⟨h1,h2⟩:=F7 h
   exact⟨aw _ h1,h2⟩
def HX (s:ag S) (c:Call):Option (FuncId×List (TV S)):=match c.callee with
 | .value (.func f)=>some (f,[])
 | .value x=>Il s x c.args.toList
 | _=>none
def Ew (cl:Cl S) (tblP:List (iv S)) (ok:Nat→Bool) (A:Type) (kp:List PanicEntry→ag S→Option A) (s:ag S) (dst:Option Nat) (c:Call) (k:ag S→Option A):Option A:=
 match HX s c with
 | some (f,caps)=>match Eo f tblP with
  | some con=>match dst with
   | some d=>match si s c.args.toList with
    | some vs=>Lv ok con s d (vs++caps) k kp
    | none=>none
   | none=>none
  | none=>cl.call ok A kp s dst c k
 | none=>cl.call ok A kp s dst c k
def vA (cl:Cl S) (tblP:List (iv S)):Cl S where
 call:=fun ok A kp s dst c k=>match vm s c with
  | true=>cl.call ok A kp s dst c k
  | false=>Ew cl tblP ok A kp s dst c k
 rf:=cl.rf
theorem mS {P:Program}{N:Nat}{cl:Cl S}{tblP:List (iv S)}(hcl:qN P N cl) (ht:∀c∈tblP,db P c):qN P N (vA cl tblP) where
 call:=fun ok W hW A kp r s dst c k hl hy h0 ty pos after guard=>by
  have h:(match vm s c with
   | true=>cl.call ok A kp s dst c k
   | false=>Ew cl tblP ok A kp s dst c k)=some r:=h0
  clear h0
  rw[hy] at h
  dsimp only at h
  unfold Ew at h
  split at h
  ·rename_i f caps hc
   split at h
   ·rename_i con hcon
    obtain⟨hm,hf⟩:=F7 hcon
    subst hf
    have C:=ht con hm
    split at h
    ·split at h
     ·rename_i d vs hv
      obtain⟨cal,args,ts⟩:=c
      unfold HX at hc
      dsimp only at hc hv
      split at hc
      ·cases hc
       rw[cH] at h
       exact DP hW C h fun H vw h1 h2 h3 h4 h5 h5p h6=>QW.c1 H vw C.call (lf hv).2 h1 h2 h3 h4 h5 h5p h6
      ·obtain⟨hx,hb⟩:=Hi hc
       ·exact DP hW C h fun H vw h1 h2 h3 h4 h5 h5p h6=>QW.c2 H vw hb C.call (bc hx) (lf hv).2 (by rw[←pN];exact h1) h2 h3 h4 h5 h5p h6
      ·cases hc
     ·cases h
    ·cases h
   ·exact hcl.call ok W hW A kp r s dst c k hl hy h ty pos after guard
  ·exact hcl.call ok W hW A kp r s dst c k hl hy h ty pos after guard
 cT:=fun ok A kp r cx s dst c k hl hy h=>by
  have h:(match vm s c with
   | true=>cl.call ok A kp s dst c k
   | false=>Ew cl tblP ok A kp s dst c k)=some r:=h
  rw[hy] at h
  exact hcl.cT ok A kp r cx s dst c k hl hy h
 rf:=hcl.rf
abbrev Md:=Option (Int×Int)
def qR (T:TypeId):Md→FrameMode
 | none=>.returning
 | some x=>.panicking (uT T x)
theorem Pj (T:TypeId) (m:Md):qR T m≠.run:=by cases m <;> exact fun h=>by cases h
theorem Ix (T:TypeId) (m:Md):settle (qR T m)=qR T m:=by cases m <;> rfl
structure l6 (S:dr) where
 f:FuncId
 args:List Sh
 aI:List Oh
 vw:Bool
 outs:List (Nat×Oh)
 Rx:Bool
 F:Md→aT S.α (iQ args aI)→Option (aT S.α (JH.cg ⟨[],outs⟩))
def l6.md (con:l6 S) (m:Md):Md:=match con.Rx with
 | true=>none
 | false=>m
structure oa (P:Program) (T:TypeId) (con:l6 S):Prop where
 call:∀args w,(callFunc con.f args).run P w=.ok (.enter con.f args) w
 ok:∀m q r,con.F m q=some r→GD P con.f (TV.er.go (dd con.args con.aI (leaves _ q)).ln (cw con.args (leaves _ q)).1) (dd con.args con.aI (leaves _ q)).er.st (qR T m)
  (fun u' st=>settle u'=qR T (con.md m)∧st=bA (bG (im [] con.outs r)) (im [] con.outs r))
theorem oa.of {P:Program}{T:TypeId}{N fu:Nat}{H:List (Nat×Hint)}{cl:Cl S}{con:l6 S}{fn:Func}{c:Code}(hm:P.follows .mixedOrders=true) (hcl:qN P N cl)
  (hf:P.funcs[con.f]?=some fn) (hcall:∀args w,(callFunc con.f args).run P w=.ok (.enter con.f args) w) (hb:fn.body=some c) (hN:fn.ntmps=N)
  (hle:fE N con.args [] con.outs=true){mvs:List Nat}(h:∀m q,CG P N fu H cl c mvs fn.results.toList con.args con.aI [] con.outs q=con.F m q) (hn:isNil (oD c 0)=true:=by kernel_rfl) (hr:con.Rx=false:=by rfl):oa P T con:=
 ⟨hcall,fun m q r hF u=>by
  have hr0:=hle
  simp only[fE,ah] at hr0
  have:=GD.of (P:=P) (N:=N) (f:=con.f) (c:=c) (args:=TV.er.go (dd con.args con.aI (leaves _ q)).ln (cw con.args (leaves _ q)).1) (st:=(dd con.args con.aI (leaves _ q)).er.st)
   (Q:=fun st=>st=bA (bG (im [] con.outs r)) (im [] con.outs r)) hf hb hN (by rw[cS,aU,uI];exact hr0.1)
   (fun cx hro=>(HS hm hcl hf hb hN hle (yp hn) ((h m q).trans hF) hro).mono fun e s ⟨h1,h2,gs,r',st',h3,h4,h5,h6⟩=>⟨h1,h2,gs,r',st',h3,h4,h5,h6.2⟩) (qR T m)
  intro μ w vs h1 h2 h3 h4
  refine(this u μ w vs h1 h2 h3 h4).mono ?_
  rintro e u' w' ⟨v,st',μ',e1,⟨e2,e3⟩,e4⟩
  refine⟨v,st',μ',e1,⟨?_,e3⟩,e4⟩
  rw[e2,Ix]
  unfold l6.md
  rw[hr]⟩
def Oq (con:l6 S) (m:Md) (s:ag S) (vs:List (TV S)){A:Type}(k:ag S→Option A):Option A:=
 Ej s con.args con.aI con.vw vs fun H q=>(con.F m q).bind fun r=>A9 s con.vw H con.outs (im [] con.outs r) 0 fun _ t=>k t
theorem NC {P:Program}{N:Nat}{cx:Cx}{fn:Func}{R:Ending→World→Prop}{T:TypeId}{con:l6 S}(C:oa P T con){s:ag S}{m:Md}{vs:List (TV S)}{A:Type}{k:ag S→Option A}{r:A}(h:Oq con m s vs k=some r)
  (hk:∀t:ag S,aJ t→t.df=s.df→k t=some r→LD P N cx fn R t.er.df (qR T (con.md m)) t.er):LD P N cx fn R (.aR con.f (TV.er.go s.ln vs)::s.er.df) (qR T m) s.er:=by
 obtain⟨H,q,c1,c3,h1,h2,h3⟩:=AZ h
 obtain⟨x,hF,hx⟩:=bind_some h1
 refine LD.aR H con.vw (Pj T m) C.call h2 h3 c1 (C.ok m q x hF) ?_
 rintro u' st' ⟨hu,rfl⟩
 obtain⟨bk,t,e1,e2,e3,e4,e5⟩:=wv (wk _ _ _) c3 hx
 have hd:=GH e4
 refine⟨bk,t.er,e4,?_⟩
 rw[hu,←hd]
 exact hk t e2 e3.df e1
def Ep (f:FuncId):List (l6 S)→Option (l6 S)
 | []=>none
 | c::r=>match Nat.beq c.f f with
  | true=>some c
  | false=>Ep f r
theorem F8 {f:FuncId}:∀{l:List (l6 S)}{c:l6 S},Ep f l=some c→c∈l∧c.f=f
 | [],_,h=>by cases h
 | x::r,c,h=>by
  simp only[Ep] at h
  split at h
  ·rename_i hb
   cases h
   exact⟨aC,ab hb⟩
  ·obtain⟨h1,h2⟩:=F8 h
   exact⟨aw _ h1,h2⟩
def B5 (tbl:List (l6 S)):List (TV S)→Md→ag S→(A:Type)→(Md→ag S→Option A)→Option A
 | [],m,s,_,K=>K m {s with df:=[],last:=[]}
 | .aR f caps::ds,m,s,A,K=>match Ep f tbl with
  | some con=>Oq con m {s with df:=ds,last:=[]} caps fun s'=>B5 tbl ds (con.md m) s' A K
  | none=>none
 | _,_,_,_,_=>none
theorem yx {P : Program} {N : Nat} {cx : Cx} {fn : Func} {R : Ending → World → Prop} {T : TypeId} {tbl : List (l6 S)} (ht : ∀ c ∈ tbl, oa P T c) {A : Type} {K : Md → ag S → Option A} {r : A}
    (hK : ∀ m t, aJ t → t.df = [] → K m t = some r → LD P N cx fn R [] (qR T m) t.er) : ∀ {ds : List (TV S)} {m : Md} {s : ag S}, s.df = ds → B5 tbl ds m s A K = some r → LD P N cx fn R s.er.df (qR T m) s.er
  | [], m, s, hd, h => by
    have h1 := hK m { s with df := [], last := [] } (gY rfl) rfl h
    have e : s.er.df = [] := by show TV.er.go s.ln s.df = []; rw [hd]; rfl
    rw [e]
    exact h1
  | .aR f caps :: ds, m, s, hd, h => by
    simp only [B5] at h
    split at h
    · rename_i con hcon
      obtain ⟨hm, hf⟩ := F8 hcon
      subst hf
      have := NC (cx := cx) (N := N) (fn := fn) (R := R) (ht con hm) h fun t hl hdf hk => yx ht hK hdf hk
      have e : s.er.df = .aR con.f (TV.er.go s.ln caps) :: TV.er.go s.ln ds := by show TV.er.go s.ln s.df = _; rw [hd]; rfl
      rw [e]
      exact this
    · cases h
  | .ae _ _ _ :: _, _, _, _, h => by cases h
  | .ptr _ _ _ :: _, _, _, _, h => by cases h
  | .agg _ :: _, _, _, _, h => by cases h
  | .aT _ :: _, _, _, _, h => by cases h
  | .loc _ _ :: _, _, _, _, h => by cases h
  | .ia _ _ _ _ :: _, _, _, _, h => by cases h
  | .aM _ _ :: _, _, _, _, h => by cases h
  | .sub _ _ _ _ :: _, _, _, _, h => by cases h
  | .cT _ :: _, _, _, _, h => by cases h
  | .mp _ :: _, _, _, _, h => by cases h
  | .ks _ _ _ _ :: _, _, _, _, h => by cases h
  | .kp _ _ _ _ :: _, _, _, _, h => by cases h
  | .gH _ _ _ _ _ :: _, _, _, _, h => by cases h
  | .val _ :: _, _, _, _, h => by cases h
  | .any :: _, _, _, _, h => by cases h
def Eu:Code→Option (Oper×Oper)
 | .region _ ops false=>match ops.toList with
  | [o1,o2]=>match o1.guard,o2.guard,o2.op,o2.dst with
   | none,none,.defer ⟨.value (.tmp _),⟨[]⟩,_⟩,none=>some (o1,o2)
   | _,_,_,_=>none
  | _=>none
 | _=>none
noncomputable def CF (P:Program) (N fu:Nat) (H:List (Nat×Hint)) (cl:Cl S):Code→Nat→ag S→(A:Type)→(Exit→ag S→Option A)→Option A
 | .seq x y,p,s,A,K=>Fk (ke H p) s fun s=>CF P N fu H cl x (p+1) s A fun e s'=>match e with
  | .normal=>CF P N fu H cl y (p+1+kX x) s' A K
  | e=>K e s'
 | c,p,s,A,K=>match Eu c with
  | some (o1,o2)=>match o1.dst with
   | some d=>match Nat.blt d N with
    | true=>Fi P s o1.op fun v x=>match o2.op with
     | .defer ⟨.value (.tmp d'),_,_⟩=>match bd (s.nM d v x).bN d' with
      | some (.aR f caps)=>match qK.contains f with
       | false=>K .normal {s.nM d v x with df:=.aR f caps::(s.nM d v x).df,last:=[]}
       | true=>none
      | _=>none
     | _=>none
    | false=>none
   | none=>none
  | none=>gf P N fu H cl c p s A K
theorem Ns {c:Code}{o1 o2:Oper}(h:Eu c=some (o1,o2)):∃id d' ts ty pos after,c=.region id #[o1,o2] false∧o1.guard=none∧o2=⟨none,.defer ⟨.value (.tmp d'),#[],ts⟩,ty,pos,after,none⟩:=by
 unfold Eu at h
 split at h
 ·rename_i id ops
  split at h
  ·rename_i a b hops
   split at h
   ·rename_i h1 h2 h3 h4
    cases h
    obtain⟨dst2,op2,ty2,pos2,after2,guard2⟩:=o2
    dsimp only at h2 h3 h4
    subst h2;subst h3;subst h4
    refine⟨id,_,_,ty2,pos2,after2,?_,h1,rfl⟩
    have:ops=ops.toList.toArray:=by simp
    rw[this,hops]
   ·cases h
  ·cases h
 ·cases h
theorem Pw {P:Program}{N fu:Nat}{H:List (Nat×Hint)}{cl:Cl S}{cx:Cx}(hro:cx.ro=none) (hm:P.follows .mixedOrders=true) (hcl:qN P N cl):∀(c:Code) (p:Nat),nH S N H (oD c p)→∀(s:ag S) (A:Type) (K:Exit→ag S→Option A) (r:A),aJ s→CF P N fu H cl c p s A K=some r→
  ∀Q:Exit→St→Prop,(∀e t,aJ t→K e t=some r→Q e t.er)→GW P N cx c Q s.er:=by
 have leaf:∀(c:Code) (p:Nat),nH S N H (oD c p)→∀(s:ag S) (A:Type) (K:Exit→ag S→Option A) (r:A),aJ s→(match Eu c with
  | some (o1,o2)=>match o1.dst with
   | some d=>match Nat.blt d N with
    | true=>Fi P s o1.op fun v x=>match o2.op with
     | .defer ⟨.value (.tmp d'),_,_⟩=>match bd (s.nM d v x).bN d' with
      | some (.aR f caps)=>match qK.contains f with
       | false=>K .normal {s.nM d v x with df:=.aR f caps::(s.nM d v x).df,last:=[]}
       | true=>none
      | _=>none
     | _=>none
    | false=>none
   | none=>none
  | none=>gf P N fu H cl c p s A K)=some r→∀Q:Exit→St→Prop,(∀e t,aJ t→K e t=some r→Q e t.er)→GW P N cx c Q s.er:=by
  intro c p hr s A K r hl h Q hQ
  split at h
  ·rename_i o1 o2 hd
   obtain⟨id,d',ts,ty,pos,after,rfl,hg,rfl⟩:=Ns hd
   split at h
   ·rename_i d hdst
    split at h
    ·rename_i hN
     have hN:d<N:=by simpa[fU] using hN
     obtain⟨dst,op,ty1,pos1,after1,guard1⟩:=o1
     dsimp only at hdst hg h
     subst hdst;subst hg
     obtain⟨v,x,h1,h2,h3⟩:=AB (dst:=some d) (ty:=ty1) (pos:=pos1) (after:=after1) (guard:=none) h
     refine GW.region (GL.yield rfl rfl hN (h1.yield []) ?_)
     rw[←yz s d v x]
     split at h3
     ·rename_i f caps hx
      split at h3
      rotate_left
      ·cases h3
      rename_i hbf
      refine GL.defer hbf hro (f:=f) (caps:=TV.er.go (s.nM d v x).ln caps) (by
       show AM.get (s.nM d v x).er.fr d'=_
       exact fe hx) ?_
      exact GL.nil (show Q .normal (ag.er {s.nM d v x with df:=.aR f caps::(s.nM d v x).df,last:=[]}) from hQ .normal _ (gY rfl) h3)
     ·cases h3
    ·cases h
   ·cases h
  ·exact kF hm hcl c p hr (.inr hro) s A K r hl h Q fun e t a _ c=>hQ e t a c
 intro c
 induction c with
 | seq x y ihx ihy=>
  intro p hr s A K r hl h Q hQ
  simp only[CF] at h
  obtain⟨s1,g1,g2,g3,h⟩:=Cc hl h
  refine GW.gh g1 (GW.seq (ihx _ hr.fN.1 s1 A _ r g2 h _ fun e t hlt hK=>?_))
  cases e with
  | normal=>exact ihy _ hr.fN.2 t A K r hlt hK Q hQ
  | _=>exact hQ _ t hlt hK
 | _=>exact fun p hr s A K r hl h Q hQ=>leaf _ p hr s A K r hl (by simpa only[CF] using h) Q hQ
def Gg (P:Program) (rvs:List ResultVar) (aj:List (Nat×Sh)) (outs il:List (Nat×Oh)):Md→ag S→Option (aT S.α (JH.cg ⟨aj,outs⟩)⊕((Int×Int)×aT S.α (JH.cg ⟨[],il⟩)))
 | none,t=>(wE P (qY P rvs aj t) rvs aj outs).bind fun x=>some (.inl x)
 | some y,t=>(wE P t [] [] il).bind fun x=>some (.inr (y,x))
noncomputable def QI (P:Program) (N fu:Nat) (H:List (Nat×Hint)) (cl:Cl S) (tblD:List (l6 S)) (c:Code) (mvs:List Nat) (rvs:List ResultVar) (args:List Sh) (aI:List Oh) (aj:List (Nat×Sh)) (outs il:List (Nat×Oh)) (T:TypeId) (q:aT S.α (iQ args aI)):
  Option (aT S.α (JH.cg ⟨aj,outs⟩)⊕((Int×Int)×aT S.α (JH.cg ⟨[],il⟩))):=
 match yF mvs (dd args aI (leaves _ q)) with
 | some s=>CF P N fu H cl c 0 s _ fun e t=>match e with
  | .ret=>B5 tblD t.df none t _ (Gg P rvs aj outs il)
  | .normal=>B5 tblD t.df none t _ (Gg P rvs aj outs il)
  | .panic ch=>match Ie T ch with
   | some x=>B5 tblD t.df (some x) t _ (Gg P rvs aj outs il)
   | none=>none
  | _=>none
 | none=>none
theorem LD.gw {P:Program}{N:Nat}{cx:Cx}{fn:Func}{R:Ending→World→Prop}{u:FrameMode}{s t:St}(h:Gw s t) (hs:s.df=[]) (ht:t.df=[]) (k:LD P N cx fn R [] u t):LD P N cx fn R [] u s:=fun μ a w hr=>by
 have e1:({s with df:=[]}:St)=s:=by cases s;simp only at hs;subst hs;rfl
 have e2:({t with df:=[]}:St)=t:=by cases t;simp only at ht;subst ht;rfl
 rw[e1] at hr
 obtain⟨μ',hr'⟩:=h N cx μ a w hr
 exact k μ' a w (by rw[e2];exact hr')
theorem DE {P:Program}{N:Nat}{rvs:List ResultVar}{aj:List (Nat×Sh)}{outs:List (Nat×Oh)}{t:ag S}{r:aT S.α (JH.cg ⟨aj,outs⟩)}(hl:aJ t) (hr:fE N [] aj outs=true) (hE:wE P t rvs aj outs=some r):
  ∃u:ag S,Gh t.er u.er∧u.er.df=[]∧ua P u.er rvs (((bT aj (leaves _ r)).1.map (·.2)).map (TV.er (bG (im aj outs r))))∧pc u.er.st (bA (bG (im aj outs r)) (im aj outs r))∧
   hZ u.er.st (bA (bG (im aj outs r)) (im aj outs r)) (pack (((bT aj (leaves _ r)).1.map (·.2)).map (TV.er (bG (im aj outs r)))))=some ((lF aj (leaves _ r)).er (bG (im aj outs r))):=by
 simp only[fE,ah] at hr
 obtain⟨_,hr3,hr4⟩:=hr
 obtain⟨u,hg,hdf,r1,O',eu,hln,hown⟩:=HQ hl hE
 have hk:aH (bS outs (bT aj (leaves (JH.cg ⟨aj,outs⟩) r)).2).1=aH outs:=ku _ _
 refine⟨u,hg,hdf,r1,zr (ln:=bG (im aj outs r)) (l:=im aj outs r) fun j o hm=>?_,?_⟩
 ·have e1:aA (bS outs (bT aj (leaves (JH.cg ⟨aj,outs⟩) r)).2).1 j=some o:=Ci (by rw[hk];exact hr4) j o hm
  have e2:aA u.a7 j=some o:=by rw[eu,eo,e1]
  rw[show ay u.er.st j=_ from jA e2]
  have hj:o.er u.ln=o.er (bG (bS outs (bT aj (leaves (JH.cg ⟨aj,outs⟩) r)).2).1):=TO.lW hln o (sM (aH outs) outs _ hown j o e1)
  rw[hj]
  rfl
 ·rw[sZ]
  refine zs _ ?_
  rw[show aH (im aj outs r)=_ from hk]
  exact AE _ hr3
theorem Av {N:Nat}{args:List Sh}{aj:List (Nat×Sh)}{outs:List (Nat×Oh)}(h:fE N args aj outs=true):fE N [] aj outs=true:=by
 simp only[fE,ah] at h⊢
 exact⟨by simp[Nat.ble_eq],h.2⟩
theorem Ps {P:Program}{N:Nat}{fn:Func}{X:Nat→Prop}{st:List (Nat×aq)}{μ:Mu}{w:World}{aj:List (Nat×Sh)}{outs il:List (Nat×Oh)}{T:TypeId}{m:Md}{t:ag S}{r:aT S.α (JH.cg ⟨aj,outs⟩)⊕((Int×Int)×aT S.α (JH.cg ⟨[],il⟩))}
  (hs:fE N [] aj outs=true) (hp:fE N [] [] il=true) (hl:aJ t) (hd:t.df=[]) (h:Gg P fn.results.toList aj outs il m t=some r):LD P N (eg X st μ w) fn (qO X st μ w (NY r) (QR T r)) [] (qR T m) t.er:=by
 have hd':t.er.df=[]:=by show TV.er.go t.ln t.df=[];rw[hd];rfl
 cases m with
 | none=>
  obtain⟨x,h1,h2⟩:=bind_some h
  cases h2
  obtain⟨g1,g2⟩:=fR (P:=P) (rvs:=fn.results.toList) (l:=aj) hl
  obtain⟨u,a1,a2,a3,a4,a5⟩:=DE g2 hs h1
  refine LD.gw (g1.trans a1.w) hd' a2 (LD.ret (st':=bA (bG (im aj outs x)) (im aj outs x)) ?_ a4 a5 ⟨x,rfl,rfl,rfl⟩)
  have e:({u.er with df:=[]}:St)=u.er:=by rw[←a2]
  rw[e];exact a3
 | some y=>
  obtain⟨x,h1,h2⟩:=bind_some h
  cases h2
  obtain⟨u,a1,a2,a3,a4,a5⟩:=DE hl hp h1
  exact LD.gw a1.w hd' a2 (LD.R5 a4 ⟨_,rfl,rfl,rfl⟩)
theorem db.of {P:Program}{N fu:Nat}{H:List (Nat×Hint)}{cl:Cl S}{tblD:List (l6 S)}{con:iv S}{fn:Func}{c:Code}(hm:P.follows .mixedOrders=true) (hcl:qN P N cl) (htD:∀c∈tblD,oa P con.T c)
  (hf:P.funcs[con.f]?=some fn) (hcall:∀args w,(callFunc con.f args).run P w=.ok (.enter con.f args) w) (hb:fn.body=some c) (hN:fn.ntmps=N)
  (hle:fE N con.args con.aj con.outs=true) (hlp:fE N con.args [] con.il=true){mvs:List Nat}(h:∀q,QI P N fu H cl tblD c mvs fn.results.toList con.args con.aI con.aj con.outs con.il con.T q=con.F q) (hn:isNil (oD c 0)=true:=by kernel_rfl):db P con:=
 ⟨hcall,fun q r hF=>by
  have hr0:=hle
  simp only[fE,ah] at hr0
  refine GP.R6 hf hb hN (by rw[cS,aU,uI];exact hr0.1) fun X μ w=>?_
  have e0:(⟨jZ (TV.er.go (dd con.args con.aI (leaves _ q)).ln (cw con.args (leaves _ q)).1) 0,(dd con.args con.aI (leaves _ q)).er.st,[]⟩:St)=(dd con.args con.aI (leaves _ q)).er:=by
   rw[←wz]
   show St.mk _ _ _=St.mk (jq _ (mg (cw con.args (leaves _ q)).1 0++[])) _ _
   rw[cH];rfl
  rw[e0]
  have hD:=(h q).trans hF
  unfold QI at hD
  split at hD
  ·rename_i s0 hmv
   refine zL (gY rfl) hmv fun hl0=>?_
   refine Pw rfl hm hcl c 0 (yp hn) s0 _ _ r hl0 hD _ fun e t hlt hK=>?_
   have fin:∀m t',aJ t'→t'.df=[]→Gg P fn.results.toList con.aj con.outs con.il m t'=some r→LD P N (eg X (dd con.args con.aI (leaves _ q)).er.st μ w) fn (qO X (dd con.args con.aI (leaves _ q)).er.st μ w (NY r) (QR con.T r)) [] (qR con.T m) t'.er:=
    fun m t' a b c=>Ps (Av hle) (Av hlp) a b c
   split at hK
   ·exact yx htD fin rfl hK
   ·exact yx htD fin rfl hK
   ·rename_i ch
    split at hK
    ·rename_i x hx
     have:=Mb hx
     subst this
     exact yx htD fin rfl hK
    ·cases hK
   ·cases hK
  ·cases hD⟩
def N1 {α β:Type}(o:Option (α⊕β)):Option α:=o.bind fun r=>match r with
 | .inl x=>some x
 | .inr _=>none
theorem EJ {α β:Type}{o:Option (α⊕β)}{x:α}(h:N1 o=some x):o=some (.inl x):=by
 obtain⟨y,h1,h2⟩:=bind_some h
 cases y with
 | inl a=>cases h2;exact h1
 | inr b=>cases h2
theorem db.Bv {P:Program}{conP:iv S}(C:db P conP){F:aT S.α (iQ conP.args conP.aI)→Option (aT S.α (JH.cg ⟨conP.aj,conP.outs⟩))}(h:∀q r,F q=some r→conP.F q=some (.inl r)):
  bf P ⟨conP.f,conP.args,conP.aI,conP.vw,conP.aj,conP.outs,F⟩:=
 ⟨C.call,fun q r hF=>(C.ok q _ (h q r hF)).mono (fun g st ⟨x,hx,hA⟩=>by cases hx;exact hA) (fun ch st ⟨y,hy,_⟩=>by cases hy)⟩
end
end Go.DN
