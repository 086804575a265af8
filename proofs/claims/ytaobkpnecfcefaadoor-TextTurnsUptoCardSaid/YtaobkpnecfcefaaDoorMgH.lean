/-
  DN, fourth part.
-/
import Derived.Test.YtaobkpnecfcefaaDoorMgD
import Derived.KernelRfl
import Derived.Test.YtaobkpnecfcefaaDoorMgI
set_option linter.unusedSectionVars false
set_option linter.unusedSimpArgs false
set_option linter.unusedVariables false
/-
 DN,part Vb:a call whose arguments all lead to what the caller's call has made:so does its answer.
-/
namespace Go.DN
open Go.AM
def rk:G→Bool
 | .val _=>true
 | .cH _=>true
 | .fr _=>true
 | .agg gs=>go gs
 | .aP _ gs=>go gs
 | _=>false
where go:List G→Bool
 | []=>true
 | g::r=>rk g&&go r
theorem uQ:∀{gs:List G},rk.go gs=true→∀(j:Nat) (g:G),gs[j]?=some g→rk g=true
 | [],_,j,g,hg=>by simp at hg
 | x::r,h,j,g,hg=>by
  simp only[rk.go,ag] at h
  cases j with
  | zero=>cases hg;exact h.1
  | succ j=>exact uQ h.2 j g hg
def rL:G→G
 | .val v=>.val v
 | .cH b=>.fr (.cH b)
 | .sl n cs=>.fr (.sl n cs)
 | .ptr cs=>.fr (.ptr cs)
 | .agg gs=>.agg (go gs)
 | .aU gs=>.aU (go gs)
 | .aP f gs=>.aP f (go gs)
 | g=>g
where go:List G→List G
 | []=>[]
 | g::r=>rL g::go r
theorem wG:∀(gs:List G),(rL.go gs).length=gs.length
 | []=>rfl
 | _::r=>congrArg (·+1) (wG r)
theorem yV:∀{gs:List G}{j:Nat}{g':G},(rL.go gs)[j]?=some g'→∃g,gs[j]?=some g∧g'=rL g
 | [],_,_,h=>by simp[rL.go] at h
 | x::r,j,g',h=>by
  cases j with
  | zero=>simp only[rL.go,mF,kz] at h;exact⟨x,rfl,h.symm⟩
  | succ j=>exact yV (gs:=r) (by simpa[rL.go] using h)
theorem N6 {O X:Nat→Prop}{base:Nat}{μ μ':Mu}{w:World}{g g':G}{v:Value}(h:bB O w g v) (hX:∀b,X b→b<w.heap.size→hJ O base b) (hg:rk g=true) (hf:fL g=some g'):aM X w.heap.size w μ' g' v:=by
 induction h generalizing g' with
 | any v=>cases hg
 | val v=>
  cases hf
  unfold mB
  split
  ·exact .aC .nil
  ·exact .aC (.val _)
 | cH b v h=>cases hf;exact .aC (.cH b v h)
 | nil=>cases hg
 | ib a c=>cases hg
 | sl n cells b off cap us h1 h2 h3 h4 h5 ih=>cases hg
 | ptr cells b off us h1 h2 h3 h4 ih=>cases hg
 | agg cells us hl hr ih=>
  simp only[fL,ay] at hf
  obtain⟨gs',h1,rfl⟩:=hf
  obtain⟨h2,h3⟩:=pT h1
  refine .agg gs' us (by omega) fun j g v hg' hv=>?_
  obtain⟨g0,h4,h5⟩:=h3 j g hg'
  exact ih j g0 v h4 hv (uQ hg j g0 h4) h5
theorem N7 {O X:Nat→Prop}{base:Nat}{μ μ':Mu}{w:World}{g g':G}{v:Value}(h:aM O base w μ g v) (hX:∀b,X b→b<w.heap.size→hJ O base b) (hg:rk g=true) (hf:fL g=some g'):aM X w.heap.size w μ' g' v:=by
 induction h generalizing g' with
 | aC h=>exact N6 (base:=base) (μ:=μ) h hX hg hf
 | fr h=>cases hf;exact .aC (h.mono (Kept.refl _ _) fun b hb hn hx=>hn (hX b hx hb))
 | agg cells us hl hr ih=>
  simp only[fL,ay] at hf
  obtain⟨gs',h1,rfl⟩:=hf
  obtain⟨h2,h3⟩:=pT h1
  refine .agg gs' us (by omega) fun j g v hg' hv=>?_
  obtain⟨g0,h4,h5⟩:=h3 j g hg'
  exact ih j g0 v h4 hv (uQ hg j g0 h4) h5
 | aP f caps us hl hr ih=>
  simp only[fL,ay] at hf
  obtain⟨gs',h1,rfl⟩:=hf
  obtain⟨h2,h3⟩:=pT h1
  refine .aP f gs' us (by omega) fun j g v hg' hv=>?_
  obtain⟨g0,h4,h5⟩:=h3 j g hg'
  exact ih j g0 v h4 hv (uQ hg j g0 h4) h5
 | _=>cases hg
theorem O6 {X O:Nat→Prop}{base:Nat}{μ:Mu}{w:World}{g:G}{v:Value}(h:bB X w g v) (hO:∀b,b<w.heap.size→hJ O base b→X b) (hi:mN g=true):aM O base w μ (rL g) v:=by
 have key:∀{g:G}{v:Value},bB X w g v→bB (hJ O base) w g v:=fun h=>h.mono (Kept.refl _ _) fun b hb hn ho=>hn (hO b hb ho)
 induction h with
 | any v=>cases hi
 | val v=>exact .aC (.val _)
 | cH b v h=>exact .fr (.cH b v h)
 | nil=>exact .fr .nil
 | ib a c=>exact .fr (.ib a c)
 | sl n cells b off cap us h1 h2 h3 h4 h5 ih=>exact .fr (key (.sl n cells b off cap us h1 h2 h3 h4 h5))
 | ptr cells b off us h1 h2 h3 h4 ih=>exact .fr (key (.ptr cells b off us h1 h2 h3 h4))
 | agg cells us hl hr ih=>
  refine .agg _ us (by rw[wG];exact hl) fun j g v hg hv=>?_
  obtain⟨g0,h1,rfl⟩:=yV hg
  exact ih j g0 v h1 hv (sy hi j g0 h1)
theorem O7 {X O:Nat→Prop}{bX base:Nat}{μX μ:Mu}{w:World}{g:G}{v:Value}(h:aM X bX w μX g v) (hO:∀b,b<w.heap.size→hJ O base b→X b) (hi:mN g=true):aM O base w μ (rL g) v:=by
 induction h with
 | aC h=>exact O6 h hO hi
 | fr h=>exact .fr (h.mono (Kept.refl _ _) fun b hb hn ho=>hn (.inr (hO b hb ho)))
 | agg cells us hl hr ih=>
  refine .agg _ us (by rw[wG];exact hl) fun j g v hg hv=>?_
  obtain⟨g0,h1,rfl⟩:=yV hg
  exact ih j g0 v h1 hv (sy hi j g0 h1)
 | aU cells us hl hr ih=>
  refine .aU _ us (by rw[wG];exact hl) fun j g v hg hv=>?_
  obtain⟨g0,h1,rfl⟩:=yV hg
  exact ih j g0 v h1 hv (sy hi j g0 h1)
 | aP f cells us hl hr ih=>
  refine .aP f _ us (by rw[wG];exact hl) fun j g v hg hv=>?_
  obtain⟨g0,h1,rfl⟩:=yV hg
  exact ih j g0 v h1 hv (sy hi j g0 h1)
 | _=>cases hi
section
variable {P:Program}{N:Nat}{cx:Cx}{s:St}
variable {ty:TypeId}{pos:String}{after:Array Edge}{guard:Option (Nat×Bool)}{W:List Nat}{d:Nat}
theorem Mj {f:FuncId}{vs:List Value}{gs gs':List G}{Q:G→List (Nat×ao)→Prop}{μ:Mu}{a:Act}{w:World}(hr:Rel N cx μ s a w) (hfre:rk.go gs=true) (hv:dS fL gs=some gs')
  (hvs:vs.length=gs.length) (hrep:∀(j:Nat) (g:G) (v:Value),gs[j]?=some g→vs[j]?=some v→aM (cx.O s.st μ) cx.base w μ g v)
  (hcon:GM P f gs' [] Q) (hres:∀r st',Q r st'→mN r=true∧st'=[]):
  Calls P f vs.toArray w fun e w'=>∃v r st',e=.returned v∧Q r st'∧Rel N cx μ s a w'∧aM (cx.O s.st μ) cx.base w' μ (rL r) v∧Step W s.st μ s.st μ w w':=by
 obtain⟨h1,h2⟩:=pY hv
 have hXO:∀b,cx.O s.st μ b→b<w.heap.size:=fun b hb=>by
  rcases hb with hb | hb
  ·have:=hr.st.ed b hb;have:=hr.st.hb;omega
  ·exact pC hr.st hb
 have hX:∀b,(hJ (cx.O s.st μ) cx.base b∧b<w.heap.size)→b<w.heap.size:=fun b hb=>hb.2
 refine(hcon.returned (fun b=>hJ (cx.O s.st μ) cx.base b∧b<w.heap.size) (fun _=>none) w vs hX (zk hX (hr.st.Rs fun _ h=>(nU h).elim)) (by omega) fun j g v hg hv=>?_).mono ?_
 ·obtain⟨g0,h3,h4⟩:=h2 j g hg
  refine N7 (O:=cx.O s.st μ) (base:=cx.base) (hrep j g0 v h3 hv) ?_ (uQ hfre j g0 h3) h4
  rintro b (hb | hb) _
  ·exact hb.1
  ·exact absurd hb nU
 ·rintro e w' ⟨v,r,st',μ',rfl,hq,hst,hrv⟩
  have hkeep:∀b,b<w.heap.size→w'.heap[b]?=w.heap[b]?:=fun b hb=>hst.cW b hb nU
  obtain⟨hf,hs⟩:=hres r st' hq
  subst hs
  refine⟨v,r,[],rfl,hq,hr.kept hst.hb hkeep hst.os hst.tape hst.output,?_,⟨hst.hb,fun b hb _=>hkeep b hb,fun h k c m b hw h1 h2 hi=>.inl ⟨h,k,c,m,hw,h1,h2,hi⟩⟩⟩
  refine O7 hrv ?_ hf
  intro b _ hb
  refine .inl ⟨hb,?_⟩
  rcases hb with hb | hb
  ·exact bW hb hr.st.hb
  ·exact hXO b hb
theorem EF.Ur {f:FuncId}{xs:Array Operand}{ts:Array TypeId}{gs gs':List G}{Q:G→List (Nat×ao)→Prop}(hc:∀args w,(callFunc f args).run P w=.ok (.enter f args) w)
  (hx:tc s xs.toList=some gs) (hfre:rk.go gs=true) (hv:dS fL gs=some gs') (hcon:GM P f gs' [] Q) (hres:∀r st',Q r st'→mN r=true∧st'=[]):
  bJ P W s ⟨some d,.call ⟨.value (.func f),xs,ts⟩,ty,pos,after,guard⟩ (fun s'=>∃r st',Q r st'∧s'=s.put d (rL r)):=by
 refine⟨(fun _ h=>by cases h),?_⟩
 intro N cx μ a w hr hN K Q' hK
 obtain⟨h1,h2⟩:=lL hx
 have hcall:=Mj (vs:=xs.toList.map a.eval) (W:=W) hr hfre hv (by simp[h1]) (fun j g v hg hv=>by
  obtain⟨x,hxj,he⟩:=h2 j g hg
  rw[ar,hxj] at hv
  cases hv
  exact hr.ev he) hcon hres
 unfold Oper.wp
 have:(execOp a.eval ⟨some d,.call ⟨.value (.func f),xs,ts⟩,ty,pos,after,guard⟩).run P w=.ok (.enter f (xs.toList.map a.eval).toArray) w:=by
  have e:xs.map a.eval=(xs.toList.map a.eval).toArray:=by rw[←fD]
  simp[execOp,resolve,invoke,Deferred.ofValue,Act.eval,hc,e]
 rw[this]
 refine hcall.mono ?_
 rintro e w' ⟨v,r,st',rfl,hq,hr',hrv,hst⟩
 exact hK μ _ _ w' (hr'.put (hN d rfl) hrv) ⟨r,st',hq,rfl⟩ hst
end
section
variable {S:dx}
def TV.Fx:TV S→Bool
 | .ab f τ _=>f||τ.iS
 | .ptr f _ _=>f
 | .val _=>true
 | .agg l=>go l
 | .aP _ l=>go l
 | _=>false
where go:List (TV S)→Bool
 | []=>true
 | x::r=>x.Fx&&go r
theorem Qj {g:G}(h:Pl g):rk (dc true g)=true:=by
 rcases h with ⟨u,rfl⟩ | ⟨n,cs,rfl⟩ | ⟨b,rfl⟩ <;> rfl
mutual
theorem Qi (ln:Nat→Nat):∀v:TV S,v.Fx=true→rk (v.er ln)=true
 | .ab f τ a,hf=>by
  have hf:(f||τ.iS)=true:=hf
  cases τ with
  | st n=>
   have e:f=true:=by simpa[Ty.iS] using hf
   subst e
   show rk.go ((aW S (.st n) a).map (dc true))=true
   have h:=td (S:=S) (.st n) a
   generalize aW S (.st n) a=l at h
   induction l with
   | nil=>rfl
   | cons x r ih=>
    simp only[aB,rk.go,Qj (h x au),ih fun y hy=>h y (ap _ hy),gu]
  | list τ=>
   have e:f=true:=by simpa[Ty.iS] using hf
   subst e;rfl
  | _=>cases f <;> rfl
 | .ptr f τ a,hf=>by
  have e:f=true:=hf
  subst e;rfl
 | .val _,_=>rfl
 | .agg l,h=>vQ ln l h
 | .aP _ l,h=>vQ ln l h
 | .aU _,h=>by cases h
 | .loc _ _,h=>by cases h
 | .gY _ _ _ _,h=>by cases h
 | .aK _ _,h=>by cases h
 | .sub _ _ _ _,h=>by cases h
 | .cA _,h=>by cases h
 | .mp _,h=>by cases h
 | .ks _ _ _ _,h=>by cases h
 | .kp _ _ _ _,h=>by cases h
 | .fX _ _ _ _ _,h=>by cases h
 | .bT _ _ _,h=>by cases h
 | .any,h=>by cases h
theorem vQ (ln:Nat→Nat):∀l:List (TV S),TV.Fx.go l=true→rk.go (TV.er.go ln l)=true
 | [],_=>rfl
 | x::r,h=>by
  simp only[TV.Fx.go,ag] at h
  simp only[TV.er.go,rk.go,Qi ln x h.1,vQ ln r h.2,gu]
end
mutual
theorem SA:∀v:TV S,v.Fx=true→v.imp=true
 | .ab f τ a,_=>rfl
 | .ptr f τ a,_=>rfl
 | .val _,_=>rfl
 | .agg l,h=>yi l h
 | .aP _ l,h=>yi l h
 | .aU _,h=>by cases h
 | .loc _ _,h=>by cases h
 | .gY _ _ _ _,h=>by cases h
 | .aK _ _,h=>by cases h
 | .sub _ _ _ _,h=>by cases h
 | .cA _,h=>by cases h
 | .mp _,h=>by cases h
 | .ks _ _ _ _,h=>by cases h
 | .kp _ _ _ _,h=>by cases h
 | .fX _ _ _ _ _,h=>by cases h
 | .bT _ _ _,h=>by cases h
 | .any,h=>by cases h
theorem yi:∀l:List (TV S),TV.Fx.go l=true→TV.imp.go l=true
 | [],_=>rfl
 | x::r,h=>by
  simp only[TV.Fx.go,ag] at h
  simp only[TV.imp.go,SA x h.1,yi r h.2,gu]
end
def TV.up:TV S→TV S
 | .ab _ τ a=>.ab true τ a
 | .aU l=>.aU (go l)
 | v=>v
where go:List (TV S)→List (TV S)
 | []=>[]
 | .ab _ τ a::r=>.ab true τ a::go r
 | v::r=>v::go r
theorem MI {f:Bool}{g:G}(h:Pl g):rL (dc f g)=dc true g:=by
 rcases h with ⟨u,rfl⟩ | ⟨n,cs,rfl⟩ | ⟨b,rfl⟩ <;> cases f <;> rfl
theorem MJ (f:Bool) (τ:Ty) (a:S.D τ):rL (nZ f τ a)=nZ true τ a:=by
 cases τ with
 | st n=>
  show G.agg (rL.go ((aW S (.st n) a).map (dc f)))=G.agg ((aW S (.st n) a).map (dc true))
  congr 1
  have h:=td (S:=S) (.st n) a
  generalize aW S (.st n) a=l at h
  induction l with
  | nil=>rfl
  | cons x r ih=>
   simp only[aB,rL.go,MI (h x au),ih fun y hy=>h y (ap _ hy)]
 | _=>exact MI (w9 rfl a)
theorem Q5 (ln:Nat→Nat):∀(al:List (Nat×Sh)) (ls:List (bi S.α)),nq al=true→ls.length=(jf al).length→TV.er.go ln (TV.up.go ((bR al ls).1.map (·.2)))=rL.go (TV.er.go ln ((bR al ls).1.map (·.2)))
 | [],_,_,_=>rfl
 | (d,.ab f τ)::r,ls,h,hl=>by
  cases ls with
  | nil=>simp[jf,Sh.cn] at hl
  | cons x xs=>
   simp only[bR,gW,aB,TV.up.go,TV.er.go,rL.go]
   rw[Q5 ln r xs h (by simpa[jf,Sh.cn] using hl)]
   exact congrArg (·::_) (MJ f x.τ x.a).symm
 | (d,.own h τ)::r,ls,h',_=>by cases h'
 | (d,.ptr _ _)::r,ls,h',_=>by cases h'
 | (d,.loc _ _)::r,ls,h',_=>by cases h'
 | (d,.aP _ _)::r,ls,h',_=>by cases h'
 | (d,.agg _)::r,ls,h',_=>by cases h'
 | (d,.cA _)::r,ls,h',_=>by cases h'
 | (d,.mp _)::r,ls,h',_=>by cases h'
 | (d,.fX _ _)::r,ls,h',_=>by cases h'
 | (d,.bT _ _)::r,ls,h',_=>by cases h'
 | (d,.ks _ _)::r,ls,h',_=>by cases h'
 | (d,.any)::r,ls,h',_=>by cases h'
 | (d,.nr)::r,ls,h',_=>by cases h'
 | (d,.sub _ _)::r,ls,h',_=>by cases h'
theorem UI (ln:Nat→Nat){al:List (Nat×Sh)}{ls:List (bi S.α)}(h:nq al=true) (hl:ls.length=(jf al).length):((mo al ls).up).er ln=rL ((mo al ls).er ln):=by
 have hg:=Q5 ln al ls h hl
 match al,h with
 | [],_=>rfl
 | [(d,.ab f τ)],_=>cases ls with
  | nil=>simp[jf,Sh.cn] at hl
  | cons x xs=>exact(MJ f x.τ x.a).symm
 | (d,.ab f τ)::(d',sh)::r,_=>exact congrArg G.aU hg
def Mk (con:dC S) (s:aj S) (d:Nat) (vs:List (TV S)){A:Type}(k:aj S→Option A):Option A:=
 match pA con&&(!(rj con.al)&&TV.Fx.go vs) with
 | true=>match lg s con.args vs with
  | some ls=>match n6 (ic con.args con.aJ) ls with
   | some q=>(con.F q).bind fun r=>k (s.put d (mo con.al (leaves _ r)).up)
   | none=>none
  | none=>none
 | false=>yz con s d vs k
theorem IT {P:Program}{N:Nat}{W:List Nat}{con:dC S}(C:bE P con){s:aj S}{d:Nat}{vs:List (TV S)}{A:Type}{k:aj S→Option A}{r:A}(hl:aO s) (h:Mk con s d vs k=some r)
  {xs:Array Operand}{ts:Array TypeId}{ty:TypeId}{pos:String}{after:Array Edge}{guard:Option (Nat×Bool)}(hv:tC s xs.toList=some vs):
  ∃T:St→Prop,bJ P W s.er ⟨some d,.call ⟨.value (.func con.f),xs,ts⟩,ty,pos,after,guard⟩ T∧∀s',T s'→∃t:aj S,Gh s' t.er∧aO t∧bA s t∧k t=some r:=by
 unfold Mk at h
 split at h
 ·rename_i hc
  simp only[ag,a7] at hc
  obtain⟨hp,_,hfr⟩:=hc
  obtain⟨C1,C2,C3⟩:=xB C hp
  split at h
  ·rename_i ls hls
   split at h
   ·rename_i q hq
    obtain⟨res,h1,h2⟩:=bind_some h
    have hview:=(vq 1 (fun _=>0) C1 hls []).2
    rw[bL,←gf hq] at hview
    have hlen:=Aj res (tU hp)
    have himp:=pb s.ln vs (yi vs hfr)
    refine⟨_,EF.Ur (P:=P) (W:=W) C.call (lK hv).2 (vQ s.ln vs hfr) (xV himp hview) (C3 q res h1) (fun g st hg=>⟨by rw[hg.1];exact Ey C2 hlen _,hg.2⟩),?_⟩
    intro s' hs'
    obtain⟨g,st,⟨hg,_⟩,e⟩:=hs'
    subst e;subst hg
    refine⟨_,?_,hl.put d _,⟨rfl,rfl,rfl⟩,h2⟩
    rw[iT,UI s.ln C2 hlen,Hq s.ln (fun _=>0) C2]
    exact Gh.refl _
   ·cases h
  ·cases h
 ·exact QA (N:=N) C hl h hv
end
end Go.DN
/-
 DN,part W:calls to which all objects are lent,and what comes back.
-/
namespace Go.DN
open Go.AM
section
variable {P:Program}{W:List Nat}{s:St}{d:Nat}{ty:TypeId}{pos:String}{after:Array Edge}{guard:Option (Nat×Bool)}
theorem EF.UW {f:FuncId}{xs:Array Operand}{ts:Array TypeId}{gs gs':List G}{cP:List (Nat×ao)}{Q:G→List (Nat×ao)→Prop}{T:St→Prop}(H:List Nat) (vw:Bool) (hc:∀args w,(callFunc f args).run P w=.ok (.enter f args) w)
  (hx:tc s xs.toList=some gs) (hv:bN.go H (dl s.st H vw) gs=some gs') (hl:ei H (dl s.st H vw) s.st H 0=some cP) (cV:mZ H=true) (hcon:GM P f gs' cP Q)
  (hres:∀r st',Q r st'→∃bk s2 r',jt vw s H st' bk=some s2∧dv vw (iJ st' bk) r=some r'∧T (s2.put d r')) (hW:sS H W=true):
  bJ P W s ⟨some d,.call ⟨.value (.func f),xs,ts⟩,ty,pos,after,guard⟩ T:=by
 refine⟨(fun _ h=>by cases h),?_⟩
 intro N cx μ a w hr hN K Q' hK
 obtain⟨h1,h2⟩:=lL hx
 have hcall:=qq (vs:=xs.toList.map a.eval) hr hv hl cV (by simp[h1]) (fun j g v hg hv=>by
  obtain⟨x,hxj,he⟩:=h2 j g hg
  rw[ar,hxj] at hv
  cases hv
  exact hr.ev he) hcon
 unfold Oper.wp
 have:(execOp a.eval ⟨some d,.call ⟨.value (.func f),xs,ts⟩,ty,pos,after,guard⟩).run P w=.ok (.enter f (xs.toList.map a.eval).toArray) w:=by
  have e:xs.map a.eval=(xs.toList.map a.eval).toArray:=by rw[←fD]
  simp[execOp,resolve,invoke,Deferred.ofValue,Act.eval,hc,e]
 rw[this]
 refine hcall.mono ?_
 rintro e w' (⟨v,r,st',μ',rfl,hq,hC,hrv⟩ | ⟨_,_,_,_,h,_⟩)
 ·obtain⟨bk,s2,r',hb,hren,hT⟩:=hres r st' hq
  obtain⟨q1,q2,q3,_⟩:=my hr hl (ik cV) hC hb
  exact hK _ _ _ w' (q1.put (hN d rfl) (q2 r r' v hrv hren)) hT (q3 W (rI hW))
 ·exact h.elim
end
section
variable {S:dx}
def Ay (s:aj S) (vw:Bool) (H:List Nat) (τ:Ty):TV S→Option (S.D τ)
 | .ab _ τ' a=>match τ'.fU with
  | true=>none
  | false=>iW τ' τ a
 | .val (.slice none 0 0)=>match τ with
  | .list _=>some []
  | _=>none
 | .aK h τ2=>match vw with
  | true=>match dq H h with
   | none=>match aF s.bj h with
    | some (.arr _ _ _ τ' l)=>match decEq τ' τ2 with
     | isTrue _=>iW (.list τ') τ l
     | isFalse _=>none
    | _=>none
   | some _=>none
  | false=>none
 | _=>none
def Gq (s:aj S) (vw:Bool) (H:List Nat):List Ty→List (TV S)→Option (List (bi S.α))
 | [],[]=>some []
 | τ::ts,v::vs=>match Ay s vw H τ v with
  | some a=>match Gq s vw H ts vs with
   | some l=>some (⟨τ,a⟩::l)
   | none=>none
  | none=>none
 | _,_=>none
def Lz (s:aj S) (vw:Bool) (H:List Nat) (τ:Ty) (v:TV S):Option (S.D τ):=
 match v with
 | .ab _ τ' a=>iW τ' τ a
 | .agg vs=>match τ with
  | .st n=>match Gq s vw H (S.cn n) vs with
   | some l=>S.put n l
   | none=>none
  | _=>none
 | v=>Ay s vw H τ v
mutual
def mb (s:aj S) (vw:Bool) (H:List Nat):Sh→TV S→Option (List (bi S.α))
 | .ab false τ,v=>match Lz s vw H τ v with
  | some a=>some [⟨τ,a⟩]
  | none=>none
 | .ptr false τ,v=>match v with
  | .ptr _ τ' a=>match iW τ' τ a with
   | some b=>some [⟨τ,b⟩]
   | none=>none
  | _=>none
 | .own r τ,v=>match v with
  | .aK h τ'=>match dq H h with
   | some i=>match Nat.beq (1000+i) r with
    | true=>match decEq τ' τ with
     | isTrue _=>some []
     | isFalse _=>none
    | false=>none
   | none=>none
  | _=>none
 | .loc r o,v=>match v with
  | .loc h o'=>match dq H h with
   | some i=>match Nat.beq (1000+i) r&&Nat.beq o' o with
    | true=>some []
    | false=>none
   | none=>none
  | _=>none
 | .aP f l,v=>match v with
  | .aP f' vs=>match Nat.beq f' f with
   | true=>lk s vw H l vs
   | false=>none
  | _=>none
 | .agg l,v=>match v with
  | .agg vs=>lk s vw H l vs
  | _=>none
 | .cA r,v=>match v with
  | .cA h=>match dq H h with
   | some i=>match Nat.beq (1000+i) r with
    | true=>some []
    | false=>none
   | none=>none
  | _=>none
 | .mp r,v=>match v with
  | .mp h=>match dq H h with
   | some i=>match Nat.beq (1000+i) r with
    | true=>some []
    | false=>none
   | none=>none
  | _=>none
 | .bT r o,v=>match v with
  | .loc h o'=>match dq H h with
   | some i=>match Nat.beq (1000+i) r&&Nat.beq o' o with
    | true=>some [⟨.bool,false⟩]
    | false=>none
   | none=>none
  | .val (.pointer none)=>some [⟨.bool,true⟩]
  | .bT b h o'=>match dq H h with
   | some i=>match Nat.beq (1000+i) r&&Nat.beq o' o with
    | true=>some [⟨.bool,b⟩]
    | false=>none
   | none=>none
  | _=>none
 | .nr,v=>match v with
  | .aP f []=>some [⟨.int .i64,(f:Int)⟩]
  | _=>none
 | .ks r τ,v=>match v with
  | .ks h τ' z n=>match dq H h with
   | some i=>match Nat.beq (1000+i) r with
    | true=>match decEq τ' τ with
     | isTrue _=>some [⟨.int .i64,(z:Int)⟩,⟨.int .i64,(n:Int)⟩]
     | isFalse _=>none
    | false=>none
   | none=>none
  | _=>none
 | .sub r τ,v=>match v with
  | .sub h τ' o n=>match dq H h with
   | some i=>match Nat.beq (1000+i) r with
    | true=>match decEq τ' τ with
     | isTrue _=>some [⟨.int .i64,(o:Int)⟩,⟨.int .i64,(n:Int)⟩]
     | isFalse _=>none
    | false=>none
   | none=>none
  | _=>none
 | _,_=>none
def lk (s:aj S) (vw:Bool) (H:List Nat):List Sh→List (TV S)→Option (List (bi S.α))
 | [],[]=>some []
 | x::r,v::vs=>match mb s vw H x v with
  | some a=>match lk s vw H r vs with
   | some l=>some (a++l)
   | none=>none
  | none=>none
 | _,_=>none
end
theorem Fm (H:List Nat) (stv:List (Nat×ao)) (f:Bool){τ:Ty}(h:τ.fU=false) (a:S.D τ):bN H stv (dc f (du S τ a))=some (du S τ a):=by
 cases τ with
 | st n=>cases h
 | _=>cases f <;> rfl
theorem H0 {s:aj S}{vw:Bool}{H:List Nat}{τ:Ty}{v:TV S}{a:S.D τ}(h:Ay s vw H τ v=some a):bN H (dl s.er.st H vw) (v.er s.ln)=some (du S τ a)∧τ.fU=false:=by
 unfold Ay at h
 split at h
 ·split at h
  ·cases h
  ·rename_i hs
   have:=dU h
   cases this
   refine⟨?_,hs⟩
   rw[pf hs]
   exact Fm H _ _ hs _
 ·split at h
  ·cases h;exact⟨rfl,rfl⟩
  ·cases h
 ·rename_i hh τ2
  split at h
  ·split at h
   ·rename_i hi
    split at h
    ·rename_i e m f τ' l ho
     split at h
     ·rename_i e1 _
      subst e1
      have:=dU h
      cases this
      refine⟨?_,rfl⟩
      show bN H (dl s.er.st H true) (.aK hh (S.sz τ') 0 (s.ln hh))=_
      simp only[bN,hi,dl,cond_true,view,xK hi (dX ho),TO.er]
      rw[oG ho,iN,di (by rw[ku];exact aq _)]
      rfl
     ·cases h
    ·cases h
   ·cases h
  ·cases h
 ·cases h
theorem HZ {s:aj S}{vw:Bool}{H:List Nat}:∀{ts:List Ty}{vs:List (TV S)}{l:List (bi S.α)},Gq s vw H ts vs=some l→bN.go H (dl s.er.st H vw) (TV.er.go s.ln vs)=some (l.map fun x=>du S x.τ x.a)
 | [],[],_,h=>by cases h;rfl
 | τ::ts,v::vs,l,h=>by
  simp only[Gq] at h
  split at h
  ·rename_i a ha
   split at h
   ·rename_i l' hl
    cases h
    simp only[TV.er.go,bN.go,(H0 ha).1,HZ hl,aB]
   ·cases h
  ·cases h
 | [],_::_,_,h=>by cases h
 | _::_,[],_,h=>by cases h
theorem PU {s:aj S}{vw:Bool}{H:List Nat}{τ:Ty}{v:TV S}{a:S.D τ}(h:Lz s vw H τ v=some a) (ln:Nat→Nat):bN H (dl s.er.st H vw) (v.er s.ln)=some ((TV.ab false τ a:TV S).er ln):=by
 have one:Ay s vw H τ v=some a→bN H (dl s.er.st H vw) (v.er s.ln)=some ((TV.ab false τ a:TV S).er ln):=by
  intro h
  obtain⟨h1,h2⟩:=H0 h
  rw[h1,pf h2];rfl
 unfold Lz at h
 split at h
 ·rename_i f τ' a'
  have:=dU h
  cases this
  cases τ with
  | st k=>
   show(bN.go H _ ((aW S (.st k) a).map (dc f))).map G.agg=some (.agg ((aW S (.st k) a).map (dc false)))
   have key:bN.go H (dl s.er.st H vw) ((aW S (.st k) a).map (dc f))=some ((aW S (.st k) a).map (dc false)):=by
    rw[gJ]
    have h:=la k a
    generalize S.cells k a=l at h
    induction l with
    | nil=>rfl
    | cons x r ih=>
     simp only[aB,bN.go]
     rw[Fm H _ f (h x au) x.a,ih fun y hy=>h y (ap _ hy)]
     rfl
   rw[key];rfl
  | _=>exact one (by unfold Ay;exact h)
 ·rename_i vs
  split at h
  ·rename_i k
   split at h
   ·rename_i l hl
    have hp:=S.lY _ _ _ h
    show(bN.go H _ (TV.er.go s.ln vs)).map G.agg=some (.agg ((aW S (.st k) a).map (dc false)))
    have e:(dc false)=(id:G→G):=rfl
    rw[e,List.map_id,gJ,hp,HZ hl];rfl
   ·cases h
  ·cases h
 ·exact one h
mutual
theorem PT {s:aj S}{vw:Bool}{H:List Nat}{lnC:Nat→Nat}(hln:∀i h,dq H h=some i→lnC (1000+i)=s.ln h):∀{sh:Sh}{v:TV S}{xs:List (bi S.α)},mb s vw H sh v=some xs→∀r,(gW sh (xs++r)).2=r∧bN H (dl s.er.st H vw) (v.er s.ln)=some ((gW sh (xs++r)).1.er lnC)
 | .ab true τ,v,xs,h,r=>by simp[mb] at h
 | .ab false τ,v,xs,h,r=>by
  simp only[mb] at h
  split at h
  ·rename_i a ha
   cases h
   exact⟨rfl,PU ha lnC⟩
  ·cases h
 | .ptr true τ,v,xs,h,r=>by simp[mb] at h
 | .ptr false τ,v,xs,h,r=>by
  simp only[mb] at h
  split at h
  ·rename_i f τ' a
   split at h
   ·rename_i b hb
    cases h
    have:=dU hb
    cases this
    refine⟨rfl,?_⟩
    cases f <;> rfl
   ·cases h
  ·cases h
 | .own k τ,v,xs,h,r=>by
  simp only[mb] at h
  split at h
  ·rename_i hh τ'
   split at h
   ·rename_i i hi
    split at h
    ·rename_i hb
     split at h
     ·rename_i e _
      cases h
      subst e
      have:=af hb
      subst this
      refine⟨rfl,?_⟩
      show bN H _ (.aK hh (S.sz τ') 0 (s.ln hh))=some (.aK (1000+i) (S.sz τ') 0 (lnC (1000+i)))
      simp only[bN,hi,hln i hh hi]
     ·cases h
    ·cases h
   ·cases h
  ·cases h
 | .loc k o,v,xs,h,r=>by
  simp only[mb] at h
  split at h
  ·rename_i hh o'
   split at h
   ·rename_i i hi
    split at h
    ·rename_i hb
     simp only[ag] at hb
     cases h
     have e1:=af hb.1
     have e2:=af hb.2
     subst e1;subst e2
     refine⟨rfl,?_⟩
     show bN H _ (.loc hh o')=some (.loc (1000+i) o')
     simp only[bN,hi]
    ·cases h
   ·cases h
  ·cases h
 | .aP f l,v,xs,h,r=>by
  simp only[mb] at h
  split at h
  ·rename_i f' vs
   split at h
   ·rename_i hb
    have e:=af hb
    subst e
    obtain⟨i1,i2⟩:=iw hln h r
    refine⟨i1,?_⟩
    show(bN.go H _ (TV.er.go s.ln vs)).map (G.aP f')=_
    rw[i2];rfl
   ·cases h
  ·cases h
 | .agg l,v,xs,h,r=>by
  simp only[mb] at h
  split at h
  ·rename_i vs
   obtain⟨i1,i2⟩:=iw hln h r
   refine⟨i1,?_⟩
   show(bN.go H _ (TV.er.go s.ln vs)).map G.agg=_
   rw[i2];rfl
  ·cases h
 | .cA k,v,xs,h,r=>by
  simp only[mb] at h
  split at h
  ·rename_i hh
   split at h
   ·rename_i i hi
    split at h
    ·rename_i hb
     cases h
     have:=af hb
     subst this
     refine⟨rfl,?_⟩
     show bN H _ (.cA hh)=some (.cA (1000+i))
     simp only[bN,hi]
    ·cases h
   ·cases h
  ·cases h
 | .mp k,v,xs,h,r=>by
  simp only[mb] at h
  split at h
  ·rename_i hh
   split at h
   ·rename_i i hi
    split at h
    ·rename_i hb
     cases h
     have:=af hb
     subst this
     refine⟨rfl,?_⟩
     show bN H _ (.eV hh)=some (.eV (1000+i))
     simp only[bN,hi]
    ·cases h
   ·cases h
  ·cases h
 | .any,v,xs,h,r=>by simp[mb] at h
 | .bT k o,v,xs,h,r=>by
  simp only[mb] at h
  split at h
  ·rename_i hh o'
   split at h
   ·rename_i i hi
    split at h
    ·rename_i hb
     rw[ag] at hb
     cases h
     have e1:=af hb.1
     have e2:=af hb.2
     subst e1;subst e2
     refine⟨rfl,?_⟩
     show bN H _ (.loc hh o')=some (.loc (1000+i) o')
     simp only[bN,hi]
    ·cases h
   ·cases h
  ·cases h
   exact⟨rfl,rfl⟩
  ·rename_i b hh o'
   split at h
   ·rename_i i hi
    split at h
    ·rename_i hb
     rw[ag] at hb
     cases h
     have e1:=af hb.1
     have e2:=af hb.2
     subst e1;subst e2
     refine⟨rfl,?_⟩
     cases b with
     | true=>rfl
     | false=>
      show bN H _ (.loc hh o')=some (.loc (1000+i) o')
      simp only[bN,hi]
    ·cases h
   ·cases h
  ·cases h
 | .nr,v,xs,h,r=>by
  simp only[mb] at h
  split at h
  ·cases h
   exact⟨rfl,rfl⟩
  ·cases h
 | .ks k τ,v,xs,h,r=>by
  simp only[mb] at h
  split at h
  ·rename_i hh τ' o n
   split at h
   ·rename_i i hi
    split at h
    ·rename_i hb
     split at h
     ·rename_i e _
      cases h
      subst e
      have:=af hb
      subst this
      refine⟨rfl,?_⟩
      show bN H _ (.ks hh o (S.sz τ') n)=some (.ks (1000+i) o (S.sz τ') n)
      simp only[bN,hi]
     ·cases h
    ·cases h
   ·cases h
  ·cases h
 | .sub k τ,v,xs,h,r=>by
  simp only[mb] at h
  split at h
  ·rename_i hh τ' o n
   split at h
   ·rename_i i hi
    split at h
    ·rename_i hb
     split at h
     ·rename_i e _
      cases h
      subst e
      have:=af hb
      subst this
      refine⟨rfl,?_⟩
      show bN H _ (.aK hh (S.sz τ') (o*S.sz τ') n)=some (.aK (1000+i) (S.sz τ') (o*S.sz τ') n)
      simp only[bN,hi]
     ·cases h
    ·cases h
   ·cases h
  ·cases h
theorem iw {s:aj S}{vw:Bool}{H:List Nat}{lnC:Nat→Nat}(hln:∀i h,dq H h=some i→lnC (1000+i)=s.ln h):∀{l:List Sh}{vs:List (TV S)}{xs:List (bi S.α)},lk s vw H l vs=some xs→∀r,(cw l (xs++r)).2=r∧bN.go H (dl s.er.st H vw) (TV.er.go s.ln vs)=some (TV.er.go lnC (cw l (xs++r)).1)
 | [],[],xs,h,r=>by simp only[lk] at h;cases h;exact⟨rfl,rfl⟩
 | x::l,v::vs,xs,h,r=>by
  simp only[lk] at h
  split at h
  ·rename_i a ha
   split at h
   ·rename_i l' hl
    cases h
    rw[aA]
    obtain⟨i1,i2⟩:=PT hln ha (l'++r)
    obtain⟨j1,j2⟩:=iw hln hl r
    simp only[cw]
    rw[i1]
    refine⟨j1,?_⟩
    simp only[TV.er.go,bN.go,i2,j2]
   ·cases h
  ·cases h
 | [],_::_,_,h,_=>by simp[lk] at h
 | _::_,[],_,h,_=>by simp[lk] at h
end
def HY (s:aj S) (vw:Bool) (H:List Nat) (oh:Oh) (o:TO S):Option (List (bi S.α)):=
 match oh with
 | .arr e m f τ=>match o with
  | .arr e' _ _ τ' l=>match Nat.beq e' e&&(!m&&!f) with
   | true=>match iW (.list τ') (.list τ) l with
    | some l=>some [⟨.list τ,l⟩]
    | none=>none
   | false=>none
  | _=>none
 | .box e m cs=>match o with
  | .box e' _ vs=>match Nat.beq e' e&&!m with
   | true=>lk s vw H cs vs
   | false=>none
  | _=>none
 | .deep e m f dk τ=>match o with
  | .deep e' _ _ dk' τ' a=>match Nat.beq e' e&&(!m&&!f) with
   | true=>match decEq dk' dk with
    | isTrue _=>match iW τ' τ a with
     | some a=>some [⟨τ,a⟩]
     | none=>none
    | isFalse _=>none
   | false=>none
  | _=>none
 | .lp key lv cs=>match o with
  | .lp key' n vs=>match Nat.beq key' key with
   | true=>match lv with
    | true=>match lk s vw H cs vs with
     | some xs=>some (⟨.int .i64,n⟩::xs)
     | none=>none
    | false=>match decEq n 0 with
     | isTrue _=>lk s vw H cs vs
     | isFalse _=>none
   | false=>none
  | _=>none
def pH (s:aj S) (vw:Bool) (H:List Nat):List Nat→List Oh→Option (List (bi S.α))
 | [],[]=>some []
 | h::hs,oh::r=>match aF s.bj h with
  | some o=>match HY s vw H oh o with
   | some a=>match pH s vw H hs r with
    | some l=>some (a++l)
    | none=>none
   | none=>none
  | none=>none
 | _,_=>none
theorem Jl {s:aj S}{vw:Bool}{H:List Nat}{oh:Oh}{o:TO S}{xs:List (bi S.α)}(h:HY s vw H oh o=some xs) (r:List (bi S.α)):(mC oh (xs++r)).2=r∧(mC oh (xs++r)).1.len=o.len∧
  ∀lnC:Nat→Nat,(∀i h,dq H h=some i→lnC (1000+i)=s.ln h)→qZ H (dl s.er.st H vw) (o.er s.ln)=some ((mC oh (xs++r)).1.er lnC):=by
 unfold HY at h
 split at h
 ·split at h
  ·split at h
   ·rename_i hc
    simp only[ag,a7] at hc
    obtain⟨c1,c2,c3⟩:=hc
    split at h
    ·rename_i l' hl
     cases h
     obtain⟨e,hl⟩:=rz hl
     subst e
     cases hl
     have c1:=af c1
     subst c1;subst c2;subst c3
     exact⟨rfl,rfl,fun _ _=>rfl⟩
    ·cases h
   ·cases h
  ·cases h
 ·split at h
  ·split at h
   ·rename_i hc
    simp only[ag,a7] at hc
    have c1:=af hc.1
    have c2:=hc.2
    subst c1;subst c2
    have i1:(cw _ (xs++r)).2=r:=(iw (lnC:=fun k=>s.ln ((H[k-1000]?).getD 0)) (fun i h hi=>by simp[ee hi]) h r).1
    refine⟨i1,rfl,fun lnC hln=>?_⟩
    obtain⟨_,i2⟩:=iw hln h r
    simp only[qZ,TO.er,cond_false,i2,mC]
   ·cases h
  ·cases h
 ·split at h
  ·split at h
   ·rename_i hc
    simp only[ag,a7] at hc
    obtain⟨c1,c2,c3⟩:=hc
    split at h
    ·rename_i e _
     subst e
     split at h
     ·rename_i l' hl
      cases h
      have:=dU hl
      cases this
      have c1:=af c1
      subst c1;subst c2;subst c3
      exact⟨rfl,rfl,fun _ _=>rfl⟩
     ·cases h
    ·cases h
   ·cases h
  ·cases h
 ·split at h
  ·split at h
   ·rename_i hc
    have c1:=af hc
    subst c1
    split at h
    ·split at h
     ·rename_i xs' hx
      cases h
      have i1:(cw _ (xs'++r)).2=r:=(iw (lnC:=fun k=>s.ln ((H[k-1000]?).getD 0)) (fun i h hi=>by simp[ee hi]) hx r).1
      refine⟨i1,rfl,fun lnC hln=>?_⟩
      obtain⟨_,i2⟩:=iw hln hx r
      simp only[qZ,TO.er,cond_false,i2,mC]
      rfl
     ·cases h
    ·split at h
     ·rename_i hn _
      subst hn
      have i1:(cw _ (xs++r)).2=r:=(iw (lnC:=fun k=>s.ln ((H[k-1000]?).getD 0)) (fun i h hi=>by simp[ee hi]) h r).1
      refine⟨i1,rfl,fun lnC hln=>?_⟩
      obtain⟨_,i2⟩:=iw hln h r
      simp only[qZ,TO.er,cond_false,i2,mC]
     ·cases h
   ·cases h
  ·cases h
theorem zx {s:aj S}{vw:Bool}{H:List Nat}:∀{hs:List Nat}{l:List Oh}{xs:List (bi S.α)}(i:Nat),pH s vw H hs l=some xs→∀r,(bK (na l (1000+i)) (xs++r)).2=r∧
  (∀n h,hs[n]?=some h→bI (bK (na l (1000+i)) (xs++r)).1 (1000+(i+n))=s.ln h)∧
  ∀lnC:Nat→Nat,(∀i h,dq H h=some i→lnC (1000+i)=s.ln h)→ei H (dl s.er.st H vw) s.er.st hs i=some (bG lnC (bK (na l (1000+i)) (xs++r)).1)
 | [],[],xs,i,h,r=>by simp only[pH] at h;cases h;exact⟨rfl,fun n h hn=>by simp at hn,fun _ _=>rfl⟩
 | h0::hs,oh::l,xs,i,h,r=>by
  simp only[pH] at h
  split at h
  ·rename_i o ho
   split at h
   ·rename_i a ha
    split at h
    ·rename_i l' hl
     cases h
     rw[aA]
     obtain⟨i1,i2,i3⟩:=Jl ha (l'++r)
     obtain⟨j1,j2,j3⟩:=zx (i+1) hl r
     simp only[na,bK]
     rw[i1]
     refine⟨j1,fun n h hn=>?_,fun lnC hln=>?_⟩
     ·cases n with
      | zero=>
       cases hn
       unfold bI aj.ln bI
       simp only[dJ,aF,aQ,cond_true,ho,i2]
      | succ n=>
       have:=j2 n h (by simpa using hn)
       rw[←this]
       have e:1000+(i+(n+1))=1000+(i+1+n):=by omega
       rw[e]
       unfold bI
       rw[kB _ _ (by omega)]
       rfl
     ·simp only[ei,dX ho,i3 lnC hln,bG]
      have:=j3 lnC hln
      rw[show 1000+(i+1)=1000+i+1 by omega] at this
      rw[this]
    ·cases h
   ·cases h
  ·cases h
 | [],_::_,_,_,h,_=>by simp[pH] at h
 | _::_,[],_,_,h,_=>by simp[pH] at h
def TV.lX (vw:Bool) (f:Nat→Option Nat):TV S→Option (TV S)
 | .ab b τ a=>match !vw||(b||τ.iS) with
  | true=>some (.ab b τ a)
  | false=>none
 | .ptr b τ a=>match !vw||b with
  | true=>some (.ptr b τ a)
  | false=>none
 | .loc h o=>match f h with
  | some h'=>some (.loc h' o)
  | none=>none
 | .aK h τ=>match f h with
  | some h'=>some (.aK h' τ)
  | none=>none
 | .sub h τ o n=>match f h with
  | some h'=>some (.sub h' τ o n)
  | none=>none
 | .gY h τ a j=>match f h with
  | some h'=>some (.gY h' τ a j)
  | none=>none
 | .agg l=>match go f l with
  | some l'=>some (.agg l')
  | none=>none
 | .aU l=>match go f l with
  | some l'=>some (.aU l')
  | none=>none
 | .aP g l=>match go f l with
  | some l'=>some (.aP g l')
  | none=>none
 | .val u=>some (.val u)
 | .any=>some .any
 | .cA h=>match f h with
  | some h'=>some (.cA h')
  | none=>none
 | .mp h=>match f h with
  | some h'=>some (.mp h')
  | none=>none
 | .ks h τ i n=>match f h with
  | some h'=>some (.ks h' τ i n)
  | none=>none
 | .kp h τ i j=>match f h with
  | some h'=>some (.kp h' τ i j)
  | none=>none
 | .fX b h τ i j=>match f h with
  | some h'=>some (.fX b h' τ i j)
  | none=>none
 | .bT b h o=>match f h with
  | some h'=>some (.bT b h' o)
  | none=>none
where go (f:Nat→Option Nat):List (TV S)→Option (List (TV S))
 | []=>some []
 | x::r=>match x.lX vw f with
  | some y=>match go f r with
   | some ys=>some (y::ys)
   | none=>none
  | none=>none
theorem Hs (vw:Bool) (fm:Nat→Option Nat) (f:Bool){τ:Ty}(h:τ.fU=false) (hv:(!vw||(f||τ.iS))=true) (a:S.D τ):dv vw fm (dc f (du S τ a))=some (dc f (du S τ a)):=by
 cases τ with
 | st n=>cases h
 | list t=>
  cases f with
  | true=>rfl
  | false=>
   cases vw with
   | true=>cases hv
   | false=>rfl
 | _=>cases f <;> rfl
mutual
theorem Hr {vw:Bool}{f:Nat→Option Nat}{ln ln':Nat→Nat}(hln:∀k k',f k=some k'→ln' k'=ln k):∀(v v':TV S),v.lX vw f=some v'→dv vw f (v.er ln)=some (v'.er ln')
 | .ab b τ a,v',h=>by
  simp only[TV.lX] at h
  split at h
  ·rename_i hv
   cases h
   cases τ with
   | st n=>
    show(dv.go vw f ((aW S (.st n) a).map (dc b))).map G.agg=some (.agg ((aW S (.st n) a).map (dc b)))
    have hv:(!vw||b)=true:=by simpa[Ty.iS] using hv
    have:dv.go vw f ((aW S (.st n) a).map (dc b))=some ((aW S (.st n) a).map (dc b)):=by
     rw[gJ]
     have h:=la n a
     generalize S.cells n a=l at h
     induction l with
     | nil=>rfl
     | cons x r ih=>
      simp only[aB,dv.go]
      rw[Hs vw f b (h x au) (by rw[←pt,hv];rfl) x.a,ih fun y hy=>h y (ap _ hy)]
    rw[this];rfl
   | _=>exact Hs vw f b rfl hv a
  ·cases h
 | .ptr b τ a,v',h=>by
  simp only[TV.lX] at h
  split at h
  ·rename_i hv
   cases h
   cases b with
   | true=>rfl
   | false=>
    cases vw with
    | true=>cases hv
    | false=>rfl
  ·cases h
 | .loc hh o,v',h=>by
  simp only[TV.lX] at h
  split at h
  ·rename_i i hi
   cases h
   simp only[TV.er,dv,hi,b9]
  ·cases h
 | .aK hh τ,v',h=>by
  simp only[TV.lX] at h
  split at h
  ·rename_i i hi
   cases h
   simp only[TV.er,dv,hi,b9,hln hh i hi]
  ·cases h
 | .sub hh τ o n,v',h=>by
  simp only[TV.lX] at h
  split at h
  ·rename_i i hi
   cases h
   simp only[TV.er,dv,hi,b9]
  ·cases h
 | .gY hh τ a j,v',h=>by
  simp only[TV.lX] at h
  split at h
  ·rename_i i hi
   cases h
   simp only[TV.er,dv,hi,b9]
  ·cases h
 | .agg l,v',h=>by
  simp only[TV.lX] at h
  split at h
  ·rename_i l' hl
   cases h
   simp only[TV.er,dv,ui hln l l' hl,b9]
  ·cases h
 | .aU l,v',h=>by
  simp only[TV.lX] at h
  split at h
  ·rename_i l' hl
   cases h
   simp only[TV.er,dv,ui hln l l' hl,b9]
  ·cases h
 | .aP g l,v',h=>by
  simp only[TV.lX] at h
  split at h
  ·rename_i l' hl
   cases h
   simp only[TV.er,dv,ui hln l l' hl,b9]
  ·cases h
 | .val u,v',h=>by simp only[TV.lX] at h;cases h;rfl
 | .any,v',h=>by simp only[TV.lX] at h;cases h;rfl
 | .cA hh,v',h=>by
  simp only[TV.lX] at h
  split at h
  ·rename_i i hi
   cases h
   simp only[TV.er,dv,hi,b9]
  ·cases h
 | .mp hh,v',h=>by
  simp only[TV.lX] at h
  split at h
  ·rename_i i hi
   cases h
   simp only[TV.er,dv,hi,b9]
  ·cases h
 | .ks hh _ _ _,v',h=>by
  simp only[TV.lX] at h
  split at h
  ·rename_i i hi
   cases h
   simp only[TV.er,dv,hi,b9]
  ·cases h
 | .kp hh _ _ _,v',h=>by
  simp only[TV.lX] at h
  split at h
  ·rename_i i hi
   cases h
   simp only[TV.er,dv,hi,b9]
  ·cases h
 | .fX b hh _ _ _,v',h=>by
  simp only[TV.lX] at h
  split at h
  ·rename_i i hi
   cases h
   cases b with
   | true=>rfl
   | false=>simp only[TV.er,cond_false,dv,hi,b9]
  ·cases h
 | .bT b hh _,v',h=>by
  simp only[TV.lX] at h
  split at h
  ·rename_i i hi
   cases h
   cases b with
   | true=>rfl
   | false=>simp only[TV.er,cond_false,dv,hi,b9]
  ·cases h
theorem ui {vw:Bool}{f:Nat→Option Nat}{ln ln':Nat→Nat}(hln:∀k k',f k=some k'→ln' k'=ln k):∀(l l':List (TV S)),TV.lX.go vw f l=some l'→dv.go vw f (TV.er.go ln l)=some (TV.er.go ln' l')
 | [],l',h=>by cases h;rfl
 | x::r,l',h=>by
  simp only[TV.lX.go] at h
  split at h
  ·rename_i y hy
   split at h
   ·rename_i ys hys
    cases h
    simp only[TV.er.go,dv.go,Hr hln x y hy,ui hln r ys hys]
   ·cases h
  ·cases h
end
end
end Go.DN
/-
 DN,part X:what comes back of a call to which objects were lent.
-/
namespace Go.DN
open Go.AM
section
variable {S:dx}
def oq (vw:Bool) (f:Nat→Option Nat) (A:Bool) (gst:List (Nat×ao)):List (Nat×TO S)→List Nat→Option (List (Nat×TO S))
 | [],[]=>some []
 | (j,o)::r,h::hs=>match o with
  | .box e m cs=>match TV.lX.go vw f cs with
   | some cs'=>match oq vw f A gst r hs with
    | some r'=>some ((h,.box e (bif pinned j then zv gst h else m||A) cs')::r')
    | none=>none
   | none=>none
  | .arr e m b τ l=>match !vw||b with
   | true=>match oq vw f A gst r hs with
    | some r'=>some ((h,.arr e (bif pinned j then zv gst h else m||A) b τ l)::r')
    | none=>none
   | false=>none
  | .lp key n cs=>match TV.lX.go vw f cs with
   | some cs'=>match oq vw f A gst r hs with
    | some r'=>some ((h,.lp key n cs')::r')
    | none=>none
   | none=>none
  | .deep e m b dk τ l=>match !vw||b with
   | true=>match oq vw f A gst r hs with
    | some r'=>some ((h,.deep e (bif pinned j then zv gst h else m||A) b dk τ l)::r')
    | none=>none
   | false=>none
 | _,_=>none
theorem sI {vw:Bool}{f:Nat→Option Nat}{ln ln':Nat→Nat}(hln:∀k k',f k=some k'→ln' k'=ln k){A:Bool}{gst:List (Nat×ao)}:∀{outs:List (Nat×TO S)}{bk:List Nat}{sb:List (Nat×TO S)},oq vw f A gst outs bk=some sb→lr vw f A gst (bG ln outs) bk=some (bG ln' sb)
 | [],[],sb,h=>by cases h;rfl
 | (j,o)::r,h0::hs,sb,h=>by
  simp only[oq] at h
  cases o with
  | lp p n cs=>
   dsimp only at h
   split at h
   ·rename_i cs' hcs
    split at h
    ·rename_i r' hr
     cases h
     simp only[bG,lr,sI hln hr,TO.er]
     simp only[uE,cond_false,ui hln cs cs' hcs,oF,re,cond_true]
    ·cases h
   ·cases h
  | arr e m b τ l=>
   dsimp only at h
   split at h
   ·rename_i hv
    split at h
    ·rename_i r' hr
     cases h
     simp only[bG,lr,sI hln hr,TO.er]
     have hv:(vw&&!b)=false:=by cases vw <;> cases b <;> first | rfl | cases hv
     simp only[uE,cond_true,hv,cond_false,oF,re]
     cases pinned j <;> rfl
    ·cases h
   ·cases h
  | deep e m b dk τ l=>
   dsimp only at h
   split at h
   ·rename_i hv
    split at h
    ·rename_i r' hr
     cases h
     simp only[bG,lr,sI hln hr,TO.er]
     have hv:(vw&&!b)=false:=by cases vw <;> cases b <;> first | rfl | cases hv
     simp only[uE,cond_true,hv,cond_false,oF,re]
     cases pinned j <;> rfl
    ·cases h
   ·cases h
  | box e m cs=>
   dsimp only at h
   split at h
   ·rename_i cs' hcs
    split at h
    ·rename_i r' hr
     cases h
     simp only[bG,lr,sI hln hr,TO.er]
     simp only[uE,cond_false,ui hln cs cs' hcs,oF,re,cond_true]
     cases pinned j <;> rfl
    ·cases h
   ·cases h
 | [],_::_,_,h=>by cases h
 | _::_,[],_,h=>by cases h
theorem zX {vw:Bool}{f:Nat→Option Nat}{A:Bool}{gst:List (Nat×ao)}{ln:Nat→Nat}:∀{outs:List (Nat×TO S)}{bk:List Nat}{sb:List (Nat×TO S)},oq vw f A gst outs bk=some sb→mZ bk=true→
  ∀k k',iJ (bG ln outs) bk k=some k'→k'∈bk∧∃o o',aF outs k=some o∧aF sb k'=some o'∧o'.len=o.len
 | [],[],sb,h,_,k,k',hk=>by cases hk
 | (j,o)::r,h0::hs,sb,h,hn,k,k',hk=>by
  simp only[mZ,ag,a7] at hn
  have hsb:∃o' r',sb=(h0,o')::r'∧o'.len=o.len∧oq vw f A gst r hs=some r':=by
   simp only[oq] at h
   cases o with
   | lp p n cs=>
    dsimp only at h
    split at h
    ·split at h
     ·rename_i r' hr;cases h;exact⟨_,_,rfl,rfl,hr⟩
     ·cases h
    ·cases h
   | arr e m b τ l=>
    dsimp only at h
    split at h
    ·split at h
     ·rename_i r' hr;cases h;exact⟨_,_,rfl,rfl,hr⟩
     ·cases h
    ·cases h
   | deep e m b dk τ l=>
    dsimp only at h
    split at h
    ·split at h
     ·rename_i r' hr;cases h;exact⟨_,_,rfl,rfl,hr⟩
     ·cases h
    ·cases h
   | box e m cs=>
    dsimp only at h
    split at h
    ·split at h
     ·rename_i r' hr;cases h;exact⟨_,_,rfl,rfl,hr⟩
     ·cases h
    ·cases h
  obtain⟨o',r',rfl,hlen,hr⟩:=hsb
  simp only[bG,iJ] at hk
  cases hb:Nat.beq j k with
  | true=>
   rw[hb] at hk
   cases hk
   have:=af hb
   subst this
   exact⟨au,o,o',by simp only[aF,aQ,cond_true],by simp only[aF,aQ,cond_true],hlen⟩
  | false=>
   rw[hb] at hk
   obtain⟨i1,a,b,i2,i3,i4⟩:=zX (ln:=ln) hr hn.2 k k' hk
   refine⟨ap _ i1,a,b,by simp only[aF,hb,cond_false];exact i2,?_,i4⟩
   have hne:Nat.beq h0 k'=false:=by
    cases hq:Nat.beq h0 k' with
    | false=>rfl
    | true=>
     have:=af hq
     subst this
     have h2:=hn.1
     rw[fI.2 i1] at h2
     cases h2
   simp only[aF,hne,cond_false];exact i3
 | [],_::_,_,h,_,_,_,_=>by cases h
 | _::_,[],_,h,_,_,_,_=>by cases h
end
end Go.DN
/-
 DN,part Y:a call to which objects are lent:the caller's state behind it.
-/
namespace Go.DN
open Go.AM
section
variable {S:dx}
mutual
def UQ:Sh→TV S→List (Nat×Nat)
 | .own r _,v=>match v with
  | .aK h _=>[(r,h)]
  | _=>[]
 | .loc r _,v=>match v with
  | .loc h _=>[(r,h)]
  | _=>[]
 | .aP _ l,v=>match v with
  | .aP _ vs=>vB l vs
  | _=>[]
 | .agg l,v=>match v with
  | .agg vs=>vB l vs
  | _=>[]
 | .cA r,v=>match v with
  | .cA h=>[(r,h)]
  | _=>[]
 | .mp r,v=>match v with
  | .mp h=>[(r,h)]
  | _=>[]
 | .bT r _,v=>match v with
  | .loc h _=>[(r,h)]
  | .bT _ h _=>[(r,h)]
  | _=>[]
 | .ks r _,v=>match v with
  | .ks h _ _ _=>[(r,h)]
  | _=>[]
 | .sub r _,v=>match v with
  | .sub h _ _ _=>[(r,h)]
  | _=>[]
 | _,_=>[]
def vB:List Sh→List (TV S)→List (Nat×Nat)
 | x::r,v::vs=>UQ x v++vB r vs
 | _,_=>[]
end
def look:List (Nat×Nat)→Nat→Option Nat
 | [],_=>none
 | (k,h)::r,j=>bif Nat.beq k j then some h else look r j
def CB (st:List (Nat×TO S)):List Oh→Nat→List (Nat×Nat)→Option (List Nat)
 | [],_,_=>some []
 | oh::r,j,ps=>match look ps j with
  | some h=>match CB st r (j+1) (match oh with
    | .box _ _ cs=>match aF st h with
     | some (.box _ _ vs)=>ps++vB cs vs
     | _=>ps
    | .lp _ _ cs=>match aF st h with
     | some (.lp _ _ vs)=>ps++vB cs vs
     | _=>ps
    | _=>ps) with
   | some hs=>some (h::hs)
   | none=>none
  | none=>none
def TM (s:aj S) (used:List Nat):Nat→Nat→Nat
 | k,0=>k
 | k,n+1=>bif s.free k&&!(bz k used) then k else TM s used (k+1) n
def Vu (H:List Nat) (j:Nat) (used:List Nat) (h:Nat):Nat:=match Nat.ble 480 j with
 | true=>match H[j-480]? with
  | some h'=>bif Nat.blt h' 1000&&!(bz h' used) then h' else h
  | none=>h
 | false=>h
def RB (s:aj S) (H:List Nat) (d:Nat):List Nat→List Nat→Option (List Nat)
 | [],_=>some []
 | j::r,used=>match pinned j with
  | true=>match H[j-1000]? with
   | some h=>match RB s H d r (h::used) with
    | some hs=>some (h::hs)
    | none=>none
   | none=>none
  | false=>match Vu H j used (bif s.free d&&!(bz d used) then d else TM s used s.nx 8) with
   | h=>match RB s H d r (h::used) with
    | some hs=>some (h::hs)
    | none=>none
def wa (s:aj S) (H:List Nat):List Nat→List Nat→Bool
 | [],[]=>true
 | j::r,h::hs=>!(bz j r)&&(!(bz h hs)&&((bif pinned j then Rq H (j-1000) h else Nat.blt h 1000&&((dq H h).isSome||s.free h))&&wa s H r hs))
 | _,_=>false
theorem yb {ln:Nat→Nat}{j:Nat}:∀l:List (Nat×TO S),gE (bG ln l) j=bz j (aG l)
 | []=>rfl
 | (k,o)::r=>by
  simp only[bG,gE,aG,bz,yb r]
  cases Nat.beq k j <;> rfl
theorem yQ {h:Nat}{l:List Nat}:l.contains h=bz h l:=by
 cases hb:bz h l with
 | true=>exact fI.2 (bQ.1 hb)
 | false=>
  cases hc:l.contains h with
  | false=>rfl
  | true=>rw[bQ.2 (fI.1 hc)] at hb;cases hb
theorem Cd {s:aj S}{H:List Nat}{ln:Nat→Nat}:∀{O:List (Nat×TO S)}{bk:List Nat},wa s H (aG O) bk=true→oS s.er H (bG ln O) bk=true∧mZ bk=true
 | [],[],_=>⟨rfl,rfl⟩
 | (j,o)::r,h::hs,e=>by
  simp only[aG,wa,ag,a7] at e
  obtain⟨e1,e2,e3,e4⟩:=e
  obtain⟨i1,i2⟩:=Cd (ln:=ln) e4
  refine⟨?_,?_⟩
  ·simp only[bG,oS,yb,yQ,e1,e2,i1,eo,jQ,iL]
   cases hp:pinned j with
   | true=>rw[hp] at e3;exact e3
   | false=>
    rw[hp] at e3
    simp only[cond_false,ag,bD] at e3⊢
    exact⟨e3.1,e3.2.imp id jX⟩
  ·simp only[mZ,yQ,e2,i2,eo,jQ]
 | [],_::_,e=>by cases e
 | _::_,[],e=>by cases e
theorem FP {s:aj S}{H:List Nat}:∀{js bk:List Nat},wa s H js bk=true→∀k,k∈bk→k∈H∨s.free k=true
 | [],[],_,k,hk=>by cases hk
 | j::r,h::hs,e,k,hk=>by
  simp only[wa,ag] at e
  obtain⟨_,_,e3,e4⟩:=e
  rcases bf.1 hk with rfl | hk
  ·cases hp:pinned j with
   | true=>rw[hp] at e3;exact .inl (aL (NZ e3))
   | false=>
    rw[hp] at e3
    simp only[cond_false,ag,bD] at e3
    rcases e3.2 with h | h
    ·obtain⟨i,hi⟩:=Option.isSome_iff_exists.1 h
     exact .inl (aL (ee hi))
    ·exact .inr h
  ·exact FP e4 k hk
 | [],_::_,e,_,_=>by cases e
 | _::_,[],e,_,_=>by cases e
def eG (js:List Nat):List Nat→Nat→List Nat
 | [],_=>[]
 | h::r,i=>bif bz (1000+i) js then eG js r (i+1) else h::eG js r (i+1)
theorem B3 {ln:Nat→Nat}{O:List (Nat×TO S)}:∀(H:List Nat) (i:Nat),dP (bG ln O) H i=eG (aG O) H i
 | [],_=>rfl
 | h::r,i=>by simp only[dP,eG,yb,B3 r (i+1)]
def u6:List Nat→TV S→Bool
 | [],_=>false
 | h::r,v=>v.has h||u6 r v
theorem zY (ln:Nat→Nat) (v:TV S):∀ds:List Nat,pq ds (v.er ln)=u6 ds v
 | []=>rfl
 | h::r=>by simp only[pq,u6,wX,zY ln v r]
def ru (ds:List Nat):List (Nat×TV S)→List (Nat×TV S)
 | []=>[]
 | (t,v)::r=>(t,bif u6 ds v then .any else v)::ru ds r
def nK (ds:List Nat):List (TV S)→Bool
 | []=>true
 | v::r=>!(u6 ds v)&&nK ds r
def zQ (ds:List Nat):List (Nat×TV S)→Bool
 | []=>true
 | (_,v)::r=>!(u6 ds v)&&zQ ds r
def nJ (ds:List Nat):List (Nat×TO S)→Bool
 | []=>true
 | (_,.box _ _ cs)::r=>nK ds cs&&nJ ds r
 | (_,.arr ..)::r=>nJ ds r
 | (_,.deep ..)::r=>nJ ds r
 | (_,.lp _ _ cs)::r=>nK ds cs&&nJ ds r
def oO (ds:List Nat):List (Nat×TO S)→Bool
 | []=>true
 | (_,.box _ _ _)::r=>oO ds r
 | (_,.arr ..)::r=>oO ds r
 | (_,.deep ..)::r=>oO ds r
 | (_,.lp _ _ cs)::r=>nK ds cs&&oO ds r
def IR (ds:List Nat) (a b:List (Nat×TO S)):Bool:=oO ds a&&nJ ds b
def GA (ds:List Nat):List (TV S)→List (TV S)
 | []=>[]
 | v::r=>(bif u6 ds v then .any else v)::GA ds r
def uV (ds:List Nat):TO S→TO S
 | .box e m cs=>.box e m (GA ds cs)
 | o=>o
def oe (ds:List Nat):List (Nat×TO S)→List (Nat×TO S)
 | []=>[]
 | (h,o)::r=>(h,uV ds o)::oe ds r
def kX (H:List Nat):List (Nat×TO S)→List (Nat×TO S)
 | []=>[]
 | (h,o)::r=>match dq H h with
  | some _=>kX H r
  | none=>(h,o)::kX H r
def pG (s:aj S) (sb:List (Nat×TO S)){A:Type}:List Nat→Option A→Option A
 | [],k=>k
 | h::r,k=>match aF sb h with
  | none=>pG s sb r k
  | some o'=>match aF s.bj h with
   | some (.arr _ _ _ τ l)=>match o' with
    | .arr _ _ _ τ' l'=>bif Nat.beq (List.length l') (List.length l) then pG s sb r k else none
    | _=>none
   | some (.box _ _ _)=>match o' with
    | .box _ _ _=>pG s sb r k
    | _=>none
   | some (.lp _ _ _)=>match o' with
    | .lp _ _ _=>pG s sb r k
    | _=>none
   | some (.deep _ _ _ _ τ l)=>match o' with
    | .deep _ _ _ _ τ' l'=>bif Nat.beq (wg τ' l') (wg τ l) then pG s sb r k else none
    | _=>none
   | _=>none
theorem oI {s:aj S}{sb:List (Nat×TO S)}{A:Type}{k:Option A}{r:A}:∀{H:List Nat},pG s sb H k=some r→k=some r∧∀h,h∈H→∀o',aF sb h=some o'→o'.len=s.ln h
 | [],e=>⟨e,fun h hm=>by cases hm⟩
 | h0::hs,e=>by
  simp only[pG] at e
  split at e
  ·rename_i hn
   obtain⟨i1,i2⟩:=oI e
   refine⟨i1,fun h hm o' ho=>?_⟩
   rcases bf.1 hm with rfl | hm
   ·rw[hn] at ho;cases ho
   ·exact i2 h hm o' ho
  ·rename_i o1 ho1
   split at e
   ·rename_i a b c τ l hs1
    split at e
    ·rename_i τ' l'
     cases hb:Nat.beq (List.length l') (List.length l) with
     | false=>rw[hb] at e;cases e
     | true=>
      rw[hb] at e
      obtain⟨i1,i2⟩:=oI e
      refine⟨i1,fun h hm o' ho=>?_⟩
      rcases bf.1 hm with rfl | hm
      ·rw[ho1] at ho
       cases ho
       unfold aj.ln bI
       rw[hs1]
       exact af hb
      ·exact i2 h hm o' ho
    ·cases e
   ·rename_i a b c hs1
    split at e
    ·obtain⟨i1,i2⟩:=oI e
     refine⟨i1,fun h hm o' ho=>?_⟩
     rcases bf.1 hm with rfl | hm
     ·rw[ho1] at ho
      cases ho
      unfold aj.ln bI
      rw[hs1]
      rfl
     ·exact i2 h hm o' ho
    ·cases e
   ·rename_i a b c hs1
    split at e
    ·obtain⟨i1,i2⟩:=oI e
     refine⟨i1,fun h hm o' ho=>?_⟩
     rcases bf.1 hm with rfl | hm
     ·rw[ho1] at ho
      cases ho
      unfold aj.ln bI
      rw[hs1]
      rfl
     ·exact i2 h hm o' ho
    ·cases e
   ·rename_i a b c dk τ l hs1
    split at e
    ·rename_i τ' l'
     cases hb:Nat.beq (wg τ' l') (wg τ l) with
     | false=>rw[hb] at e;cases e
     | true=>
      rw[hb] at e
      obtain⟨i1,i2⟩:=oI e
      refine⟨i1,fun h hm o' ho=>?_⟩
      rcases bf.1 hm with rfl | hm
      ·rw[ho1] at ho
       cases ho
       unfold aj.ln bI
       rw[hs1]
       exact af hb
      ·exact i2 h hm o' ho
    ·cases e
   ·cases e
theorem ug {vw A:Bool}{f:Nat→Option Nat}{gst:List (Nat×ao)}:∀{outs:List (Nat×TO S)}{bk:List Nat}{sb:List (Nat×TO S)},oq vw f A gst outs bk=some sb→aG sb=bk
 | [],[],sb,h=>by cases h;rfl
 | (j,o)::r,h0::hs,sb,h=>by
  simp only[oq] at h
  cases o with
  | lp p n cs=>
   dsimp only at h
   split at h
   ·split at h
    ·rename_i r' hr;cases h;simp only[aG,ug hr]
    ·cases h
   ·cases h
  | arr e m b τ l=>
   dsimp only at h
   split at h
   ·split at h
    ·rename_i r' hr;cases h;simp only[aG,ug hr]
    ·cases h
   ·cases h
  | deep e m b dk τ l=>
   dsimp only at h
   split at h
   ·split at h
    ·rename_i r' hr;cases h;simp only[aG,ug hr]
    ·cases h
   ·cases h
  | box e m cs=>
   dsimp only at h
   split at h
   ·split at h
    ·rename_i r' hr;cases h;simp only[aG,ug hr]
    ·cases h
   ·cases h
 | [],_::_,_,h=>by cases h
 | _::_,[],_,h=>by cases h
theorem Bx {H:List Nat}{h:Nat}(hi:dq H h=none):∀{st:List (Nat×TO S)},aF (kX H st) h=aF st h
 | []=>rfl
 | (x,o)::r=>by
  simp only[kX]
  cases hx:dq H x with
  | some i=>
   simp only[]
   rw[Bx hi]
   refine(kB o r fun e=>?_).symm
   subst e;rw[hi] at hx;cases hx
  | none=>
   simp only[aF]
   rw[Bx hi]
theorem Ek {H:List Nat}{ln:Nat→Nat}:∀st:List (Nat×TO S),fo H (bG ln st)=bG ln (kX H st)
 | []=>rfl
 | (x,o)::r=>by
  simp only[bG,fo,kX]
  cases dq H x with
  | some i=>exact Ek r
  | none=>simp only[bG,Ek r]
theorem xL {H:List Nat}:∀(a b:List (Nat×TO S)),kX H (a++b)=kX H a++kX H b
 | [],_=>rfl
 | (x,o)::r,b=>by
  simp only[bd,kX]
  cases dq H x with
  | some i=>exact xL r b
  | none=>simp only[bd,xL r b]
theorem Ej {H:List Nat}:∀{l:List (Nat×TO S)},apart (aG l) H=true→kX H l=l
 | [],_=>rfl
 | (x,o)::r,e=>by
  have h1:=apart_spec e
  simp only[kX]
  have:dq H x=none:=by
   cases hx:dq H x with
   | none=>rfl
   | some i=>exact absurd (aL (ee hx)) (h1 x (by simp[aG]))
  rw[this]
  simp only[]
  rw[Ej]
  simp only[aG,apart] at e
  split at e
  ·cases e
  ·exact e
def gn (s:aj S) (H ds:List Nat) (sb:List (Nat×TO S)) (n:Nat):aj S:={fr:=ru ds s.fr,lo:=s.lo,st:=sb++oe ds (kX H s.st),bM:=s.bM,df:=s.df,nx:=s.nx+n,last:=[]}
theorem CO {ds:List Nat}{k:Nat}:∀{l:List (Nat×TO S)},aF (oe ds l) k=(aF l k).map (uV ds)
 | []=>rfl
 | (h,o)::r=>by
  simp only[oe,aF]
  cases Nat.beq h k with
  | true=>rfl
  | false=>exact CO
theorem Mf {ds:List Nat}(o:TO S):(uV ds o).len=o.len:=by cases o <;> rfl
theorem UU {s:aj S}{H js bk ds:List Nat}{sb:List (Nat×TO S)}{n:Nat}(hb:wa s H js bk=true) (hk:aG sb=bk) (hH:apart H (aG s.bM)=true) (hl:∀h,h∈H→h∉ds→∀o',aF sb h=some o'→o'.len=s.ln h)
  (hd:∀h,h∈H→h∉ds→h∈bk) (k:Nat) (h1:k∉ds) (h2:s.free k=false∨k∈H):(gn s H ds sb n).ln k=s.ln k:=by
 unfold aj.ln
 have key:∀o,aF sb k=some o→bI (sb++oe ds (kX H s.st)++s.bM) k=o.len:=by
  intro o ho
  unfold bI
  rw[aA,dV,ho]
 show bI (sb++oe ds (kX H s.st)++s.bM) k=bI s.bj k
 by_cases hkH:k∈H
 ·have hkb:=hd k hkH h1
  rw[←hk] at hkb
  obtain⟨o,ho⟩:=oE hkb
  rw[key o ho]
  exact hl k hkH h1 o ho
 ·have hkb:k∉bk:=fun hm=>by
   rcases FP hb k hm with h | h
   ·exact hkH h
   ·rcases h2 with h2 | h2
    ·rw[h2] at h;cases h
    ·exact hkH h2
  have hi:dq H k=none:=by
   cases hx:dq H k with
   | none=>rfl
   | some i=>exact absurd (aL (ee hx)) hkH
  unfold bI
  rw[aA,dV,qW (by rw[hk];exact hkb),dV,CO,Bx hi]
  unfold aj.bj
  rw[dV]
  cases aF s.st k with
  | none=>rfl
  | some o=>exact Mf o
theorem yF {ds:List Nat}{v:TV S}(h:u6 ds v=false):∀k,v.has k=true→k∉ds:=by
 induction ds with
 | nil=>intro k _ hm;cases hm
 | cons x r ih=>
  simp only[u6,bc] at h
  intro k hk hm
  rcases bf.1 hm with rfl | hm
  ·rw[h.1] at hk;cases hk
  ·exact ih h.2 k hk hm
theorem IJ {ds:List Nat}{ln ln':Nat→Nat}:∀{fr:List (Nat×TV S)},(∀k,k∉ds→gV k fr=true→ln' k=ln k)→gX ln' (ru ds fr)=nI ds (gX ln fr)
 | [],_=>rfl
 | (t,v)::r,h=>by
  simp only[ru,gX,nI,sQ,zY]
  rw[IJ fun k h1 h2=>h k h1 (by simp[gV,h2])]
  cases ha:u6 ds v with
  | true=>rfl
  | false=>
   simp only[cond_false]
   rw[sA v fun k hk=>h k (yF ha k hk) (by simp[gV,hk])]
theorem zP {ds:List Nat}:∀{fr:List (Nat×TV S)},zQ ds fr=true→ru ds fr=fr
 | [],_=>rfl
 | (t,v)::r,h=>by
  simp only[zQ,ag,a7] at h
  simp only[ru,h.1,cond_false,zP h.2]
theorem FH {ds:List Nat}:∀(a b:List (Nat×TV S)),ru ds (a++b)=ru ds a++ru ds b
 | [],_=>rfl
 | (t,v)::r,b=>by simp only[bd,ru,FH r b]
theorem yt {ds:List Nat}{ln ln':Nat→Nat}:∀{l:List (TV S)},nK ds l=true→(∀k,k∉ds→TV.has.go k l=true→ln' k=ln k)→TV.er.go ln' l=(TV.er.go ln l).map (sQ ds)
 | [],_,_=>rfl
 | v::r,e,h=>by
  simp only[nK,ag,a7] at e
  simp only[TV.er.go,aB,sQ,zY,e.1,cond_false]
  rw[sA (ln':=ln) v fun k hk=>h k (yF e.1 k hk) (by simp[TV.has.go,hk]),yt e.2 fun k h1 h2=>h k h1 (by simp[TV.has.go,h2])]
theorem uW {ds:List Nat}{ln ln':Nat→Nat}:∀{st:List (Nat×TO S)},nJ ds st=true→(∀k,k∉ds→dr k st=true→ln' k=ln k)→bG ln' st=dH ds (bG ln st)
 | [],_,_=>rfl
 | (x,.arr e m f τ l)::r,hc,h=>by
  simp only[nJ] at hc
  simp only[bG,dH,TO.er,og,cond_true]
  rw[uW hc fun k h1 h2=>h k h1 (by simp[dr,h2])]
 | (x,.deep e m f dk τ l)::r,hc,h=>by
  simp only[nJ] at hc
  simp only[bG,dH,TO.er,og,cond_true]
  rw[uW hc fun k h1 h2=>h k h1 (by simp[dr,h2])]
 | (x,.box e m cs)::r,hc,h=>by
  simp only[nJ,ag] at hc
  simp only[bG,dH,TO.er,og,cond_false]
  rw[uW hc.2 fun k h1 h2=>h k h1 (by simp[dr,h2]),yt hc.1 fun k h1 h2=>h k h1 (by simp[dr,TO.has,h2])]
 | (x,.lp p n cs)::r,hc,h=>by
  simp only[nJ,ag] at hc
  simp only[bG,dH,TO.er,og,cond_false]
  rw[uW hc.2 fun k h1 h2=>h k h1 (by simp[dr,h2]),yt hc.1 fun k h1 h2=>h k h1 (by simp[dr,TO.has,h2])]
theorem FG {ds:List Nat}{ln ln':Nat→Nat}:∀{l:List (TV S)},(∀k,k∉ds→TV.has.go k l=true→ln' k=ln k)→TV.er.go ln' (GA ds l)=(TV.er.go ln l).map (sQ ds)
 | [],_=>rfl
 | v::r,h=>by
  simp only[GA,TV.er.go,aB,sQ,zY]
  rw[FG fun k h1 h2=>h k h1 (by simp[TV.has.go,h2])]
  cases ha:u6 ds v with
  | true=>rfl
  | false=>
   simp only[cond_false]
   rw[sA v fun k hk=>h k (yF ha k hk) (by simp[TV.has.go,hk])]
theorem uU {ds:List Nat}{ln ln':Nat→Nat}:∀{st:List (Nat×TO S)},oO ds st=true→(∀k,k∉ds→dr k st=true→ln' k=ln k)→bG ln' (oe ds st)=dH ds (bG ln st)
 | [],_,_=>rfl
 | (x,.arr e m f τ l)::r,hc,h=>by
  simp only[oO] at hc
  simp only[bG,oe,uV,dH,TO.er,og,cond_true]
  rw[uU hc fun k h1 h2=>h k h1 (by simp[dr,h2])]
 | (x,.deep e m f dk τ l)::r,hc,h=>by
  simp only[oO] at hc
  simp only[bG,oe,uV,dH,TO.er,og,cond_true]
  rw[uU hc fun k h1 h2=>h k h1 (by simp[dr,h2])]
 | (x,.box e m cs)::r,hc,h=>by
  simp only[oO] at hc
  simp only[bG,oe,uV,dH,TO.er,og,cond_false]
  rw[uU hc fun k h1 h2=>h k h1 (by simp[dr,h2]),FG fun k h1 h2=>h k h1 (by simp[dr,TO.has,h2])]
 | (x,.lp p n cs)::r,hc,h=>by
  simp only[oO,ag] at hc
  simp only[bG,oe,uV,dH,TO.er,og,cond_false]
  rw[uU hc.2 fun k h1 h2=>h k h1 (by simp[dr,h2]),yt hc.1 fun k h1 h2=>h k h1 (by simp[dr,TO.has,h2])]
theorem xu {H:List Nat}{k:Nat}:∀{st:List (Nat×TO S)},dr k (kX H st)=true→dr k st=true
 | [],h=>h
 | (x,o)::r,h=>by
  simp only[kX] at h
  simp only[dr,bD]
  split at h
  ·exact .inr (xu h)
  ·simp only[dr,bD] at h
   exact h.imp id xu
theorem yp (ln:Nat→Nat):∀(a b:List (Nat×TO S)),bG ln (a++b)=bG ln a++bG ln b
 | [],_=>rfl
 | (x,o)::r,b=>by simp only[bd,bG,yp ln r b]
theorem xv (k:Nat):∀(a b:List (Nat×TO S)),dr k (a++b)=(dr k a||dr k b)
 | [],b=>rfl
 | (_,o)::r,b=>by simp only[bd,dr,xv k r b,pt]
theorem DC {ds:List Nat}:∀(a b:List (Nat×ao)),dH ds (a++b)=dH ds a++dH ds b
 | [],_=>rfl
 | (h,k)::r,b=>by simp only[bd,dH,DC r b]
def named (s:aj S) (k:Nat):Bool:=gV k s.bV||(dr k s.bj||TV.has.go k s.df)
theorem Ll {s:aj S}{k:Nat}(h:named s k=true):s.free k=false:=by
 cases hf:s.free k with
 | false=>rfl
 | true=>
  obtain⟨_,h2,h3,h4,_⟩:=free_spec hf
  unfold named at h
  rw[h2,h3,h4] at h
  cases h
theorem FR {s:aj S}{H js bk ds:List Nat}{sb:List (Nat×TO S)}{n:Nat}(hb:wa s H js bk=true) (hk:aG sb=bk) (hH:apart H (aG s.bM)=true) (hl:∀h,h∈H→h∉ds→∀o',aF sb h=some o'→o'.len=s.ln h)
  (hd:∀h,h∈H→h∉ds→h∈bk) (c1:zQ ds s.lo=true) (c2:IR ds (kX H s.st) s.bM=true) (c3:nK ds s.df=true):
  (gn s H ds sb n).er=⟨nI ds s.er.fr,bG (gn s H ds sb n).ln sb++dH ds (fo H s.er.st),s.er.df⟩:=by
 have key:∀k,k∉ds→named s k=true→(gn s H ds sb n).ln k=s.ln k:=fun k h1 h2=>UU hb hk hH hl hd k h1 (.inl (Ll h2))
 have e1:gX (gn s H ds sb n).ln (gn s H ds sb n).bV=nI ds s.er.fr:=by
  show gX _ (ru ds s.fr++s.lo)=nI ds (gX s.ln (s.fr++s.lo))
  rw[←zP c1,←FH]
  rw[zP c1]
  exact IJ fun k h1 h2=>key k h1 (by unfold named aj.bV;rw[h2];rfl)
 have hap:apart (aG s.bM) H=true:=by
  have h:=apart_spec hH
  have:∀(l:List Nat),(∀x,x∈l→x∉H)→apart l H=true:=by
   intro l
   induction l with
   | nil=>intro _;rfl
   | cons x r ih=>
    intro hh
    simp only[apart]
    cases hm:bz x H with
    | true=>exact absurd (bQ.1 hm) (hh x au)
    | false=>exact ih fun y hy=>hh y (ap _ hy)
  exact this _ fun x hx hxH=>h x hxH hx
 have e2:bG (gn s H ds sb n).ln (gn s H ds sb n).bj=bG (gn s H ds sb n).ln sb++dH ds (fo H s.er.st):=by
  show bG _ ((sb++oe ds (kX H s.st))++s.bM)=_++dH ds (fo H (bG s.ln (s.st++s.bM)))
  rw[aA,yp,Ek,xL,Ej hap]
  congr 1
  rw[yp,yp,DC]
  have c2:oO ds (kX H s.st)=true∧nJ ds s.bM=true:=by simpa only[IR,ag] using c2
  have go:∀k,k∉ds→dr k (kX H s.st++s.bM)=true→(gn s H ds sb n).ln k=s.ln k:=fun k h1 h2=>key k h1 (by
   have:dr k s.bj=true:=by
    refine xu (H:=H) ?_
    unfold aj.bj
    rw[xL,Ej hap]
    exact h2
   unfold named
   rw[this];simp)
  rw[uU c2.1 fun k h1 h2=>go k h1 (by rw[xv,h2];rfl),uW c2.2 fun k h1 h2=>go k h1 (by rw[xv,h2,Bool.or_true])]
 have e3:TV.er.go (gn s H ds sb n).ln s.df=TV.er.go s.ln s.df:=by
  refine qu _ fun k hk=>?_
  have cV:∀(l:List (TV S)),nK ds l=true→TV.has.go k l=true→k∉ds:=by
   intro l
   induction l with
   | nil=>intro _ h;cases h
   | cons x r ih=>
    intro h1 h2
    simp only[nK,ag,a7] at h1
    simp only[TV.has.go,bD] at h2
    rcases h2 with h2 | h2
    ·exact yF h1.1 k h2
    ·exact ih h1.2 h2
  exact key k (cV _ c3 hk) (by unfold named;rw[hk];simp)
 show St.mk _ _ _=St.mk _ _ _
 rw[e1,e2]
 exact congrArg _ e3
end
end Go.DN
/-
 DN,part Z:calls by dM.
-/
namespace Go.DN
open Go.AM
section
variable {S:dx}
def CN (ok:Nat→Bool):List Nat→Bool
 | []=>true
 | h::r=>ok h&&CN ok r
theorem By {ok:Nat→Bool}{W:List Nat}(hW:∀h,ok h=true→W.contains h=true):∀{H:List Nat},CN ok H=true→sS H W=true
 | [],_=>rfl
 | h::r,e=>by
  simp only[CN,ag] at e
  have:=By hW e.2
  unfold sS at this⊢
  simp only[fC,this,hW h e.1,gu]
def ek (con:dC S) (r:aU S.α (JH.cn ⟨con.al,con.outs⟩)):List (Nat×TO S):=(bK con.outs (bR con.al (leaves _ r)).2).1
def U9 (s:aj S) (H:List Nat) (con:dC S) (r:aU S.α (JH.cn ⟨con.al,con.outs⟩)) (bk:List Nat):Option (List (Nat×TO S)):=
 oq con.vw (iJ (bG (bI (ek con r)) (ek con r)) bk) (kD s.er.st (bG (bI (ek con r)) (ek con r)) H 0) s.er.st (ek con r) bk
def Vz (con:dC S) (r:aU S.α (JH.cn ⟨con.al,con.outs⟩)) (bk:List Nat):Option (TV S):=
 (mo con.al (leaves _ r)).lX con.vw (iJ (bG (bI (ek con r)) (ek con r)) bk)
def wu (s:aj S) (H ds:List Nat) (js bk:List Nat):Bool:=
 wa s H js bk&&(within (minus H ds) bk&&(zQ ds s.lo&&(IR ds (kX H s.st) s.bM&&nK ds s.df)))
where minus (H ds:List Nat):List Nat:=match H with
 | []=>[]
 | h::r=>bif bz h ds then minus r ds else h::minus r ds
theorem qp {ds:List Nat}:∀{H:List Nat}{h:Nat},h∈H→h∉ds→h∈wu.minus H ds
 | x::r,h,hm,hd=>by
  simp only[wu.minus]
  cases hb:bz x ds with
  | true=>
   rw[cond_true]
   rcases bf.1 hm with rfl | hm
   ·exact absurd (bQ.1 hb) hd
   ·exact qp hm hd
  | false=>
   rw[cond_false]
   rcases bf.1 hm with rfl | hm
   ·exact au
   ·exact ap _ (qp hm hd)
def DJ (ok:Nat→Bool) (con:dC S) (s:aj S) (d:Nat) (vs:List (TV S)){A:Type}(k:aj S→Option A):Option A:=
 match CB s.bj con.aJ 1000 (vB con.args vs) with
 | some H=>match mZ H&&(CN ok H&&apart H (aG s.bM)) with
  | true=>match lk s con.vw H con.args vs with
   | some xs=>match pH s con.vw H H con.aJ with
    | some ys=>match n6 (ic con.args con.aJ) (xs++ys) with
     | some q=>(con.F q).bind fun r=>match RB s H d (aG con.outs) [] with
      | some bk=>match wu s H (eG (aG con.outs) H 0) (aG con.outs) bk with
       | true=>match U9 s H con r bk with
        | some sb=>match Vz con r bk with
         | some rv=>pG s sb (wu.minus H (eG (aG con.outs) H 0)) (k ((gn s H (eG (aG con.outs) H 0) sb con.outs.length).put d rv))
         | none=>none
        | none=>none
       | false=>none
      | none=>none
     | none=>none
    | none=>none
   | none=>none
  | false=>none
 | none=>none
theorem Da (con:dC S) (r:aU S.α (JH.cn ⟨con.al,con.outs⟩)):aG (ek con r)=aG con.outs:=jY _ _
theorem yx {ln:Nat→Nat}{ds:List Nat}:∀{l:List (TV S)},nK ds l=true→(TV.er.go ln l).all (fun g=>!(pq ds g))=true
 | [],_=>rfl
 | v::r,e=>by
  simp only[nK,ag,a7] at e
  simp only[TV.er.go,fC,zY,e.1,yx e.2,eo,gu]
theorem B7 {P:Program}{W:List Nat}{ok:Nat→Bool}(hW:∀h,ok h=true→W.contains h=true){con:dC S}(C:bE P con){s:aj S}{d:Nat}{vs:List (TV S)}{A:Type}{k:aj S→Option A}{r:A}(hl:aO s) (h:DJ ok con s d vs k=some r)
  {o:Oper}(heff:∀{gs':List G}{cP:List (Nat×ao)}{Q:G→List (Nat×ao)→Prop}{T:St→Prop}(H:List Nat) (vw:Bool),bN.go H (dl s.er.st H vw) (TV.er.go s.ln vs)=some gs'→ei H (dl s.er.st H vw) s.er.st H 0=some cP→mZ H=true→GM P con.f gs' cP Q→
   (∀r st',Q r st'→∃bk s2 r',jt vw s.er H st' bk=some s2∧dv vw (iJ st' bk) r=some r'∧T (s2.put d r'))→sS H W=true→bJ P W s.er o T):
  ∃T:St→Prop,bJ P W s.er o T∧∀s',T s'→∃t:aj S,Gh s' t.er∧aO t∧bA s t∧k t=some r:=by
 unfold DJ at h
 split at h
 ·rename_i H hH
  split at h
  ·rename_i hc
   simp only[ag] at hc
   obtain⟨c1,c2,c3⟩:=hc
   split at h
   ·rename_i xl hx
    split at h
    ·rename_i yl hy
     split at h
     ·rename_i q hq
      have hlq:=gf hq
      have hrest:(cw con.args (leaves _ q)).2=yl:=by
       rw[hlq]
       exact(iw (lnC:=fun k=>s.ln ((H[k-1000]?).getD 0)) (fun i h hi=>by simp[ee hi]) hx yl).1
      have hst:(cM con.args con.aJ (leaves _ q)).bj=(bK (na con.aJ 1000) yl).1:=by
       show(bK (na con.aJ 1000) (cw con.args (leaves _ q)).2).1++[]=_
       rw[bL,hrest]
      obtain⟨o1,o2,o3⟩:=zx 0 hy []
      rw[bL] at o1 o2 o3
      have hln:∀i h,dq H h=some i→(cM con.args con.aJ (leaves _ q)).ln (1000+i)=s.ln h:=by
       intro i h hi
       have:=o2 i h (ee hi)
       rw[cr] at this
       unfold aj.ln
       rw[hst]
       exact this
      have hargs:=(iw hln hx yl).2
      rw[←hlq] at hargs
      have hobjs:=o3 _ hln
      have hst2:(cM con.args con.aJ (leaves _ q)).er.st=bG (cM con.args con.aJ (leaves _ q)).ln (bK (na con.aJ 1000) yl).1:=by
       show bG _ _=_
       rw[hst]
      refine⟨fun s'=>∃t:aj S,Gh s' t.er∧aO t∧bA s t∧k t=some r,?_,fun s' h=>h⟩
      obtain⟨res,h1,h2⟩:=bind_some h
      refine heff (cP:=(cM con.args con.aJ (leaves _ q)).er.st) H con.vw hargs (by rw[hst2];exact hobjs) c1 (C.ok q res h1) ?_ (By hW c2)
      rintro g st' ⟨rfl,rfl⟩
      split at h2
      ·rename_i bk hbk
       split at h2
       ·rename_i hf
        simp only[wu,ag] at hf
        obtain⟨f1,f2,f3,f4,f5⟩:=hf
        split at h2
        ·rename_i sb hsb
         split at h2
         ·rename_i rv hrv
          obtain⟨k1,k2⟩:=oI h2
          have hkeys:aG sb=bk:=ug hsb
          have hd:∀h,h∈H→h∉eG (aG con.outs) H 0→h∈bk:=fun h h1 h2=>nS f2 h (qp h1 h2)
          have her:=FR (n:=con.outs.length) f1 hkeys c3 (fun h h1 h2=>k2 h (qp h1 h2)) hd f3 f4 f5
          have f1':=f1
          rw[←Da con res] at f1'
          obtain⟨b1,b2⟩:=Cd (ln:=bI (ek con res)) f1'
          have hlnB:∀a b,iJ (bG (bI (ek con res)) (ek con res)) bk a=some b→(gn s H (eG (aG con.outs) H 0) sb con.outs.length).ln b=bI (ek con res) a:=by
           intro a b hab
           obtain⟨_,o,o',g1,g2,g3⟩:=zX hsb b2 a b hab
           unfold aj.ln bI
           show(match aF ((sb++oe _ (kX H s.st))++s.bM) b with | some o=>o.len | none=>0)=_
           rw[aA,dV,g2,g1]
           exact g3
          have hds:dP (bG (bI (ek con res)) (ek con res)) H 0=eG (aG con.outs) H 0:=by rw[B3,Da]
          refine⟨bk,⟨nI (eG (aG con.outs) H 0) s.er.fr,bG (gn s H (eG (aG con.outs) H 0) sb con.outs.length).ln sb++dH (eG (aG con.outs) H 0) (fo H s.er.st),s.er.df⟩,rv.er (gn s H (eG (aG con.outs) H 0) sb con.outs.length).ln,?_,Hr hlnB _ _ hrv,_,?_,gQ (t:=(gn s H (eG (aG con.outs) H 0) sb con.outs.length).put d rv) rfl,⟨rfl,rfl,rfl⟩,k1⟩
          ·unfold jt
           have hb:lr con.vw (iJ (bG (bI (ek con res)) (ek con res)) bk) (kD s.er.st (bG (bI (ek con res)) (ek con res)) H 0) s.er.st (bG (bI (ek con res)) (ek con res)) bk=some (bG (gn s H (eG (aG con.outs) H 0) sb con.outs.length).ln sb):=sI hlnB hsb
           have hdf:s.er.df.all (fun g=>!(pq (dP (bG (bI (ek con res)) (ek con res)) H 0) g))=true:=by
            rw[hds];exact yx f5
           show(bif oS s.er H (bG (bI (ek con res)) (ek con res)) bk&&s.er.df.all (fun g=>!(pq (dP (bG (bI (ek con res)) (ek con res)) H 0) g)) then _ else none)=_
           rw[b1,hdf]
           show(match lr con.vw (iJ (bG (bI (ek con res)) (ek con res)) bk) (kD s.er.st (bG (bI (ek con res)) (ek con res)) H 0) s.er.st (bG (bI (ek con res)) (ek con res)) bk with
            | some sb=>some ({fr:=nI (dP (bG (bI (ek con res)) (ek con res)) H 0) s.er.fr,st:=sb++dH (dP (bG (bI (ek con res)) (ek con res)) H 0) (fo H s.er.st),df:=s.er.df}:St)
            | none=>none)=_
           rw[hb,hds]
          ·rw[iT,her]
           exact Gh.refl _
         ·cases h2
        ·cases h2
       ·cases h2
      ·cases h2
     ·cases h
    ·cases h
   ·cases h
  ·cases h
 ·cases h
theorem EF.NO {P:Program}{W:List Nat}{s:St}{d:Nat}{ty:TypeId}{pos:String}{after:Array Edge}{guard:Option (Nat×Bool)}{f:FuncId}{x:Operand}{xs:Array Operand}{ts:Array TypeId}{gs caps gs':List G}{cP:List (Nat×ao)}{Q:G→List (Nat×ao)→Prop}{T:St→Prop}(H:List Nat) (vw:Bool) (hb:ry f xs.toList=true) (hc:∀args w,(callFunc f args).run P w=.ok (.enter f args) w)
  (hf:ev s x=some (.aP f caps)) (hx:tc s xs.toList=some gs) (hv:bN.go H (dl s.st H vw) (gs++caps)=some gs') (hl:ei H (dl s.st H vw) s.st H 0=some cP) (cV:mZ H=true) (hcon:GM P f gs' cP Q)
  (hres:∀r st',Q r st'→∃bk s2 r',jt vw s H st' bk=some s2∧dv vw (iJ st' bk) r=some r'∧T (s2.put d r')) (hW:sS H W=true):
  bJ P W s ⟨some d,.call ⟨.value x,xs,ts⟩,ty,pos,after,guard⟩ T:=by
 refine⟨(fun _ h=>by cases h),?_⟩
 intro N cx μ a w hr hN K Q' hK
 obtain⟨h1,h2⟩:=lL hx
 have hcl:=hr.ev hf
 generalize hav:a.eval x=vf at hcl
 cases hcl with
 | aC h=>cases h
 | aP _ _ us hlu hrc=>
  have hcall:=qq (vs:=xs.toList.map a.eval++us) hr hv hl cV (by simp[h1,hlu]) (fun j g v hg hv=>by
   rw[ba] at hg hv
   rw[aN,←h1] at hv
   split at hg
   ·rename_i hj
    rw[if_pos hj] at hv
    obtain⟨x,hxj,he⟩:=h2 j g hg
    rw[ar,hxj] at hv
    cases hv
    exact hr.ev he
   ·rename_i hj
    rw[if_neg hj] at hv
    exact hrc _ g v hg hv) hcon
  unfold Oper.wp
  have:=sX (P:=P) (w:=w) (d:=d) (ty:=ty) (pos:=pos) (after:=after) (guard:=guard) (ts:=ts) hb hc hav
  rw[this]
  refine hcall.mono ?_
  rintro e w' (⟨v,r,st',μ',rfl,hq,hC,hrv⟩ | ⟨_,_,_,_,h,_⟩)
  ·obtain⟨bk,s2,r',hb,hren,hT⟩:=hres r st' hq
   obtain⟨q1,q2,q3,_⟩:=my hr hl (ik cV) hC hb
   exact hK _ _ _ w' (q1.put (hN d rfl) (q2 r r' v hrv hren)) hT (q3 W (rI hW))
  ·exact h.elim
def isSome {α:Type}:Option α→Bool
 | some _=>true
 | none=>false
def Bs (con:dC S) (s:aj S) (xs:List Operand) (vs:List (TV S)):Option (aj S×List (TV S)):=
 match rj con.al||TV.imp.go vs with
 | true=>some (s,vs)
 | false=>match ri (TV.Lg.go vs) s with
  | some s'=>match tC s' xs with
   | some vs'=>match TV.imp.go vs' with
    | true=>some (s',vs')
    | false=>none
   | none=>none
  | none=>none
def fits (s:aj S) (xs:List Operand) (vs:List (TV S)) (con:dC S):Bool:=
 match pA con with
 | true=>match Bs con s xs vs with
  | some (s',vs')=>isSome (lg s' con.args vs')
  | none=>false
 | false=>match CB s.bj con.aJ 1000 (vB con.args vs) with
  | some H=>isSome (lk s con.vw H con.args vs)&&isSome (pH s con.vw H H con.aJ)
  | none=>false
def AE (p:dC S→Bool) (f:FuncId):List (dC S)→Option (dC S)
 | []=>none
 | c::r=>match Nat.beq c.f f&&p c with
  | true=>some c
  | false=>AE p f r
theorem yk {p:dC S→Bool}{f:FuncId}:∀{l:List (dC S)}{c:dC S},AE p f l=some c→c∈l∧c.f=f
 | [],_,h=>by cases h
 | x::r,c,h=>by
  simp only[AE] at h
  split at h
  ·rename_i hb
   simp only[ag] at hb
   cases h
   exact⟨au,af hb.1⟩
  ·obtain⟨h1,h2⟩:=yk h
   exact⟨ap _ h1,h2⟩
def KV (s:aj S) (x:Operand) (xs:List Operand):Option (FuncId×List (TV S)):=match cG s x with
 | some (.aP f caps)=>match ry f xs with
  | true=>some (f,caps)
  | false=>none
 | _=>none
theorem Jy {s:aj S}{x:Operand}{xs:List Operand}{f:FuncId}{caps:List (TV S)}(h:KV s x xs=some (f,caps)):cG s x=some (.aP f caps)∧ry f xs=true:=by
 unfold KV at h
 split at h
 ·rename_i h1
  split at h
  ·rename_i h2
   cases h
   exact⟨h1,h2⟩
  ·cases h
 ·cases h
def Ml (tbl:List (dC S)) (ok:Nat→Bool) (A:Type) (s:aj S) (dst:Option Nat) (c:Call) (k:aj S→Option A):Option A:=
 match dst with
 | some d=>match c.callee with
  | .value (.func f)=>match tC s c.args.toList with
   | some vs=>match AE (fits s c.args.toList vs) f tbl with
    | some con=>match pA con with
     | true=>match Bs con s c.args.toList vs with
      | some (s',vs')=>Mk con s' d vs' k
      | none=>none
     | false=>DJ ok con s d vs k
    | none=>none
   | none=>none
  | .value x=>match KV s x c.args.toList with
   | some (f,caps)=>match tC s c.args.toList with
    | some vs=>match AE (fits s [] (vs++caps)) f tbl with
     | some con=>match pA con with
      | true=>yz con s d (vs++caps) k
      | false=>DJ ok con s d (vs++caps) k
     | none=>none
    | none=>none
   | _=>none
  | _=>none
 | none=>none
theorem QD {P:Program}{N:Nat}{tbl:List (dC S)}(ht:∀c∈tbl,bE P c):∀(ok:Nat→Bool) (W:List Nat),(∀h,ok h=true→W.contains h=true)→∀(A:Type) (r:A),GH P N W (Ml tbl ok A) r:=by
 intro ok W hW A r s dst c k hl _ h ty pos after guard
 obtain⟨cal,args,ts⟩:=c
 unfold Ml at h
 split at h
 ·rename_i d
  dsimp only at h
  split at h
  ·split at h
   ·rename_i vs hv
    split at h
    ·rename_i con hcon
     obtain⟨hm,hf⟩:=yk hcon
     subst hf
     have C:=ht con hm
     split at h
     ·split at h
      ·rename_i s' vs' hp
       unfold Bs at hp
       split at hp
       ·cases hp
        exact IT (N:=N) C hl h hv
       ·split at hp
        ·rename_i s2 hz
         obtain⟨z1,z2,z3⟩:=nn hl hz
         split at hp
         ·rename_i vs2 hv2
          split at hp
          ·cases hp
           exact fp.gh z1 z3 (IT (N:=N) C z2 h hv2)
          ·cases hp
         ·cases hp
        ·cases hp
      ·cases h
     ·exact B7 hW C hl h fun H vw h1 h2 h3 h4 h5 h6=>EF.UW H vw C.call (lK hv).2 h1 h2 h3 h4 h5 h6
    ·cases h
   ·cases h
  ·rename_i x _
   split at h
   ·rename_i f caps hx
    obtain⟨hx,hb⟩:=Jy hx
    split at h
    ·rename_i vs hv
     split at h
     ·rename_i con hcon
      obtain⟨hm,hf⟩:=yk hcon
      subst hf
      have C:=ht con hm
      split at h
      ·exact IS (N:=N) C hl h hx hb hv
      ·exact B7 hW C hl h fun H vw h1 h2 h3 h4 h5 h6=>EF.NO H vw hb C.call (bu hx) (lK hv).2 (by rw[←qt];exact h1) h2 h3 h4 h5 h6
     ·cases h
    ·cases h
   ·cases h
  ·cases h
 ·cases h
def Oz (tbl:List (dC S)) (ok:Nat→Bool){A:Type}(s:aj S) (d:Nat) (c:Call) (f:FuncId) (caps:List (TV S)) (k:aj S→Option A):Option A:=
 match tC s c.args.toList with
 | some vs=>match AE (fits s [] (vs++caps)) f tbl with
  | some con=>match ry f c.args.toList with
   | true=>match pA con with
    | true=>yz con s d (vs++caps) k
    | false=>DJ ok con s d (vs++caps) k
   | false=>none
  | none=>none
 | none=>none
def Gk {A:Type}:List FuncId→FuncId→(FuncId→Option A)→Option A
 | [],_,_=>none
 | g::r,f,k=>cond (Nat.beq f g) (k g) (Gk r f k)
theorem HB {A:Type}{f:FuncId}{k:FuncId→Option A}{r:A}:∀{l:List FuncId},Gk l f k=some r→k f=some r
 | [],h=>by cases h
 | g::l,h=>by
  simp only[Gk] at h
  cases hb:Nat.beq f g with
  | true=>
   rw[hb] at h
   have:=af hb
   subst this
   exact h
  | false=>rw[hb] at h;exact HB h
def TL:List (Nat×List FuncId)→Nat→Option (List FuncId)
 | [],_=>none
 | (k,h)::r,p=>bif Nat.beq k p then some h else TL r p
def DI (tbl:List (dC S)) (ns:List (Nat×List FuncId)) (ok:Nat→Bool) (A:Type) (s:aj S) (dst:Option Nat) (c:Call) (k:aj S→Option A):Option A:=
 match dst with
 | some d=>match TL ns d with
  | some fs=>match c.callee with
   | .value x=>match cG s x with
    | some (.aP f [])=>Gk fs f fun f=>Oz tbl ok s d c f [] k
    | _=>none
   | _=>none
  | none=>Ml tbl ok A s (some d) c k
 | none=>none
theorem Qz {P:Program}{N:Nat}{tbl:List (dC S)}{ns:List (Nat×List FuncId)}(ht:∀c∈tbl,bE P c):∀(ok:Nat→Bool) (W:List Nat),(∀h,ok h=true→W.contains h=true)→∀(A:Type) (r:A),GH P N W (DI tbl ns ok A) r:=by
 intro ok W hW A r s dst c k hl hy h ty pos after guard
 unfold DI at h
 split at h
 ·rename_i d
  split at h
  ·obtain⟨cal,args,ts⟩:=c
   dsimp only at h
   split at h
   ·rename_i x _
    split at h
    ·rename_i f hx
     have h2:=HB h
     clear h
     unfold Oz at h2
     split at h2
     ·rename_i vs hv
      split at h2
      ·rename_i con hcon
       obtain⟨hm,hf⟩:=yk hcon
       subst hf
       have C:=ht con hm
       split at h2
       ·rename_i hb
        split at h2
        ·exact IS (N:=N) C hl h2 hx hb hv
        ·exact B7 hW C hl h2 fun H vw h1 h2 h3 h4 h5 h6=>EF.NO H vw hb C.call (bu hx) (lK hv).2 (by rw[←qt];exact h1) h2 h3 h4 h5 h6
       ·cases h2
      ·cases h2
     ·cases h2
    ·cases h
   ·cases h
  ·exact QD (N:=N) ht ok W hW A r s (some d) c k hl hy h ty pos after guard
 ·cases h
def lm (tbl:List (dC S)) (ns:List (Nat×List FuncId)):Cl S where
 call:=fun ok A _ s dst c k=>match wU s c with
  | true=>none
  | false=>DI tbl ns ok A s dst c k
 rf:=fun _ _ _ _ _ _=>none
theorem ej {P:Program}{N:Nat}{tbl:List (dC S)}{ns:List (Nat×List FuncId)}(ht:∀c∈tbl,bE P c):rK P N (lm tbl ns) where
 call:=fun ok W hW A kp r s dst c k hl hy h=>by
  have h:(match wU s c with
   | true=>none
   | false=>DI tbl ns ok A s dst c k)=some r:=h
  rw[hy] at h
  exact(Qz (N:=N) ht ok W hW A r).p s dst c k hl hy h
 cA:=fun ok A kp r cx s dst c k hl hy h=>by
  have h:(match wU s c with
   | true=>none
   | false=>DI tbl ns ok A s dst c k)=some r:=h
  rw[hy] at h
  cases h
 rf:=fun cx _ key hd g _ s B K r hl h=>by cases h
theorem tv {N:Nat}{H:List (Nat×Hint)}{l:List (Nat×Array Tmp×Code×Code)}(h:isNil l=true):ou S N H l:=by
 cases l with
 | nil=>trivial
 | cons x r=>cases h
theorem bE.of {P:Program}{N fu:Nat}{H:List (Nat×Hint)}{tbl:List (dC S)}{con:dC S}{fn:Func}{c:Code}(hm:P.follows .mixedOrders=true) (ht:∀c∈tbl,bE P c)
  (hf:P.funcs[con.f]?=some fn) (hcall:∀args w,(callFunc con.f args).run P w=.ok (.enter con.f args) w) (hb:fn.body=some c) (hN:fn.ntmps=N)
  (hle:fJ N con.args con.al con.outs=true)
  {mvs:List Nat}{ns:List (Nat×List FuncId)}(h:∀q,EL P N fu H (lm tbl ns) c mvs fn.results.toList con.args con.aJ con.al con.outs q=con.F q) (hn:isNil (lE c 0)=true:=by kernel_rfl):bE P con:=
 bE.VZ hm (ej ht) hf hcall hb hN hle (tv hn) h
theorem bE.law {P:Program}{con:dC S}(C:bE P con){gs:List G}{q:aU S.α (ic con.args con.aJ)}{r:aU S.α (JH.cn ⟨con.al,con.outs⟩)}(hr:con.F q=some r) (hgs:TV.er.go (cM con.args con.aJ (leaves _ q)).ln (cw con.args (leaves _ q)).1=gs)
  (hst:(cM con.args con.aJ (leaves _ q)).er.st=[]) (hres:(mo con.al (leaves _ r)).er (bI (bK con.outs (bR con.al (leaves _ r)).2).1)=.val (.bool true)) (ho:bG (bI (bK con.outs (bR con.al (leaves _ r)).2).1) (bK con.outs (bR con.al (leaves _ r)).2).1=[]):
  GM P con.f gs [] (fun g st=>g=.val (.bool true)∧st=[]):=by
 have h:=C.ok q r hr
 rw[hgs,hst] at h
 exact h.mono fun g st hg=>⟨hg.1.trans hres,hg.2.trans ho⟩
end
end Go.DN
/-
 DN,part Zb:loops over functions:rounds by dM,calls of yield.
-/
namespace Go.DN
open Go.AM
section
variable {S:dx}
theorem Sn {s:aj S}{vw:Bool}{H:List Nat}{args:List Sh}{aJ:List Oh}{vs:List (TV S)}{xl yl:List (bi S.α)}{q:aU S.α (ic args aJ)}(hx:lk s vw H args vs=some xl) (hy:pH s vw H H aJ=some yl) (hq:n6 (ic args aJ) (xl++yl)=some q):
  bN.go H (dl s.er.st H vw) (TV.er.go s.ln vs)=some (TV.er.go (cM args aJ (leaves _ q)).ln (cw args (leaves _ q)).1)∧ei H (dl s.er.st H vw) s.er.st H 0=some (cM args aJ (leaves _ q)).er.st:=by
 have hlq:=gf hq
 have hrest:(cw args (leaves _ q)).2=yl:=by
  rw[hlq]
  exact(iw (lnC:=fun k=>s.ln ((H[k-1000]?).getD 0)) (fun i h hi=>by simp[ee hi]) hx yl).1
 have hst:(cM args aJ (leaves _ q)).bj=(bK (na aJ 1000) yl).1:=by
  show(bK (na aJ 1000) (cw args (leaves _ q)).2).1++[]=_
  rw[bL,hrest]
 obtain⟨o1,o2,o3⟩:=zx 0 hy []
 rw[bL] at o1 o2 o3
 have hln:∀i h,dq H h=some i→(cM args aJ (leaves _ q)).ln (1000+i)=s.ln h:=by
  intro i h hi
  have:=o2 i h (ee hi)
  rw[cr] at this
  unfold aj.ln
  rw[hst]
  exact this
 have hargs:=(iw hln hx yl).2
 rw[←hlq] at hargs
 have hobjs:=o3 _ hln
 have hst2:(cM args aJ (leaves _ q)).er.st=bG (cM args aJ (leaves _ q)).ln (bK (na aJ 1000) yl).1:=by
  show bG _ _=_
  rw[hst]
 exact⟨hargs,by rw[hst2];exact hobjs⟩
theorem PS {s:aj S}{vw:Bool}{H js bk:List Nat}{O sb:List (Nat×TO S)}{n:Nat}{A:Type}{k:Option A}{r:A}(hO:aG O=js) (c3:apart H (aG s.bM)=true) (hf:wu s H (eG js H 0) js bk=true)
  (hsb:oq vw (iJ (bG (bI O) O) bk) (kD s.er.st (bG (bI O) O) H 0) s.er.st O bk=some sb) (h:pG s sb (wu.minus H (eG js H 0)) k=some r):
  k=some r∧jt vw s.er H (bG (bI O) O) bk=some (gn s H (eG js H 0) sb n).er∧(∀a b,iJ (bG (bI O) O) bk a=some b→(gn s H (eG js H 0) sb n).ln b=bI O a):=by
 simp only[wu,ag] at hf
 obtain⟨f1,f2,f3,f4,f5⟩:=hf
 obtain⟨k1,k2⟩:=oI h
 have hkeys:aG sb=bk:=ug hsb
 have hd:∀h,h∈H→h∉eG js H 0→h∈bk:=fun h h1 h2=>nS f2 h (qp h1 h2)
 have her:=FR (n:=n) f1 hkeys c3 (fun h h1 h2=>k2 h (qp h1 h2)) hd f3 f4 f5
 have f1':=f1
 rw[←hO] at f1'
 obtain⟨b1,b2⟩:=Cd (ln:=bI O) f1'
 have hlnB:∀a b,iJ (bG (bI O) O) bk a=some b→(gn s H (eG js H 0) sb n).ln b=bI O a:=by
  intro a b hab
  obtain⟨_,o,o',g1,g2,g3⟩:=zX hsb b2 a b hab
  unfold aj.ln bI
  show(match aF ((sb++oe _ (kX H s.st))++s.bM) b with | some o=>o.len | none=>0)=_
  rw[aA,dV,g2,g1]
  exact g3
 have hds:dP (bG (bI O) O) H 0=eG js H 0:=by rw[B3,hO]
 refine⟨k1,?_,hlnB⟩
 unfold jt
 have hb:lr vw (iJ (bG (bI O) O) bk) (kD s.er.st (bG (bI O) O) H 0) s.er.st (bG (bI O) O) bk=some (bG (gn s H (eG js H 0) sb n).ln sb):=sI hlnB hsb
 have hdf:s.er.df.all (fun g=>!(pq (dP (bG (bI O) O) H 0) g))=true:=by
  rw[hds];exact yx f5
 show(bif oS s.er H (bG (bI O) O) bk&&s.er.df.all (fun g=>!(pq (dP (bG (bI O) O) H 0) g)) then _ else none)=_
 rw[b1,hdf]
 show(match lr vw (iJ (bG (bI O) O) bk) (kD s.er.st (bG (bI O) O) H 0) s.er.st (bG (bI O) O) bk with
  | some sb=>some ({fr:=nI (dP (bG (bI O) O) H 0) s.er.fr,st:=sb++dH (dP (bG (bI O) O) H 0) (fo H s.er.st),df:=s.er.df}:St)
  | none=>none)=_
 rw[hb,hds,her]
def uz (lv:Bool):List (Nat×Sh):=match lv with
 | true=>[(0,.ab true (.int .i64))]
 | false=>[]
def Lm (lv:Bool) (n:Int):List (bi S.α):=match lv with
 | true=>[⟨.int .i64,n⟩]
 | false=>[]
def TP (lv:Bool) (ls:List (bi S.α)):Int:=match lv with
 | true=>match ls with
  | ⟨.int _,n⟩::_=>n
  | _=>0
 | false=>0
structure My (S:dx) where
 key:Nat
 args:List Sh
 cells:List Sh
 aJ:List Oh
 outs:List (Nat×Oh)
 lv:Bool
 F:aU S.α (ic (args++cells) aJ)→Option (aU S.α (JH.cn ⟨uz lv,outs⟩))
def Am (Y:My S) (r:aU S.α (JH.cn ⟨uz Y.lv,Y.outs⟩)):List (Nat×TO S):=(bK Y.outs (bR (uz Y.lv) (leaves _ r)).2).1
def Q4 (Y:My S) (q:aU S.α (ic (Y.args++Y.cells) Y.aJ)):List (TV S):=(cw (Y.args++Y.cells) (leaves _ q)).1
structure Vt (P:Program) (Y:My S):Prop where
 ps:(S.jh Y.key).ps.size=Y.args.length∧mZ (S.jh Y.key).ps.toList=true∧(S.jh Y.key).ps.toList.all (Nat.blt · (S.jh Y.key).N)=true
 ok:∀q r,Y.F q=some r→GY P (S.lp Y.key 0) (TV.er.go (cM (Y.args++Y.cells) Y.aJ (leaves _ q)).ln ((Q4 Y q).drop Y.args.length)) (TV.er.go (cM (Y.args++Y.cells) Y.aJ (leaves _ q)).ln ((Q4 Y q).take Y.args.length))
  (cM (Y.args++Y.cells) Y.aJ (leaves _ q)).er.st (fun j st'=>j=TY (S.jh Y.key).id (TP Y.lv (leaves _ r))∧st'=bG (bI (Am Y r)) (Am Y r))
end
end Go.DN
/-
 DN,part Zc:rounds out of a run of their code;the loop itself.
-/
namespace Go.DN
open Go.AM
section
variable {S:dx}
def A9:List Nat→List (TV S)→List (Nat×TV S)
 | t::ts,v::vs=>(t,v)::A9 ts vs
 | _,_=>[]
theorem D1 (ln:Nat→Nat):∀(ts:List Nat) (vs:List (TV S)),gX ln (A9 ts vs)=pi ts (TV.er.go ln vs)
 | [],_=>rfl
 | _::_,[]=>rfl
 | t::ts,v::vs=>by simp only[A9,gX,TV.er.go,pi,D1 ln ts vs]
theorem Kt (ln:Nat→Nat):∀(a b:List (Nat×TV S)),gX ln (a++b)=gX ln a++gX ln b
 | [],_=>rfl
 | (t,v)::r,b=>by simp only[bd,gX,Kt ln r b]
def Uv (L:UD) (args cells:List Sh) (aJ:List Oh) (ls:List (bi S.α)):aj S:=
 {fr:=A9 L.ps.toList ((cw (args++cells) ls).1.take args.length)++A9 L.al ((cw (args++cells) ls).1.drop args.length),lo:=[],st:=(bK (na aJ 1000) (cw (args++cells) ls).2).1,bM:=[],df:=[],nx:=300,last:=[]}
def IF (P:Program) (t:aj S) (lv:Bool) (n:Int) (outs:List (Nat×Oh)):Option (aU S.α (JH.cn ⟨uz lv,outs⟩)):=
 match lv||n==0 with
 | true=>match yq P t [] [] outs with
  | some q=>n6 (JH.cn ⟨uz lv,outs⟩) (Lm lv n++leaves _ q)
  | none=>none
 | false=>none
noncomputable def Uj (P:Program) (fu:Nat) (H:List (Nat×Hint)) (cl:Cl S) (L:UD) (mvs:List Nat) (args cells:List Sh) (aJ:List Oh) (outs:List (Nat×Oh)) (lv:Bool) (q:aU S.α (ic (args++cells) aJ)):Option (aU S.α (JH.cn ⟨uz lv,outs⟩)):=
 match Au mvs (Uv L args cells aJ (leaves _ q)) with
 | some s=>gg P L.N fu H cl L.ot 0 s _ fun e t=>match e with
  | .normal=>gg P L.N fu H cl L.body (jZ L.ot) t _ fun e t=>match e with
   | .normal=>IF P t lv 0 outs
   | .exit id=>match Nat.beq id L.id with
    | true=>IF P t lv 1 outs
    | false=>none
   | .ret=>IF P t lv 2 outs
   | _=>none
  | _=>none
 | none=>none
theorem PG {lv : Bool} {n : Int} (h : (lv || n == 0) = true) (r : List (bi S.α)) : TP lv (Lm lv n ++ r) = n := by
  cases lv with
  | true => rfl
  | false => have : n = 0 := by simpa using h
             rw [this]; rfl
theorem Ob (lv:Bool) (n:Int) (r:List (bi S.α)):(bR (uz lv) (Lm lv n++r)).2=r:=by cases lv <;> rfl
theorem Vt.of {P:Program}{fu:Nat}{H:List (Nat×Hint)}{tbl:List (dC S)}{Y:My S}(hm:P.follows .mixedOrders=true) (ht:∀c∈tbl,bE P c)
  (hps:(Nat.beq (S.jh Y.key).ps.size Y.args.length&&(mZ (S.jh Y.key).ps.toList&&((S.jh Y.key).ps.toList.all (Nat.blt · (S.jh Y.key).N)&&NB (aG Y.outs))))=true)
  (hna:isNil (lE (S.jh Y.key).ot 0)=true) (hnb:isNil (lE (S.jh Y.key).body (jZ (S.jh Y.key).ot))=true)
  {mvs:List Nat}{ns:List (Nat×List FuncId)}(h:∀q,Uj P fu H (lm tbl ns) (S.jh Y.key) mvs Y.args Y.cells Y.aJ Y.outs Y.lv q=Y.F q):Vt P Y:=by
 simp only[ag] at hps
 obtain⟨p1,p2,p3,p4⟩:=hps
 have hcl:=ej (N:=(S.jh Y.key).N) (ns:=ns) ht
 have nilA:lE (S.jh Y.key).ot 0=[]:=by cases hx:lE (S.jh Y.key).ot 0 with | nil=>rfl | cons x r=>rw[hx] at hna;cases hna
 have nilB:lE (S.jh Y.key).body (jZ (S.jh Y.key).ot)=[]:=by cases hx:lE (S.jh Y.key).body (jZ (S.jh Y.key).ot) with | nil=>rfl | cons x r=>rw[hx] at hnb;cases hnb
 refine⟨⟨af p1,p2,p3⟩,fun q r hr=>?_⟩
 have hr:=(h q).trans hr
 refine GY.of (ot:=(S.jh Y.key).ot) (body:=(S.jh Y.key).body) rfl rfl fun cx=>?_
 have e0:(⟨pi (S.lp Y.key 0).ps.toList (TV.er.go (cM (Y.args++Y.cells) Y.aJ (leaves _ q)).ln ((Q4 Y q).take Y.args.length))++pi (S.lp Y.key 0).al (TV.er.go (cM (Y.args++Y.cells) Y.aJ (leaves _ q)).ln ((Q4 Y q).drop Y.args.length)),
   (cM (Y.args++Y.cells) Y.aJ (leaves _ q)).er.st,[]⟩:St)=(Uv (S.jh Y.key) Y.args Y.cells Y.aJ (leaves _ q)).er:=by
  show _=St.mk (gX _ ((A9 _ _++A9 _ _)++[])) _ _
  rw[bL,Kt,D1,D1]
  rfl
 rw[e0]
 unfold Uj at hr
 split at hr
 rotate_left
 ·cases hr
 rename_i s0 hmv
 refine xS (gQ rfl) hmv fun hl0=>?_
 refine jK hm hcl _ 0 (tv hna) (.inl nilA) _ _ _ r hl0 hr _ fun e t hlt hk hK=>?_
 split at hK
 rotate_left
 ·cases hK
 refine⟨rfl,fun cx'=>?_⟩
 refine GW.CD (Q':=fun e s'=>∃n:Int,∃t:aj S,Gh s' t.er∧aO t∧IF P t Y.lv n Y.outs=some r∧((e=.normal∧n=0)∨(e=.exit (S.jh Y.key).id∧n=1)∨(e=.ret∧n=2)))
  (jK hm hcl _ _ (tv hnb) (.inl nilB) _ _ _ r hlt hK _ fun e t hlt hk hK=>?_) fun e s' hq=>?_
 ·split at hK
  ·exact⟨0,t,Gh.refl _,hlt,hK,.inl ⟨rfl,rfl⟩⟩
  ·split at hK
   ·rename_i hb
    have:=af hb
    subst this
    exact⟨1,t,Gh.refl _,hlt,hK,.inr (.inl ⟨rfl,rfl⟩)⟩
   ·cases hK
  ·exact⟨2,t,Gh.refl _,hlt,hK,.inr (.inr ⟨rfl,rfl⟩)⟩
  ·cases hK
 ·obtain⟨n,t,hg0,hlt,hE,he⟩:=hq
  unfold IF at hE
  split at hE
  rotate_left
  ·cases hE
  rename_i hlv
  split at hE
  rotate_left
  ·cases hE
  rename_i q' hq'
  obtain⟨u,hg,hdf,_,O',eu,hln,hown⟩:=EI hlt hq'
  have hls:=gf hE
  have hn:TP Y.lv (leaves _ r)=n:=by rw[hls];exact PG hlv _
  have hO:Am Y r=(bK Y.outs (leaves _ q')).1:=by unfold Am;rw[hls,Ob]
  have hout:(bK Y.outs (bR [] (leaves (JH.cn ⟨[],Y.outs⟩) q')).2).1=(bK Y.outs (leaves _ q')).1:=rfl
  rw[hout] at eu hln
  have hk:aG (bK Y.outs (leaves (JH.cn ⟨[],Y.outs⟩) q')).1=aG Y.outs:=jY _ _
  have hsub:j9 u.er.st (bG (bI (Am Y r)) (Am Y r)):=by
   rw[hO]
   refine xr fun j o hm=>?_
   have e1:aF (bK Y.outs (leaves (JH.cn ⟨[],Y.outs⟩) q')).1 j=some o:=Ap (by rw[hk];exact p4) j o hm
   have e2:aF u.bj j=some o:=by rw[eu,dV,e1]
   rw[show az u.er.st j=_ from kL e2]
   have hj:o.er u.ln=o.er (bI (bK Y.outs (leaves (JH.cn ⟨[],Y.outs⟩) q')).1):=TO.lM hln o (rl (aG Y.outs) Y.outs _ hown j o e1)
   rw[hj]
  refine⟨u.er,hg0.trans hg,?_⟩
  ·refine⟨hdf,_,hsub,?_⟩
   rcases he with ⟨h,h2⟩ | ⟨h,h2⟩ | ⟨h,h2⟩
   ·subst h;subst h2
    exact⟨by rw[hn];rfl,rfl⟩
   ·subst h;subst h2
    exact⟨by rw[hn];rfl,rfl⟩
   ·subst h;subst h2
    exact⟨by rw[hn];rfl,rfl⟩
end
end Go.DN
/-
 DN,part Zd:the loop over a function;contracts of functions that have such loops,or that go through them.
-/
namespace Go.DN
open Go.AM
section
variable {S:dx}
end
end Go.DN
/-
 DN,part Ze:panics that are zS,deferred calls.
-/
namespace Go.DN
open Go.AM
def yZ (T:TypeId) (x:Int×Int):List PanicEntry:=[{v:=.iface T (.agg #[.int .i64 x.1,.int .i64 x.2]),recovered:=false}]
def KR (T:TypeId):List PanicEntry→Option (Int×Int)
 | [⟨.iface T' (.agg ⟨[.int .i64 e,.int .i64 a]⟩),false,false⟩]=>match Nat.beq T' T with
  | true=>some (e,a)
  | false=>none
 | _=>none
theorem O8 {T:TypeId}{ch:List PanicEntry}{x:Int×Int}(h:KR T ch=some x):ch=yZ T x:=by
 unfold KR at h
 split at h
 ·split at h
  ·rename_i hb
   cases h
   have:=af hb
   subst this
   rfl
  ·cases h
 ·cases h
def aD {α β γ:Type}(o:Option (α⊕β)) (f:α→Option γ) (g:β→Option γ):Option γ:=o.bind fun r=>match r with
 | .inl x=>f x
 | .inr y=>g y
theorem Mt {α β γ:Type}{o:Option (α⊕β)}{f:α→Option γ}{g:β→Option γ}{r:γ}(h:aD o f g=some r):∃x,o=some x∧((∃a,x=.inl a∧f a=some r)∨∃b,x=.inr b∧g b=some r):=by
 obtain⟨x,h1,h2⟩:=bind_some h
 refine⟨x,h1,?_⟩
 cases x with
 | inl a=>exact .inl ⟨a,rfl,h2⟩
 | inr b=>exact .inr ⟨b,rfl,h2⟩
section
variable {S:dx}
def Gp (s:aj S) (args:List Sh) (aJ:List Oh) (vw:Bool) (vs:List (TV S)){A:Type}(k:List Nat→aU S.α (ic args aJ)→Option A):Option A:=
 match CB s.bj aJ 1000 (vB args vs) with
 | some H=>match mZ H&&apart H (aG s.bM) with
  | true=>match lk s vw H args vs with
   | some xs=>match pH s vw H H aJ with
    | some ys=>match n6 (ic args aJ) (xs++ys) with
     | some q=>k H q
     | none=>none
    | none=>none
   | none=>none
  | false=>none
 | none=>none
theorem C6 {s:aj S}{args:List Sh}{aJ:List Oh}{vw:Bool}{vs:List (TV S)}{A:Type}{k:List Nat→aU S.α (ic args aJ)→Option A}{r:A}(h:Gp s args aJ vw vs k=some r):
  ∃H q,mZ H=true∧apart H (aG s.bM)=true∧k H q=some r∧bN.go H (dl s.er.st H vw) (TV.er.go s.ln vs)=some (TV.er.go (cM args aJ (leaves _ q)).ln (cw args (leaves _ q)).1)∧ei H (dl s.er.st H vw) s.er.st H 0=some (cM args aJ (leaves _ q)).er.st:=by
 unfold Gp at h
 split at h
 ·rename_i H hH
  split at h
  ·rename_i hc
   simp only[ag] at hc
   split at h
   ·rename_i xs hx
    split at h
    ·rename_i ys hy
     split at h
     ·rename_i q hq
      obtain⟨a1,a2⟩:=Sn hx hy hq
      exact⟨H,q,hc.1,hc.2,h,a1,a2⟩
     ·cases h
    ·cases h
   ·cases h
  ·cases h
 ·cases h
def Dh (s:aj S) (vw:Bool) (H:List Nat) (outs:List (Nat×Oh)) (O:List (Nat×TO S)) (d:Nat){A:Type}(k:List Nat→aj S→Option A):Option A:=
 match RB s H d (aG outs) [] with
 | some bk=>match wu s H (eG (aG outs) H 0) (aG outs) bk with
  | true=>match oq vw (iJ (bG (bI O) O) bk) (kD s.er.st (bG (bI O) O) H 0) s.er.st O bk with
   | some sb=>pG s sb (wu.minus H (eG (aG outs) H 0)) (k bk (gn s H (eG (aG outs) H 0) sb outs.length))
   | none=>none
  | false=>none
 | none=>none
theorem yf {s:aj S}{vw:Bool}{H:List Nat}{outs:List (Nat×Oh)}{O:List (Nat×TO S)}{d:Nat}{A:Type}{k:List Nat→aj S→Option A}{r:A}(hO:aG O=aG outs) (c3:apart H (aG s.bM)=true) (h:Dh s vw H outs O d k=some r):
  ∃bk t,k bk t=some r∧aO t∧bA s t∧jt vw s.er H (bG (bI O) O) bk=some t.er∧∀a b,iJ (bG (bI O) O) bk a=some b→t.ln b=bI O a:=by
 unfold Dh at h
 split at h
 ·rename_i bk hbk
  split at h
  ·rename_i hf
   split at h
   ·rename_i sb hsb
    obtain⟨a1,a2,a3⟩:=PS (n:=outs.length) hO c3 hf hsb h
    exact⟨bk,_,a1,gQ (t:=gn s H (eG (aG outs) H 0) sb outs.length) rfl,⟨rfl,rfl,rfl⟩,a2,a3⟩
   ·cases h
  ·cases h
 ·cases h
def iF (al:List (Nat×Sh)) (outs:List (Nat×Oh)) (r:aU S.α (JH.cn ⟨al,outs⟩)):List (Nat×TO S):=(bK outs (bR al (leaves _ r)).2).1
theorem ya (al:List (Nat×Sh)) (outs:List (Nat×Oh)) (r:aU S.α (JH.cn ⟨al,outs⟩)):aG (iF al outs r)=aG outs:=jY _ _
structure eW (S:dx) where
 f:FuncId
 args:List Sh
 aJ:List Oh
 vw:Bool
 al:List (Nat×Sh)
 outs:List (Nat×Oh)
 iE:List (Nat×Oh)
 T:TypeId
 F:aU S.α (ic args aJ)→Option (aU S.α (JH.cn ⟨al,outs⟩)⊕((Int×Int)×aU S.α (JH.cn ⟨[],iE⟩)))
def Q2 {al:List (Nat×Sh)}{outs iE:List (Nat×Oh)}(r:aU S.α (JH.cn ⟨al,outs⟩)⊕((Int×Int)×aU S.α (JH.cn ⟨[],iE⟩))) (g:G) (st:List (Nat×ao)):Prop:=∃x,r=.inl x∧O1 al outs x g st
def UA {al:List (Nat×Sh)}{outs iE:List (Nat×Oh)}(T:TypeId) (r:aU S.α (JH.cn ⟨al,outs⟩)⊕((Int×Int)×aU S.α (JH.cn ⟨[],iE⟩))) (ch:List PanicEntry) (st:List (Nat×ao)):Prop:=
 ∃y,r=.inr y∧ch=yZ T y.1∧st=bG (bI (iF [] iE y.2)) (iF [] iE y.2)
structure bH (P:Program) (con:eW S):Prop where
 call:∀args w,(callFunc con.f args).run P w=.ok (.enter con.f args) w
 ok:∀q r,con.F q=some r→GP P con.f (TV.er.go (cM con.args con.aJ (leaves _ q)).ln (cw con.args (leaves _ q)).1) (cM con.args con.aJ (leaves _ q)).er.st (Q2 r) (UA con.T r)
def Oy (ok:Nat→Bool) (con:eW S) (s:aj S) (d:Nat) (vs:List (TV S)){A:Type}(k:aj S→Option A) (kp:List PanicEntry→aj S→Option A):Option A:=
 Gp s con.args con.aJ con.vw vs fun H q=>match CN ok H with
  | true=>aD (con.F q) (fun x=>Dh s con.vw H con.outs (iF con.al con.outs x) d fun bk t=>match (mo con.al (leaves _ x)).lX con.vw (iJ (bG (bI (iF con.al con.outs x)) (iF con.al con.outs x)) bk) with
    | some rv=>k (t.put d rv)
    | none=>none)
   fun y=>Dh s con.vw H con.iE (iF [] con.iE y.2) d fun _ t=>kp (yZ con.T y.1) t
  | false=>none
theorem FK {P:Program}{W:List Nat}{ok:Nat→Bool}(hW:∀h,ok h=true→W.contains h=true){con:eW S}(C:bH P con){s:aj S}{d:Nat}{vs:List (TV S)}{A:Type}{k:aj S→Option A}{kp:List PanicEntry→aj S→Option A}{r:A}(h:Oy ok con s d vs k kp=some r){o:Oper}
  (heff:∀{gs':List G}{cP:List (Nat×ao)}{Q:G→List (Nat×ao)→Prop}{Qp:List PanicEntry→List (Nat×ao)→Prop}{T:St→Prop}{Tp:List PanicEntry→St→Prop}(H:List Nat) (vw:Bool),bN.go H (dl s.er.st H vw) (TV.er.go s.ln vs)=some gs'→ei H (dl s.er.st H vw) s.er.st H 0=some cP→mZ H=true→GP P con.f gs' cP Q Qp→
   (∀r st',Q r st'→∃bk s2 r',jt vw s.er H st' bk=some s2∧dv vw (iJ st' bk) r=some r'∧T (s2.put d r'))→(∀ch st',Qp ch st'→∃bk s2,jt vw s.er H st' bk=some s2∧Tp ch s2)→sS H W=true→kJ P W s.er o T Tp):GG P W s o k kp r:=by
 obtain⟨H,q,c1,c3,h1,h2,h3⟩:=C6 h
 split at h1
 ·rename_i hok
  obtain⟨x,hF,hx⟩:=Mt h1
  refine⟨fun s'=>∃t:aj S,Gh s' t.er∧aO t∧bA s t∧k t=some r,fun ch s'=>∃t:aj S,Gh s' t.er∧aO t∧bA s t∧kp ch t=some r,heff H con.vw h2 h3 c1 (C.ok q x hF) ?_ ?_ (By hW hok),fun s' h=>h,fun ch s' h=>h⟩
  ·rintro g st' ⟨a,rfl,rfl,rfl⟩
   rcases hx with ⟨a',ha,hx⟩ | ⟨b,hb,_⟩
   ·cases ha
    obtain⟨bk,t,e1,e2,e3,e4,e5⟩:=yf (ya _ _ _) c3 hx
    split at e1
    ·rename_i rv hrv
     refine⟨bk,t.er,rv.er t.ln,e4,Hr e5 _ _ hrv,_,?_,e2.put d rv,⟨e3.lo,e3.bM,e3.df⟩,e1⟩
     rw[iT]
     exact Gh.refl _
    ·cases e1
   ·cases hb
  ·rintro ch st' ⟨y,rfl,rfl,rfl⟩
   rcases hx with ⟨a',ha,_⟩ | ⟨b,hb,hx⟩
   ·cases ha
   ·cases hb
    obtain⟨bk,t,e1,e2,e3,e4,e5⟩:=yf (ya _ _ _) c3 hx
    exact⟨bk,t.er,e4,t,Gh.refl _,e2,e3,e1⟩
 ·cases h1
def Gu (f:FuncId):List (eW S)→Option (eW S)
 | []=>none
 | c::r=>match Nat.beq c.f f with
  | true=>some c
  | false=>Gu f r
theorem Iv {f:FuncId}:∀{l:List (eW S)}{c:eW S},Gu f l=some c→c∈l∧c.f=f
 | [],_,h=>by cases h
 | x::r,c,h=>by
  simp only[Gu] at h
  split at h
  ·rename_i hb
   cases h
   exact⟨au,af hb⟩
  ·obtain⟨h1,h2⟩:=Iv h
   exact⟨ap _ h1,h2⟩
def KB (s:aj S) (c:Call):Option (FuncId×List (TV S)):=match c.callee with
 | .value (.func f)=>some (f,[])
 | .value x=>KV s x c.args.toList
 | _=>none
def GB (cl:Cl S) (tblP:List (eW S)) (ok:Nat→Bool) (A:Type) (kp:List PanicEntry→aj S→Option A) (s:aj S) (dst:Option Nat) (c:Call) (k:aj S→Option A):Option A:=
 match KB s c with
 | some (f,caps)=>match Gu f tblP with
  | some con=>match dst with
   | some d=>match tC s c.args.toList with
    | some vs=>Oy ok con s d (vs++caps) k kp
    | none=>none
   | none=>none
  | none=>cl.call ok A kp s dst c k
 | none=>cl.call ok A kp s dst c k
def nL (cl:Cl S) (tblP:List (eW S)):Cl S where
 call:=fun ok A kp s dst c k=>match wU s c with
  | true=>cl.call ok A kp s dst c k
  | false=>GB cl tblP ok A kp s dst c k
 rf:=cl.rf
theorem fQ {P:Program}{N:Nat}{cl:Cl S}{tblP:List (eW S)}(hcl:rK P N cl) (ht:∀c∈tblP,bH P c):rK P N (nL cl tblP) where
 call:=fun ok W hW A kp r s dst c k hl hy h0 ty pos after guard=>by
  have h:(match wU s c with
   | true=>cl.call ok A kp s dst c k
   | false=>GB cl tblP ok A kp s dst c k)=some r:=h0
  clear h0
  rw[hy] at h
  dsimp only at h
  unfold GB at h
  split at h
  ·rename_i f caps hc
   split at h
   ·rename_i con hcon
    obtain⟨hm,hf⟩:=Iv hcon
    subst hf
    have C:=ht con hm
    split at h
    ·split at h
     ·rename_i d vs hv
      obtain⟨cal,args,ts⟩:=c
      unfold KB at hc
      dsimp only at hc hv
      split at hc
      ·cases hc
       rw[bL] at h
       exact FK hW C h fun H vw h1 h2 h3 h4 h5 h5p h6=>UE.c1 H vw C.call (lK hv).2 h1 h2 h3 h4 h5 h5p h6
      ·obtain⟨hx,hb⟩:=Jy hc
       ·exact FK hW C h fun H vw h1 h2 h3 h4 h5 h5p h6=>UE.c2 H vw hb C.call (bu hx) (lK hv).2 (by rw[←qt];exact h1) h2 h3 h4 h5 h5p h6
      ·cases hc
     ·cases h
    ·cases h
   ·exact hcl.call ok W hW A kp r s dst c k hl hy h ty pos after guard
  ·exact hcl.call ok W hW A kp r s dst c k hl hy h ty pos after guard
 cA:=fun ok A kp r cx s dst c k hl hy h=>by
  have h:(match wU s c with
   | true=>cl.call ok A kp s dst c k
   | false=>GB cl tblP ok A kp s dst c k)=some r:=h
  rw[hy] at h
  exact hcl.cA ok A kp r cx s dst c k hl hy h
 rf:=hcl.rf
abbrev Md:=Option (Int×Int)
def pK (T:TypeId):Md→FrameMode
 | none=>.returning
 | some x=>.panicking (yZ T x)
theorem SB (T:TypeId) (m:Md):pK T m≠.run:=by cases m <;> exact fun h=>by cases h
theorem K1 (T:TypeId) (m:Md):settle (pK T m)=pK T m:=by cases m <;> rfl
structure kO (S:dx) where
 f:FuncId
 args:List Sh
 aJ:List Oh
 vw:Bool
 outs:List (Nat×Oh)
 Vl:Bool
 F:Md→aU S.α (ic args aJ)→Option (aU S.α (JH.cn ⟨[],outs⟩))
def kO.md (con:kO S) (m:Md):Md:=match con.Vl with
 | true=>none
 | false=>m
structure ja (P:Program) (T:TypeId) (con:kO S):Prop where
 call:∀args w,(callFunc con.f args).run P w=.ok (.enter con.f args) w
 ok:∀m q r,con.F m q=some r→GD P con.f (TV.er.go (cM con.args con.aJ (leaves _ q)).ln (cw con.args (leaves _ q)).1) (cM con.args con.aJ (leaves _ q)).er.st (pK T m)
  (fun u' st=>settle u'=pK T (con.md m)∧st=bG (bI (iF [] con.outs r)) (iF [] con.outs r))
theorem ja.of {P:Program}{T:TypeId}{N fu:Nat}{H:List (Nat×Hint)}{cl:Cl S}{con:kO S}{fn:Func}{c:Code}(hm:P.follows .mixedOrders=true) (hcl:rK P N cl)
  (hf:P.funcs[con.f]?=some fn) (hcall:∀args w,(callFunc con.f args).run P w=.ok (.enter con.f args) w) (hb:fn.body=some c) (hN:fn.ntmps=N)
  (hle:fJ N con.args [] con.outs=true){mvs:List Nat}(h:∀m q,EL P N fu H cl c mvs fn.results.toList con.args con.aJ [] con.outs q=con.F m q) (hn:isNil (lE c 0)=true:=by kernel_rfl) (hr:con.Vl=false:=by rfl):ja P T con:=
 ⟨hcall,fun m q r hF u=>by
  have hr0:=hle
  simp only[fJ,ag] at hr0
  have:=GD.of (P:=P) (N:=N) (f:=con.f) (c:=c) (args:=TV.er.go (cM con.args con.aJ (leaves _ q)).ln (cw con.args (leaves _ q)).1) (st:=(cM con.args con.aJ (leaves _ q)).er.st)
   (Q:=fun st=>st=bG (bI (iF [] con.outs r)) (iF [] con.outs r)) hf hb hN (by rw[da,aN,vT];exact hr0.1)
   (fun cx hro=>(Kw hm hcl hf hb hN hle (tv hn) ((h m q).trans hF) hro).mono fun e s ⟨h1,h2,gs,r',st',h3,h4,h5,h6⟩=>⟨h1,h2,gs,r',st',h3,h4,h5,h6.2⟩) (pK T m)
  intro μ w vs h1 h2 h3 h4
  refine(this u μ w vs h1 h2 h3 h4).mono ?_
  rintro e u' w' ⟨v,st',μ',e1,⟨e2,e3⟩,e4⟩
  refine⟨v,st',μ',e1,⟨?_,e3⟩,e4⟩
  rw[e2,K1]
  unfold kO.md
  rw[hr]⟩
def Rx (con:kO S) (m:Md) (s:aj S) (vs:List (TV S)){A:Type}(k:aj S→Option A):Option A:=
 Gp s con.args con.aJ con.vw vs fun H q=>(con.F m q).bind fun r=>Dh s con.vw H con.outs (iF [] con.outs r) 0 fun _ t=>k t
theorem QC {P:Program}{N:Nat}{cx:Cx}{fn:Func}{R:Ending→World→Prop}{T:TypeId}{con:kO S}(C:ja P T con){s:aj S}{m:Md}{vs:List (TV S)}{A:Type}{k:aj S→Option A}{r:A}(h:Rx con m s vs k=some r)
  (hk:∀t:aj S,aO t→t.df=s.df→k t=some r→LD P N cx fn R t.er.df (pK T (con.md m)) t.er):LD P N cx fn R (.aP con.f (TV.er.go s.ln vs)::s.er.df) (pK T m) s.er:=by
 obtain⟨H,q,c1,c3,h1,h2,h3⟩:=C6 h
 obtain⟨x,hF,hx⟩:=bind_some h1
 refine LD.aP H con.vw (SB T m) C.call h2 h3 c1 (C.ok m q x hF) ?_
 rintro u' st' ⟨hu,rfl⟩
 obtain⟨bk,t,e1,e2,e3,e4,e5⟩:=yf (ya _ _ _) c3 hx
 have hd:=IZ e4
 refine⟨bk,t.er,e4,?_⟩
 rw[hu,←hd]
 exact hk t e2 e3.df e1
def Gv (f:FuncId):List (kO S)→Option (kO S)
 | []=>none
 | c::r=>match Nat.beq c.f f with
  | true=>some c
  | false=>Gv f r
theorem Iw {f:FuncId}:∀{l:List (kO S)}{c:kO S},Gv f l=some c→c∈l∧c.f=f
 | [],_,h=>by cases h
 | x::r,c,h=>by
  simp only[Gv] at h
  split at h
  ·rename_i hb
   cases h
   exact⟨au,af hb⟩
  ·obtain⟨h1,h2⟩:=Iw h
   exact⟨ap _ h1,h2⟩
def Ec (tbl:List (kO S)):List (TV S)→Md→aj S→(A:Type)→(Md→aj S→Option A)→Option A
 | [],m,s,_,K=>K m {s with df:=[],last:=[]}
 | .aP f caps::ds,m,s,A,K=>match Gv f tbl with
  | some con=>Rx con m {s with df:=ds,last:=[]} caps fun s'=>Ec tbl ds (con.md m) s' A K
  | none=>none
 | _,_,_,_,_=>none
theorem Ah {P : Program} {N : Nat} {cx : Cx} {fn : Func} {R : Ending → World → Prop} {T : TypeId} {tbl : List (kO S)} (ht : ∀ c ∈ tbl, ja P T c) {A : Type} {K : Md → aj S → Option A} {r : A}
    (hK : ∀ m t, aO t → t.df = [] → K m t = some r → LD P N cx fn R [] (pK T m) t.er) : ∀ {ds : List (TV S)} {m : Md} {s : aj S}, s.df = ds → Ec tbl ds m s A K = some r → LD P N cx fn R s.er.df (pK T m) s.er
  | [], m, s, hd, h => by
    have h1 := hK m { s with df := [], last := [] } (gQ rfl) rfl h
    have e : s.er.df = [] := by show TV.er.go s.ln s.df = []; rw [hd]; rfl
    rw [e]
    exact h1
  | .aP f caps :: ds, m, s, hd, h => by
    simp only [Ec] at h
    split at h
    · rename_i con hcon
      obtain ⟨hm, hf⟩ := Iw hcon
      subst hf
      have := QC (cx := cx) (N := N) (fn := fn) (R := R) (ht con hm) h fun t hl hdf hk => Ah ht hK hdf hk
      have e : s.er.df = .aP con.f (TV.er.go s.ln caps) :: TV.er.go s.ln ds := by show TV.er.go s.ln s.df = _; rw [hd]; rfl
      rw [e]
      exact this
    · cases h
  | .ab _ _ _ :: _, _, _, _, h => by cases h
  | .ptr _ _ _ :: _, _, _, _, h => by cases h
  | .agg _ :: _, _, _, _, h => by cases h
  | .aU _ :: _, _, _, _, h => by cases h
  | .loc _ _ :: _, _, _, _, h => by cases h
  | .gY _ _ _ _ :: _, _, _, _, h => by cases h
  | .aK _ _ :: _, _, _, _, h => by cases h
  | .sub _ _ _ _ :: _, _, _, _, h => by cases h
  | .cA _ :: _, _, _, _, h => by cases h
  | .mp _ :: _, _, _, _, h => by cases h
  | .ks _ _ _ _ :: _, _, _, _, h => by cases h
  | .kp _ _ _ _ :: _, _, _, _, h => by cases h
  | .fX _ _ _ _ _ :: _, _, _, _, h => by cases h
  | .val _ :: _, _, _, _, h => by cases h
  | .any :: _, _, _, _, h => by cases h
def Gz:Code→Option (Oper×Oper)
 | .region _ ops false=>match ops.toList with
  | [o1,o2]=>match o1.guard,o2.guard,o2.op,o2.dst with
   | none,none,.defer ⟨.value (.tmp _),⟨[]⟩,_⟩,none=>some (o1,o2)
   | _,_,_,_=>none
  | _=>none
 | _=>none
noncomputable def EK (P:Program) (N fu:Nat) (H:List (Nat×Hint)) (cl:Cl S):Code→Nat→aj S→(A:Type)→(Exit→aj S→Option A)→Option A
 | .seq x y,p,s,A,K=>Hy (jJ H p) s fun s=>EK P N fu H cl x (p+1) s A fun e s'=>match e with
  | .normal=>EK P N fu H cl y (p+1+jZ x) s' A K
  | e=>K e s'
 | c,p,s,A,K=>match Gz c with
  | some (o1,o2)=>match o1.dst with
   | some d=>match Nat.blt d N with
    | true=>Hu P s o1.op fun v x=>match o2.op with
     | .defer ⟨.value (.tmp d'),_,_⟩=>match bp (s.oD d v x).bV d' with
      | some (.aP f caps)=>match qd.contains f with
       | false=>K .normal {s.oD d v x with df:=.aP f caps::(s.oD d v x).df,last:=[]}
       | true=>none
      | _=>none
     | _=>none
    | false=>none
   | none=>none
  | none=>gg P N fu H cl c p s A K
theorem Qs {c:Code}{o1 o2:Oper}(h:Gz c=some (o1,o2)):∃id d' ts ty pos after,c=.region id #[o1,o2] false∧o1.guard=none∧o2=⟨none,.defer ⟨.value (.tmp d'),#[],ts⟩,ty,pos,after,none⟩:=by
 unfold Gz at h
 split at h
 ·rename_i id ops
  split at h
  ·rename_i a b hops
   split at h
   ·rename_i h1 h2 h3 h4
    cases h
    obtain⟨dst2,op2,ty2,pos2,after2,guard2⟩:=o2
    dsimp only at h2 h3 h4
    subst h2;subst h3;subst h4
    refine⟨id,_,_,ty2,pos2,after2,?_,h1,rfl⟩
    have:ops=ops.toList.toArray:=by simp
    rw[this,hops]
   ·cases h
  ·cases h
 ·cases h
theorem SN {P:Program}{N fu:Nat}{H:List (Nat×Hint)}{cl:Cl S}{cx:Cx}(hro:cx.ro=none) (hm:P.follows .mixedOrders=true) (hcl:rK P N cl):∀(c:Code) (p:Nat),ou S N H (lE c p)→∀(s:aj S) (A:Type) (K:Exit→aj S→Option A) (r:A),aO s→EK P N fu H cl c p s A K=some r→
  ∀Q:Exit→St→Prop,(∀e t,aO t→K e t=some r→Q e t.er)→GW P N cx c Q s.er:=by
 have leaf:∀(c:Code) (p:Nat),ou S N H (lE c p)→∀(s:aj S) (A:Type) (K:Exit→aj S→Option A) (r:A),aO s→(match Gz c with
  | some (o1,o2)=>match o1.dst with
   | some d=>match Nat.blt d N with
    | true=>Hu P s o1.op fun v x=>match o2.op with
     | .defer ⟨.value (.tmp d'),_,_⟩=>match bp (s.oD d v x).bV d' with
      | some (.aP f caps)=>match qd.contains f with
       | false=>K .normal {s.oD d v x with df:=.aP f caps::(s.oD d v x).df,last:=[]}
       | true=>none
      | _=>none
     | _=>none
    | false=>none
   | none=>none
  | none=>gg P N fu H cl c p s A K)=some r→∀Q:Exit→St→Prop,(∀e t,aO t→K e t=some r→Q e t.er)→GW P N cx c Q s.er:=by
  intro c p hr s A K r hl h Q hQ
  split at h
  ·rename_i o1 o2 hd
   obtain⟨id,d',ts,ty,pos,after,rfl,hg,rfl⟩:=Qs hd
   split at h
   ·rename_i d hdst
    split at h
    ·rename_i hN
     have hN:d<N:=by simpa[fh] using hN
     obtain⟨dst,op,ty1,pos1,after1,guard1⟩:=o1
     dsimp only at hdst hg h
     subst hdst;subst hg
     obtain⟨v,x,h1,h2,h3⟩:=CE (dst:=some d) (ty:=ty1) (pos:=pos1) (after:=after1) (guard:=none) h
     refine GW.region (GL.yield rfl rfl hN (h1.yield []) ?_)
     rw[←Ak s d v x]
     split at h3
     ·rename_i f caps hx
      split at h3
      rotate_left
      ·cases h3
      rename_i hbf
      refine GL.defer hbf hro (f:=f) (caps:=TV.er.go (s.oD d v x).ln caps) (by
       show AM.get (s.oD d v x).er.fr d'=_
       exact fG hx) ?_
      exact GL.nil (show Q .normal (aj.er {s.oD d v x with df:=.aP f caps::(s.oD d v x).df,last:=[]}) from hQ .normal _ (gQ rfl) h3)
     ·cases h3
    ·cases h
   ·cases h
  ·exact jK hm hcl c p hr (.inr hro) s A K r hl h Q fun e t a _ c=>hQ e t a c
 intro c
 induction c with
 | seq x y ihx ihy=>
  intro p hr s A K r hl h Q hQ
  simp only[EK] at h
  obtain⟨s1,g1,g2,g3,h⟩:=Ei hl h
  refine GW.gh g1 (GW.seq (ihx _ hr.cN.1 s1 A _ r g2 h _ fun e t hlt hK=>?_))
  cases e with
  | normal=>exact ihy _ hr.cN.2 t A K r hlt hK Q hQ
  | _=>exact hQ _ t hlt hK
 | _=>exact fun p hr s A K r hl h Q hQ=>leaf _ p hr s A K r hl (by simpa only[EK] using h) Q hQ
def IG (P:Program) (rvs:List ResultVar) (al:List (Nat×Sh)) (outs iE:List (Nat×Oh)):Md→aj S→Option (aU S.α (JH.cn ⟨al,outs⟩)⊕((Int×Int)×aU S.α (JH.cn ⟨[],iE⟩)))
 | none,t=>(yq P (sf P rvs al t) rvs al outs).bind fun x=>some (.inl x)
 | some y,t=>(yq P t [] [] iE).bind fun x=>some (.inr (y,x))
noncomputable def Uk (P:Program) (N fu:Nat) (H:List (Nat×Hint)) (cl:Cl S) (tblD:List (kO S)) (c:Code) (mvs:List Nat) (rvs:List ResultVar) (args:List Sh) (aJ:List Oh) (al:List (Nat×Sh)) (outs iE:List (Nat×Oh)) (T:TypeId) (q:aU S.α (ic args aJ)):
  Option (aU S.α (JH.cn ⟨al,outs⟩)⊕((Int×Int)×aU S.α (JH.cn ⟨[],iE⟩))):=
 match Au mvs (cM args aJ (leaves _ q)) with
 | some s=>EK P N fu H cl c 0 s _ fun e t=>match e with
  | .ret=>Ec tblD t.df none t _ (IG P rvs al outs iE)
  | .normal=>Ec tblD t.df none t _ (IG P rvs al outs iE)
  | .panic ch=>match KR T ch with
   | some x=>Ec tblD t.df (some x) t _ (IG P rvs al outs iE)
   | none=>none
  | _=>none
 | none=>none
theorem LD.gw {P:Program}{N:Nat}{cx:Cx}{fn:Func}{R:Ending→World→Prop}{u:FrameMode}{s t:St}(h:Gw s t) (hs:s.df=[]) (ht:t.df=[]) (k:LD P N cx fn R [] u t):LD P N cx fn R [] u s:=fun μ a w hr=>by
 have e1:({s with df:=[]}:St)=s:=by cases s;simp only at hs;subst hs;rfl
 have e2:({t with df:=[]}:St)=t:=by cases t;simp only at ht;subst ht;rfl
 rw[e1] at hr
 obtain⟨μ',hr'⟩:=h N cx μ a w hr
 exact k μ' a w (by rw[e2];exact hr')
theorem FD {P:Program}{N:Nat}{rvs:List ResultVar}{al:List (Nat×Sh)}{outs:List (Nat×Oh)}{t:aj S}{r:aU S.α (JH.cn ⟨al,outs⟩)}(hl:aO t) (hr:fJ N [] al outs=true) (hE:yq P t rvs al outs=some r):
  ∃u:aj S,Gh t.er u.er∧u.er.df=[]∧vb P u.er rvs (((bR al (leaves _ r)).1.map (·.2)).map (TV.er (bI (iF al outs r))))∧j9 u.er.st (bG (bI (iF al outs r)) (iF al outs r))∧
   iI u.er.st (bG (bI (iF al outs r)) (iF al outs r)) (pack (((bR al (leaves _ r)).1.map (·.2)).map (TV.er (bI (iF al outs r)))))=some ((mo al (leaves _ r)).er (bI (iF al outs r))):=by
 simp only[fJ,ag] at hr
 obtain⟨_,hr3,hr4⟩:=hr
 obtain⟨u,hg,hdf,r1,O',eu,hln,hown⟩:=EI hl hE
 have hk:aG (bK outs (bR al (leaves (JH.cn ⟨al,outs⟩) r)).2).1=aG outs:=jY _ _
 refine⟨u,hg,hdf,r1,xr (ln:=bI (iF al outs r)) (l:=iF al outs r) fun j o hm=>?_,?_⟩
 ·have e1:aF (bK outs (bR al (leaves (JH.cn ⟨al,outs⟩) r)).2).1 j=some o:=Ap (by rw[hk];exact hr4) j o hm
  have e2:aF u.bj j=some o:=by rw[eu,dV,e1]
  rw[show az u.er.st j=_ from kL e2]
  have hj:o.er u.ln=o.er (bI (bK outs (bR al (leaves (JH.cn ⟨al,outs⟩) r)).2).1):=TO.lM hln o (rl (aG outs) outs _ hown j o e1)
  rw[hj]
  rfl
 ·rw[uk]
  refine Bh _ ?_
  rw[show aG (iF al outs r)=_ from hk]
  exact CH _ hr3
theorem Cv {N:Nat}{args:List Sh}{al:List (Nat×Sh)}{outs:List (Nat×Oh)}(h:fJ N args al outs=true):fJ N [] al outs=true:=by
 simp only[fJ,ag] at h⊢
 exact⟨by simp[Nat.ble_eq],h.2⟩
theorem SK {P:Program}{N:Nat}{fn:Func}{X:Nat→Prop}{st:List (Nat×ao)}{μ:Mu}{w:World}{al:List (Nat×Sh)}{outs iE:List (Nat×Oh)}{T:TypeId}{m:Md}{t:aj S}{r:aU S.α (JH.cn ⟨al,outs⟩)⊕((Int×Int)×aU S.α (JH.cn ⟨[],iE⟩))}
  (hs:fJ N [] al outs=true) (hp:fJ N [] [] iE=true) (hl:aO t) (hd:t.df=[]) (h:IG P fn.results.toList al outs iE m t=some r):LD P N (dw X st μ w) fn (qg X st μ w (Q2 r) (UA T r)) [] (pK T m) t.er:=by
 have hd':t.er.df=[]:=by show TV.er.go t.ln t.df=[];rw[hd];rfl
 cases m with
 | none=>
  obtain⟨x,h1,h2⟩:=bind_some h
  cases h2
  obtain⟨g1,g2⟩:=fW (P:=P) (rvs:=fn.results.toList) (l:=al) hl
  obtain⟨u,a1,a2,a3,a4,a5⟩:=FD g2 hs h1
  refine LD.gw (g1.trans a1.w) hd' a2 (LD.ret (st':=bG (bI (iF al outs x)) (iF al outs x)) ?_ a4 a5 ⟨x,rfl,rfl,rfl⟩)
  have e:({u.er with df:=[]}:St)=u.er:=by rw[←a2]
  rw[e];exact a3
 | some y=>
  obtain⟨x,h1,h2⟩:=bind_some h
  cases h2
  obtain⟨u,a1,a2,a3,a4,a5⟩:=FD hl hp h1
  exact LD.gw a1.w hd' a2 (LD.VX a4 ⟨_,rfl,rfl,rfl⟩)
theorem bH.of {P:Program}{N fu:Nat}{H:List (Nat×Hint)}{cl:Cl S}{tblD:List (kO S)}{con:eW S}{fn:Func}{c:Code}(hm:P.follows .mixedOrders=true) (hcl:rK P N cl) (htD:∀c∈tblD,ja P con.T c)
  (hf:P.funcs[con.f]?=some fn) (hcall:∀args w,(callFunc con.f args).run P w=.ok (.enter con.f args) w) (hb:fn.body=some c) (hN:fn.ntmps=N)
  (hle:fJ N con.args con.al con.outs=true) (hlp:fJ N con.args [] con.iE=true){mvs:List Nat}(h:∀q,Uk P N fu H cl tblD c mvs fn.results.toList con.args con.aJ con.al con.outs con.iE con.T q=con.F q) (hn:isNil (lE c 0)=true:=by kernel_rfl):bH P con:=
 ⟨hcall,fun q r hF=>by
  have hr0:=hle
  simp only[fJ,ag] at hr0
  refine GP.VY hf hb hN (by rw[da,aN,vT];exact hr0.1) fun X μ w=>?_
  have e0:(⟨kF (TV.er.go (cM con.args con.aJ (leaves _ q)).ln (cw con.args (leaves _ q)).1) 0,(cM con.args con.aJ (leaves _ q)).er.st,[]⟩:St)=(cM con.args con.aJ (leaves _ q)).er:=by
   rw[←yj]
   show St.mk _ _ _=St.mk (gX _ (na (cw con.args (leaves _ q)).1 0++[])) _ _
   rw[bL];rfl
  rw[e0]
  have hD:=(h q).trans hF
  unfold Uk at hD
  split at hD
  ·rename_i s0 hmv
   refine xS (gQ rfl) hmv fun hl0=>?_
   refine SN rfl hm hcl c 0 (tv hn) s0 _ _ r hl0 hD _ fun e t hlt hK=>?_
   have fin:∀m t',aO t'→t'.df=[]→IG P fn.results.toList con.al con.outs con.iE m t'=some r→LD P N (dw X (cM con.args con.aJ (leaves _ q)).er.st μ w) fn (qg X (cM con.args con.aJ (leaves _ q)).er.st μ w (Q2 r) (UA con.T r)) [] (pK con.T m) t'.er:=
    fun m t' a b c=>SK (Cv hle) (Cv hlp) a b c
   split at hK
   ·exact Ah htD fin rfl hK
   ·exact Ah htD fin rfl hK
   ·rename_i ch
    split at hK
    ·rename_i x hx
     have:=O8 hx
     subst this
     exact Ah htD fin rfl hK
    ·cases hK
   ·cases hK
  ·cases hD⟩
def GV {α β:Type}(o:Option (α⊕β)):Option α:=o.bind fun r=>match r with
 | .inl x=>some x
 | .inr _=>none
theorem Be {α β:Type}{o:Option (α⊕β)}{x:α}(h:GV o=some x):o=some (.inl x):=by
 obtain⟨y,h1,h2⟩:=bind_some h
 cases y with
 | inl a=>cases h2;exact h1
 | inr b=>cases h2
theorem bH.zS {P:Program}{conP:eW S}(C:bH P conP){F:aU S.α (ic conP.args conP.aJ)→Option (aU S.α (JH.cn ⟨conP.al,conP.outs⟩))}(h:∀q r,F q=some r→conP.F q=some (.inl r)):
  bE P ⟨conP.f,conP.args,conP.aJ,conP.vw,conP.al,conP.outs,F⟩:=
 ⟨C.call,fun q r hF=>(C.ok q _ (h q r hF)).mono (fun g st ⟨x,hx,hA⟩=>by cases hx;exact hA) (fun ch st ⟨y,hy,_⟩=>by cases hy)⟩
end
end Go.DN
