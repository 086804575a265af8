/-
  DN, fourth part.
-/
import Derived.Test.YtongekoajbcliaaGreatDoorMgD
import Derived.KernelRfl
import Derived.Test.YtongekoajbcliaaGreatDoorMgI
set_option linter.unusedSectionVars false
set_option linter.unusedSimpArgs false
set_option linter.unusedVariables false
/-
 DN,part Vb:a call whose arguments all lead to what the caller's call has made:so does its answer.
-/
namespace Go.DN
open Go.AM
def sx:G→Bool
 | .val _=>true
 | .dw _=>true
 | .fr _=>true
 | .agg gs=>go gs
 | .ba _ gs=>go gs
 | _=>false
where go:List G→Bool
 | []=>true
 | g::r=>sx g&&go r
theorem wk:∀{gs:List G},sx.go gs=true→∀(j:Nat) (g:G),gs[j]?=some g→sx g=true
 | [],_,j,g,hg=>by simp at hg
 | x::r,h,j,g,hg=>by
  simp only[sx.go,af] at h;cases j with
  | zero=>cases hg;exact h.1
  | succ j=>exact wk h.2 j g hg
def sR:G→G
 | .val v=>.val v
 | .dw b=>.fr (.dw b)
 | .sl n cs=>.fr (.sl n cs)
 | .ptr cs=>.fr (.ptr cs)
 | .agg gs=>.agg (go gs)
 | .bB gs=>.bB (go gs)
 | .ba f gs=>.ba f (go gs)
 | g=>g
where go:List G→List G
 | []=>[]
 | g::r=>sR g::go r
theorem yA:∀(gs:List G),(sR.go gs).length=gs.length
 | []=>rfl
 | _::r=>congrArg (·+1) (yA r)
theorem Bu:∀{gs:List G}{j:Nat}{g':G},(sR.go gs)[j]?=some g'→∃g,gs[j]?=some g∧g'=sR g
 | [],_,_,h=>by simp[sR.go] at h
 | x::r,j,g',h=>by
  cases j with
  | zero=>simp only[sR.go,iX,km] at h;exact⟨x,rfl,h.symm⟩
  | succ j=>exact Bu (gs:=r) (by simpa[sR.go] using h)
theorem SS {O X:Nat→Prop}{base:Nat}{μ μ':Mu}{w:World}{g g':G}{v:Value}(h:bH O w g v) (hX:∀b,X b→b<w.heap.size→ir O base b) (hg:sx g=true) (hf:gK g=some g'):aU X w.heap.size w μ' g' v:=by
 induction h generalizing g' with
 | any v=>cases hg
 | val v=>
  cases hf;unfold nQ;split
  ·exact .aF .nil
  ·exact .aF (.val _)
 | dw b v h=>cases hf;exact .aF (.dw b v h)
 | nil=>cases hg
 | jb a c=>cases hg
 | sl n cells b off cap us h1 h2 h3 h4 h5 ih=>cases hg
 | ptr cells b off us h1 h2 h3 h4 ih=>cases hg
 | agg cells us hl hr ih=>
  simp only[gK,az] at hf;obtain⟨gs',h1,rfl⟩:=hf;obtain⟨h2,h3⟩:=qU h1;refine .agg gs' us (by omega) fun j g v hg' hv=>?_;obtain⟨g0,h4,h5⟩:=h3 j g hg';exact ih j g0 v h4 hv (wk hg j g0 h4) h5
theorem SU {O X:Nat→Prop}{base:Nat}{μ μ':Mu}{w:World}{g g':G}{v:Value}(h:aU O base w μ g v) (hX:∀b,X b→b<w.heap.size→ir O base b) (hg:sx g=true) (hf:gK g=some g'):aU X w.heap.size w μ' g' v:=by
 induction h generalizing g' with
 | aF h=>exact SS (base:=base) (μ:=μ) h hX hg hf
 | fr h=>cases hf;exact .aF (h.mono (Kept.refl _ _) fun b hb hn hx=>hn (hX b hx hb))
 | agg cells us hl hr ih=>
  simp only[gK,az] at hf;obtain⟨gs',h1,rfl⟩:=hf;obtain⟨h2,h3⟩:=qU h1;refine .agg gs' us (by omega) fun j g v hg' hv=>?_;obtain⟨g0,h4,h5⟩:=h3 j g hg';exact ih j g0 v h4 hv (wk hg j g0 h4) h5
 | ba f caps us hl hr ih=>
  simp only[gK,az] at hf;obtain⟨gs',h1,rfl⟩:=hf;obtain⟨h2,h3⟩:=qU h1;refine .ba f gs' us (by omega) fun j g v hg' hv=>?_;obtain⟨g0,h4,h5⟩:=h3 j g hg';exact ih j g0 v h4 hv (wk hg j g0 h4) h5
 | _=>cases hg
theorem TR {X O:Nat→Prop}{base:Nat}{μ:Mu}{w:World}{g:G}{v:Value}(h:bH X w g v) (hO:∀b,b<w.heap.size→ir O base b→X b) (hi:nB g=true):aU O base w μ (sR g) v:=by
 have key:∀{g:G}{v:Value},bH X w g v→bH (ir O base) w g v:=fun h=>h.mono (Kept.refl _ _) fun b hb hn ho=>hn (hO b hb ho)
 induction h with
 | any v=>cases hi
 | val v=>exact .aF (.val _)
 | dw b v h=>exact .fr (.dw b v h)
 | nil=>exact .fr .nil
 | jb a c=>exact .fr (.jb a c)
 | sl n cells b off cap us h1 h2 h3 h4 h5 ih=>exact .fr (key (.sl n cells b off cap us h1 h2 h3 h4 h5))
 | ptr cells b off us h1 h2 h3 h4 ih=>exact .fr (key (.ptr cells b off us h1 h2 h3 h4))
 | agg cells us hl hr ih=>
  refine .agg _ us (by rw[yA];exact hl) fun j g v hg hv=>?_;obtain⟨g0,h1,rfl⟩:=Bu hg;exact ih j g0 v h1 hv (tl hi j g0 h1)
theorem TS {X O:Nat→Prop}{bX base:Nat}{μX μ:Mu}{w:World}{g:G}{v:Value}(h:aU X bX w μX g v) (hO:∀b,b<w.heap.size→ir O base b→X b) (hi:nB g=true):aU O base w μ (sR g) v:=by
 induction h with
 | aF h=>exact TR h hO hi
 | fr h=>exact .fr (h.mono (Kept.refl _ _) fun b hb hn ho=>hn (.inr (hO b hb ho)))
 | agg cells us hl hr ih=>
  refine .agg _ us (by rw[yA];exact hl) fun j g v hg hv=>?_;obtain⟨g0,h1,rfl⟩:=Bu hg;exact ih j g0 v h1 hv (tl hi j g0 h1)
 | bB cells us hl hr ih=>
  refine .bB _ us (by rw[yA];exact hl) fun j g v hg hv=>?_;obtain⟨g0,h1,rfl⟩:=Bu hg;exact ih j g0 v h1 hv (tl hi j g0 h1)
 | ba f cells us hl hr ih=>
  refine .ba f _ us (by rw[yA];exact hl) fun j g v hg hv=>?_;obtain⟨g0,h1,rfl⟩:=Bu hg;exact ih j g0 v h1 hv (tl hi j g0 h1)
 | _=>cases hi
section
variable {P:Program}{N:Nat}{cx:Cx}{s:St}
variable {ty:TypeId}{pos:String}{after:Array Edge}{guard:Option (Nat×Bool)}{W:List Nat}{d:Nat}
theorem Q5 {f:FuncId}{vs:List Value}{gs gs':List G}{Q:G→List (Nat×av)→Prop}{μ:Mu}{a:Act}{w:World}(hr:Rel N cx μ s a w) (hfre:sx.go gs=true) (hv:eS gK gs=some gs')
  (hvs:vs.length=gs.length) (hrep:∀(j:Nat) (g:G) (v:Value),gs[j]?=some g→vs[j]?=some v→aU (cx.O s.st μ) cx.base w μ g v)
  (hcon:GM P f gs' [] Q) (hres:∀r st',Q r st'→nB r=true∧st'=[]):
  Calls P f vs.toArray w fun e w'=>∃v r st',e=.returned v∧Q r st'∧Rel N cx μ s a w'∧aU (cx.O s.st μ) cx.base w' μ (sR r) v∧Step W s.st μ s.st μ w w':=by
 obtain⟨h1,h2⟩:=ra hv;have hXO:∀b,cx.O s.st μ b→b<w.heap.size:=fun b hb=>by
  rcases hb with hb | hb
  ·have:=hr.st.fg b hb;have:=hr.st.hb;omega
  ·exact qC hr.st hb
 have hX:∀b,(ir (cx.O s.st μ) cx.base b∧b<w.heap.size)→b<w.heap.size:=fun b hb=>hb.2;refine(hcon.returned (fun b=>ir (cx.O s.st μ) cx.base b∧b<w.heap.size) (fun _=>none) w vs hX (BS hX (hr.st.Wo fun _ h=>(oH h).elim)) (by omega) fun j g v hg hv=>?_).mono ?_
 ·obtain⟨g0,h3,h4⟩:=h2 j g hg;refine SU (O:=cx.O s.st μ) (base:=cx.base) (hrep j g0 v h3 hv) ?_ (wk hfre j g0 h3) h4;rintro b (hb | hb) _
  ·exact hb.1
  ·exact absurd hb oH
 ·rintro e w' ⟨v,r,st',μ',rfl,hq,hst,hrv⟩;have hkeep:∀b,b<w.heap.size→w'.heap[b]?=w.heap[b]?:=fun b hb=>hst.dq b hb oH;obtain⟨hf,hs⟩:=hres r st' hq;subst hs;refine⟨v,r,[],rfl,hq,hr.kept hst.hb hkeep hst.os hst.tape hst.output,?_,⟨hst.hb,fun b hb _=>hkeep b hb,fun h k c m b hw h1 h2 hi=>.inl ⟨h,k,c,m,hw,h1,h2,hi⟩⟩⟩;refine TS hrv ?_ hf;intro b _ hb;refine .inl ⟨hb,?_⟩;rcases hb with hb | hb
  ·exact cJ hb hr.st.hb
  ·exact hXO b hb
theorem EF.Zl {f:FuncId}{xs:Array Operand}{ts:Array TypeId}{gs gs':List G}{Q:G→List (Nat×av)→Prop}(hc:∀args w,(callFunc f args).run P w=.ok (.enter f args) w)
  (hx:wu s xs.toList=some gs) (hfre:sx.go gs=true) (hv:eS gK gs=some gs') (hcon:GM P f gs' [] Q) (hres:∀r st',Q r st'→nB r=true∧st'=[]):
  cm P W s ⟨some d,.call ⟨.value (.func f),xs,ts⟩,ty,pos,after,guard⟩ (fun s'=>∃r st',Q r st'∧s'=s.put d (sR r)):=by
 refine⟨(fun _ h=>by cases h),?_⟩;intro N cx μ a w hr hN K Q' hK;obtain⟨h1,h2⟩:=oJ hx;have hcall:=Q5 (vs:=xs.toList.map a.eval) (W:=W) hr hfre hv (by simp[h1]) (fun j g v hg hv=>by
  obtain⟨x,hxj,he⟩:=h2 j g hg;rw[ak,hxj] at hv;cases hv;exact hr.ev he) hcon hres
 unfold Oper.wp;have:(execOp a.eval ⟨some d,.call ⟨.value (.func f),xs,ts⟩,ty,pos,after,guard⟩).run P w=.ok (.enter f (xs.toList.map a.eval).toArray) w:=by
  have e:xs.map a.eval=(xs.toList.map a.eval).toArray:=by rw[←iu]
  simp[execOp,resolve,invoke,Deferred.ofValue,Act.eval,hc,e]
 rw[this];refine hcall.mono ?_;rintro e w' ⟨v,r,st',rfl,hq,hr',hrv,hst⟩;exact hK μ _ _ w' (hr'.put (hN d rfl) hrv) ⟨r,st',hq,rfl⟩ hst
end
section
variable {S:eI}
def TV.JG:TV S→Bool
 | .aD f τ _=>f||τ.iR
 | .ptr f _ _=>f
 | .val _=>true
 | .agg l=>go l
 | .ba _ l=>go l
 | _=>false
where go:List (TV S)→Bool
 | []=>true
 | x::r=>x.JG&&go r
theorem Vd {g:G}(h:Pl g):sx (dY true g)=true:=by
 rcases h with ⟨u,rfl⟩ | ⟨n,cs,rfl⟩ | ⟨b,rfl⟩ | ⟨cs,rfl⟩ <;> rfl
mutual
theorem Vc (ln:Nat→Nat):∀v:TV S,v.JG=true→sx (v.er ln)=true
 | .aD f τ a,hf=>by
  have hf:(f||τ.iR)=true:=hf;cases τ with
  | st n=>
   have e:f=true:=by simpa[Ty.iR] using hf
   subst e;show sx.go ((aX S (.st n) a).map (dY true))=true;have h:=uA (S:=S) (.st n) a;generalize aX S (.st n) a=l at h
   induction l with
   | nil=>rfl
   | cons x r ih=>
    simp only[bc,sx.go,Vd (h x ar),ih fun y hy=>h y (ap _ hy),ij]
  | list τ=>
   have e:f=true:=by simpa[Ty.iR] using hf
   subst e;rfl
  | pt n=>
   have e:f=true:=by simpa[Ty.iR] using hf
   subst e;cases a <;> rfl
  | _=>cases f <;> rfl
 | .ptr f τ a,hf=>by
  have e:f=true:=hf;subst e;rfl
 | .val _,_=>rfl
 | .agg l,h=>xw ln l h
 | .ba _ l,h=>xw ln l h
 | .bB _,h=>by cases h
 | .loc _ _,h=>by cases h
 | .iK _ _ _ _,h=>by cases h
 | .aL _ _,h=>by cases h
 | .sub _ _ _ _,h=>by cases h
 | .cW _,h=>by cases h
 | .mp _,h=>by cases h
 | .ks _ _ _ _,h=>by cases h
 | .kp _ _ _ _,h=>by cases h
 | .iF _ _ _ _ _,h=>by cases h
 | .gw _ _ _,h=>by cases h
 | .dX _ _,h=>by cases h
 | .any,h=>by cases h
theorem xw (ln:Nat→Nat):∀l:List (TV S),TV.JG.go l=true→sx.go (TV.er.go ln l)=true
 | [],_=>rfl
 | x::r,h=>by
  simp only[TV.JG.go,af] at h;simp only[TV.er.go,sx.go,Vc ln x h.1,xw ln r h.2,ij]
end
mutual
theorem Xt:∀v:TV S,v.JG=true→v.imp=true
 | .aD f τ a,_=>rfl
 | .ptr f τ a,_=>rfl
 | .val _,_=>rfl
 | .agg l,h=>Ad l h
 | .ba _ l,h=>Ad l h
 | .bB _,h=>by cases h
 | .loc _ _,h=>by cases h
 | .iK _ _ _ _,h=>by cases h
 | .aL _ _,h=>by cases h
 | .sub _ _ _ _,h=>by cases h
 | .cW _,h=>by cases h
 | .mp _,h=>by cases h
 | .ks _ _ _ _,h=>by cases h
 | .kp _ _ _ _,h=>by cases h
 | .iF _ _ _ _ _,h=>by cases h
 | .gw _ _ _,h=>by cases h
 | .dX _ _,h=>by cases h
 | .any,h=>by cases h
theorem Ad:∀l:List (TV S),TV.JG.go l=true→TV.imp.go l=true
 | [],_=>rfl
 | x::r,h=>by
  simp only[TV.JG.go,af] at h;simp only[TV.imp.go,Xt x h.1,Ad r h.2,ij]
end
def TV.up:TV S→TV S
 | .aD _ τ a=>.aD true τ a
 | .bB l=>.bB (go l)
 | v=>v
where go:List (TV S)→List (TV S)
 | []=>[]
 | .aD _ τ a::r=>.aD true τ a::go r
 | v::r=>v::go r
theorem Rr {f:Bool}{g:G}(h:Pl g):sR (dY f g)=dY true g:=by
 rcases h with ⟨u,rfl⟩ | ⟨n,cs,rfl⟩ | ⟨b,rfl⟩ | ⟨cs,rfl⟩ <;> cases f <;> rfl
theorem Rs (f:Bool) (τ:Ty) (a:S.D τ):sR (oP f τ a)=oP true τ a:=by
 cases τ with
 | st n=>
  show G.agg (sR.go ((aX S (.st n) a).map (dY f)))=G.agg ((aX S (.st n) a).map (dY true));congr 1;have h:=uA (S:=S) (.st n) a;generalize aX S (.st n) a=l at h
  induction l with
  | nil=>rfl
  | cons x r ih=>
   simp only[bc,sR.go,Rr (h x ar),ih fun y hy=>h y (ap _ hy)]
 | _=>exact Rr (yW rfl a)
theorem V4 (ln:Nat→Nat):∀(aw:List (Nat×Sh)) (ls:List (bn S.α)),og aw=true→ls.length=(jC aw).length→TV.er.go ln (TV.up.go ((cC aw ls).1.map (·.2)))=sR.go (TV.er.go ln ((cC aw ls).1.map (·.2)))
 | [],_,_,_=>rfl
 | (d,.aD f τ)::r,ls,h,hl=>by
  cases ls with
  | nil=>simp[jC,Sh.cX] at hl
  | cons x xs=>
   simp only[cC,gT,bc,TV.up.go,TV.er.go,sR.go];rw[V4 ln r xs h (by simpa[jC,Sh.cX] using hl)];exact congrArg (·::_) (Rs f x.τ x.a).symm
 | (d,.own h τ)::r,ls,h',_=>by cases h'
 | (d,.ptr _ _)::r,ls,h',_=>by cases h'
 | (d,.loc _ _)::r,ls,h',_=>by cases h'
 | (d,.ba _ _)::r,ls,h',_=>by cases h'
 | (d,.agg _)::r,ls,h',_=>by cases h'
 | (d,.cW _)::r,ls,h',_=>by cases h'
 | (d,.mp _)::r,ls,h',_=>by cases h'
 | (d,.iF _ _)::r,ls,h',_=>by cases h'
 | (d,.gw _ _)::r,ls,h',_=>by cases h'
 | (d,.dX _)::r,ls,h',_=>by cases h'
 | (d,.ks _ _)::r,ls,h',_=>by cases h'
 | (d,.any)::r,ls,h',_=>by cases h'
 | (d,.nD)::r,ls,h',_=>by cases h'
 | (d,.sub _ _)::r,ls,h',_=>by cases h'
theorem Zy (ln:Nat→Nat){aw:List (Nat×Sh)}{ls:List (bn S.α)}(h:og aw=true) (hl:ls.length=(jC aw).length):((nT aw ls).up).er ln=sR ((nT aw ls).er ln):=by
 have hg:=V4 ln aw ls h hl
 match aw,h with
 | [],_=>rfl
 | [(d,.aD f τ)],_=>cases ls with
  | nil=>simp[jC,Sh.cX] at hl
  | cons x xs=>exact(Rs f x.τ x.a).symm
 | (d,.aD f τ)::(d',sh)::r,_=>exact congrArg G.bB hg
def Q6 (con:bz S) (s:ae S) (d:Nat) (vs:List (TV S)){A:Type}(k:ae S→Option A):Option A:=
 match qB con&&(!(sw con.aw)&&TV.JG.go vs) with
 | true=>match lE s con.args vs with
  | some ls=>match nR (kU con.args con.aQ) ls with
   | some q=>(con.F q).bind fun r=>k (s.put d (nT con.aw (leaves _ r)).up)
   | none=>none
  | none=>none
 | false=>AE con s d vs k
theorem Nf {P:Program}{N:Nat}{W:List Nat}{con:bz S}(C:aM P con){s:ae S}{d:Nat}{vs:List (TV S)}{A:Type}{k:ae S→Option A}{r:A}(hl:aO s) (h:Q6 con s d vs k=some r)
  {xs:Array Operand}{ts:Array TypeId}{ty:TypeId}{pos:String}{after:Array Edge}{guard:Option (Nat×Bool)}(hv:uL s xs.toList=some vs):
  ∃T:St→Prop,cm P W s.er ⟨some d,.call ⟨.value (.func con.f),xs,ts⟩,ty,pos,after,guard⟩ T∧∀s',T s'→∃t:ae S,Gh s' t.er∧aO t∧bC s t∧k t=some r:=by
 unfold Q6 at h;split at h
 ·rename_i hc;simp only[af,aS] at hc;obtain⟨hp,_,hfr⟩:=hc;obtain⟨C1,C2,C3⟩:=zC C hp;split at h
  ·rename_i ls hls;split at h
   ·rename_i q hq;obtain⟨res,h1,h2⟩:=bind_some h;have hview:=(w8 1 (fun _=>0) C1 hls []).2;rw[bM,←hZ hq] at hview;have hlen:=C5 res (ve hp);have himp:=p9 s.ln vs (Ad vs hfr);refine⟨_,EF.Zl (P:=P) (W:=W) C.call (nw hv).2 (xw s.ln vs hfr) (zT himp hview) (C3 q res h1) (fun g st hg=>⟨by rw[hg.1];exact H5 C2 hlen _,hg.2⟩),?_⟩;intro s' hs';obtain⟨g,st,⟨hg,_⟩,e⟩:=hs';subst e;subst hg;refine⟨_,?_,hl.put d _,⟨rfl,rfl,rfl⟩,h2⟩;rw[iJ,Zy s.ln C2 hlen,Lw s.ln (fun _=>0) C2];exact Gh.refl _
   ·cases h
  ·cases h
 ·exact VH (N:=N) C hl h hv
end
end Go.DN
/-
 DN,part W:calls to which all objects are lent,and what comes back.
-/
namespace Go.DN
open Go.AM
section
variable {P:Program}{W:List Nat}{s:St}{d:Nat}{ty:TypeId}{pos:String}{after:Array Edge}{guard:Option (Nat×Bool)}
theorem EF.ZO {f:FuncId}{xs:Array Operand}{ts:Array TypeId}{gs gs':List G}{ei:List (Nat×av)}{Q:G→List (Nat×av)→Prop}{T:St→Prop}(H:List Nat) (vw:Bool) (hc:∀args w,(callFunc f args).run P w=.ok (.enter f args) w)
  (hx:wu s xs.toList=some gs) (hv:bR.go H (ft s.st H vw) gs=some gs') (hl:gz H (ft s.st H vw) s.st H 0=some ei) (di:qg H=true) (hcon:GM P f gs' ei Q)
  (hres:∀r st',Q r st'→∃bk s2 r',qc vw s H st' bk=some s2∧ez vw (kj st' bk) r=some r'∧T (s2.put d r')) (hW:AZ H W=true):
  cm P W s ⟨some d,.call ⟨.value (.func f),xs,ts⟩,ty,pos,after,guard⟩ T:=by
 refine⟨(fun _ h=>by cases h),?_⟩;intro N cx μ a w hr hN K Q' hK;obtain⟨h1,h2⟩:=oJ hx;have hcall:=xj (vs:=xs.toList.map a.eval) hr hv hl di (by simp[h1]) (fun j g v hg hv=>by
  obtain⟨x,hxj,he⟩:=h2 j g hg;rw[ak,hxj] at hv;cases hv;exact hr.ev he) hcon
 unfold Oper.wp;have:(execOp a.eval ⟨some d,.call ⟨.value (.func f),xs,ts⟩,ty,pos,after,guard⟩).run P w=.ok (.enter f (xs.toList.map a.eval).toArray) w:=by
  have e:xs.map a.eval=(xs.toList.map a.eval).toArray:=by rw[←iu]
  simp[execOp,resolve,invoke,Deferred.ofValue,Act.eval,hc,e]
 rw[this];refine hcall.mono ?_;rintro e w' (⟨v,r,st',μ',rfl,hq,hC,hrv⟩ | ⟨_,_,_,_,h,_⟩)
 ·obtain⟨bk,s2,r',hb,hren,hT⟩:=hres r st' hq;obtain⟨q1,q2,q3,_⟩:=wL hr hl (nX di) hC hb;exact hK _ _ _ w' (q1.put (hN d rfl) (q2 r r' v hrv hren)) hT (q3 W (AY hW))
 ·exact h.elim
end
section
variable {S:eI}
def Dg (s:ae S) (vw:Bool) (H:List Nat) (τ:Ty):TV S→Option (S.D τ)
 | .aD _ τ' a=>match τ'.gm with
  | true=>none
  | false=>jv τ' τ a
 | .val (.slice none 0 0)=>match τ with
  | .list _=>some []
  | _=>none
 | .aL h τ2=>match vw with
  | true=>match dD H h with
   | none=>match aA s.bl h with
    | some (.arr _ _ _ τ' l)=>match decEq τ' τ2 with
     | isTrue _=>jv (.list τ') τ l
     | isFalse _=>none
    | _=>none
   | some _=>none
  | false=>none
 | _=>none
def KF (s:ae S) (vw:Bool) (H:List Nat):List Ty→List (TV S)→Option (List (bn S.α))
 | [],[]=>some []
 | τ::ts,v::vs=>match Dg s vw H τ v with
  | some a=>match KF s vw H ts vs with
   | some l=>some (⟨τ,a⟩::l)
   | none=>none
  | none=>none
 | _,_=>none
def Qn (s:ae S) (vw:Bool) (H:List Nat) (τ:Ty) (v:TV S):Option (S.D τ):=
 match v with
 | .aD _ τ' a=>jv τ' τ a
 | .agg vs=>match τ with
  | .st n=>match KF s vw H (S.cX n) vs with
   | some l=>S.put n l
   | none=>none
  | _=>none
 | v=>Dg s vw H τ v
mutual
def lW (s:ae S) (vw:Bool) (H:List Nat):Sh→TV S→Option (List (bn S.α))
 | .aD false τ,v=>match Qn s vw H τ v with
  | some a=>some [⟨τ,a⟩]
  | none=>none
 | .ptr false τ,v=>match v with
  | .ptr _ τ' a=>match jv τ' τ a with
   | some b=>some [⟨τ,b⟩]
   | none=>none
  | _=>none
 | .own r τ,v=>match v with
  | .aL h τ'=>match dD H h with
   | some i=>match Nat.beq (1000+i) r with
    | true=>match decEq τ' τ with
     | isTrue _=>some []
     | isFalse _=>none
    | false=>none
   | none=>none
  | _=>none
 | .loc r o,v=>match v with
  | .loc h o'=>match dD H h with
   | some i=>match Nat.beq (1000+i) r&&Nat.beq o' o with
    | true=>some []
    | false=>none
   | none=>none
  | _=>none
 | .ba f l,v=>match v with
  | .ba f' vs=>match Nat.beq f' f with
   | true=>kS s vw H l vs
   | false=>none
  | _=>none
 | .agg l,v=>match v with
  | .agg vs=>kS s vw H l vs
  | _=>none
 | .cW r,v=>match v with
  | .cW h=>match dD H h with
   | some i=>match Nat.beq (1000+i) r with
    | true=>some []
    | false=>none
   | none=>none
  | _=>none
 | .mp r,v=>match v with
  | .mp h=>match dD H h with
   | some i=>match Nat.beq (1000+i) r with
    | true=>some []
    | false=>none
   | none=>none
  | _=>none
 | .gw r o,v=>match v with
  | .loc h o'=>match dD H h with
   | some i=>match Nat.beq (1000+i) r&&Nat.beq o' o with
    | true=>some [⟨.bool,false⟩]
    | false=>none
   | none=>none
  | .val (.pointer none)=>some [⟨.bool,true⟩]
  | .gw b h o'=>match dD H h with
   | some i=>match Nat.beq (1000+i) r&&Nat.beq o' o with
    | true=>some [⟨.bool,b⟩]
    | false=>none
   | none=>none
  | _=>none
 | .dX r,v=>match v with
  | .mp h=>match dD H h with
   | some i=>match Nat.beq (1000+i) r with
    | true=>some [⟨.bool,false⟩]
    | false=>none
   | none=>none
  | .dX b h=>match dD H h with
   | some i=>match Nat.beq (1000+i) r with
    | true=>some [⟨.bool,b⟩]
    | false=>none
   | none=>none
  | _=>none
 | .nD,v=>match v with
  | .ba f []=>some [⟨.int .i64,(f:Int)⟩]
  | _=>none
 | .ks r τ,v=>match v with
  | .ks h τ' z n=>match dD H h with
   | some i=>match Nat.beq (1000+i) r with
    | true=>match decEq τ' τ with
     | isTrue _=>some [⟨.int .i64,(z:Int)⟩,⟨.int .i64,(n:Int)⟩]
     | isFalse _=>none
    | false=>none
   | none=>none
  | _=>none
 | .sub r τ,v=>match v with
  | .sub h τ' o n=>match dD H h with
   | some i=>match Nat.beq (1000+i) r with
    | true=>match decEq τ' τ with
     | isTrue _=>some [⟨.int .i64,(o:Int)⟩,⟨.int .i64,(n:Int)⟩]
     | isFalse _=>none
    | false=>none
   | none=>none
  | _=>none
 | _,_=>none
def kS (s:ae S) (vw:Bool) (H:List Nat):List Sh→List (TV S)→Option (List (bn S.α))
 | [],[]=>some []
 | x::r,v::vs=>match lW s vw H x v with
  | some a=>match kS s vw H r vs with
   | some l=>some (a++l)
   | none=>none
  | none=>none
 | _,_=>none
end
theorem Jy (H:List Nat) (stv:List (Nat×av)) (f:Bool){τ:Ty}(h:τ.gm=false) (a:S.D τ):bR H stv (dY f (dI S τ a))=some (dI S τ a):=by
 cases τ with
 | st n=>cases h
 | pt n=>cases a <;> cases f <;> rfl
 | _=>cases f <;> rfl
theorem Mk {s:ae S}{vw:Bool}{H:List Nat}{τ:Ty}{v:TV S}{a:S.D τ}(h:Dg s vw H τ v=some a):bR H (ft s.er.st H vw) (v.er s.ln)=some (dI S τ a)∧τ.gm=false:=by
 unfold Dg at h;split at h
 ·split at h
  ·cases h
  ·rename_i hs;have:=eW h;cases this;refine⟨?_,hs⟩;rw[qb hs];exact Jy H _ _ hs _
 ·split at h
  ·cases h;exact⟨rfl,rfl⟩
  ·cases h
 ·rename_i hh τ2;split at h
  ·split at h
   ·rename_i hi;split at h
    ·rename_i e m f τ' l ho;split at h
     ·rename_i e1 _;subst e1;have:=eW h;cases this;refine⟨?_,rfl⟩;show bR H (ft s.er.st H true) (.aL hh (S.sz τ') 0 (s.ln hh))=_;simp only[bR,hi,ft,cond_true,view,zH hi (eB ho),TO.er];rw[pA ho,gW,dj (by rw[kh];exact aG _)];rfl
     ·cases h
    ·cases h
   ·cases h
  ·cases h
 ·cases h
theorem Mj {s:ae S}{vw:Bool}{H:List Nat}:∀{ts:List Ty}{vs:List (TV S)}{l:List (bn S.α)},KF s vw H ts vs=some l→bR.go H (ft s.er.st H vw) (TV.er.go s.ln vs)=some (l.map fun x=>dI S x.τ x.a)
 | [],[],_,h=>by cases h;rfl
 | τ::ts,v::vs,l,h=>by
  simp only[KF] at h;split at h
  ·rename_i a ha;split at h
   ·rename_i l' hl;cases h;simp only[TV.er.go,bR.go,(Mk ha).1,Mj hl,bc]
   ·cases h
  ·cases h
 | [],_::_,_,h=>by cases h
 | _::_,[],_,h=>by cases h
theorem UM {s:ae S}{vw:Bool}{H:List Nat}{τ:Ty}{v:TV S}{a:S.D τ}(h:Qn s vw H τ v=some a) (ln:Nat→Nat):bR H (ft s.er.st H vw) (v.er s.ln)=some ((TV.aD false τ a:TV S).er ln):=by
 have one:Dg s vw H τ v=some a→bR H (ft s.er.st H vw) (v.er s.ln)=some ((TV.aD false τ a:TV S).er ln):=by
  intro h;obtain⟨h1,h2⟩:=Mk h;rw[h1,qb h2];rfl
 unfold Qn at h;split at h
 ·rename_i f τ' a';have:=eW h;cases this;cases τ with
  | st k=>
   show(bR.go H _ ((aX S (.st k) a).map (dY f))).map G.agg=some (.agg ((aX S (.st k) a).map (dY false)));have key:bR.go H (ft s.er.st H vw) ((aX S (.st k) a).map (dY f))=some ((aX S (.st k) a).map (dY false)):=by
    rw[ib];have h:=lu k a;generalize S.cells k a=l at h
    induction l with
    | nil=>rfl
    | cons x r ih=>
     simp only[bc,bR.go];rw[Jy H _ f (h x ar) x.a,ih fun y hy=>h y (ap _ hy)];rfl
   rw[key];rfl
  | _=>exact one (by unfold Dg;exact h)
 ·rename_i vs;split at h
  ·rename_i k;split at h
   ·rename_i l hl;have hp:=S.gZ _ _ _ h;show(bR.go H _ (TV.er.go s.ln vs)).map G.agg=some (.agg ((aX S (.st k) a).map (dY false)));have e:(dY false)=(id:G→G):=rfl;rw[e,List.map_id,ib,hp,Mj hl];rfl
   ·cases h
  ·cases h
 ·exact one h
mutual
theorem UL {s:ae S}{vw:Bool}{H:List Nat}{lnC:Nat→Nat}(hln:∀i h,dD H h=some i→lnC (1000+i)=s.ln h):∀{sh:Sh}{v:TV S}{xs:List (bn S.α)},lW s vw H sh v=some xs→∀r,(gT sh (xs++r)).2=r∧bR H (ft s.er.st H vw) (v.er s.ln)=some ((gT sh (xs++r)).1.er lnC)
 | .aD true τ,v,xs,h,r=>by simp[lW] at h
 | .aD false τ,v,xs,h,r=>by
  simp only[lW] at h;split at h
  ·rename_i a ha;cases h;exact⟨rfl,UM ha lnC⟩
  ·cases h
 | .ptr true τ,v,xs,h,r=>by simp[lW] at h
 | .ptr false τ,v,xs,h,r=>by
  simp only[lW] at h;split at h
  ·rename_i f τ' a;split at h
   ·rename_i b hb;cases h;have:=eW hb;cases this;refine⟨rfl,?_⟩;cases f <;> rfl
   ·cases h
  ·cases h
 | .own k τ,v,xs,h,r=>by
  simp only[lW] at h;split at h
  ·rename_i hh τ';split at h
   ·rename_i i hi;split at h
    ·rename_i hb;split at h
     ·rename_i e _;cases h;subst e;have:=ab hb;subst this;refine⟨rfl,?_⟩;show bR H _ (.aL hh (S.sz τ') 0 (s.ln hh))=some (.aL (1000+i) (S.sz τ') 0 (lnC (1000+i)));simp only[bR,hi,hln i hh hi]
     ·cases h
    ·cases h
   ·cases h
  ·cases h
 | .loc k o,v,xs,h,r=>by
  simp only[lW] at h;split at h
  ·rename_i hh o';split at h
   ·rename_i i hi;split at h
    ·rename_i hb;simp only[af] at hb;cases h;have e1:=ab hb.1;have e2:=ab hb.2;subst e1;subst e2;refine⟨rfl,?_⟩;show bR H _ (.loc hh o')=some (.loc (1000+i) o');simp only[bR,hi]
    ·cases h
   ·cases h
  ·cases h
 | .ba f l,v,xs,h,r=>by
  simp only[lW] at h;split at h
  ·rename_i f' vs;split at h
   ·rename_i hb;have e:=ab hb;subst e;obtain⟨i1,i2⟩:=iZ hln h r;refine⟨i1,?_⟩;show(bR.go H _ (TV.er.go s.ln vs)).map (G.ba f')=_;rw[i2];rfl
   ·cases h
  ·cases h
 | .agg l,v,xs,h,r=>by
  simp only[lW] at h;split at h
  ·rename_i vs;obtain⟨i1,i2⟩:=iZ hln h r;refine⟨i1,?_⟩;show(bR.go H _ (TV.er.go s.ln vs)).map G.agg=_;rw[i2];rfl
  ·cases h
 | .cW k,v,xs,h,r=>by
  simp only[lW] at h;split at h
  ·rename_i hh;split at h
   ·rename_i i hi;split at h
    ·rename_i hb;cases h;have:=ab hb;subst this;refine⟨rfl,?_⟩;show bR H _ (.cW hh)=some (.cW (1000+i));simp only[bR,hi]
    ·cases h
   ·cases h
  ·cases h
 | .mp k,v,xs,h,r=>by
  simp only[lW] at h;split at h
  ·rename_i hh;split at h
   ·rename_i i hi;split at h
    ·rename_i hb;cases h;have:=ab hb;subst this;refine⟨rfl,?_⟩;show bR H _ (.eN hh)=some (.eN (1000+i));simp only[bR,hi]
    ·cases h
   ·cases h
  ·cases h
 | .any,v,xs,h,r=>by simp[lW] at h
 | .dX k,v,xs,h,r=>by
  simp only[lW] at h;split at h
  ·rename_i hh;split at h
   ·rename_i i hi;split at h
    ·rename_i hb;cases h;have e1:=ab hb;subst e1;refine⟨rfl,?_⟩;show bR H _ (.eN hh)=some (.eN (1000+i));simp only[bR,hi]
    ·cases h
   ·cases h
  ·rename_i b hh;split at h
   ·rename_i i hi;split at h
    ·rename_i hb;cases h;have e1:=ab hb;subst e1;refine⟨rfl,?_⟩;cases b with
     | true=>rfl
     | false=>
      show bR H _ (.eN hh)=some (.eN (1000+i));simp only[bR,hi]
    ·cases h
   ·cases h
  ·cases h
 | .gw k o,v,xs,h,r=>by
  simp only[lW] at h;split at h
  ·rename_i hh o';split at h
   ·rename_i i hi;split at h
    ·rename_i hb;rw[af] at hb;cases h;have e1:=ab hb.1;have e2:=ab hb.2;subst e1;subst e2;refine⟨rfl,?_⟩;show bR H _ (.loc hh o')=some (.loc (1000+i) o');simp only[bR,hi]
    ·cases h
   ·cases h
  ·cases h;exact⟨rfl,rfl⟩
  ·rename_i b hh o';split at h
   ·rename_i i hi;split at h
    ·rename_i hb;rw[af] at hb;cases h;have e1:=ab hb.1;have e2:=ab hb.2;subst e1;subst e2;refine⟨rfl,?_⟩;cases b with
     | true=>rfl
     | false=>
      show bR H _ (.loc hh o')=some (.loc (1000+i) o');simp only[bR,hi]
    ·cases h
   ·cases h
  ·cases h
 | .nD,v,xs,h,r=>by
  simp only[lW] at h;split at h
  ·cases h;exact⟨rfl,rfl⟩
  ·cases h
 | .ks k τ,v,xs,h,r=>by
  simp only[lW] at h;split at h
  ·rename_i hh τ' o n;split at h
   ·rename_i i hi;split at h
    ·rename_i hb;split at h
     ·rename_i e _;cases h;subst e;have:=ab hb;subst this;refine⟨rfl,?_⟩;show bR H _ (.ks hh o (S.sz τ') n)=some (.ks (1000+i) o (S.sz τ') n);simp only[bR,hi]
     ·cases h
    ·cases h
   ·cases h
  ·cases h
 | .sub k τ,v,xs,h,r=>by
  simp only[lW] at h;split at h
  ·rename_i hh τ' o n;split at h
   ·rename_i i hi;split at h
    ·rename_i hb;split at h
     ·rename_i e _;cases h;subst e;have:=ab hb;subst this;refine⟨rfl,?_⟩;show bR H _ (.aL hh (S.sz τ') (o*S.sz τ') n)=some (.aL (1000+i) (S.sz τ') (o*S.sz τ') n);simp only[bR,hi]
     ·cases h
    ·cases h
   ·cases h
  ·cases h
theorem iZ {s:ae S}{vw:Bool}{H:List Nat}{lnC:Nat→Nat}(hln:∀i h,dD H h=some i→lnC (1000+i)=s.ln h):∀{l:List Sh}{vs:List (TV S)}{xs:List (bn S.α)},kS s vw H l vs=some xs→∀r,(dh l (xs++r)).2=r∧bR.go H (ft s.er.st H vw) (TV.er.go s.ln vs)=some (TV.er.go lnC (dh l (xs++r)).1)
 | [],[],xs,h,r=>by simp only[kS] at h;cases h;exact⟨rfl,rfl⟩
 | x::l,v::vs,xs,h,r=>by
  simp only[kS] at h;split at h
  ·rename_i a ha;split at h
   ·rename_i l' hl;cases h;rw[aR];obtain⟨i1,i2⟩:=UL hln ha (l'++r);obtain⟨j1,j2⟩:=iZ hln hl r;simp only[dh];rw[i1];refine⟨j1,?_⟩;simp only[TV.er.go,bR.go,i2,j2]
   ·cases h
  ·cases h
 | [],_::_,_,h,_=>by simp[kS] at h
 | _::_,[],_,h,_=>by simp[kS] at h
end
def Mi (s:ae S) (vw:Bool) (H:List Nat) (oh:Oh) (o:TO S):Option (List (bn S.α)):=
 match oh with
 | .arr e m f τ=>match o with
  | .arr e' _ _ τ' l=>match Nat.beq e' e&&(!m&&!f) with
   | true=>match jv (.list τ') (.list τ) l with
    | some l=>some [⟨.list τ,l⟩]
    | none=>none
   | false=>none
  | _=>none
 | .box e m cs=>match o with
  | .box e' _ vs=>match Nat.beq e' e&&!m with
   | true=>kS s vw H cs vs
   | false=>none
  | _=>none
 | .deep e m f dk τ=>match o with
  | .deep e' _ _ dk' τ' a=>match Nat.beq e' e&&(!m&&!f) with
   | true=>match decEq dk' dk with
    | isTrue _=>match jv τ' τ a with
     | some a=>some [⟨τ,a⟩]
     | none=>none
    | isFalse _=>none
   | false=>none
  | _=>none
 | .lp key lv cs=>match o with
  | .lp key' n vs=>match Nat.beq key' key with
   | true=>match lv with
    | true=>match kS s vw H cs vs with
     | some xs=>some (⟨.int .i64,n⟩::xs)
     | none=>none
    | false=>match decEq n 0 with
     | isTrue _=>kS s vw H cs vs
     | isFalse _=>none
   | false=>none
  | _=>none
def pD (s:ae S) (vw:Bool) (H:List Nat):List Nat→List Oh→Option (List (bn S.α))
 | [],[]=>some []
 | h::hs,oh::r=>match aA s.bl h with
  | some o=>match Mi s vw H oh o with
   | some a=>match pD s vw H hs r with
    | some l=>some (a++l)
    | none=>none
   | none=>none
  | none=>none
 | _,_=>none
theorem NP {s:ae S}{vw:Bool}{H:List Nat}{oh:Oh}{o:TO S}{xs:List (bn S.α)}(h:Mi s vw H oh o=some xs) (r:List (bn S.α)):(nl oh (xs++r)).2=r∧(nl oh (xs++r)).1.len=o.len∧
  ∀lnC:Nat→Nat,(∀i h,dD H h=some i→lnC (1000+i)=s.ln h)→sj H (ft s.er.st H vw) (o.er s.ln)=some ((nl oh (xs++r)).1.er lnC):=by
 unfold Mi at h;split at h
 ·split at h
  ·split at h
   ·rename_i hc;simp only[af,aS] at hc;obtain⟨c1,c2,c3⟩:=hc;split at h
    ·rename_i l' hl;cases h;obtain⟨e,hl⟩:=sF hl;subst e;cases hl;have c1:=ab c1;subst c1;subst c2;subst c3;exact⟨rfl,rfl,fun _ _=>rfl⟩
    ·cases h
   ·cases h
  ·cases h
 ·split at h
  ·split at h
   ·rename_i hc;simp only[af,aS] at hc;have c1:=ab hc.1;have c2:=hc.2;subst c1;subst c2;have i1:(dh _ (xs++r)).2=r:=(iZ (lnC:=fun k=>s.ln ((H[k-1000]?).getD 0)) (fun i h hi=>by simp[eY hi]) h r).1;refine⟨i1,rfl,fun lnC hln=>?_⟩;obtain⟨_,i2⟩:=iZ hln h r;simp only[sj,TO.er,cond_false,i2,nl]
   ·cases h
  ·cases h
 ·split at h
  ·split at h
   ·rename_i hc;simp only[af,aS] at hc;obtain⟨c1,c2,c3⟩:=hc;split at h
    ·rename_i e _;subst e;split at h
     ·rename_i l' hl;cases h;have:=eW hl;cases this;have c1:=ab c1;subst c1;subst c2;subst c3;exact⟨rfl,rfl,fun _ _=>rfl⟩
     ·cases h
    ·cases h
   ·cases h
  ·cases h
 ·split at h
  ·split at h
   ·rename_i hc;have c1:=ab hc;subst c1;split at h
    ·split at h
     ·rename_i xs' hx;cases h;have i1:(dh _ (xs'++r)).2=r:=(iZ (lnC:=fun k=>s.ln ((H[k-1000]?).getD 0)) (fun i h hi=>by simp[eY hi]) hx r).1;refine⟨i1,rfl,fun lnC hln=>?_⟩;obtain⟨_,i2⟩:=iZ hln hx r;simp only[sj,TO.er,cond_false,i2,nl];rfl
     ·cases h
    ·split at h
     ·rename_i hn _;subst hn;have i1:(dh _ (xs++r)).2=r:=(iZ (lnC:=fun k=>s.ln ((H[k-1000]?).getD 0)) (fun i h hi=>by simp[eY hi]) h r).1;refine⟨i1,rfl,fun lnC hln=>?_⟩;obtain⟨_,i2⟩:=iZ hln h r;simp only[sj,TO.er,cond_false,i2,nl]
     ·cases h
   ·cases h
  ·cases h
theorem B6 {s:ae S}{vw:Bool}{H:List Nat}:∀{hs:List Nat}{l:List Oh}{xs:List (bn S.α)}(i:Nat),pD s vw H hs l=some xs→∀r,(cg (oN l (1000+i)) (xs++r)).2=r∧
  (∀n h,hs[n]?=some h→cp (cg (oN l (1000+i)) (xs++r)).1 (1000+(i+n))=s.ln h)∧
  ∀lnC:Nat→Nat,(∀i h,dD H h=some i→lnC (1000+i)=s.ln h)→gz H (ft s.er.st H vw) s.er.st hs i=some (bT lnC (cg (oN l (1000+i)) (xs++r)).1)
 | [],[],xs,i,h,r=>by simp only[pD] at h;cases h;exact⟨rfl,fun n h hn=>by simp at hn,fun _ _=>rfl⟩
 | h0::hs,oh::l,xs,i,h,r=>by
  simp only[pD] at h;split at h
  ·rename_i o ho;split at h
   ·rename_i a ha;split at h
    ·rename_i l' hl;cases h;rw[aR];obtain⟨i1,i2,i3⟩:=NP ha (l'++r);obtain⟨j1,j2,j3⟩:=B6 (i+1) hl r;simp only[oN,cg];rw[i1];refine⟨j1,fun n h hn=>?_,fun lnC hln=>?_⟩
     ·cases n with
      | zero=>
       cases hn;unfold cp ae.ln cp;simp only[fZ,aA,aW,cond_true,ho,i2]
      | succ n=>
       have:=j2 n h (by simpa using hn);rw[←this];have e:1000+(i+(n+1))=1000+(i+1+n):=by omega
       rw[e];unfold cp;rw[kx _ _ (by omega)];rfl
     ·simp only[gz,eB ho,i3 lnC hln,bT];have:=j3 lnC hln;rw[show 1000+(i+1)=1000+i+1 by omega] at this;rw[this]
    ·cases h
   ·cases h
  ·cases h
 | [],_::_,_,_,h,_=>by simp[pD] at h
 | _::_,[],_,_,h,_=>by simp[pD] at h
def TV.mw (vw:Bool) (f:Nat→Option Nat):TV S→Option (TV S)
 | .aD b τ a=>match !vw||(b||τ.iR) with
  | true=>some (.aD b τ a)
  | false=>none
 | .ptr b τ a=>match !vw||b with
  | true=>some (.ptr b τ a)
  | false=>none
 | .loc h o=>match f h with
  | some h'=>some (.loc h' o)
  | none=>none
 | .aL h τ=>match f h with
  | some h'=>some (.aL h' τ)
  | none=>none
 | .sub h τ o n=>match f h with
  | some h'=>some (.sub h' τ o n)
  | none=>none
 | .iK h τ a j=>match f h with
  | some h'=>some (.iK h' τ a j)
  | none=>none
 | .agg l=>match go f l with
  | some l'=>some (.agg l')
  | none=>none
 | .bB l=>match go f l with
  | some l'=>some (.bB l')
  | none=>none
 | .ba g l=>match go f l with
  | some l'=>some (.ba g l')
  | none=>none
 | .val u=>some (.val u)
 | .any=>some .any
 | .cW h=>match f h with
  | some h'=>some (.cW h')
  | none=>none
 | .mp h=>match f h with
  | some h'=>some (.mp h')
  | none=>none
 | .ks h τ i n=>match f h with
  | some h'=>some (.ks h' τ i n)
  | none=>none
 | .kp h τ i j=>match f h with
  | some h'=>some (.kp h' τ i j)
  | none=>none
 | .iF b h τ i j=>match f h with
  | some h'=>some (.iF b h' τ i j)
  | none=>none
 | .gw b h o=>match f h with
  | some h'=>some (.gw b h' o)
  | none=>none
 | .dX b h=>match f h with
  | some h'=>some (.dX b h')
  | none=>none
where go (f:Nat→Option Nat):List (TV S)→Option (List (TV S))
 | []=>some []
 | x::r=>match x.mw vw f with
  | some y=>match go f r with
   | some ys=>some (y::ys)
   | none=>none
  | none=>none
theorem Lx (vw:Bool) (fm:Nat→Option Nat) (f:Bool){τ:Ty}(h:τ.gm=false) (hv:(!vw||(f||τ.iR))=true) (a:S.D τ):ez vw fm (dY f (dI S τ a))=some (dY f (dI S τ a)):=by
 cases τ with
 | st n=>cases h
 | list t=>
  cases f with
  | true=>rfl
  | false=>
   cases vw with
   | true=>cases hv
   | false=>rfl
 | pt n=>
  cases f with
  | true=>cases a <;> rfl
  | false=>
   cases vw with
   | true=>cases hv
   | false=>cases a <;> rfl
 | _=>cases f <;> rfl
mutual
theorem RX {vw:Bool}{f:Nat→Option Nat}{ln ln':Nat→Nat}(hln:∀k k',f k=some k'→ln' k'=ln k):∀(v v':TV S),v.mw vw f=some v'→ez vw f (v.er ln)=some (v'.er ln')
 | .aD b τ a,v',h=>by
  simp only[TV.mw] at h;split at h
  ·rename_i hv;cases h;cases τ with
   | st n=>
    show(ez.go vw f ((aX S (.st n) a).map (dY b))).map G.agg=some (.agg ((aX S (.st n) a).map (dY b)));have hv:(!vw||b)=true:=by simpa[Ty.iR] using hv
    have:ez.go vw f ((aX S (.st n) a).map (dY b))=some ((aX S (.st n) a).map (dY b)):=by
     rw[ib];have h:=lu n a;generalize S.cells n a=l at h
     induction l with
     | nil=>rfl
     | cons x r ih=>
      simp only[bc,ez.go];rw[Lx vw f b (h x ar) (by rw[←Bool.or_assoc,hv];rfl) x.a,ih fun y hy=>h y (ap _ hy)]
    rw[this];rfl
   | _=>exact Lx vw f b rfl hv a
  ·cases h
 | .ptr b τ a,v',h=>by
  simp only[TV.mw] at h;split at h
  ·rename_i hv;cases h;cases b with
   | true=>rfl
   | false=>
    cases vw with
    | true=>cases hv
    | false=>rfl
  ·cases h
 | .loc hh o,v',h=>by
  simp only[TV.mw] at h;split at h
  ·rename_i i hi;cases h;simp only[TV.er,ez,hi,cd]
  ·cases h
 | .aL hh τ,v',h=>by
  simp only[TV.mw] at h;split at h
  ·rename_i i hi;cases h;simp only[TV.er,ez,hi,cd,hln hh i hi]
  ·cases h
 | .sub hh τ o n,v',h=>by
  simp only[TV.mw] at h;split at h
  ·rename_i i hi;cases h;simp only[TV.er,ez,hi,cd]
  ·cases h
 | .iK hh τ a j,v',h=>by
  simp only[TV.mw] at h;split at h
  ·rename_i i hi;cases h;simp only[TV.er,ez,hi,cd]
  ·cases h
 | .agg l,v',h=>by
  simp only[TV.mw] at h;split at h
  ·rename_i l' hl;cases h;simp only[TV.er,ez,vI hln l l' hl,cd]
  ·cases h
 | .bB l,v',h=>by
  simp only[TV.mw] at h;split at h
  ·rename_i l' hl;cases h;simp only[TV.er,ez,vI hln l l' hl,cd]
  ·cases h
 | .ba g l,v',h=>by
  simp only[TV.mw] at h;split at h
  ·rename_i l' hl;cases h;simp only[TV.er,ez,vI hln l l' hl,cd]
  ·cases h
 | .val u,v',h=>by simp only[TV.mw] at h;cases h;rfl
 | .any,v',h=>by simp only[TV.mw] at h;cases h;rfl
 | .cW hh,v',h=>by
  simp only[TV.mw] at h;split at h
  ·rename_i i hi;cases h;simp only[TV.er,ez,hi,cd]
  ·cases h
 | .mp hh,v',h=>by
  simp only[TV.mw] at h;split at h
  ·rename_i i hi;cases h;simp only[TV.er,ez,hi,cd]
  ·cases h
 | .ks hh _ _ _,v',h=>by
  simp only[TV.mw] at h;split at h
  ·rename_i i hi;cases h;simp only[TV.er,ez,hi,cd]
  ·cases h
 | .kp hh _ _ _,v',h=>by
  simp only[TV.mw] at h;split at h
  ·rename_i i hi;cases h;simp only[TV.er,ez,hi,cd]
  ·cases h
 | .iF b hh _ _ _,v',h=>by
  simp only[TV.mw] at h;split at h
  ·rename_i i hi;cases h;cases b with
   | true=>rfl
   | false=>simp only[TV.er,cond_false,ez,hi,cd]
  ·cases h
 | .dX b hh,v',h=>by
  simp only[TV.mw] at h;split at h
  ·rename_i i hi;cases h;cases b with
   | true=>rfl
   | false=>simp only[TV.er,cond_false,ez,hi,cd]
  ·cases h
 | .gw b hh _,v',h=>by
  simp only[TV.mw] at h;split at h
  ·rename_i i hi;cases h;cases b with
   | true=>rfl
   | false=>simp only[TV.er,cond_false,ez,hi,cd]
  ·cases h
theorem vI {vw:Bool}{f:Nat→Option Nat}{ln ln':Nat→Nat}(hln:∀k k',f k=some k'→ln' k'=ln k):∀(l l':List (TV S)),TV.mw.go vw f l=some l'→ez.go vw f (TV.er.go ln l)=some (TV.er.go ln' l')
 | [],l',h=>by cases h;rfl
 | x::r,l',h=>by
  simp only[TV.mw.go] at h;split at h
  ·rename_i y hy;split at h
   ·rename_i ys hys;cases h;simp only[TV.er.go,ez.go,RX hln x y hy,vI hln r ys hys]
   ·cases h
  ·cases h
end
end
end Go.DN
/-
 DN,part X:what comes back of a call to which objects were lent.
-/
namespace Go.DN
open Go.AM
section
variable {S:eI}
def oY (vw:Bool) (f:Nat→Option Nat) (A:Bool) (gst:List (Nat×av)):List (Nat×TO S)→List Nat→Option (List (Nat×TO S))
 | [],[]=>some []
 | (j,o)::r,h::hs=>match o with
  | .box e m cs=>match TV.mw.go vw f cs with
   | some cs'=>match oY vw f A gst r hs with
    | some r'=>some ((h,.box e (bif pinned j then B4 gst h else m||A) cs')::r')
    | none=>none
   | none=>none
  | .arr e m b τ l=>match !vw||b with
   | true=>match oY vw f A gst r hs with
    | some r'=>some ((h,.arr e (bif pinned j then B4 gst h else m||A) b τ l)::r')
    | none=>none
   | false=>none
  | .lp key n cs=>match TV.mw.go vw f cs with
   | some cs'=>match oY vw f A gst r hs with
    | some r'=>some ((h,.lp key n cs')::r')
    | none=>none
   | none=>none
  | .deep e m b dk τ l=>match !vw||b with
   | true=>match oY vw f A gst r hs with
    | some r'=>some ((h,.deep e (bif pinned j then B4 gst h else m||A) b dk τ l)::r')
    | none=>none
   | false=>none
 | _,_=>none
theorem tJ {vw:Bool}{f:Nat→Option Nat}{ln ln':Nat→Nat}(hln:∀k k',f k=some k'→ln' k'=ln k){A:Bool}{gst:List (Nat×av)}:∀{outs:List (Nat×TO S)}{bk:List Nat}{sb:List (Nat×TO S)},oY vw f A gst outs bk=some sb→lK vw f A gst (bT ln outs) bk=some (bT ln' sb)
 | [],[],sb,h=>by cases h;rfl
 | (j,o)::r,h0::hs,sb,h=>by
  simp only[oY] at h;cases o with
  | lp p n cs=>
   dsimp only at h;split at h
   ·rename_i cs' hcs;split at h
    ·rename_i r' hr;cases h;simp only[bT,lK,tJ hln hr,TO.er];simp only[vV,cond_false,vI hln cs cs' hcs,pz,sq,cond_true]
    ·cases h
   ·cases h
  | arr e m b τ l=>
   dsimp only at h;split at h
   ·rename_i hv;split at h
    ·rename_i r' hr;cases h;simp only[bT,lK,tJ hln hr,TO.er];have hv:(vw&&!b)=false:=by cases vw <;> cases b <;> first | rfl | cases hv
     simp only[vV,cond_true,hv,cond_false,pz,sq];cases pinned j <;> rfl
    ·cases h
   ·cases h
  | deep e m b dk τ l=>
   dsimp only at h;split at h
   ·rename_i hv;split at h
    ·rename_i r' hr;cases h;simp only[bT,lK,tJ hln hr,TO.er];have hv:(vw&&!b)=false:=by cases vw <;> cases b <;> first | rfl | cases hv
     simp only[vV,cond_true,hv,cond_false,pz,sq];cases pinned j <;> rfl
    ·cases h
   ·cases h
  | box e m cs=>
   dsimp only at h;split at h
   ·rename_i cs' hcs;split at h
    ·rename_i r' hr;cases h;simp only[bT,lK,tJ hln hr,TO.er];simp only[vV,cond_false,vI hln cs cs' hcs,pz,sq,cond_true];cases pinned j <;> rfl
    ·cases h
   ·cases h
 | [],_::_,_,h=>by cases h
 | _::_,[],_,h=>by cases h
theorem CQ {vw:Bool}{f:Nat→Option Nat}{A:Bool}{gst:List (Nat×av)}{ln:Nat→Nat}:∀{outs:List (Nat×TO S)}{bk:List Nat}{sb:List (Nat×TO S)},oY vw f A gst outs bk=some sb→qg bk=true→
  ∀k k',kj (bT ln outs) bk k=some k'→k'∈bk∧∃o o',aA outs k=some o∧aA sb k'=some o'∧o'.len=o.len
 | [],[],sb,h,_,k,k',hk=>by cases hk
 | (j,o)::r,h0::hs,sb,h,hn,k,k',hk=>by
  simp only[qg,af,aS] at hn;have hsb:∃o' r',sb=(h0,o')::r'∧o'.len=o.len∧oY vw f A gst r hs=some r':=by
   simp only[oY] at h;cases o with
   | lp p n cs=>
    dsimp only at h;split at h
    ·split at h
     ·rename_i r' hr;cases h;exact⟨_,_,rfl,rfl,hr⟩
     ·cases h
    ·cases h
   | arr e m b τ l=>
    dsimp only at h;split at h
    ·split at h
     ·rename_i r' hr;cases h;exact⟨_,_,rfl,rfl,hr⟩
     ·cases h
    ·cases h
   | deep e m b dk τ l=>
    dsimp only at h;split at h
    ·split at h
     ·rename_i r' hr;cases h;exact⟨_,_,rfl,rfl,hr⟩
     ·cases h
    ·cases h
   | box e m cs=>
    dsimp only at h;split at h
    ·split at h
     ·rename_i r' hr;cases h;exact⟨_,_,rfl,rfl,hr⟩
     ·cases h
    ·cases h
  obtain⟨o',r',rfl,hlen,hr⟩:=hsb;simp only[bT,kj] at hk;cases hb:Nat.beq j k with
  | true=>
   rw[hb] at hk;cases hk;have:=ab hb;subst this;exact⟨ar,o,o',by simp only[aA,aW,cond_true],by simp only[aA,aW,cond_true],hlen⟩
  | false=>
   rw[hb] at hk;obtain⟨i1,a,b,i2,i3,i4⟩:=CQ (ln:=ln) hr hn.2 k k' hk;refine⟨ap _ i1,a,b,by simp only[aA,hb,cond_false];exact i2,?_,i4⟩;have hne:Nat.beq h0 k'=false:=by
    cases hq:Nat.beq h0 k' with
    | false=>rfl
    | true=>
     have:=ab hq;subst this;have h2:=hn.1;rw[gH.2 i1] at h2;cases h2
   simp only[aA,hne,cond_false];exact i3
 | [],_::_,_,h,_,_,_,_=>by cases h
 | _::_,[],_,h,_,_,_,_=>by cases h
end
end Go.DN
/-
 DN,part Y:a call to which objects are lent:the caller's state behind it.
-/
namespace Go.DN
open Go.AM
section
variable {S:eI}
mutual
def ZH:Sh→TV S→List (Nat×Nat)
 | .own r _,v=>match v with
  | .aL h _=>[(r,h)]
  | _=>[]
 | .loc r _,v=>match v with
  | .loc h _=>[(r,h)]
  | _=>[]
 | .ba _ l,v=>match v with
  | .ba _ vs=>vg l vs
  | _=>[]
 | .agg l,v=>match v with
  | .agg vs=>vg l vs
  | _=>[]
 | .cW r,v=>match v with
  | .cW h=>[(r,h)]
  | _=>[]
 | .mp r,v=>match v with
  | .mp h=>[(r,h)]
  | _=>[]
 | .gw r _,v=>match v with
  | .loc h _=>[(r,h)]
  | .gw _ h _=>[(r,h)]
  | _=>[]
 | .dX r,v=>match v with
  | .mp h=>[(r,h)]
  | .dX _ h=>[(r,h)]
  | _=>[]
 | .ks r _,v=>match v with
  | .ks h _ _ _=>[(r,h)]
  | _=>[]
 | .sub r _,v=>match v with
  | .sub h _ _ _=>[(r,h)]
  | _=>[]
 | _,_=>[]
def vg:List Sh→List (TV S)→List (Nat×Nat)
 | x::r,v::vs=>ZH x v++vg r vs
 | _,_=>[]
end
def look:List (Nat×Nat)→Nat→Option Nat
 | [],_=>none
 | (k,h)::r,j=>bif Nat.beq k j then some h else look r j
def BR (st:List (Nat×TO S)):List Oh→Nat→List (Nat×Nat)→Option (List Nat)
 | [],_,_=>some []
 | oh::r,j,ps=>match look ps j with
  | some h=>match BR st r (j+1) (match oh with
    | .box _ _ cs=>match aA st h with
     | some (.box _ _ vs)=>ps++vg cs vs
     | _=>ps
    | .lp _ _ cs=>match aA st h with
     | some (.lp _ _ vs)=>ps++vg cs vs
     | _=>ps
    | _=>ps) with
   | some hs=>some (h::hs)
   | none=>none
  | none=>none
def Yr (s:ae S) (used:List Nat):Nat→Nat→Nat
 | k,0=>k
 | k,n+1=>bif s.free k&&!(bA k used) then k else Yr s used (k+1) n
def Z4 (H:List Nat) (j:Nat) (used:List Nat) (h:Nat):Nat:=match Nat.ble 480 j with
 | true=>match H[j-480]? with
  | some h'=>bif Nat.blt h' 1000&&!(bA h' used) then h' else h
  | none=>h
 | false=>h
def Tw (s:ae S) (H:List Nat) (d:Nat):List Nat→List Nat→Option (List Nat)
 | [],_=>some []
 | j::r,used=>match pinned j with
  | true=>match H[j-1000]? with
   | some h=>match Tw s H d r (h::used) with
    | some hs=>some (h::hs)
    | none=>none
   | none=>none
  | false=>match Z4 H j used (bif s.free d&&!(bA d used) then d else Yr s used s.nx 8) with
   | h=>match Tw s H d r (h::used) with
    | some hs=>some (h::hs)
    | none=>none
def xG (s:ae S) (H:List Nat):List Nat→List Nat→Bool
 | [],[]=>true
 | j::r,h::hs=>!(bA j r)&&(!(bA h hs)&&((bif pinned j then Wm H (j-1000) h else Nat.blt h 1000&&((dD H h).isSome||s.free h))&&xG s H r hs))
 | _,_=>false
theorem zY {ln:Nat→Nat}{j:Nat}:∀l:List (Nat×TO S),iy (bT ln l) j=bA j (aE l)
 | []=>rfl
 | (k,o)::r=>by
  simp only[bT,iy,aE,bA,zY r];cases Nat.beq k j <;> rfl
theorem uR {h:Nat}{l:List Nat}:l.contains h=bA h l:=by
 cases hb:bA h l with
 | true=>exact gH.2 (bQ.1 hb)
 | false=>
  cases hc:l.contains h with
  | false=>rfl
  | true=>rw[bQ.2 (gH.1 hc)] at hb;cases hb
theorem Fw {s:ae S}{H:List Nat}{ln:Nat→Nat}:∀{O:List (Nat×TO S)}{bk:List Nat},xG s H (aE O) bk=true→qp s.er H (bT ln O) bk=true∧qg bk=true
 | [],[],_=>⟨rfl,rfl⟩
 | (j,o)::r,h::hs,e=>by
  simp only[aE,xG,af,aS] at e;obtain⟨e1,e2,e3,e4⟩:=e;obtain⟨i1,i2⟩:=Fw (ln:=ln) e4;refine⟨?_,?_⟩
  ·simp only[bT,qp,zY,uR,e1,e2,i1,jn,jZ,qu];cases hp:pinned j with
   | true=>rw[hp] at e3;exact e3
   | false=>
    rw[hp] at e3;simp only[cond_false,af,eK] at e3⊢;exact⟨e3.1,e3.2.imp id gu⟩
  ·simp only[qg,uR,e2,i2,jn,jZ]
 | [],_::_,e=>by cases e
 | _::_,[],e=>by cases e
theorem CO {s:ae S}{H:List Nat}:∀{js bk:List Nat},xG s H js bk=true→∀k,k∈bk→k∈H∨s.free k=true
 | [],[],_,k,hk=>by cases hk
 | j::r,h::hs,e,k,hk=>by
  simp only[xG,af] at e;obtain⟨_,_,e3,e4⟩:=e;rcases bf.1 hk with rfl | hk
  ·cases hp:pinned j with
   | true=>rw[hp] at e3;exact .inl (aj (SQ e3))
   | false=>
    rw[hp] at e3;simp only[cond_false,af,eK] at e3;rcases e3.2 with h | h
    ·obtain⟨i,hi⟩:=Option.isSome_iff_exists.1 h;exact .inl (aj (eY hi))
    ·exact .inr h
  ·exact CO e4 k hk
 | [],_::_,e,_,_=>by cases e
 | _::_,[],e,_,_=>by cases e
def cY (js:List Nat):List Nat→Nat→List Nat
 | [],_=>[]
 | h::r,i=>bif bA (1000+i) js then cY js r (i+1) else h::cY js r (i+1)
theorem Ar {ln:Nat→Nat}{O:List (Nat×TO S)}:∀(H:List Nat) (i:Nat),eM (bT ln O) H i=cY (aE O) H i
 | [],_=>rfl
 | h::r,i=>by simp only[eM,cY,zY,Ar r (i+1)]
def wM:List Nat→TV S→Bool
 | [],_=>false
 | h::r,v=>v.has h||wM r v
theorem CR (ln:Nat→Nat) (v:TV S):∀ds:List Nat,rk ds (v.er ln)=wM ds v
 | []=>rfl
 | h::r=>by simp only[rk,wM,yR,CR ln v r]
def sD (ds:List Nat):List (Nat×TV S)→List (Nat×TV S)
 | []=>[]
 | (t,v)::r=>(t,bif wM ds v then .any else v)::sD ds r
def oC (ds:List Nat):List (TV S)→Bool
 | []=>true
 | v::r=>!(wM ds v)&&oC ds r
def Cv (ds:List Nat):List (Nat×TV S)→Bool
 | []=>true
 | (_,v)::r=>!(wM ds v)&&Cv ds r
def oB (ds:List Nat):List (Nat×TO S)→Bool
 | []=>true
 | (_,.box _ _ cs)::r=>oC ds cs&&oB ds r
 | (_,.arr ..)::r=>oB ds r
 | (_,.deep ..)::r=>oB ds r
 | (_,.lp _ _ cs)::r=>oC ds cs&&oB ds r
def pR (ds:List Nat):List (Nat×TO S)→Bool
 | []=>true
 | (_,.box _ _ _)::r=>pR ds r
 | (_,.arr ..)::r=>pR ds r
 | (_,.deep ..)::r=>pR ds r
 | (_,.lp _ _ cs)::r=>oC ds cs&&pR ds r
def M8 (ds:List Nat) (a b:List (Nat×TO S)):Bool:=pR ds a&&oB ds b
def KO (ds:List Nat):List (TV S)→List (TV S)
 | []=>[]
 | v::r=>(bif wM ds v then .any else v)::KO ds r
def wA (ds:List Nat):TO S→TO S
 | .box e m cs=>.box e m (KO ds cs)
 | o=>o
def oe (ds:List Nat):List (Nat×TO S)→List (Nat×TO S)
 | []=>[]
 | (h,o)::r=>(h,wA ds o)::oe ds r
def kN (H:List Nat):List (Nat×TO S)→List (Nat×TO S)
 | []=>[]
 | (h,o)::r=>match dD H h with
  | some _=>kN H r
  | none=>(h,o)::kN H r
def pC (s:ae S) (sb:List (Nat×TO S)){A:Type}:List Nat→Option A→Option A
 | [],k=>k
 | h::r,k=>match aA sb h with
  | none=>pC s sb r k
  | some o'=>match aA s.bl h with
   | some (.arr _ _ _ τ l)=>match o' with
    | .arr _ _ _ τ' l'=>bif Nat.beq (List.length l') (List.length l) then pC s sb r k else none
    | _=>none
   | some (.box _ _ _)=>match o' with
    | .box _ _ _=>pC s sb r k
    | _=>none
   | some (.lp _ _ _)=>match o' with
    | .lp _ _ _=>pC s sb r k
    | _=>none
   | some (.deep _ _ _ _ τ l)=>match o' with
    | .deep _ _ _ _ τ' l'=>bif Nat.beq (xN τ' l') (xN τ l) then pC s sb r k else none
    | _=>none
   | _=>none
theorem pB {s:ae S}{sb:List (Nat×TO S)}{A:Type}{k:Option A}{r:A}:∀{H:List Nat},pC s sb H k=some r→k=some r∧∀h,h∈H→∀o',aA sb h=some o'→o'.len=s.ln h
 | [],e=>⟨e,fun h hm=>by cases hm⟩
 | h0::hs,e=>by
  simp only[pC] at e;split at e
  ·rename_i hn;obtain⟨i1,i2⟩:=pB e;refine⟨i1,fun h hm o' ho=>?_⟩;rcases bf.1 hm with rfl | hm
   ·rw[hn] at ho;cases ho
   ·exact i2 h hm o' ho
  ·rename_i o1 ho1;split at e
   ·rename_i a b c τ l hs1;split at e
    ·rename_i τ' l';cases hb:Nat.beq (List.length l') (List.length l) with
     | false=>rw[hb] at e;cases e
     | true=>
      rw[hb] at e;obtain⟨i1,i2⟩:=pB e;refine⟨i1,fun h hm o' ho=>?_⟩;rcases bf.1 hm with rfl | hm
      ·rw[ho1] at ho;cases ho;unfold ae.ln cp;rw[hs1];exact ab hb
      ·exact i2 h hm o' ho
    ·cases e
   ·rename_i a b c hs1;split at e
    ·obtain⟨i1,i2⟩:=pB e;refine⟨i1,fun h hm o' ho=>?_⟩;rcases bf.1 hm with rfl | hm
     ·rw[ho1] at ho;cases ho;unfold ae.ln cp;rw[hs1];rfl
     ·exact i2 h hm o' ho
    ·cases e
   ·rename_i a b c hs1;split at e
    ·obtain⟨i1,i2⟩:=pB e;refine⟨i1,fun h hm o' ho=>?_⟩;rcases bf.1 hm with rfl | hm
     ·rw[ho1] at ho;cases ho;unfold ae.ln cp;rw[hs1];rfl
     ·exact i2 h hm o' ho
    ·cases e
   ·rename_i a b c dk τ l hs1;split at e
    ·rename_i τ' l';cases hb:Nat.beq (xN τ' l') (xN τ l) with
     | false=>rw[hb] at e;cases e
     | true=>
      rw[hb] at e;obtain⟨i1,i2⟩:=pB e;refine⟨i1,fun h hm o' ho=>?_⟩;rcases bf.1 hm with rfl | hm
      ·rw[ho1] at ho;cases ho;unfold ae.ln cp;rw[hs1];exact ab hb
      ·exact i2 h hm o' ho
    ·cases e
   ·cases e
theorem s5 {vw A:Bool}{f:Nat→Option Nat}{gst:List (Nat×av)}:∀{outs:List (Nat×TO S)}{bk:List Nat}{sb:List (Nat×TO S)},oY vw f A gst outs bk=some sb→aE sb=bk
 | [],[],sb,h=>by cases h;rfl
 | (j,o)::r,h0::hs,sb,h=>by
  simp only[oY] at h;cases o with
  | lp p n cs=>
   dsimp only at h;split at h
   ·split at h
    ·rename_i r' hr;cases h;simp only[aE,s5 hr]
    ·cases h
   ·cases h
  | arr e m b τ l=>
   dsimp only at h;split at h
   ·split at h
    ·rename_i r' hr;cases h;simp only[aE,s5 hr]
    ·cases h
   ·cases h
  | deep e m b dk τ l=>
   dsimp only at h;split at h
   ·split at h
    ·rename_i r' hr;cases h;simp only[aE,s5 hr]
    ·cases h
   ·cases h
  | box e m cs=>
   dsimp only at h;split at h
   ·split at h
    ·rename_i r' hr;cases h;simp only[aE,s5 hr]
    ·cases h
   ·cases h
 | [],_::_,_,h=>by cases h
 | _::_,[],_,h=>by cases h
theorem zI {H:List Nat}{h:Nat}(hi:dD H h=none):∀{st:List (Nat×TO S)},aA (kN H st) h=aA st h
 | []=>rfl
 | (x,o)::r=>by
  simp only[kN];cases hx:dD H x with
  | some i=>
   simp only[];rw[zI hi];refine(kx o r fun e=>?_).symm;subst e;rw[hi] at hx;cases hx
  | none=>
   simp only[aA];rw[zI hi]
theorem HP {H:List Nat}{ln:Nat→Nat}:∀st:List (Nat×TO S),gd H (bT ln st)=bT ln (kN H st)
 | []=>rfl
 | (x,o)::r=>by
  simp only[bT,gd,kN];cases dD H x with
  | some i=>exact HP r
  | none=>simp only[bT,HP r]
theorem zJ {H:List Nat}:∀(a b:List (Nat×TO S)),kN H (a++b)=kN H a++kN H b
 | [],_=>rfl
 | (x,o)::r,b=>by
  simp only[bU,kN];cases dD H x with
  | some i=>exact zJ r b
  | none=>simp only[bU,zJ r b]
theorem HO {H:List Nat}:∀{l:List (Nat×TO S)},apart (aE l) H=true→kN H l=l
 | [],_=>rfl
 | (x,o)::r,e=>by
  have h1:=apart_spec e;simp only[kN];have:dD H x=none:=by
   cases hx:dD H x with
   | none=>rfl
   | some i=>exact absurd (aj (eY hx)) (h1 x (by simp[aE]))
  rw[this];simp only[];rw[HO];simp only[aE,apart] at e;split at e
  ·cases e
  ·exact e
def eE (s:ae S) (H ds:List Nat) (sb:List (Nat×TO S)) (n:Nat):ae S:={fr:=sD ds s.fr,lo:=s.lo,st:=sb++oe ds (kN H s.st),bN:=s.bN,df:=s.df,nx:=s.nx+n,last:=[]}
theorem zN {ds:List Nat}{k:Nat}:∀{l:List (Nat×TO S)},aA (oe ds l) k=(aA l k).map (wA ds)
 | []=>rfl
 | (h,o)::r=>by
  simp only[oe,aA];cases Nat.beq h k with
  | true=>rfl
  | false=>exact zN
theorem Q1 {ds:List Nat}(o:TO S):(wA ds o).len=o.len:=by cases o <;> rfl
theorem ZM {s:ae S}{H js bk ds:List Nat}{sb:List (Nat×TO S)}{n:Nat}(hb:xG s H js bk=true) (hk:aE sb=bk) (hH:apart H (aE s.bN)=true) (hl:∀h,h∈H→h∉ds→∀o',aA sb h=some o'→o'.len=s.ln h)
  (hd:∀h,h∈H→h∉ds→h∈bk) (k:Nat) (h1:k∉ds) (h2:s.free k=false∨k∈H):(eE s H ds sb n).ln k=s.ln k:=by
 unfold ae.ln;have key:∀o,aA sb k=some o→cp (sb++oe ds (kN H s.st)++s.bN) k=o.len:=by
  intro o ho;unfold cp;rw[aR,eC,ho]
 show cp (sb++oe ds (kN H s.st)++s.bN) k=cp s.bl k
 by_cases hkH:k∈H
 ·have hkb:=hd k hkH h1;rw[←hk] at hkb;obtain⟨o,ho⟩:=pw hkb;rw[key o ho];exact hl k hkH h1 o ho
 ·have hkb:k∉bk:=fun hm=>by
   rcases CO hb k hm with h | h
   ·exact hkH h
   ·rcases h2 with h2 | h2
    ·rw[h2] at h;cases h
    ·exact hkH h2
  have hi:dD H k=none:=by
   cases hx:dD H k with
   | none=>rfl
   | some i=>exact absurd (aj (eY hx)) hkH
  unfold cp;rw[aR,eC,nz (by rw[hk];exact hkb),eC,zN,zI hi];unfold ae.bl;rw[eC];cases aA s.st k with
  | none=>rfl
  | some o=>exact Q1 o
theorem AW {ds:List Nat}{v:TV S}(h:wM ds v=false):∀k,v.has k=true→k∉ds:=by
 induction ds with
 | nil=>intro k _ hm;cases hm
 | cons x r ih=>
  simp only[wM,bi] at h;intro k hk hm;rcases bf.1 hm with rfl | hm
  ·rw[h.1] at hk;cases hk
  ·exact ih h.2 k hk hm
theorem M1 {ds:List Nat}{ln ln':Nat→Nat}:∀{fr:List (Nat×TV S)},(∀k,k∉ds→gL k fr=true→ln' k=ln k)→il ln' (sD ds fr)=oA ds (il ln fr)
 | [],_=>rfl
 | (t,v)::r,h=>by
  simp only[sD,il,oA,tZ,CR];rw[M1 fun k h1 h2=>h k h1 (by simp[gL,h2])];cases ha:wM ds v with
  | true=>rfl
  | false=>
   simp only[cond_false];rw[tv v fun k hk=>h k (AW ha k hk) (by simp[gL,hk])]
theorem Cu {ds:List Nat}:∀{fr:List (Nat×TV S)},Cv ds fr=true→sD ds fr=fr
 | [],_=>rfl
 | (t,v)::r,h=>by
  simp only[Cv,af,aS] at h;simp only[sD,h.1,cond_false,Cu h.2]
theorem JS {ds:List Nat}:∀(a b:List (Nat×TV S)),sD ds (a++b)=sD ds a++sD ds b
 | [],_=>rfl
 | (t,v)::r,b=>by simp only[bU,sD,JS r b]
theorem Au {ds:List Nat}{ln ln':Nat→Nat}:∀{l:List (TV S)},oC ds l=true→(∀k,k∉ds→TV.has.go k l=true→ln' k=ln k)→TV.er.go ln' l=(TV.er.go ln l).map (tZ ds)
 | [],_,_=>rfl
 | v::r,e,h=>by
  simp only[oC,af,aS] at e;simp only[TV.er.go,bc,tZ,CR,e.1,cond_false];rw[tv (ln':=ln) v fun k hk=>h k (AW e.1 k hk) (by simp[TV.has.go,hk]),Au e.2 fun k h1 h2=>h k h1 (by simp[TV.has.go,h2])]
theorem wB {ds:List Nat}{ln ln':Nat→Nat}:∀{st:List (Nat×TO S)},oB ds st=true→(∀k,k∉ds→dE k st=true→ln' k=ln k)→bT ln' st=eD ds (bT ln st)
 | [],_,_=>rfl
 | (x,.arr e m f τ l)::r,hc,h=>by
  simp only[oB] at hc;simp only[bT,eD,TO.er,oV,cond_true];rw[wB hc fun k h1 h2=>h k h1 (by simp[dE,h2])]
 | (x,.deep e m f dk τ l)::r,hc,h=>by
  simp only[oB] at hc;simp only[bT,eD,TO.er,oV,cond_true];rw[wB hc fun k h1 h2=>h k h1 (by simp[dE,h2])]
 | (x,.box e m cs)::r,hc,h=>by
  simp only[oB,af] at hc;simp only[bT,eD,TO.er,oV,cond_false];rw[wB hc.2 fun k h1 h2=>h k h1 (by simp[dE,h2]),Au hc.1 fun k h1 h2=>h k h1 (by simp[dE,TO.has,h2])]
 | (x,.lp p n cs)::r,hc,h=>by
  simp only[oB,af] at hc;simp only[bT,eD,TO.er,oV,cond_false];rw[wB hc.2 fun k h1 h2=>h k h1 (by simp[dE,h2]),Au hc.1 fun k h1 h2=>h k h1 (by simp[dE,TO.has,h2])]
theorem JR {ds:List Nat}{ln ln':Nat→Nat}:∀{l:List (TV S)},(∀k,k∉ds→TV.has.go k l=true→ln' k=ln k)→TV.er.go ln' (KO ds l)=(TV.er.go ln l).map (tZ ds)
 | [],_=>rfl
 | v::r,h=>by
  simp only[KO,TV.er.go,bc,tZ,CR];rw[JR fun k h1 h2=>h k h1 (by simp[TV.has.go,h2])];cases ha:wM ds v with
  | true=>rfl
  | false=>
   simp only[cond_false];rw[tv v fun k hk=>h k (AW ha k hk) (by simp[TV.has.go,hk])]
theorem wz {ds:List Nat}{ln ln':Nat→Nat}:∀{st:List (Nat×TO S)},pR ds st=true→(∀k,k∉ds→dE k st=true→ln' k=ln k)→bT ln' (oe ds st)=eD ds (bT ln st)
 | [],_,_=>rfl
 | (x,.arr e m f τ l)::r,hc,h=>by
  simp only[pR] at hc;simp only[bT,oe,wA,eD,TO.er,oV,cond_true];rw[wz hc fun k h1 h2=>h k h1 (by simp[dE,h2])]
 | (x,.deep e m f dk τ l)::r,hc,h=>by
  simp only[pR] at hc;simp only[bT,oe,wA,eD,TO.er,oV,cond_true];rw[wz hc fun k h1 h2=>h k h1 (by simp[dE,h2])]
 | (x,.box e m cs)::r,hc,h=>by
  simp only[pR] at hc;simp only[bT,oe,wA,eD,TO.er,oV,cond_false];rw[wz hc fun k h1 h2=>h k h1 (by simp[dE,h2]),JR fun k h1 h2=>h k h1 (by simp[dE,TO.has,h2])]
 | (x,.lp p n cs)::r,hc,h=>by
  simp only[pR,af] at hc;simp only[bT,oe,wA,eD,TO.er,oV,cond_false];rw[wz hc.2 fun k h1 h2=>h k h1 (by simp[dE,h2]),Au hc.1 fun k h1 h2=>h k h1 (by simp[dE,TO.has,h2])]
theorem zs {H:List Nat}{k:Nat}:∀{st:List (Nat×TO S)},dE k (kN H st)=true→dE k st=true
 | [],h=>h
 | (x,o)::r,h=>by
  simp only[kN] at h;simp only[dE,eK];split at h
  ·exact .inr (zs h)
  ·simp only[dE,eK] at h;exact h.imp id zs
theorem Aj (ln:Nat→Nat):∀(a b:List (Nat×TO S)),bT ln (a++b)=bT ln a++bT ln b
 | [],_=>rfl
 | (x,o)::r,b=>by simp only[bU,bT,Aj ln r b]
theorem zt (k:Nat):∀(a b:List (Nat×TO S)),dE k (a++b)=(dE k a||dE k b)
 | [],b=>rfl
 | (_,o)::r,b=>by simp only[bU,dE,zt k r b,Bool.or_assoc]
theorem G0 {ds:List Nat}:∀(a b:List (Nat×av)),eD ds (a++b)=eD ds a++eD ds b
 | [],_=>rfl
 | (h,k)::r,b=>by simp only[bU,eD,G0 r b]
def named (s:ae S) (k:Nat):Bool:=gL k s.ca||(dE k s.bl||TV.has.go k s.df)
theorem P9 {s:ae S}{k:Nat}(h:named s k=true):s.free k=false:=by
 cases hf:s.free k with
 | false=>rfl
 | true=>
  obtain⟨_,h2,h3,h4,_⟩:=free_spec hf;unfold named at h;rw[h2,h3,h4] at h;cases h
theorem J1 {s:ae S}{H js bk ds:List Nat}{sb:List (Nat×TO S)}{n:Nat}(hb:xG s H js bk=true) (hk:aE sb=bk) (hH:apart H (aE s.bN)=true) (hl:∀h,h∈H→h∉ds→∀o',aA sb h=some o'→o'.len=s.ln h)
  (hd:∀h,h∈H→h∉ds→h∈bk) (c1:Cv ds s.lo=true) (c2:M8 ds (kN H s.st) s.bN=true) (c3:oC ds s.df=true):
  (eE s H ds sb n).er=⟨oA ds s.er.fr,bT (eE s H ds sb n).ln sb++eD ds (gd H s.er.st),s.er.df⟩:=by
 have key:∀k,k∉ds→named s k=true→(eE s H ds sb n).ln k=s.ln k:=fun k h1 h2=>ZM hb hk hH hl hd k h1 (.inl (P9 h2));have e1:il (eE s H ds sb n).ln (eE s H ds sb n).ca=oA ds s.er.fr:=by
  show il _ (sD ds s.fr++s.lo)=oA ds (il s.ln (s.fr++s.lo));rw[←Cu c1,←JS];rw[Cu c1];exact M1 fun k h1 h2=>key k h1 (by unfold named ae.ca;rw[h2];rfl)
 have hap:apart (aE s.bN) H=true:=by
  have h:=apart_spec hH;have:∀(l:List Nat),(∀x,x∈l→x∉H)→apart l H=true:=by
   intro l
   induction l with
   | nil=>intro _;rfl
   | cons x r ih=>
    intro hh;simp only[apart];cases hm:bA x H with
    | true=>exact absurd (bQ.1 hm) (hh x ar)
    | false=>exact ih fun y hy=>hh y (ap _ hy)
  exact this _ fun x hx hxH=>h x hxH hx
 have e2:bT (eE s H ds sb n).ln (eE s H ds sb n).bl=bT (eE s H ds sb n).ln sb++eD ds (gd H s.er.st):=by
  show bT _ ((sb++oe ds (kN H s.st))++s.bN)=_++eD ds (gd H (bT s.ln (s.st++s.bN)));rw[aR,Aj,HP,zJ,HO hap];congr 1;rw[Aj,Aj,G0];have c2:pR ds (kN H s.st)=true∧oB ds s.bN=true:=by simpa only[M8,af] using c2
  have go:∀k,k∉ds→dE k (kN H s.st++s.bN)=true→(eE s H ds sb n).ln k=s.ln k:=fun k h1 h2=>key k h1 (by
   have:dE k s.bl=true:=by
    refine zs (H:=H) ?_;unfold ae.bl;rw[zJ,HO hap];exact h2
   unfold named;rw[this];simp)
  rw[wz c2.1 fun k h1 h2=>go k h1 (by rw[zt,h2];rfl),wB c2.2 fun k h1 h2=>go k h1 (by rw[zt,h2,Bool.or_true])]
 have e3:TV.er.go (eE s H ds sb n).ln s.df=TV.er.go s.ln s.df:=by
  refine rE _ fun k hk=>?_;have di:∀(l:List (TV S)),oC ds l=true→TV.has.go k l=true→k∉ds:=by
   intro l
   induction l with
   | nil=>intro _ h;cases h
   | cons x r ih=>
    intro h1 h2;simp only[oC,af,aS] at h1;simp only[TV.has.go,eK] at h2;rcases h2 with h2 | h2
    ·exact AW h1.1 k h2
    ·exact ih h1.2 h2
  exact key k (di _ c3 hk) (by unfold named;rw[hk];simp)
 show St.mk _ _ _=St.mk _ _ _;rw[e1,e2];exact congrArg _ e3
end
end Go.DN
/-
 DN,part Z:calls by eV.
-/
namespace Go.DN
open Go.AM
section
variable {S:eI}
def KC (ok:Nat→Bool):List Nat→Bool
 | []=>true
 | h::r=>ok h&&KC ok r
theorem LX {ok:Nat→Bool}{W:List Nat}(hW:∀h,ok h=true→W.contains h=true):∀{H:List Nat},KC ok H=true→AZ H W=true
 | [],_=>rfl
 | h::r,e=>by
  simp only[KC,af] at e;have:=LX hW e.2;unfold AZ at this⊢;simp only[List.all_cons,this,hW h e.1,ij]
def eR (con:bz S) (r:bB S.α (JH.cX ⟨con.aw,con.outs⟩)):List (Nat×TO S):=(cg con.outs (cC con.aw (leaves _ r)).2).1
def Wx (s:ae S) (H:List Nat) (con:bz S) (r:bB S.α (JH.cX ⟨con.aw,con.outs⟩)) (bk:List Nat):Option (List (Nat×TO S)):=
 oY con.vw (kj (bT (cp (eR con r)) (eR con r)) bk) (kz s.er.st (bT (cp (eR con r)) (eR con r)) H 0) s.er.st (eR con r) bk
def Z9 (con:bz S) (r:bB S.α (JH.cX ⟨con.aw,con.outs⟩)) (bk:List Nat):Option (TV S):=
 (nT con.aw (leaves _ r)).mw con.vw (kj (bT (cp (eR con r)) (eR con r)) bk)
def tq (s:ae S) (H ds:List Nat) (js bk:List Nat):Bool:=
 xG s H js bk&&(within (minus H ds) bk&&(Cv ds s.lo&&(M8 ds (kN H s.st) s.bN&&oC ds s.df)))
where minus (H ds:List Nat):List Nat:=match H with
 | []=>[]
 | h::r=>bif bA h ds then minus r ds else h::minus r ds
theorem rB {ds:List Nat}:∀{H:List Nat}{h:Nat},h∈H→h∉ds→h∈tq.minus H ds
 | x::r,h,hm,hd=>by
  simp only[tq.minus];cases hb:bA x ds with
  | true=>
   rw[cond_true];rcases bf.1 hm with rfl | hm
   ·exact absurd (bQ.1 hb) hd
   ·exact rB hm hd
  | false=>
   rw[cond_false];rcases bf.1 hm with rfl | hm
   ·exact ar
   ·exact ap _ (rB hm hd)
def G5 (ok:Nat→Bool) (con:bz S) (s:ae S) (d:Nat) (vs:List (TV S)){A:Type}(k:ae S→Option A):Option A:=
 match BR s.bl con.aQ 1000 (vg con.args vs) with
 | some H=>match qg H&&(KC ok H&&apart H (aE s.bN)) with
  | true=>match kS s con.vw H con.args vs with
   | some xs=>match pD s con.vw H H con.aQ with
    | some ys=>match nR (kU con.args con.aQ) (xs++ys) with
     | some q=>(con.F q).bind fun r=>match Tw s H d (aE con.outs) [] with
      | some bk=>match tq s H (cY (aE con.outs) H 0) (aE con.outs) bk with
       | true=>match Wx s H con r bk with
        | some sb=>match Z9 con r bk with
         | some rv=>pC s sb (tq.minus H (cY (aE con.outs) H 0)) (k ((eE s H (cY (aE con.outs) H 0) sb con.outs.length).put d rv))
         | none=>none
        | none=>none
       | false=>none
      | none=>none
     | none=>none
    | none=>none
   | none=>none
  | false=>none
 | none=>none
theorem zX (con:bz S) (r:bB S.α (JH.cX ⟨con.aw,con.outs⟩)):aE (eR con r)=aE con.outs:=la _ _
theorem AA {ln:Nat→Nat}{ds:List Nat}:∀{l:List (TV S)},oC ds l=true→(TV.er.go ln l).all (fun g=>!(rk ds g))=true
 | [],_=>rfl
 | v::r,e=>by
  simp only[oC,af,aS] at e;simp only[TV.er.go,List.all_cons,CR,e.1,AA e.2,jn,ij]
theorem Fb {P:Program}{W:List Nat}{ok:Nat→Bool}(hW:∀h,ok h=true→W.contains h=true){con:bz S}(C:aM P con){s:ae S}{d:Nat}{vs:List (TV S)}{A:Type}{k:ae S→Option A}{r:A}(hl:aO s) (h:G5 ok con s d vs k=some r)
  {o:Oper}(heff:∀{gs':List G}{ei:List (Nat×av)}{Q:G→List (Nat×av)→Prop}{T:St→Prop}(H:List Nat) (vw:Bool),bR.go H (ft s.er.st H vw) (TV.er.go s.ln vs)=some gs'→gz H (ft s.er.st H vw) s.er.st H 0=some ei→qg H=true→GM P con.f gs' ei Q→
   (∀r st',Q r st'→∃bk s2 r',qc vw s.er H st' bk=some s2∧ez vw (kj st' bk) r=some r'∧T (s2.put d r'))→AZ H W=true→cm P W s.er o T):
  ∃T:St→Prop,cm P W s.er o T∧∀s',T s'→∃t:ae S,Gh s' t.er∧aO t∧bC s t∧k t=some r:=by
 unfold G5 at h;split at h
 ·rename_i H hH;split at h
  ·rename_i hc;simp only[af] at hc;obtain⟨c1,c2,c3⟩:=hc;split at h
   ·rename_i xl hx;split at h
    ·rename_i yl hy;split at h
     ·rename_i q hq;have hlq:=hZ hq;have hrest:(dh con.args (leaves _ q)).2=yl:=by
       rw[hlq];exact(iZ (lnC:=fun k=>s.ln ((H[k-1000]?).getD 0)) (fun i h hi=>by simp[eY hi]) hx yl).1
      have hst:(fp con.args con.aQ (leaves _ q)).bl=(cg (oN con.aQ 1000) yl).1:=by
       show(cg (oN con.aQ 1000) (dh con.args (leaves _ q)).2).1++[]=_;rw[bM,hrest]
      obtain⟨o1,o2,o3⟩:=B6 0 hy [];rw[bM] at o1 o2 o3;have hln:∀i h,dD H h=some i→(fp con.args con.aQ (leaves _ q)).ln (1000+i)=s.ln h:=by
       intro i h hi;have:=o2 i h (eY hi);rw[da] at this;unfold ae.ln;rw[hst];exact this
      have hargs:=(iZ hln hx yl).2;rw[←hlq] at hargs;have hobjs:=o3 _ hln;have hst2:(fp con.args con.aQ (leaves _ q)).er.st=bT (fp con.args con.aQ (leaves _ q)).ln (cg (oN con.aQ 1000) yl).1:=by
       show bT _ _=_;rw[hst]
      refine⟨fun s'=>∃t:ae S,Gh s' t.er∧aO t∧bC s t∧k t=some r,?_,fun s' h=>h⟩;obtain⟨res,h1,h2⟩:=bind_some h;refine heff (ei:=(fp con.args con.aQ (leaves _ q)).er.st) H con.vw hargs (by rw[hst2];exact hobjs) c1 (C.ok q res h1) ?_ (LX hW c2);rintro g st' ⟨rfl,rfl⟩;split at h2
      ·rename_i bk hbk;split at h2
       ·rename_i hf;simp only[tq,af] at hf;obtain⟨f1,f2,f3,f4,f5⟩:=hf;split at h2
        ·rename_i sb hsb;split at h2
         ·rename_i rv hrv;obtain⟨k1,k2⟩:=pB h2;have hkeys:aE sb=bk:=s5 hsb;have hd:∀h,h∈H→h∉cY (aE con.outs) H 0→h∈bk:=fun h h1 h2=>oG f2 h (rB h1 h2);have her:=J1 (n:=con.outs.length) f1 hkeys c3 (fun h h1 h2=>k2 h (rB h1 h2)) hd f3 f4 f5;have f1':=f1;rw[←zX con res] at f1';obtain⟨b1,b2⟩:=Fw (ln:=cp (eR con res)) f1';have hlnB:∀a b,kj (bT (cp (eR con res)) (eR con res)) bk a=some b→(eE s H (cY (aE con.outs) H 0) sb con.outs.length).ln b=cp (eR con res) a:=by
           intro a b hab;obtain⟨_,o,o',g1,g2,g3⟩:=CQ hsb b2 a b hab;unfold ae.ln cp;show(match aA ((sb++oe _ (kN H s.st))++s.bN) b with | some o=>o.len | none=>0)=_;rw[aR,eC,g2,g1];exact g3
          have hds:eM (bT (cp (eR con res)) (eR con res)) H 0=cY (aE con.outs) H 0:=by rw[Ar,zX]
          refine⟨bk,⟨oA (cY (aE con.outs) H 0) s.er.fr,bT (eE s H (cY (aE con.outs) H 0) sb con.outs.length).ln sb++eD (cY (aE con.outs) H 0) (gd H s.er.st),s.er.df⟩,rv.er (eE s H (cY (aE con.outs) H 0) sb con.outs.length).ln,?_,RX hlnB _ _ hrv,_,?_,iD (t:=(eE s H (cY (aE con.outs) H 0) sb con.outs.length).put d rv) rfl,⟨rfl,rfl,rfl⟩,k1⟩
          ·unfold qc;have hb:lK con.vw (kj (bT (cp (eR con res)) (eR con res)) bk) (kz s.er.st (bT (cp (eR con res)) (eR con res)) H 0) s.er.st (bT (cp (eR con res)) (eR con res)) bk=some (bT (eE s H (cY (aE con.outs) H 0) sb con.outs.length).ln sb):=tJ hlnB hsb;have hdf:s.er.df.all (fun g=>!(rk (eM (bT (cp (eR con res)) (eR con res)) H 0) g))=true:=by
            rw[hds];exact AA f5
           show(bif qp s.er H (bT (cp (eR con res)) (eR con res)) bk&&s.er.df.all (fun g=>!(rk (eM (bT (cp (eR con res)) (eR con res)) H 0) g)) then _ else none)=_;rw[b1,hdf];show(match lK con.vw (kj (bT (cp (eR con res)) (eR con res)) bk) (kz s.er.st (bT (cp (eR con res)) (eR con res)) H 0) s.er.st (bT (cp (eR con res)) (eR con res)) bk with
            | some sb=>some ({fr:=oA (eM (bT (cp (eR con res)) (eR con res)) H 0) s.er.fr,st:=sb++eD (eM (bT (cp (eR con res)) (eR con res)) H 0) (gd H s.er.st),df:=s.er.df}:St)
            | none=>none)=_
           rw[hb,hds]
          ·rw[iJ,her];exact Gh.refl _
         ·cases h2
        ·cases h2
       ·cases h2
      ·cases h2
     ·cases h
    ·cases h
   ·cases h
  ·cases h
 ·cases h
theorem EF.Sz {P:Program}{W:List Nat}{s:St}{d:Nat}{ty:TypeId}{pos:String}{after:Array Edge}{guard:Option (Nat×Bool)}{f:FuncId}{x:Operand}{xs:Array Operand}{ts:Array TypeId}{gs caps gs':List G}{ei:List (Nat×av)}{Q:G→List (Nat×av)→Prop}{T:St→Prop}(H:List Nat) (vw:Bool) (hb:vu f xs.toList=true) (hc:∀args w,(callFunc f args).run P w=.ok (.enter f args) w)
  (hf:ev s x=some (.ba f caps)) (hx:wu s xs.toList=some gs) (hv:bR.go H (ft s.st H vw) (gs++caps)=some gs') (hl:gz H (ft s.st H vw) s.st H 0=some ei) (di:qg H=true) (hcon:GM P f gs' ei Q)
  (hres:∀r st',Q r st'→∃bk s2 r',qc vw s H st' bk=some s2∧ez vw (kj st' bk) r=some r'∧T (s2.put d r')) (hW:AZ H W=true):
  cm P W s ⟨some d,.call ⟨.value x,xs,ts⟩,ty,pos,after,guard⟩ T:=by
 refine⟨(fun _ h=>by cases h),?_⟩;intro N cx μ a w hr hN K Q' hK;obtain⟨h1,h2⟩:=oJ hx;have hcl:=hr.ev hf;generalize hav:a.eval x=vf at hcl;cases hcl with
 | aF h=>cases h
 | ba _ _ us hlu hrc=>
  have hcall:=xj (vs:=xs.toList.map a.eval++us) hr hv hl di (by simp[h1,hlu]) (fun j g v hg hv=>by
   rw[bS] at hg hv;rw[aN,←h1] at hv;split at hg
   ·rename_i hj;rw[if_pos hj] at hv;obtain⟨x,hxj,he⟩:=h2 j g hg;rw[ak,hxj] at hv;cases hv;exact hr.ev he
   ·rename_i hj;rw[if_neg hj] at hv;exact hrc _ g v hg hv) hcon
  unfold Oper.wp;have:=BN (P:=P) (w:=w) (d:=d) (ty:=ty) (pos:=pos) (after:=after) (guard:=guard) (ts:=ts) hb hc hav;rw[this];refine hcall.mono ?_;rintro e w' (⟨v,r,st',μ',rfl,hq,hC,hrv⟩ | ⟨_,_,_,_,h,_⟩)
  ·obtain⟨bk,s2,r',hb,hren,hT⟩:=hres r st' hq;obtain⟨q1,q2,q3,_⟩:=wL hr hl (nX di) hC hb;exact hK _ _ _ w' (q1.put (hN d rfl) (q2 r r' v hrv hren)) hT (q3 W (AY hW))
  ·exact h.elim
def isSome {α:Type}:Option α→Bool
 | some _=>true
 | none=>false
def Ev (con:bz S) (s:ae S) (xs:List Operand) (vs:List (TV S)):Option (ae S×List (TV S)):=
 match sw con.aw||TV.imp.go vs with
 | true=>some (s,vs)
 | false=>match sv (TV.P4.go vs) s with
  | some s'=>match uL s' xs with
   | some vs'=>match TV.imp.go vs' with
    | true=>some (s',vs')
    | false=>none
   | none=>none
  | none=>none
def fits (s:ae S) (xs:List Operand) (vs:List (TV S)) (con:bz S):Bool:=
 match qB con with
 | true=>match Ev con s xs vs with
  | some (s',vs')=>isSome (lE s' con.args vs')
  | none=>false
 | false=>match BR s.bl con.aQ 1000 (vg con.args vs) with
  | some H=>isSome (kS s con.vw H con.args vs)&&isSome (pD s con.vw H H con.aQ)
  | none=>false
def Ag (p:bz S→Bool) (f:FuncId):List (bz S)→Option (bz S)
 | []=>none
 | c::r=>match Nat.beq c.f f&&p c with
  | true=>some c
  | false=>Ag p f r
theorem wm {p:bz S→Bool}{f:FuncId}:∀{l:List (bz S)}{c:bz S},Ag p f l=some c→c∈l∧c.f=f
 | [],_,h=>by cases h
 | x::r,c,h=>by
  simp only[Ag] at h;split at h
  ·rename_i hb;simp only[af] at hb;cases h;exact⟨ar,ab hb.1⟩
  ·obtain⟨h1,h2⟩:=wm h;exact⟨ap _ h1,h2⟩
def TZ (s:ae S) (x:Operand) (xs:List Operand):Option (FuncId×List (TV S)):=match cu s x with
 | some (.ba f caps)=>match vu f xs with
  | true=>some (f,caps)
  | false=>none
 | _=>none
theorem WI {s:ae S}{x:Operand}{xs:List Operand}{f:FuncId}{caps:List (TV S)}(h:TZ s x xs=some (f,caps)):cu s x=some (.ba f caps)∧vu f xs=true:=by
 unfold TZ at h;split at h
 ·rename_i h1;split at h
  ·rename_i h2;cases h;exact⟨h1,h2⟩
  ·cases h
 ·cases h
def Q7 (tbl:List (bz S)) (ok:Nat→Bool) (A:Type) (s:ae S) (dst:Option Nat) (c:Call) (k:ae S→Option A):Option A:=
 match dst with
 | some d=>match c.callee with
  | .value (.func f)=>match uL s c.args.toList with
   | some vs=>match Ag (fits s c.args.toList vs) f tbl with
    | some con=>match qB con with
     | true=>match Ev con s c.args.toList vs with
      | some (s',vs')=>Q6 con s' d vs' k
      | none=>none
     | false=>G5 ok con s d vs k
    | none=>none
   | none=>none
  | .value x=>match TZ s x c.args.toList with
   | some (f,caps)=>match uL s c.args.toList with
    | some vs=>match Ag (fits s [] (vs++caps)) f tbl with
     | some con=>match qB con with
      | true=>AE con s d (vs++caps) k
      | false=>G5 ok con s d (vs++caps) k
     | none=>none
    | none=>none
   | _=>none
  | _=>none
 | none=>none
theorem VI {P:Program}{N:Nat}{tbl:List (bz S)}(ht:∀c∈tbl,aM P c):∀(ok:Nat→Bool) (W:List Nat),(∀h,ok h=true→W.contains h=true)→∀(A:Type) (r:A),KS P N W (Q7 tbl ok A) r:=by
 intro ok W hW A r s dst c k hl _ h ty pos after guard;obtain⟨cal,args,ts⟩:=c;unfold Q7 at h;split at h
 ·rename_i d;dsimp only at h;split at h
  ·split at h
   ·rename_i vs hv;split at h
    ·rename_i con hcon;obtain⟨hm,hf⟩:=wm hcon;subst hf;have C:=ht con hm;split at h
     ·split at h
      ·rename_i s' vs' hp;unfold Ev at hp;split at hp
       ·cases hp;exact Nf (N:=N) C hl h hv
       ·split at hp
        ·rename_i s2 hz;obtain⟨z1,z2,z3⟩:=oc hl hz;split at hp
         ·rename_i vs2 hv2;split at hp
          ·cases hp;exact fE.gh z1 z3 (Nf (N:=N) C z2 h hv2)
          ·cases hp
         ·cases hp
        ·cases hp
      ·cases h
     ·exact Fb hW C hl h fun H vw h1 h2 h3 h4 h5 h6=>EF.ZO H vw C.call (nw hv).2 h1 h2 h3 h4 h5 h6
    ·cases h
   ·cases h
  ·rename_i x _;split at h
   ·rename_i f caps hx;obtain⟨hx,hb⟩:=WI hx;split at h
    ·rename_i vs hv;split at h
     ·rename_i con hcon;obtain⟨hm,hf⟩:=wm hcon;subst hf;have C:=ht con hm;split at h
      ·exact Nd (N:=N) C hl h hx hb hv
      ·exact Fb hW C hl h fun H vw h1 h2 h3 h4 h5 h6=>EF.Sz H vw hb C.call (bh hx) (nw hv).2 (by rw[←rD];exact h1) h2 h3 h4 h5 h6
     ·cases h
    ·cases h
   ·cases h
  ·cases h
 ·cases h
def Ts (tbl:List (bz S)) (ok:Nat→Bool){A:Type}(s:ae S) (d:Nat) (c:Call) (f:FuncId) (caps:List (TV S)) (k:ae S→Option A):Option A:=
 match uL s c.args.toList with
 | some vs=>match Ag (fits s [] (vs++caps)) f tbl with
  | some con=>match vu f c.args.toList with
   | true=>match qB con with
    | true=>AE con s d (vs++caps) k
    | false=>G5 ok con s d (vs++caps) k
   | false=>none
  | none=>none
 | none=>none
def Kz {A:Type}:List FuncId→FuncId→(FuncId→Option A)→Option A
 | [],_,_=>none
 | g::r,f,k=>cond (Nat.beq f g) (k g) (Kz r f k)
theorem LL {A:Type}{f:FuncId}{k:FuncId→Option A}{r:A}:∀{l:List FuncId},Kz l f k=some r→k f=some r
 | [],h=>by cases h
 | g::l,h=>by
  simp only[Kz] at h;cases hb:Nat.beq f g with
  | true=>
   rw[hb] at h;have:=ab hb;subst this;exact h
  | false=>rw[hb] at h;exact LL h
def Yq:List (Nat×List FuncId)→Nat→Option (List FuncId)
 | [],_=>none
 | (k,h)::r,p=>bif Nat.beq k p then some h else Yq r p
def xF (tbl:List (bz S)) (ns:List (Nat×List FuncId)) (ok:Nat→Bool) (A:Type) (s:ae S) (dst:Option Nat) (c:Call) (k:ae S→Option A):Option A:=
 match dst with
 | some d=>match Yq ns d with
  | some fs=>match c.callee with
   | .value x=>match cu s x with
    | some (.ba f [])=>Kz fs f fun f=>Ts tbl ok s d c f [] k
    | _=>none
   | _=>none
  | none=>Q7 tbl ok A s (some d) c k
 | none=>none
theorem Nc {P:Program}{N:Nat}{tbl:List (bz S)}{ns:List (Nat×List FuncId)}(ht:∀c∈tbl,aM P c):∀(ok:Nat→Bool) (W:List Nat),(∀h,ok h=true→W.contains h=true)→∀(A:Type) (r:A),KS P N W (xF tbl ns ok A) r:=by
 intro ok W hW A r s dst c k hl hy h ty pos after guard;unfold xF at h;split at h
 ·rename_i d;split at h
  ·obtain⟨cal,args,ts⟩:=c;dsimp only at h;split at h
   ·rename_i x _;split at h
    ·rename_i f hx;have h2:=LL h;clear h;unfold Ts at h2;split at h2
     ·rename_i vs hv;split at h2
      ·rename_i con hcon;obtain⟨hm,hf⟩:=wm hcon;subst hf;have C:=ht con hm;split at h2
       ·rename_i hb;split at h2
        ·exact Nd (N:=N) C hl h2 hx hb hv
        ·exact Fb hW C hl h2 fun H vw h1 h2 h3 h4 h5 h6=>EF.Sz H vw hb C.call (bh hx) (nw hv).2 (by rw[←rD];exact h1) h2 h3 h4 h5 h6
       ·cases h2
      ·cases h2
     ·cases h2
    ·cases h
   ·cases h
  ·exact VI (N:=N) ht ok W hW A r s (some d) c k hl hy h ty pos after guard
 ·cases h
def Wu (tbl:List (bz S)) (ns:List (Nat×List FuncId)):Cl S where
 call:=fun ok A _ s dst c k=>match yP s c with
  | true=>none
  | false=>xF tbl ns ok A s dst c k
 rf:=fun _ _ _ _ _ _=>none
theorem Tq {P:Program}{N:Nat}{tbl:List (bz S)}{ns:List (Nat×List FuncId)}(ht:∀c∈tbl,aM P c):A1 P N (Wu tbl ns) where
 call:=fun ok W hW A kp r s dst c k hl hy h=>by
  have h:(match yP s c with
   | true=>none
   | false=>xF tbl ns ok A s dst c k)=some r:=h
  rw[hy] at h;exact(Nc (N:=N) ht ok W hW A r).p s dst c k hl hy h
 cW:=fun ok A kp r cx s dst c k hl hy h=>by
  have h:(match yP s c with
   | true=>none
   | false=>xF tbl ns ok A s dst c k)=some r:=h
  rw[hy] at h;cases h
 rf:=fun cx _ key hd g _ s B K r hl h=>by cases h
theorem CS {N:Nat}{H:List (Nat×Hint)}{l:List (Nat×Array Tmp×Code×Code)}(h:isNil l=true):qf S N H l:=by
 cases l with
 | nil=>trivial
 | cons x r=>cases h
theorem aM.of {P:Program}{N fu:Nat}{H:List (Nat×Hint)}{tbl:List (bz S)}{con:bz S}{fn:Func}{c:Code}(hm:P.follows .mixedOrders=true) (ht:∀c∈tbl,aM P c)
  (hf:P.funcs[con.f]?=some fn) (hcall:∀args w,(callFunc con.f args).run P w=.ok (.enter con.f args) w) (hb:fn.body=some c) (hN:fn.ntmps=N)
  (hle:pr N con.args con.aw con.outs=true)
  {mvs:List Nat}{ns:List (Nat×List FuncId)}(h:∀q,E7 P N fu H (Wu tbl ns) c mvs fn.results.toList con.args con.aQ con.aw con.outs q=con.F q) (hn:isNil (mV c 0)=true:=by kernel_rfl):aM P con:=
 aM.Z2 hm (Tq ht) hf hcall hb hN hle (CS hn) h
structure Tb (P:Program) (S:eI) where
 l:List (bz S)
 ok:∀c∈l,aM P c
def tN {P:Program}:Tb P S:=⟨[],fun _ h=>by cases h⟩
def tC {P:Program}{c:bz S}(h:aM P c) (t:Tb P S):Tb P S:=⟨c::t.l,db.2 ⟨h,t.ok⟩⟩
theorem aM.o {P:Program}{con:bz S}{fn:Func}{c:Code}(fu N:Nat) (H:List (Nat×Hint)) (t:Tb P S) (mvs:List Nat) (hm:P.follows .mixedOrders=true)
  (hf:P.funcs[con.f]?=some fn) (hcall:∀args w,(callFunc con.f args).run P w=.ok (.enter con.f args) w) (hb:fn.body=some c) (hN:fn.ntmps=N)
  (hle:pr N con.args con.aw con.outs=true:=by kernel_rfl)
  (h:∀q,E7 P N fu H (Wu t.l []) c mvs fn.results.toList con.args con.aQ con.aw con.outs q=con.F q:=by intro q;kernel_rfl) (hn:isNil (mV c 0)=true:=by kernel_rfl):aM P con:=
 aM.of hm t.ok hf hcall hb hN hle h hn
theorem aM.law {P:Program}{con:bz S}(C:aM P con){gs:List G}{q:bB S.α (kU con.args con.aQ)}{r:bB S.α (JH.cX ⟨con.aw,con.outs⟩)}(hr:con.F q=some r) (hgs:TV.er.go (fp con.args con.aQ (leaves _ q)).ln (dh con.args (leaves _ q)).1=gs)
  (hst:(fp con.args con.aQ (leaves _ q)).er.st=[]) (hres:(nT con.aw (leaves _ r)).er (cp (cg con.outs (cC con.aw (leaves _ r)).2).1)=.val (.bool true)) (ho:bT (cp (cg con.outs (cC con.aw (leaves _ r)).2).1) (cg con.outs (cC con.aw (leaves _ r)).2).1=[]):
  GM P con.f gs [] (fun g st=>g=.val (.bool true)∧st=[]):=by
 have h:=C.ok q r hr;rw[hgs,hst] at h;exact h.mono fun g st hg=>⟨hg.1.trans hres,hg.2.trans ho⟩
end
end Go.DN
/-
 DN,part Zb:loops over functions:rounds by eV,calls of yield.
-/
namespace Go.DN
open Go.AM
section
variable {S:eI}
theorem OH {s:ae S}{vw:Bool}{H:List Nat}{args:List Sh}{aQ:List Oh}{vs:List (TV S)}{xl yl:List (bn S.α)}{q:bB S.α (kU args aQ)}(hx:kS s vw H args vs=some xl) (hy:pD s vw H H aQ=some yl) (hq:nR (kU args aQ) (xl++yl)=some q):
  bR.go H (ft s.er.st H vw) (TV.er.go s.ln vs)=some (TV.er.go (fp args aQ (leaves _ q)).ln (dh args (leaves _ q)).1)∧gz H (ft s.er.st H vw) s.er.st H 0=some (fp args aQ (leaves _ q)).er.st:=by
 have hlq:=hZ hq;have hrest:(dh args (leaves _ q)).2=yl:=by
  rw[hlq];exact(iZ (lnC:=fun k=>s.ln ((H[k-1000]?).getD 0)) (fun i h hi=>by simp[eY hi]) hx yl).1
 have hst:(fp args aQ (leaves _ q)).bl=(cg (oN aQ 1000) yl).1:=by
  show(cg (oN aQ 1000) (dh args (leaves _ q)).2).1++[]=_;rw[bM,hrest]
 obtain⟨o1,o2,o3⟩:=B6 0 hy [];rw[bM] at o1 o2 o3;have hln:∀i h,dD H h=some i→(fp args aQ (leaves _ q)).ln (1000+i)=s.ln h:=by
  intro i h hi;have:=o2 i h (eY hi);rw[da] at this;unfold ae.ln;rw[hst];exact this
 have hargs:=(iZ hln hx yl).2;rw[←hlq] at hargs;have hobjs:=o3 _ hln;have hst2:(fp args aQ (leaves _ q)).er.st=bT (fp args aQ (leaves _ q)).ln (cg (oN aQ 1000) yl).1:=by
  show bT _ _=_;rw[hst]
 exact⟨hargs,by rw[hst2];exact hobjs⟩
theorem Mh {s:ae S}{vw:Bool}{H js bk:List Nat}{O sb:List (Nat×TO S)}{n:Nat}{A:Type}{k:Option A}{r:A}(hO:aE O=js) (c3:apart H (aE s.bN)=true) (hf:tq s H (cY js H 0) js bk=true)
  (hsb:oY vw (kj (bT (cp O) O) bk) (kz s.er.st (bT (cp O) O) H 0) s.er.st O bk=some sb) (h:pC s sb (tq.minus H (cY js H 0)) k=some r):
  k=some r∧qc vw s.er H (bT (cp O) O) bk=some (eE s H (cY js H 0) sb n).er∧(∀a b,kj (bT (cp O) O) bk a=some b→(eE s H (cY js H 0) sb n).ln b=cp O a):=by
 simp only[tq,af] at hf;obtain⟨f1,f2,f3,f4,f5⟩:=hf;obtain⟨k1,k2⟩:=pB h;have hkeys:aE sb=bk:=s5 hsb;have hd:∀h,h∈H→h∉cY js H 0→h∈bk:=fun h h1 h2=>oG f2 h (rB h1 h2);have her:=J1 (n:=n) f1 hkeys c3 (fun h h1 h2=>k2 h (rB h1 h2)) hd f3 f4 f5;have f1':=f1;rw[←hO] at f1';obtain⟨b1,b2⟩:=Fw (ln:=cp O) f1';have hlnB:∀a b,kj (bT (cp O) O) bk a=some b→(eE s H (cY js H 0) sb n).ln b=cp O a:=by
  intro a b hab;obtain⟨_,o,o',g1,g2,g3⟩:=CQ hsb b2 a b hab;unfold ae.ln cp;show(match aA ((sb++oe _ (kN H s.st))++s.bN) b with | some o=>o.len | none=>0)=_;rw[aR,eC,g2,g1];exact g3
 have hds:eM (bT (cp O) O) H 0=cY js H 0:=by rw[Ar,hO]
 refine⟨k1,?_,hlnB⟩;unfold qc;have hb:lK vw (kj (bT (cp O) O) bk) (kz s.er.st (bT (cp O) O) H 0) s.er.st (bT (cp O) O) bk=some (bT (eE s H (cY js H 0) sb n).ln sb):=tJ hlnB hsb;have hdf:s.er.df.all (fun g=>!(rk (eM (bT (cp O) O) H 0) g))=true:=by
  rw[hds];exact AA f5
 show(bif qp s.er H (bT (cp O) O) bk&&s.er.df.all (fun g=>!(rk (eM (bT (cp O) O) H 0) g)) then _ else none)=_;rw[b1,hdf];show(match lK vw (kj (bT (cp O) O) bk) (kz s.er.st (bT (cp O) O) H 0) s.er.st (bT (cp O) O) bk with
  | some sb=>some ({fr:=oA (eM (bT (cp O) O) H 0) s.er.fr,st:=sb++eD (eM (bT (cp O) O) H 0) (gd H s.er.st),df:=s.er.df}:St)
  | none=>none)=_
 rw[hb,hds,her]
def vR (lv:Bool):List (Nat×Sh):=match lv with
 | true=>[(0,.aD true (.int .i64))]
 | false=>[]
def Qa (lv:Bool) (n:Int):List (bn S.α):=match lv with
 | true=>[⟨.int .i64,n⟩]
 | false=>[]
def Jv (lv:Bool) (ls:List (bn S.α)):Int:=match lv with
 | true=>match ls with
  | ⟨.int _,n⟩::_=>n
  | _=>0
 | false=>0
theorem Sm {lv:Bool}(h:lv=false) (ls:List (bn S.α)):Jv lv ls=0:=by subst h;rfl
structure rm (S:eI) where
 key:Nat
 args:List Sh
 cells:List Sh
 aQ:List Oh
 outs:List (Nat×Oh)
 lv:Bool
 F:bB S.α (kU (args++cells) aQ)→Option (bB S.α (JH.cX ⟨vR lv,outs⟩))
def qL (Y:rm S) (r:bB S.α (JH.cX ⟨vR Y.lv,Y.outs⟩)):List (Nat×TO S):=(cg Y.outs (cC (vR Y.lv) (leaves _ r)).2).1
def DJ (Y:rm S) (q:bB S.α (kU (Y.args++Y.cells) Y.aQ)):List (TV S):=(dh (Y.args++Y.cells) (leaves _ q)).1
structure Hr (P:Program) (Y:rm S):Prop where
 ps:(S.fJ Y.key).ps.size=Y.args.length∧qg (S.fJ Y.key).ps.toList=true∧(S.fJ Y.key).ps.toList.all (Nat.blt · (S.fJ Y.key).N)=true
 ok:∀q r,Y.F q=some r→GY P (S.lp Y.key 0) (TV.er.go (fp (Y.args++Y.cells) Y.aQ (leaves _ q)).ln ((DJ Y q).drop Y.args.length)) (TV.er.go (fp (Y.args++Y.cells) Y.aQ (leaves _ q)).ln ((DJ Y q).take Y.args.length))
  (fp (Y.args++Y.cells) Y.aQ (leaves _ q)).er.st (fun j st'=>j=EP (S.fJ Y.key).id (Jv Y.lv (leaves _ r))∧st'=bT (cp (qL Y r)) (qL Y r))
def KL (key:Nat):List (rm S)→Option (rm S)
 | []=>none
 | y::r=>match Nat.beq y.key key with
  | true=>some y
  | false=>KL key r
theorem MG {key:Nat}:∀{l:List (rm S)}{y:rm S},KL key l=some y→y∈l∧y.key=key
 | [],_,h=>by cases h
 | x::r,y,h=>by
  simp only[KL] at h;split at h
  ·rename_i hb;cases h;exact⟨ar,ab hb⟩
  ·obtain⟨h1,h2⟩:=MG h;exact⟨ap _ h1,h2⟩
def Yk (lv:Bool) (n:Int){A:Type}(k:Option A):Option A:=match lv with
 | true=>(bj (n=0)).bind fun _=>k
 | false=>match decEq n 0 with
  | isTrue _=>k
  | isFalse _=>none
theorem Yj {lv:Bool}{n:Int}{A:Type}{k:Option A}{r:A}(h:Yk lv n k=some r):n=0∧k=some r:=by
 unfold Yk at h;split at h
 ·obtain⟨_,h1,h2⟩:=bind_some h;exact⟨cD h1,h2⟩
 ·split at h
  ·rename_i e _;exact⟨e,h⟩
  ·cases h
def KM (t:ae S) (h key:Nat) (cs:List (TV S)) (d:Nat) (lv:Bool) (n:Int){A:Type}(k:ae S→Option A):Option A:=match lv with
 | true=>cond (n==0) (k ((t.set h (.lp key 0 cs)).put d (.aD true .bool true))) (k ((t.set h (.lp key n cs)).put d (.aD true .bool false)))
 | false=>k ((t.set h (.lp key 0 cs)).put d (.aD true .bool true))
def KT (ys:List (rm S)) (N:Nat) (A:Type) (s:ae S) (dst:Option Nat) (c:Call) (k:ae S→Option A):Option A:=
 match dst with
 | some d=>match Nat.blt d N with
  | true=>match c.callee with
   | .value x=>match cu s x with
    | some (.cW h)=>match aA s.st h with
     | some (.lp key n cs)=>match uL s c.args.toList with
      | some vs=>match KL key ys with
       | some Y=>Yk Y.lv n (match BR s.bl Y.aQ 1000 (vg (Y.args++Y.cells) (vs++cs)) with
        | some H=>match qg H&&(apart H (aE s.bN)&&(!(bA h H)&&Nat.beq vs.length Y.args.length)) with
         | true=>match kS s false H (Y.args++Y.cells) (vs++cs) with
          | some xs=>match pD s false H H Y.aQ with
           | some ys=>match nR (kU (Y.args++Y.cells) Y.aQ) (xs++ys) with
            | some q=>(Y.F q).bind fun r=>match Tw s H d (aE Y.outs) [] with
             | some bk=>match tq s H (cY (aE Y.outs) H 0) (aE Y.outs) bk with
              | true=>match oY false (kj (bT (cp (qL Y r)) (qL Y r)) bk) (kz s.er.st (bT (cp (qL Y r)) (qL Y r)) H 0) s.er.st (qL Y r) bk with
               | some sb=>pC s sb (tq.minus H (cY (aE Y.outs) H 0)) (match Y.lv with
                | true=>KM (eE s H (cY (aE Y.outs) H 0) sb Y.outs.length) h key cs d true (Jv Y.lv (leaves _ r)) k
                | false=>KM (eE s H (cY (aE Y.outs) H 0) sb Y.outs.length) h key cs d false 0 k)
               | none=>none
              | false=>none
             | none=>none
            | none=>none
           | none=>none
          | none=>none
         | false=>none
        | none=>none)
       | none=>none
      | none=>none
     | _=>none
    | _=>none
   | _=>none
  | false=>none
 | none=>none
theorem MC {H:List Nat}{stv:List (Nat×av)}:∀{a b c:List G},bR.go H stv (a++b)=some c→bR.go H stv a=some (c.take a.length)∧bR.go H stv b=some (c.drop a.length)
 | [],b,c,h=>⟨rfl,h⟩
 | g::a,b,c,h=>by
  simp only[bU,bR.go] at h;split at h
  ·rename_i g' r' h1 h2;cases h;obtain⟨i1,i2⟩:=MC h2;refine⟨?_,i2⟩;simp only[bR.go,h1,i1,bL,List.take_succ_cons]
  ·cases h
theorem SI {id:Nat}{n:Int}:(EP id n).isNone=(n==0):=by
 unfold EP;cases n==0 with
 | true=>rfl
 | false=>cases n==1 <;> rfl
theorem S9 (ln:Nat→Nat) (l:List (TV S)):(TV.er.go ln l).length=l.length:=by rw[cP,aN]
theorem WC {P:Program}{N:Nat}{ys:List (rm S)}(hy:∀y∈ys,Hr P y) (ok:Nat→Bool) (A:Type) (r:A):V2 P N (KT ys N A) r:=by
 intro cx s dst c k hl hisy h ty pos after ops rest Q hk;obtain⟨cal,args,ts⟩:=c;unfold KT at h;split at h
 rotate_left
 ·cases h
 rename_i d;split at h
 rotate_left
 ·cases h
 rename_i hdN;dsimp only at h;split at h
 rotate_left
 ·cases h
 rename_i x;split at h
 rotate_left
 ·cases h
 rename_i hh hx;split at h
 rotate_left
 ·cases h
 rename_i key n cs ho;split at h
 rotate_left
 ·cases h
 rename_i vs hvs;split at h
 rotate_left
 ·cases h
 rename_i Y hY;have hon:=Yj h;clear h;obtain⟨hn0,h⟩:=hon;subst hn0;obtain⟨hYm,hYk⟩:=MG hY;have C:=hy Y hYm;subst hYk;split at h
 rotate_left
 ·cases h
 rename_i H hH;split at h
 rotate_left
 ·cases h
 rename_i hc;simp only[af,aS] at hc;obtain⟨c1,c3,c4,c5⟩:=hc;have c5:=ab c5;split at h
 rotate_left
 ·cases h
 rename_i xl hxl;split at h
 rotate_left
 ·cases h
 rename_i yl hyl;split at h
 rotate_left
 ·cases h
 rename_i q hq;obtain⟨hin,hst⟩:=OH hxl hyl hq;rw[rD] at hin;obtain⟨hinA,hinC⟩:=MC hin;rw[S9,c5] at hinA hinC;obtain⟨res,h1,h2⟩:=bind_some h;have hcon:=C.ok q res h1;have hoA:aA s.bl hh=some (.lp Y.key 0 cs):=LZ ho;have htk:∀ln,TV.er.go ln ((DJ Y q).take Y.args.length)=(TV.er.go ln (DJ Y q)).take Y.args.length:=fun ln=>by rw[cP,cP,List.map_take]
 have hdr:∀ln,TV.er.go ln ((DJ Y q).drop Y.args.length)=(TV.er.go ln (DJ Y q)).drop Y.args.length:=fun ln=>by rw[cP,cP,List.map_drop]
 rw[htk,hdr] at hcon;split at h2
 rotate_left
 ·cases h2
 rename_i bk hbk;split at h2
 rotate_left
 ·cases h2
 rename_i hf;split at h2
 rotate_left
 ·cases h2
 rename_i sb hsb;have hO:aE (qL Y res)=aE Y.outs:=la _ _;obtain⟨k1,hback,_⟩:=Mh (n:=Y.outs.length) hO c3 hf hsb h2;have hidx:dD H hh=none:=by
  cases hi:dD H hh with
  | none=>rfl
  | some i=>rw[bQ.2 (aj (eY hi))] at c4;cases c4
 have hlp:aA (eE s H (cY (aE Y.outs) H 0) sb Y.outs.length).st hh=some (.lp Y.key 0 cs):=by
  show aA (sb++oe _ (kN H s.st)) hh=_;have hnb:hh∉bk:=fun hm=>by
   simp only[tq,af] at hf;rcases CO hf.1 hh hm with h1 | h1
   ·rw[bQ.2 h1] at c4;cases c4
   ·rw[(free_spec h1).1] at hoA;cases hoA
  rw[eC,nz (by rw[s5 hsb];exact hnb),zN,zI hidx,ho];rfl
 have fin:∀(lv:Bool) (nn:Int),Jv Y.lv (leaves _ res)=nn→KM (eE s H (cY (aE Y.outs) H 0) sb Y.outs.length) hh Y.key cs d lv nn k=some r→(lv=false→nn=0)→
   GL P N cx ops Q rest (({(eE s H (cY (aE Y.outs) H 0) sb Y.outs.length).er with st:=dF (eE s H (cY (aE Y.outs) H 0) sb Y.outs.length).er.st hh {((TO.lp Y.key 0 cs:TO S).er (eE s H (cY (aE Y.outs) H 0) sb Y.outs.length).ln) with lp:=some (.loop (S.lp Y.key nn))}}:St).put d (.val (.bool (nn==0)))):=by
  intro lv nn hnn hend hlv;have ht1:(eE s H (cY (aE Y.outs) H 0) sb Y.outs.length).last=[]:=rfl;have ht2:bC s (eE s H (cY (aE Y.outs) H 0) sb Y.outs.length):=⟨rfl,rfl,rfl⟩;generalize eE s H (cY (aE Y.outs) H 0) sb Y.outs.length=t at hlp hend ht1 ht2⊢;have step:∀m:Int,m=nn→k ((t.set hh (.lp Y.key m cs)).put d (.aD true .bool (nn==0)))=some r→
    GL P N cx ops Q rest (({t.er with st:=dF t.er.st hh {((TO.lp Y.key 0 cs:TO S).er t.ln) with lp:=some (.loop (S.lp Y.key nn))}}:St).put d (.val (.bool (nn==0)))):=by
   intro m hm hkr;subst hm;obtain⟨s1,s2⟩:=pu (o':=(.lp Y.key m cs:TO S)) hlp rfl;have hli:aO (t.set hh (.lp Y.key m cs)):=iD (by show xd hh t.last=[];rw[ht1];rfl);have:=hk _ (hli.put d _) ⟨ht2.lo,ht2.bN,ht2.df⟩ hkr;rw[iJ,s1] at this;have e:(TV.aD true .bool (m==0):TV S).er (t.set hh (.lp Y.key m cs)).ln=.val (.bool (m==0)):=ic true _;rw[e] at this;exact this
  cases lv with
  | false=>
   have:=hlv rfl;subst this;exact step 0 rfl hend
  | true=>
   simp only[KM] at hend;cases hb:nn==0 with
   | true=>
    rw[hb] at hend step;have e:nn=0:=by simpa using hb
    exact step 0 e.symm hend
   | false=>
    rw[hb] at hend step;exact step nn rfl hend
 have hx':=bh hx;refine GL.cW (lp:=S.lp Y.key 0) H bk hx' (nw hvs).2 (show ay s.er.st hh=some _ from ga hoA) rfl rfl hidx hinA hinC hst c1 (by
   rw[br,S9];have:(DJ Y q).length=(Y.args++Y.cells).length:=Cj _ _;show min Y.args.length (DJ Y q).length=(S.fJ Y.key).ps.size;rw[this,C.ps.1,aI];omega) C.ps.2.1 C.ps.2.2 hcon rfl hdN ?_
 rintro j st' ⟨rfl,rfl⟩;refine⟨_,hback,_,ga (fR hlp),?_,(Jv Y.lv (leaves _ res)==0),SI,?_⟩
 ·rfl
 ·split at k1
  ·rename_i hlv;exact fin true _ rfl k1 (fun h=>by cases h)
  ·rename_i hlv;have e0:Jv Y.lv (leaves _ res)=0:=Sm hlv _;have:=fin false 0 e0 k1 (fun _=>rfl);rw[e0];exact this
end
end Go.DN
/-
 DN,part Zc:rounds out of a run of their code;the loop itself.
-/
namespace Go.DN
open Go.AM
section
variable {S:eI}
def D8:List Nat→List (TV S)→List (Nat×TV S)
 | t::ts,v::vs=>(t,v)::D8 ts vs
 | _,_=>[]
theorem Hw (ln:Nat→Nat):∀(ts:List Nat) (vs:List (TV S)),il ln (D8 ts vs)=qk ts (TV.er.go ln vs)
 | [],_=>rfl
 | _::_,[]=>rfl
 | t::ts,v::vs=>by simp only[D8,il,TV.er.go,qk,Hw ln ts vs]
theorem O6 (ln:Nat→Nat):∀(a b:List (Nat×TV S)),il ln (a++b)=il ln a++il ln b
 | [],_=>rfl
 | (t,v)::r,b=>by simp only[bU,il,O6 ln r b]
def Zn (L:Wy) (args cells:List Sh) (aQ:List Oh) (ls:List (bn S.α)):ae S:=
 {fr:=D8 L.ps.toList ((dh (args++cells) ls).1.take args.length)++D8 L.aw ((dh (args++cells) ls).1.drop args.length),lo:=[],st:=(cg (oN aQ 1000) (dh (args++cells) ls).2).1,bN:=[],df:=[],nx:=300,last:=[]}
def MQ (P:Program) (t:ae S) (lv:Bool) (n:Int) (outs:List (Nat×Oh)):Option (bB S.α (JH.cX ⟨vR lv,outs⟩)):=
 match lv||n==0 with
 | true=>match Ik P t [] [] outs with
  | some q=>nR (JH.cX ⟨vR lv,outs⟩) (Qa lv n++leaves _ q)
  | none=>none
 | false=>none
noncomputable def Za (P:Program) (fu:Nat) (H:List (Nat×Hint)) (cl:Cl S) (L:Wy) (mvs:List Nat) (args cells:List Sh) (aQ:List Oh) (outs:List (Nat×Oh)) (lv:Bool) (q:bB S.α (kU (args++cells) aQ)):Option (bB S.α (JH.cX ⟨vR lv,outs⟩)):=
 match Ga mvs (Zn L args cells aQ (leaves _ q)) with
 | some s=>iC P L.N fu H cl L.nF 0 s _ fun e t=>match e with
  | .normal=>iC P L.N fu H cl L.body (kC L.nF) t _ fun e t=>match e with
   | .normal=>MQ P t lv 0 outs
   | .exit id=>match Nat.beq id L.id with
    | true=>MQ P t lv 1 outs
    | false=>none
   | .ret=>MQ P t lv 2 outs
   | _=>none
  | _=>none
 | none=>none
theorem Uz {lv : Bool} {n : Int} (h : (lv || n == 0) = true) (r : List (bn S.α)) : Jv lv (Qa lv n ++ r) = n := by
  cases lv with
  | true => rfl
  | false => have : n = 0 := by simpa using h
             rw [this]; rfl
theorem S4 (lv:Bool) (n:Int) (r:List (bn S.α)):(cC (vR lv) (Qa lv n++r)).2=r:=by cases lv <;> rfl
theorem Hr.of {P:Program}{fu:Nat}{H:List (Nat×Hint)}{tbl:List (bz S)}{Y:rm S}(hm:P.follows .mixedOrders=true) (ht:∀c∈tbl,aM P c)
  (hps:(Nat.beq (S.fJ Y.key).ps.size Y.args.length&&(qg (S.fJ Y.key).ps.toList&&((S.fJ Y.key).ps.toList.all (Nat.blt · (S.fJ Y.key).N)&&Sl (aE Y.outs))))=true)
  (hna:isNil (mV (S.fJ Y.key).nF 0)=true) (hnb:isNil (mV (S.fJ Y.key).body (kC (S.fJ Y.key).nF))=true)
  {mvs:List Nat}{ns:List (Nat×List FuncId)}(h:∀q,Za P fu H (Wu tbl ns) (S.fJ Y.key) mvs Y.args Y.cells Y.aQ Y.outs Y.lv q=Y.F q):Hr P Y:=by
 simp only[af] at hps;obtain⟨p1,p2,p3,p4⟩:=hps;have hcl:=Tq (N:=(S.fJ Y.key).N) (ns:=ns) ht;have nilA:mV (S.fJ Y.key).nF 0=[]:=by cases hx:mV (S.fJ Y.key).nF 0 with | nil=>rfl | cons x r=>rw[hx] at hna;cases hna
 have nilB:mV (S.fJ Y.key).body (kC (S.fJ Y.key).nF)=[]:=by cases hx:mV (S.fJ Y.key).body (kC (S.fJ Y.key).nF) with | nil=>rfl | cons x r=>rw[hx] at hnb;cases hnb
 refine⟨⟨ab p1,p2,p3⟩,fun q r hr=>?_⟩;have hr:=(h q).trans hr;refine GY.of (nF:=(S.fJ Y.key).nF) (body:=(S.fJ Y.key).body) rfl rfl fun cx=>?_;have e0:(⟨qk (S.lp Y.key 0).ps.toList (TV.er.go (fp (Y.args++Y.cells) Y.aQ (leaves _ q)).ln ((DJ Y q).take Y.args.length))++qk (S.lp Y.key 0).aw (TV.er.go (fp (Y.args++Y.cells) Y.aQ (leaves _ q)).ln ((DJ Y q).drop Y.args.length)),
   (fp (Y.args++Y.cells) Y.aQ (leaves _ q)).er.st,[]⟩:St)=(Zn (S.fJ Y.key) Y.args Y.cells Y.aQ (leaves _ q)).er:=by
  show _=St.mk (il _ ((D8 _ _++D8 _ _)++[])) _ _;rw[bM,O6,Hw,Hw];rfl
 rw[e0];unfold Za at hr;split at hr
 rotate_left
 ·cases hr
 rename_i s0 hmv;refine ED (iD rfl) hmv fun hl0=>?_;refine kB hm hcl _ 0 (CS hna) (.inl nilA) _ _ _ r hl0 hr _ fun e t hlt hk hK=>?_;split at hK
 rotate_left
 ·cases hK
 refine⟨rfl,fun cx'=>?_⟩;refine GW.FV (Q':=fun e s'=>∃n:Int,∃t:ae S,Gh s' t.er∧aO t∧MQ P t Y.lv n Y.outs=some r∧((e=.normal∧n=0)∨(e=.exit (S.fJ Y.key).id∧n=1)∨(e=.ret∧n=2)))
  (kB hm hcl _ _ (CS hnb) (.inl nilB) _ _ _ r hlt hK _ fun e t hlt hk hK=>?_) fun e s' hq=>?_
 ·split at hK
  ·exact⟨0,t,Gh.refl _,hlt,hK,.inl ⟨rfl,rfl⟩⟩
  ·split at hK
   ·rename_i hb;have:=ab hb;subst this;exact⟨1,t,Gh.refl _,hlt,hK,.inr (.inl ⟨rfl,rfl⟩)⟩
   ·cases hK
  ·exact⟨2,t,Gh.refl _,hlt,hK,.inr (.inr ⟨rfl,rfl⟩)⟩
  ·cases hK
 ·obtain⟨n,t,hg0,hlt,hE,he⟩:=hq;unfold MQ at hE;split at hE
  rotate_left
  ·cases hE
  rename_i hlv;split at hE
  rotate_left
  ·cases hE
  rename_i q' hq';obtain⟨u,hg,hdf,_,O',eu,hln,hown⟩:=O7 hlt hq';have hls:=hZ hE;have hn:Jv Y.lv (leaves _ r)=n:=by rw[hls];exact Uz hlv _
  have hO:qL Y r=(cg Y.outs (leaves _ q')).1:=by unfold qL;rw[hls,S4]
  have hout:(cg Y.outs (cC [] (leaves (JH.cX ⟨[],Y.outs⟩) q')).2).1=(cg Y.outs (leaves _ q')).1:=rfl;rw[hout] at eu hln;have hk:aE (cg Y.outs (leaves (JH.cX ⟨[],Y.outs⟩) q')).1=aE Y.outs:=la _ _;have hsub:pe u.er.st (bT (cp (qL Y r)) (qL Y r)):=by
   rw[hO];refine Ef fun j o hm=>?_;have e1:aA (cg Y.outs (leaves (JH.cX ⟨[],Y.outs⟩) q')).1 j=some o:=HU (by rw[hk];exact p4) j o hm;have e2:aA u.bl j=some o:=by rw[eu,eC,e1]
   rw[show ay u.er.st j=_ from ga e2];have hj:o.er u.ln=o.er (cp (cg Y.outs (leaves (JH.cX ⟨[],Y.outs⟩) q')).1):=TO.nC hln o (vr (aE Y.outs) Y.outs _ hown j o e1);rw[hj]
  refine⟨u.er,hg0.trans hg,?_⟩
  ·refine⟨hdf,_,hsub,?_⟩;rcases he with ⟨h,h2⟩ | ⟨h,h2⟩ | ⟨h,h2⟩
   ·subst h;subst h2;exact⟨by rw[hn];rfl,rfl⟩
   ·subst h;subst h2;exact⟨by rw[hn];rfl,rfl⟩
   ·subst h;subst h2;exact⟨by rw[hn];rfl,rfl⟩
end
end Go.DN
/-
 DN,part Zd:the loop over a function;contracts of functions that have such loops,or that go through them.
-/
namespace Go.DN
open Go.AM
section
variable {S:eI}
def Kv (fr:List (Nat×TV S)):List Nat→Option (List (TV S))
 | []=>some []
 | t::r=>match bp fr t with
  | some v=>match Kv fr r with
   | some vs=>some (v::vs)
   | none=>none
  | none=>none
theorem K5 {fr:List (Nat×TV S)}(ln:Nat→Nat):∀{ts:List Nat}{vs:List (TV S)},Kv fr ts=some vs→getAll (il ln fr) ts=some (TV.er.go ln vs)
 | [],vs,h=>by cases h;rfl
 | t::r,vs,h=>by
  simp only[Kv] at h;split at h
  ·rename_i v hv;split at h
   ·rename_i vs' hvs;cases h;simp only[getAll,fU hv,K5 ln hvs,TV.er.go]
   ·cases h
  ·cases h
def Lu (k:Nat):List (Nat×TO S)→List (Nat×TO S)
 | []=>[]
 | (h,o)::r=>bif Nat.beq h k then Lu k r else(h,o)::Lu k r
theorem HK {k:Nat}:∀{st:List (Nat×TO S)}{h:Nat},aA (Lu k st) h=bif Nat.beq k h then none else aA st h
 | [],h=>by cases Nat.beq k h <;> rfl
 | (x,o)::r,h=>by
  simp only[Lu];cases hx:Nat.beq x k with
  | true=>
   have e:=ab hx;subst e;rw[cond_true,HK];cases hb:Nat.beq x h with
   | true=>rfl
   | false=>simp only[aA,hb,cond_false]
  | false=>
   rw[cond_false];simp only[aA];rw[HK];cases hb:Nat.beq x h with
   | true=>
    have e:=ab hb;subst e;have:Nat.beq k x=false:=by
     cases hq:Nat.beq k x with
     | false=>rfl
     | true=>have:=ab hq;subst this;rw[aW] at hx;cases hx
    rw[this];rfl
   | false=>rfl
def aaj (con:bz S):Bool:=match con.aQ with
 | .lp _ lv _::_=>lv
 | _=>false
def QN (con:bz S) (id:Nat) (t:ae S) (n:Int){A:Type}(K:Exit→ae S→Option A):Option A:=match aaj con with
 | true=>cond (n==0) (K .normal t) (cond (n==1) (K (.exit id) t) (K .ret t))
 | false=>match decEq n 0 with
  | isTrue _=>K .normal t
  | isFalse _=>none
theorem Vj {con:bz S}{id:Nat}{t:ae S}{n:Int}{A:Type}{K:Exit→ae S→Option A}{r:A}(h:QN con id t n K=some r){R:Exit→St→Prop}{s:St}(hR:∀e,(∀ch,e≠.panic ch)→K e t=some r→R e s):Wz R s (EP id n):=by
 unfold QN at h;split at h
 ·unfold EP;cases h0:n==0 with
  | true=>rw[h0] at h;exact hR _ (fun ch e=>by cases e) h
  | false=>
   rw[h0] at h;cases h1:n==1 with
   | true=>rw[h1] at h;exact hR _ (fun ch e=>by cases e) h
   | false=>rw[h1] at h;exact hR _ (fun ch e=>by cases e) h
 ·split at h
  ·rename_i e _;subst e;exact hR _ (fun ch e=>by cases e) h
  ·cases h
def Ru {α:Type}(b:Bool) (l:List α):List α:=match b with
 | true=>[]
 | false=>l
theorem Ps {α:Type}{b:Bool}{l:List α}{x:α}(h:x∈Ru b l):x∈l∧b=false:=by
 cases b with
 | true=>cases h
 | false=>exact⟨h,rfl⟩
def LA (tbl:List (bz S)) (key hd:Nat) (s:ae S) (g:Operand) (A:Type) (K:Exit→ae S→Option A):Option A:=
 match cu s g with
 | some (.ba f caps)=>match Kv s.ca (S.fJ key).aw with
  | some cs=>match s.free hd&&!(TV.has.go hd cs) with
   | true=>match Ag (fits (s.add hd (.lp key 0 cs)) [] (.cW hd::caps)) f (Ru (tG.contains f) tbl) with
    | some con=>match BR (s.add hd (.lp key 0 cs)).bl con.aQ 1000 (vg con.args (.cW hd::caps)) with
     | some H=>match qg H&&(apart H (aE s.bN)&&bA hd H) with
      | true=>match kS (s.add hd (.lp key 0 cs)) con.vw H con.args (.cW hd::caps) with
       | some xs=>match pD (s.add hd (.lp key 0 cs)) con.vw H H con.aQ with
        | some ys=>match nR (kU con.args con.aQ) (xs++ys) with
         | some q=>(con.F q).bind fun r=>match Tw (s.add hd (.lp key 0 cs)) H hd (aE con.outs) [] with
          | some bk=>match tq (s.add hd (.lp key 0 cs)) H (cY (aE con.outs) H 0) (aE con.outs) bk&&!(bA hd (cY (aE con.outs) H 0)) with
           | true=>match Wx (s.add hd (.lp key 0 cs)) H con r bk with
            | some sb=>pC (s.add hd (.lp key 0 cs)) sb (tq.minus H (cY (aE con.outs) H 0)) (match aA (eE (s.add hd (.lp key 0 cs)) H (cY (aE con.outs) H 0) sb con.outs.length).st hd with
             | some (.lp key' n _)=>match Nat.beq key' key&&!(bA hd (aE s.bN)) with
              | true=>QN con (S.fJ key).id {eE (s.add hd (.lp key 0 cs)) H (cY (aE con.outs) H 0) sb con.outs.length with st:=Lu hd (eE (s.add hd (.lp key 0 cs)) H (cY (aE con.outs) H 0) sb con.outs.length).st} n K
              | false=>none
             | _=>none)
            | none=>none
           | false=>none
          | none=>none
         | none=>none
        | none=>none
       | none=>none
      | false=>none
     | none=>none
    | none=>none
   | false=>none
  | none=>none
 | _=>none
theorem Iz {H js:List Nat}{hd:Nat}(h:bA hd (cY js H 0)=false):(cY js H 0).contains hd=false:=by rw[uR];exact h
theorem R1 {P:Program}{N:Nat}{tbl:List (bz S)}(ht:∀c∈tbl,aM P c) (cx:Cx) (hro:cx.ro=none) (key hd:Nat) (g:Operand) (hN:(S.fJ key).N=N) (s:ae S) (B:Type) (K:Exit→ae S→Option B) (r:B) (hl:aO s) (h:LA tbl key hd s g B K=some r)
  (Q:Exit→St→Prop) (hQ:∀e t,aO t→bC s t→K e t=some r→(∀ch,e≠.panic ch)→Q e t.er):GW P N cx (.rangeFunc g (S.fJ key).ps (S.fJ key).nF (S.fJ key).body) Q s.er:=by
 unfold LA at h;split at h
 rotate_left
 ·cases h
 rename_i f caps hg;split at h
 rotate_left
 ·cases h
 rename_i cs hcs;split at h
 rotate_left
 ·cases h
 rename_i hfree;simp only[af,aS] at hfree;obtain⟨hfr,hnh⟩:=hfree;obtain⟨ha1,ha2⟩:=pV hfr (.lp key 0 cs:TO S) hnh;split at h
 rotate_left
 ·cases h
 rename_i con hcon;obtain⟨hm0,hf⟩:=wm hcon;obtain⟨hm,hbf⟩:=Ps hm0;clear hm0;subst hf;have C:=ht con hm;generalize hs1:s.add hd (.lp key 0 cs)=s1 at h ha1 ha2;have hlst:s1.bN=s.bN:=by rw[←hs1];rfl
 have hlo:s1.lo=s.lo:=by rw[←hs1];rfl
 have hdf:s1.df=s.df:=by rw[←hs1];rfl
 have hoh:aA s1.bl hd=some (.lp key 0 cs):=by rw[←hs1];show(bif Nat.beq hd hd then some (TO.lp key 0 cs) else aA s.bl hd)=_;rw[aW];rfl
 split at h
 rotate_left
 ·cases h
 rename_i H hH;split at h
 rotate_left
 ·cases h
 rename_i hc;simp only[af] at hc;obtain⟨c1,c3,c4⟩:=hc;rw[←hlst] at c3;split at h
 rotate_left
 ·cases h
 rename_i xl hxl;split at h
 rotate_left
 ·cases h
 rename_i yl hyl;split at h
 rotate_left
 ·cases h
 rename_i q hq;obtain⟨hin,hst⟩:=OH hxl hyl hq;obtain⟨res,h1,h2⟩:=bind_some h;have hcn:=C.ok q res h1;split at h2
 rotate_left
 ·cases h2
 rename_i bk hbk;split at h2
 rotate_left
 ·cases h2
 rename_i hff;simp only[af,aS] at hff;obtain⟨hfit,di⟩:=hff;split at h2
 rotate_left
 ·cases h2
 rename_i sb hsb;have hO:aE (eR con res)=aE con.outs:=zX con res;obtain⟨k1,hback,_⟩:=Mh (n:=con.outs.length) hO c3 hfit hsb h2;generalize hT:eE s1 H (cY (aE con.outs) H 0) sb con.outs.length=T at k1 hback;have hTl:T.last=[]:=by rw[←hT];rfl
 have hTk:bC s1 T:=by rw[←hT];exact⟨rfl,rfl,rfl⟩
 split at k1
 rotate_left
 ·cases k1
 rename_i key' n cs' hlp;split at k1
 rotate_left
 ·cases k1
 rename_i hk;simp only[af,aS] at hk;obtain⟨hk,hnl⟩:=hk;have e1:=ab hk;subst e1;have hlpA:aA T.bl hd=some (.lp key' n cs'):=fR hlp;have hnl':aA T.bN hd=none:=by
  refine nz fun hm=>?_;rw[hTk.bN,hlst] at hm;rw[bQ.2 hm] at hnl;cases hnl
 generalize hU:({T with st:=Lu hd T.st}:ae S)=U at k1;have hUst:∀k,aA U.bl k=bif Nat.beq hd k then none else aA T.bl k:=by
  intro k;rw[←hU];show aA (Lu hd T.st++T.bN) k=_;rw[eC,HK];show _=bif Nat.beq hd k then none else aA (T.st++T.bN) k;rw[eC];cases hb:Nat.beq hd k with
  | true=>have:=ab hb;subst this;exact hnl'
  | false=>rfl
 have hUln:U.ln=T.ln:=by
  funext k;show cp U.bl k=cp T.bl k;unfold cp;rw[hUst];cases hb:Nat.beq hd k with
  | true=>have:=ab hb;subst this;rw[hlpA];rfl
  | false=>rfl
 have hUfr:U.ca=T.ca:=by subst hU;rfl
 have hUdf:U.df=T.df:=by subst hU;rfl
 have hsgU:∀k b,ay U.er.st k=some b→ay T.er.st k=some b:=by
  intro k b hb;obtain⟨o,ho,rfl⟩:=ug hb;rw[hUst] at ho;cases hq:Nat.beq hd k with
  | true=>rw[hq] at ho;cases ho
  | false=>
   rw[hq] at ho;rw[show ay T.er.st k=_ from ga ho,hUln]
 have hUE:Ri T.er U.er:=by
  refine⟨fun t g hg'=>?_,hsgU,?_⟩
  ·have:U.er.fr=T.er.fr:=by show il U.ln U.ca=il T.ln T.ca;rw[hUln,hUfr]
   rw[this] at hg';exact hg'
  ·show TV.er.go T.ln T.df=TV.er.go U.ln U.df;rw[hUln,hUdf]
 have hUn:ay U.er.st hd=none:=by
  refine rW ?_;rw[hUst,aW];rfl
 have hcaps:TV.er.go s.ln caps=TV.er.go s1.ln caps:=by
  have e1:=bh hg;have hg1:cu s1 g=some (.ba con.f caps):=by
   rw[←hg,←hs1];cases g <;> rfl
  have e2:=bh hg1;have hfe:s1.er.fr=s.er.fr:=by rw[ha1]
  have e3:ev s1.er g=ev s.er g:=by
   cases g with
   | tmp t=>show AM.get s1.er.fr t=AM.get s.er.fr t;rw[hfe]
   | _=>rfl
  rw[e3,e1] at e2;have:=dV e2;simp only[TV.er,G.ba.injEq] at this;exact this.2
 subst hN;have hst0:s1.er.st=(hd,vj (TV.er.go s.ln cs) (S.lp key' 0))::s.er.st:=by rw[ha1];rfl
 have hs1e:s1.er={fr:=s.er.fr,st:=(hd,vj (TV.er.go s.ln cs) (S.lp key' 0))::s.er.st,df:=s.er.df}:=by rw[ha1];rfl
 refine GW.rangeFunc (f0:=0) (f:=con.f) (caps:=TV.er.go s.ln caps) (cells:=TV.er.go s.ln cs) hbf hro (fun j=>⟨0,(S.fJ key').N,(S.fJ key').aw,(S.fJ key').ps,(S.fJ key').nF,(S.fJ key').body,j⟩) hd (S.fJ key').aw H con.vw bk
  (fun _=>rfl) (bh hg) C.call (K5 s.ln hcs) (gu hfr) ?_ c1 (bQ.1 c4) hcn ?_ ?_
 ·have:=hst;rw[hst0] at this;exact this
 ·have:=hin;rw[hst0] at this;rw[hcaps];exact this
 ·rintro r' st' ⟨_,rfl⟩;refine⟨T.er,U.er,EP (S.fJ key').id n,_,?_,?_,ga hlpA,rfl,hUE,hUn,?_⟩
  ·show qc con.vw ⟨s.er.fr,(hd,vj (TV.er.go s.ln cs) (S.lp key' 0))::s.er.st,s.er.df⟩ H _ bk=_;rw[←hs1e];exact hback
  ·show(eM (bT (cp (eR con res)) (eR con res)) H 0).contains hd=false;rw[Ar,hO];exact Iz di
  ·refine Vj k1 fun e hp hK=>hQ e U (iD (by rw[←hU];exact hTl)) ⟨?_,?_,?_⟩ hK hp
   ·rw[←hU];exact hTk.lo.trans hlo
   ·rw[←hU];exact hTk.bN.trans hlst
   ·rw[←hU];exact hTk.df.trans hdf
def Z3 (N:Nat) (tbl tbr:List (bz S)) (ys:List (rm S)) (ns:List (Nat×List FuncId)):Cl S where
 call:=fun ok A _ s dst c k=>match yP s c with
  | true=>KT ys N A s dst c k
  | false=>xF tbl ns ok A s dst c k
 rf:=LA tbr
theorem Zh {P:Program}{N:Nat}{tbl tbr:List (bz S)}{ys:List (rm S)}{ns:List (Nat×List FuncId)}(ht:∀c∈tbl,aM P c) (hr:∀c∈tbr,aM P c) (hy:∀y∈ys,Hr P y):A1 P N (Z3 N tbl tbr ys ns) where
 call:=fun ok W hW A kp r s dst c k hl hi h=>by
  have h:(match yP s c with
   | true=>KT ys N A s dst c k
   | false=>xF tbl ns ok A s dst c k)=some r:=h
  rw[hi] at h;exact(Nc (N:=N) ht ok W hW A r).p s dst c k hl hi h
 cW:=fun ok A kp r cx s dst c k hl hi h=>by
  have h:(match yP s c with
   | true=>KT ys N A s dst c k
   | false=>xF tbl ns ok A s dst c k)=some r:=h
  rw[hi] at h;exact WC hy ok A r cx s dst c k hl hi h
 rf:=fun cx hro key hd g hN s B K r hl h Q hQ=>R1 hr cx hro key hd g hN s B K r hl h Q fun e t a b c _=>hQ e t a b c
def Yy (S:eI):List (Nat×Nat)→List (Nat×Array Tmp×Code×Code)
 | []=>[]
 | (p,k)::r=>(p,(S.fJ k).ps,(S.fJ k).nF,(S.fJ k).body)::Yy S r
def Wh (S:eI) (N:Nat) (H:List (Nat×Hint)):List (Nat×Nat)→Bool
 | []=>true
 | (p,k)::r=>(match kO H p with
  | some (.RT key _)=>Nat.beq key k&&Nat.beq (S.fJ k).N N
  | _=>true)&&Wh S N H r
theorem SB {N:Nat}{H:List (Nat×Hint)}:∀{ks:List (Nat×Nat)},Wh S N H ks=true→qf S N H (Yy S ks)
 | [],_=>trivial
 | (p,k)::r,h=>by
  simp only[Wh,af] at h;refine⟨?_,SB h.2⟩;have h1:=h.1;split
  ·rename_i key hd hh;rw[hh] at h1;simp only[af] at h1;have e1:=ab h1.1;have e2:=ab h1.2;subst e1;exact⟨e2,rfl,rfl,rfl⟩
  ·trivial
theorem aM.Wc {P:Program}{N fu:Nat}{H:List (Nat×Hint)}{tbl tbr:List (bz S)}{ys:List (rm S)}{con:bz S}{fn:Func}{c:Code}(ks:List (Nat×Nat)) (hm:P.follows .mixedOrders=true) (ht:∀c∈tbl,aM P c) (hr:∀c∈tbr,aM P c) (hy:∀y∈ys,Hr P y)
  (hf:P.funcs[con.f]?=some fn) (hcall:∀args w,(callFunc con.f args).run P w=.ok (.enter con.f args) w) (hb:fn.body=some c) (hN:fn.ntmps=N)
  (hle:pr N con.args con.aw con.outs=true) (hk:mV c 0=Yy S ks) (hkn:Wh S N H ks=true)
  {mvs:List Nat}{ns:List (Nat×List FuncId)}(h:∀q,E7 P N fu H (Z3 N tbl tbr ys ns) c mvs fn.results.toList con.args con.aQ con.aw con.outs q=con.F q):aM P con:=
 aM.Z2 hm (Zh ht hr hy) hf hcall hb hN hle (hk▸SB hkn) h
def V8 (P:Program) (f i id:Nat) (aw:List Nat):Wy:=match P.funcs[f]? with
 | some fn=>match fn.body with
  | some c=>match (mV c 0)[i]? with
   | some (_,ps,a,b)=>⟨fn.ntmps,aw,ps,a,b,id⟩
   | none=>⟨0,[],#[],.skip,.skip,0⟩
  | none=>⟨0,[],#[],.skip,.skip,0⟩
 | none=>⟨0,[],#[],.skip,.skip,0⟩
end
end Go.DN
/-
 DN,part Ze:panics that are caught,deferred calls.
-/
namespace Go.DN
open Go.AM
section
variable {S:eI}
end
end Go.DN
