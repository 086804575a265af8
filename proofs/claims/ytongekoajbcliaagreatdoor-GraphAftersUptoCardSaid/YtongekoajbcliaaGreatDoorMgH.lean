/-
  DN, fourth part.
-/
import Derived.Test.YtongekoajbcliaaGreatDoorMgD
import Derived.KernelRfl
import Derived.Test.YtongekoajbcliaaGreatDoorMgI
set_option linter.all false
/-
 DN,part Vb:a call whose arguments all lead to what the caller's call has made:so does its answer.
-/
namespace Go.DN
open Go.AM
def sO:G→Bool
 | .val _=>true
 | .dC _=>true
 | .fr _=>true
 | .agg gs=>go gs
 | .bf _ gs=>go gs
 | _=>false
where go:List G→Bool
 | []=>true
 | g::r=>sO g&&go r
def wK:∀{gs:List G},sO.go gs=true->∀(j:Nat) (g:G),gs[j]?=some g->sO g=true|[],_,j,g,a=>by simp at a|x::r,h,j,g,a=>by simp only[sO.go,ag] at h;cases j with|zero=>cases a;exact h.1|succ j=>exact wK h.2 j g a
def td:G→G
 | .val v=>.val v
 | .dC b=>.fr (.dC b)
 | .sl n cs=>.fr (.sl n cs)
 | .ptr cs=>.fr (.ptr cs)
 | .agg gs=>.agg (go gs)
 | .bE gs=>.bE (go gs)
 | .bf f gs=>.bf f (go gs)
 | g=>g
where go:List G→List G
 | []=>[]
 | g::r=>td g::go r
def yX:∀(gs:List G),(td.go gs).length=gs.length|[]=>rfl|_::r=>congrArg (·+1) (yX r)
def B5:∀{gs:List G}{j:Nat}{g':G},(td.go gs)[j]?=some g'->∃g,gs[j]?=some g/\g'=td g|[],_,_,h=>by simp[td.go] at h|x::r,j,g',h=>by cases j with|zero=>simp only[td.go,jg,kB] at h;exact⟨x,rfl,h.symm⟩|succ j=>exact B5 (gs:=r) (by simpa[td.go] using h)
def TB{O X:Nat->Prop}{base:Nat}{μ μ':Mu}{w:World}{g g':G}{v:Value}(h:bN O w g v)(y:∀b,X b->b<w.heap.size->iE O base b)(hg:sO g=true)(hf:gS g=some g'):aU X w.heap.size w μ' g' v:=by induction h generalizing g' with|any v=>cases hg|val v=>cases hf;unfold og;split;exact .aG .nil;exact .aG (.val _)|dC b v h=>cases hf;exact .aG (.dC b v h)|nil=>cases hg|jk a c=>cases hg|sl n d b i t k f s m e r l=>cases hg|ptr d b i k f s m e l=>cases hg|agg d k z x l=>simp only[gS,aA] at hf;obtain⟨o,f,rfl⟩:=hf;obtain⟨s,m⟩:=rn f;refine .agg o k (by omega) fun j g v p u=>?_;obtain⟨q,e,r⟩:=m j g p;exact l j q v e u (wK hg j q e) r
def TC{O X:Nat->Prop}{base:Nat}{μ μ':Mu}{w:World}{g g':G}{v:Value}(h:aU O base w μ g v)(r:∀b,X b->b<w.heap.size->iE O base b)(hg:sO g=true)(hf:gS g=some g'):aU X w.heap.size w μ' g' v:=by induction h generalizing g' with|aG h=>exact TB (base:=base) (μ:=μ) h r hg hf|fr h=>cases hf;exact .aG (h.mono (Kept.refl _ _) fun b z y x=>y (r b x z))|agg m l t u o=>simp only[gS,aA] at hf;obtain⟨c,k,rfl⟩:=hf;obtain⟨s,i⟩:=rn k;refine .agg c l (by omega) fun j g v a n=>?_;obtain⟨d,e,p⟩:=i j g a;exact o j d v e n (wK hg j d e) p|bf f q l t u o=>simp only[gS,aA] at hf;obtain⟨c,k,rfl⟩:=hf;obtain⟨s,i⟩:=rn k;refine .bf f c l (by omega) fun j g v a n=>?_;obtain⟨d,e,p⟩:=i j g a;exact o j d v e n (wK hg j d e) p|_=>cases hg
def Uz{X O:Nat->Prop}{base:Nat}{μ:Mu}{w:World}{g:G}{v:Value}(h:bN X w g v)(y:∀b,b<w.heap.size->iE O base b->X b)(hi:nO g=true):aU O base w μ (td g) v:=by have k:∀{g:G}{v:Value},bN X w g v->bN (iE O base) w g v:=fun h=>h.mono (Kept.refl _ _) fun b u s t=>s (y b u t);induction h with|any v=>cases hi|val v=>exact .aG (.val _)|dC b v h=>exact .fr (.dC b v h)|nil=>exact .fr .nil|jk a c=>exact .fr (.jk a c)|sl n d b e l i f o p m x q=>exact .fr (k (.sl n d b e l i f o p m x))|ptr d b e i f o p m q=>exact .fr (k (.ptr d b e i f o p m))|agg d i z C q=>refine .agg _ i (by rw[yX];exact z) fun j g v A B=>?_;obtain⟨r,f,rfl⟩:=B5 A;exact q j r v f B (tK hi j r f)
def UA{X O:Nat->Prop}{t base:Nat}{n μ:Mu}{w:World}{g:G}{v:Value}(h:aU X t w n g v)(p:∀b,b<w.heap.size->iE O base b->X b)(hi:nO g=true):aU O base w μ (td g) v:=by induction h with|aG h=>exact Uz h p hi|fr h=>exact .fr (h.mono (Kept.refl _ _) fun b q s r=>s (.inr (p b q r)))|agg a e i o k=>refine .agg _ e (by rw[yX];exact i) fun j g v m l=>?_;obtain⟨d,c,rfl⟩:=B5 m;exact k j d v c l (tK hi j d c)|bE a e i o k=>refine .bE _ e (by rw[yX];exact i) fun j g v m l=>?_;obtain⟨d,c,rfl⟩:=B5 m;exact k j d v c l (tK hi j d c)|bf f a e i o k=>refine .bf f _ e (by rw[yX];exact i) fun j g v m l=>?_;obtain⟨d,c,rfl⟩:=B5 m;exact k j d v c l (tK hi j d c)|_=>cases hi
section
variable {P:Program}{N:Nat}{cx:Cx}{s:St}
variable {ty:TypeId}{pos:String}{after:Array Edge}{guard:Option (Nat×Bool)}{W:List Nat}{d:Nat}
def RI{f:FuncId}{vs:List Value}{gs t:List G}{Q:G->List (Nat×aw)->Prop}{μ:Mu}{a:Act}{w:World}(n:Rel N cx μ s a w)(u:sO.go gs=true)(A:eX gS gs=some t)(K:vs.length=gs.length)(p:∀(j:Nat) (g:G) (v:Value),gs[j]?=some g->vs[j]?=some v->aU (cx.O s.st μ) cx.base w μ g v)(q:GM P f t [] Q)(o:∀r st',Q r st'->nO r=true/\st'=[]):Calls P f vs.toArray w fun e w'=>∃v r st',e=.returned v/\Q r st'/\Rel N cx μ s a w'/\aU (cx.O s.st μ) cx.base w' μ (td r) v/\Step W s.st μ s.st μ w w':=by
 obtain⟨C,z⟩:=rz A;have x:∀b,cx.O s.st μ b->b<w.heap.size:=fun b d=>by rcases d with d|d;have:=n.st.fq b d;have:=n.st.hb;omega;exact qS n.st d
 have B:∀b,(iE (cx.O s.st μ) cx.base b/\b<w.heap.size)->b<w.heap.size:=fun b d=>d.2;refine(q.returned (fun b=>iE (cx.O s.st μ) cx.base b/\b<w.heap.size) (fun _=>none) w vs B (Ci B (n.st.W5 fun _ h=>(oW h).elim)) (by omega) fun j g v J A=>?_).mono ?_;obtain⟨D,F,H⟩:=z j g J;refine TC (O:=cx.O s.st μ) (base:=cx.base) (p j D v F A) ?_ (wK u j D F) H;rintro b (d|d) _;exact d.1;exact absurd d oW;rintro e w' ⟨v,r,st',I,rfl,E,i,y⟩;have l:∀b,b<w.heap.size->w'.heap[b]?=w.heap[b]?:=fun b d=>i.dB b d oW;obtain⟨M,O⟩:=o r st' E;subst O;refine⟨v,r,[],rfl,E,n.kept i.hb l i.os i.tape i.output,?_,⟨i.hb,fun b d _=>l b d,fun h k c m b R C z L=>.inl ⟨h,k,c,m,R,C,z,L⟩⟩⟩;refine UA y ?_ M;intro b _ d;refine .inl ⟨d,?_⟩;rcases d with d|d;exact cO d n.st.hb;exact x b d
def EF.Z1{f:FuncId}{xs:Array Operand}{ts:Array TypeId}{gs k:List G}{Q:G->List (Nat×aw)->Prop}(I:∀args w,(callFunc f args).run P w=.ok (.enter f args) w)(hx:wO s xs.toList=some gs)(i:sO.go gs=true)(m:eX gS gs=some k)(c:GM P f k [] Q)(l:∀r st',Q r st'->nO r=true/\st'=[]):cu P W s ⟨some d,.call ⟨.value (.func f),xs,ts⟩,ty,pos,after,guard⟩ (fun u=>∃r st',Q r st'/\u=s.put d (td r)):=by
 refine⟨(fun _ h=>by cases h),?_⟩;intro N L y a w t H K J z;obtain⟨A,B⟩:=oY hx;have b:=RI (vs:=xs.toList.map a.eval) (W:=W) t i m (by simp[A]) (fun j g v D m=>by obtain⟨x,o,F⟩:=B j g D;rw[ao,o] at m;cases m;exact t.ev F) c l;unfold Oper.wp;have:(execOp a.eval ⟨some d,.call ⟨.value (.func f),xs,ts⟩,ty,pos,after,guard⟩).run P w=.ok (.enter f (xs.toList.map a.eval).toArray) w:=by (have e:xs.map a.eval=(xs.toList.map a.eval).toArray:=by rw[<-iF]);simp[execOp,resolve,invoke,Deferred.ofValue,Act.eval,I,e]
 rw[this];refine b.mono ?_;rintro e C ⟨v,r,st',rfl,E,p,q,n⟩;exact z y _ _ C (p.put (H d rfl) q) ⟨r,st',E,rfl⟩ n
end
section
variable {S:eN}
def TV.Kl:TV S→Bool
 | .aE f τ _=>f||τ.jb
 | .ptr f _ _=>f
 | .val _=>true
 | .agg l=>go l
 | .bf _ l=>go l
 | _=>false
where go:List (TV S)→Bool
 | []=>true
 | x::r=>x.Kl&&go r
def VR{g:G}(h:Pl g):sO (ei true g)=true:=by rcases h with ⟨u,rfl⟩|⟨n,a,rfl⟩|⟨b,rfl⟩|⟨a,rfl⟩ <;> rfl
mutual
theorem VQ (ln:Nat→Nat):∀v:TV S,v.Kl=true→sO (v.er ln)=true
 | .aE f τ a,hf=>by
  have hf:(f||τ.jb)=true:=hf;cases τ with
  | st n=>
   have e:f=true:=by simpa[Ty.jb] using hf
   subst e;show sO.go ((aX S (.st n) a).map (ei true))=true;have h:=uR (S:=S) (.st n) a;generalize aX S (.st n) a=l at h
   induction l with
   | nil=>rfl
   | cons x r ih=>
    simp only[bg,sO.go,VR (h x au),ih fun y hy=>h y (ar _ hy),iA]
  | list τ=>
   have e:f=true:=by simpa[Ty.jb] using hf
   subst e;rfl
  | pt n=>
   have e:f=true:=by simpa[Ty.jb] using hf
   subst e;cases a <;> rfl
  | _=>cases f <;> rfl
 | .ptr f τ a,hf=>by
  have e:f=true:=hf;subst e;rfl
 | .val _,_=>rfl
 | .agg l,h=>xS ln l h
 | .bf _ l,h=>xS ln l h
 | .bE _,h=>by cases h
 | .loc _ _,h=>by cases h
 | .iU _ _ _ _,h=>by cases h
 | .aN _ _,h=>by cases h
 | .sub _ _ _ _,h=>by cases h
 | .da _,h=>by cases h
 | .mp _,h=>by cases h
 | .ks _ _ _ _,h=>by cases h
 | .kp _ _ _ _,h=>by cases h
 | .iQ _ _ _ _ _,h=>by cases h
 | .gG _ _ _,h=>by cases h
 | .ee _ _,h=>by cases h
 | .any,h=>by cases h
theorem xS (ln:Nat→Nat):∀l:List (TV S),TV.Kl.go l=true→sO.go (TV.er.go ln l)=true
 | [],_=>rfl
 | x::r,h=>by
  simp only[TV.Kl.go,ag] at h;simp only[TV.er.go,sO.go,VQ ln x h.1,xS ln r h.2,iA]
end
mutual
theorem X6:∀v:TV S,v.Kl=true→v.imp=true
 | .aE f τ a,_=>rfl
 | .ptr f τ a,_=>rfl
 | .val _,_=>rfl
 | .agg l,h=>AJ l h
 | .bf _ l,h=>AJ l h
 | .bE _,h=>by cases h
 | .loc _ _,h=>by cases h
 | .iU _ _ _ _,h=>by cases h
 | .aN _ _,h=>by cases h
 | .sub _ _ _ _,h=>by cases h
 | .da _,h=>by cases h
 | .mp _,h=>by cases h
 | .ks _ _ _ _,h=>by cases h
 | .kp _ _ _ _,h=>by cases h
 | .iQ _ _ _ _ _,h=>by cases h
 | .gG _ _ _,h=>by cases h
 | .ee _ _,h=>by cases h
 | .any,h=>by cases h
theorem AJ:∀l:List (TV S),TV.Kl.go l=true→TV.imp.go l=true
 | [],_=>rfl
 | x::r,h=>by
  simp only[TV.Kl.go,ag] at h;simp only[TV.imp.go,X6 x h.1,AJ r h.2,iA]
end
def TV.up:TV S→TV S
 | .aE _ τ a=>.aE true τ a
 | .bE l=>.bE (go l)
 | v=>v
where go:List (TV S)→List (TV S)
 | []=>[]
 | .aE _ τ a::r=>.aE true τ a::go r
 | v::r=>v::go r
def R6{f:Bool}{g:G}(h:Pl g):td (ei f g)=ei true g:=by rcases h with ⟨u,rfl⟩|⟨n,a,rfl⟩|⟨b,rfl⟩|⟨a,rfl⟩ <;> cases f <;> rfl
def R7(f:Bool)(τ:Ty)(a:S.D τ):td (pe f τ a)=pe true τ a:=by cases τ with|st n=>(show G.agg (td.go ((aX S (.st n) a).map (ei f)))=G.agg ((aX S (.st n) a).map (ei true));congr 1;have h:=uR (S:=S) (.st n) a;generalize aX S (.st n) a=l at h;induction l with|nil=>rfl|cons x r c=>simp only[bg,td.go,R6 (h x au),c fun y b=>h y (ar _ b)])|_=>exact R6 (zt rfl a)
def WJ(ln:Nat->Nat):∀(ay:List (Nat×Sh)) (b:List (bp S.α)),oD ay=true->b.length=(jM ay).length->TV.er.go ln (TV.up.go ((cH ay b).1.map (·.2)))=td.go (TV.er.go ln ((cH ay b).1.map (·.2)))|[],_,_,_=>rfl|(d,.aE f e)::r,b,h,c=>(by cases b with|nil=>simp[jM,Sh.dd] at c|cons x g=>simp only[cH,hJ,bg,TV.up.go,TV.er.go,td.go];rw[WJ ln r g h (by simpa[jM,Sh.dd] using c)];exact congrArg (·::_) (R7 f x.τ x.a).symm)|(d,.own h e)::r,b,a,_=>by cases a|(d,.ptr _ _)::r,b,a,_=>by cases a|(d,.loc _ _)::r,b,a,_=>by cases a|(d,.bf _ _)::r,b,a,_=>by cases a|(d,.agg _)::r,b,a,_=>by cases a|(d,.da _)::r,b,a,_=>by cases a|(d,.mp _)::r,b,a,_=>by cases a|(d,.iQ _ _)::r,b,a,_=>by cases a|(d,.gG _ _)::r,b,a,_=>by cases a|(d,.ee _)::r,b,a,_=>by cases a|(d,.ks _ _)::r,b,a,_=>by cases a|(d,.any)::r,b,a,_=>by cases a|(d,.nT)::r,b,a,_=>by cases a|(d,.sub _ _)::r,b,a,_=>by cases a
def aac(ln:Nat->Nat){ay:List (Nat×Sh)}{a:List (bp S.α)}(h:oD ay=true)(b:a.length=(jM ay).length):((om ay a).up).er ln=td ((om ay a).er ln):=by have e:=WJ ln ay a h b;match ay,h with|[],_=>rfl|[(d,.aE f c)],_=>(cases a with|nil=>simp[jM,Sh.dd] at b|cons x i=>exact(R7 f x.τ x.a).symm)|(d,.aE f c)::(j,g)::r,_=>exact congrArg G.bE e
def RJ(a:bB S)(s:ae S)(d:Nat)(vs:List (TV S)){A:Type}(k:ae S->Option A):Option A:=match qR a&&(!(sN a.ay)&&TV.Kl.go vs) with|true=>(match lO s a.args vs with|some b=>(match oi (k5 a.args a.aR) b with|some q=>(a.F q).bind fun r=>k (s.put d (om a.ay (leaves _ r)).up)|none=>none)|none=>none)|false=>A6 a s d vs k
def NQ{P:Program}{N:Nat}{W:List Nat}{c:bB S}(C:aO P c){s:ae S}{d:Nat}{vs:List (TV S)}{A:Type}{k:ae S->Option A}{r:A}(x:aQ s)(h:RJ c s d vs k=some r){xs:Array Operand}{ts:Array TypeId}{ty:TypeId}{pos:String}{after:Array Edge}{guard:Option (Nat×Bool)}(u:u4 s xs.toList=some vs):∃T:St->Prop,cu P W s.er ⟨some d,.call ⟨.value (.func c.f),xs,ts⟩,ty,pos,after,guard⟩ T/\∀n,T n->∃t:ae S,Gh n t.er/\aQ t/\bG s t/\k t=some r:=by unfold RJ at h;split at h;rename_i w;simp only[ag,aT] at w;obtain⟨v,_,j⟩:=w;obtain⟨y,o,B⟩:=z7 C v;split at h;rename_i G p;split at h;rename_i q D;obtain⟨f,F,z⟩:=bind_some h;have a:=(xx 1 (fun _=>0) y p []).2;rw[bR,<-il D] at a;have b:=DB f (vF v);have i:=qn s.ln vs (AJ vs j);refine⟨_,EF.Z1 (P:=P) (W:=W) C.call (nJ u).2 (xS s.ln vs j) (Au i a) (B q f F) (fun g E l=>⟨by rw[l.1];exact IH o b _,l.2⟩),?_⟩;intro n m;obtain⟨g,E,⟨l,_⟩,e⟩:=m;subst e;subst l;refine⟨_,?_,x.put d _,⟨rfl,rfl,rfl⟩,z⟩;rw[iT,aac s.ln o b,L4 s.ln (fun _=>0) o];exact Gh.refl _;cases h;cases h;exact Wl (N:=N) C x h u
end
end Go.DN
/-
 DN,part W:calls to which all objects are lent,and what comes back.
-/
namespace Go.DN
open Go.AM
section
variable {P:Program}{W:List Nat}{s:St}{d:Nat}{ty:TypeId}{pos:String}{after:Array Edge}{guard:Option (Nat×Bool)}
def EF.aas{f:FuncId}{xs:Array Operand}{ts:Array TypeId}{gs i:List G}{eo:List (Nat×aw)}{Q:G->List (Nat×aw)->Prop}{T:St->Prop}(H:List Nat)(m:Bool)(X:∀args w,(callFunc f args).run P w=.ok (.enter f args) w)(hx:wO s xs.toList=some gs)(o:bW.go H (fE s.st H m) gs=some i)(z:gI H (fE s.st H m) s.st H 0=some eo)(A:qx H=true)(k:GM P f i eo Q)(c:∀r st',Q r st'->∃p q n,qt m s H st' p=some q/\eE m (kA st' p) r=some n/\T (q.put d n))(J:Bp H W=true):cu P W s ⟨some d,.call ⟨.value (.func f),xs,ts⟩,ty,pos,after,guard⟩ T:=by
 refine⟨(fun _ h=>by cases h),?_⟩;intro N cx μ a w u C K Q' E;obtain⟨F,I⟩:=oY hx;have b:=xI (vs:=xs.toList.map a.eval) u o z A (by simp[F]) (fun j g v M o=>by obtain⟨x,t,O⟩:=I j g M;rw[ao,t] at o;cases o;exact u.ev O) k;unfold Oper.wp;have:(execOp a.eval ⟨some d,.call ⟨.value (.func f),xs,ts⟩,ty,pos,after,guard⟩).run P w=.ok (.enter f (xs.toList.map a.eval).toArray) w:=by (have e:xs.map a.eval=(xs.toList.map a.eval).toArray:=by rw[<-iF]);simp[execOp,resolve,invoke,Deferred.ofValue,Act.eval,X,e]
 rw[this];refine b.mono ?_;rintro e R (⟨v,r,st',D,rfl,S,U,y⟩|⟨_,_,_,_,h,_⟩);obtain⟨p,q,n,L,l,V⟩:=c r st' S;obtain⟨Y,Z,B,_⟩:=xd u z (ot A) U L;exact E _ _ _ R (Y.put (C d rfl) (Z r n v y l)) V (B W (Bo J));exact h.elim
end
section
variable {S:eN}
def DM(s:ae S)(d:Bool)(H:List Nat)(τ:Ty):TV S->Option (S.D τ)|.aE _ b a=>(match b.gA with|true=>none|false=>jF b τ a)|.val (.slice none 0 0)=>(match τ with|.list _=>some []|_=>none)|.aN h c=>(match d with|true=>(match dH H h with|none=>(match aB s.bo h with|some (.arr _ _ _ b l)=>(match decEq b c with|isTrue _=>jF (.list b) τ l|isFalse _=>none)|_=>none)|some _=>none)|false=>none)|_=>none
def Lb(s:ae S)(c:Bool)(H:List Nat):List Ty->List (TV S)->Option (List (bp S.α))|[],[]=>some []|b::e,v::d=>(match DM s c H b v with|some a=>(match Lb s c H e d with|some l=>some (⟨b,a⟩::l)|none=>none)|none=>none)|_,_=>none
def Q1(s:ae S)(c:Bool)(H:List Nat)(τ:Ty)(v:TV S):Option (S.D τ):=match v with|.aE _ b a=>jF b τ a|.agg d=>(match τ with|.st n=>(match Lb s c H (S.dd n) d with|some l=>S.put n l|none=>none)|_=>none)|v=>DM s c H τ v
mutual
def l9 (s:ae S) (vw:Bool) (H:List Nat):Sh→TV S→Option (List (bp S.α))
 | .aE false τ,v=>match Q1 s vw H τ v with
  | some a=>some [⟨τ,a⟩]
  | none=>none
 | .ptr false τ,v=>match v with
  | .ptr _ τ' a=>match jF τ' τ a with
   | some b=>some [⟨τ,b⟩]
   | none=>none
  | _=>none
 | .own r τ,v=>match v with
  | .aN h τ'=>match dH H h with
   | some i=>match Nat.beq (1000+i) r with
    | true=>match decEq τ' τ with
     | isTrue _=>some []
     | isFalse _=>none
    | false=>none
   | none=>none
  | _=>none
 | .loc r o,v=>match v with
  | .loc h o'=>match dH H h with
   | some i=>match Nat.beq (1000+i) r&&Nat.beq o' o with
    | true=>some []
    | false=>none
   | none=>none
  | _=>none
 | .bf f l,v=>match v with
  | .bf f' vs=>match Nat.beq f' f with
   | true=>kZ s vw H l vs
   | false=>none
  | _=>none
 | .agg l,v=>match v with
  | .agg vs=>kZ s vw H l vs
  | _=>none
 | .da r,v=>match v with
  | .da h=>match dH H h with
   | some i=>match Nat.beq (1000+i) r with
    | true=>some []
    | false=>none
   | none=>none
  | _=>none
 | .mp r,v=>match v with
  | .mp h=>match dH H h with
   | some i=>match Nat.beq (1000+i) r with
    | true=>some []
    | false=>none
   | none=>none
  | _=>none
 | .gG r o,v=>match v with
  | .loc h o'=>match dH H h with
   | some i=>match Nat.beq (1000+i) r&&Nat.beq o' o with
    | true=>some [⟨.bool,false⟩]
    | false=>none
   | none=>none
  | .val (.pointer none)=>some [⟨.bool,true⟩]
  | .gG b h o'=>match dH H h with
   | some i=>match Nat.beq (1000+i) r&&Nat.beq o' o with
    | true=>some [⟨.bool,b⟩]
    | false=>none
   | none=>none
  | _=>none
 | .ee r,v=>match v with
  | .mp h=>match dH H h with
   | some i=>match Nat.beq (1000+i) r with
    | true=>some [⟨.bool,false⟩]
    | false=>none
   | none=>none
  | .ee b h=>match dH H h with
   | some i=>match Nat.beq (1000+i) r with
    | true=>some [⟨.bool,b⟩]
    | false=>none
   | none=>none
  | _=>none
 | .nT,v=>match v with
  | .bf f []=>some [⟨.int .i64,(f:Int)⟩]
  | _=>none
 | .ks r τ,v=>match v with
  | .ks h τ' z n=>match dH H h with
   | some i=>match Nat.beq (1000+i) r with
    | true=>match decEq τ' τ with
     | isTrue _=>some [⟨.int .i64,(z:Int)⟩,⟨.int .i64,(n:Int)⟩]
     | isFalse _=>none
    | false=>none
   | none=>none
  | _=>none
 | .sub r τ,v=>match v with
  | .sub h τ' o n=>match dH H h with
   | some i=>match Nat.beq (1000+i) r with
    | true=>match decEq τ' τ with
     | isTrue _=>some [⟨.int .i64,(o:Int)⟩,⟨.int .i64,(n:Int)⟩]
     | isFalse _=>none
    | false=>none
   | none=>none
  | _=>none
 | _,_=>none
def kZ (s:ae S) (vw:Bool) (H:List Nat):List Sh→List (TV S)→Option (List (bp S.α))
 | [],[]=>some []
 | x::r,v::vs=>match l9 s vw H x v with
  | some a=>match kZ s vw H r vs with
   | some l=>some (a++l)
   | none=>none
  | none=>none
 | _,_=>none
end
def J5(H:List Nat)(b:List (Nat×aw))(f:Bool){τ:Ty}(h:τ.gA=false)(a:S.D τ):bW H b (ei f (dM S τ a))=some (dM S τ a):=by cases τ with|st n=>cases h|pt n=>cases a <;> cases f <;> rfl|_=>cases f <;> rfl
def MT{s:ae S}{i:Bool}{H:List Nat}{τ:Ty}{v:TV S}{a:S.D τ}(h:DM s i H τ v=some a):bW H (fE s.er.st H i) (v.er s.ln)=some (dM S τ a)/\τ.gA=false:=by unfold DM at h;split at h;split at h;cases h;rename_i c;have:=e9 h;cases this;refine⟨?_,c⟩;rw[qs c];exact J5 H _ _ c _;split at h;cases h;exact⟨rfl,rfl⟩;cases h;rename_i g n;split at h;split at h;rename_i d;split at h;rename_i e m f b l j;split at h;rename_i k _;subst k;have:=e9 h;cases this;refine⟨?_,rfl⟩;show bW H (fE s.er.st H true) (.aN g (S.sz b) 0 (s.ln g))=_;simp only[bW,d,fE,cond_true,view,Ad d (eG j),TO.er];rw[pQ j,ib,dc (by rw[kz];exact aH _)];rfl;cases h;cases h;cases h;cases h;cases h
def MS{s:ae S}{b:Bool}{H:List Nat}:∀{ts:List Ty}{vs:List (TV S)}{l:List (bp S.α)},Lb s b H ts vs=some l->bW.go H (fE s.er.st H b) (TV.er.go s.ln vs)=some (l.map fun x=>dM S x.τ x.a)|[],[],_,h=>by cases h;rfl|e::ts,v::vs,l,h=>by simp only[Lb] at h;split at h;rename_i a d;split at h;rename_i f c;cases h;simp only[TV.er.go,bW.go,(MT d).1,MS c,bg];cases h;cases h|[],_::_,_,h=>by cases h|_::_,[],_,h=>by cases h
def Vs{s:ae S}{c:Bool}{H:List Nat}{τ:Ty}{v:TV S}{a:S.D τ}(h:Q1 s c H τ v=some a)(ln:Nat->Nat):bW H (fE s.er.st H c) (v.er s.ln)=some ((TV.aE false τ a:TV S).er ln):=by
 have b:DM s c H τ v=some a->bW H (fE s.er.st H c) (v.er s.ln)=some ((TV.aE false τ a:TV S).er ln):=by intro h;obtain⟨n,i⟩:=MT h;rw[n,qs i];rfl
 unfold Q1 at h;split at h;rename_i f j t;have:=e9 h;cases this;cases τ with|st k=>show(bW.go H _ ((aX S (.st k) a).map (ei f))).map G.agg=some (.agg ((aX S (.st k) a).map (ei false)));(have d:bW.go H (fE s.er.st H c) ((aX S (.st k) a).map (ei f))=some ((aX S (.st k) a).map (ei false)):=by rw[ir];have h:=lH k a;generalize S.cells k a=l at h;induction l with|nil=>rfl|cons x r o=>simp only[bg,bW.go];rw[J5 H _ f (h x au) x.a,o fun y m=>h y (ar _ m)];rfl);rw[d];rfl|_=>exact b (by unfold DM;exact h)
 rename_i p;split at h;rename_i k;split at h;rename_i l q;have g:=S.ig _ _ _ h;show(bW.go H _ (TV.er.go s.ln p)).map G.agg=some (.agg ((aX S (.st k) a).map (ei false)));have e:(ei false)=(id:G->G):=rfl;rw[e,List.map_id,ir,g,MS q];rfl;cases h;cases h;exact b h
mutual
theorem Vr {s:ae S}{vw:Bool}{H:List Nat}{lnC:Nat→Nat}(hln:∀i h,dH H h=some i→lnC (1000+i)=s.ln h):∀{sh:Sh}{v:TV S}{xs:List (bp S.α)},l9 s vw H sh v=some xs→∀r,(hJ sh (xs++r)).2=r∧bW H (fE s.er.st H vw) (v.er s.ln)=some ((hJ sh (xs++r)).1.er lnC)
 | .aE true τ,v,xs,h,r=>by simp[l9] at h
 | .aE false τ,v,xs,h,r=>by
  simp only[l9] at h;split at h
  ·rename_i a ha;cases h;exact⟨rfl,Vs ha lnC⟩
  ·cases h
 | .ptr true τ,v,xs,h,r=>by simp[l9] at h
 | .ptr false τ,v,xs,h,r=>by
  simp only[l9] at h;split at h
  ·rename_i f τ' a;split at h
   ·rename_i b hb;cases h;have:=e9 hb;cases this;refine⟨rfl,?_⟩;cases f <;> rfl
   ·cases h
  ·cases h
 | .own k τ,v,xs,h,r=>by
  simp only[l9] at h;split at h
  ·rename_i hh τ';split at h
   ·rename_i i hi;split at h
    ·rename_i hb;split at h
     ·rename_i e _;cases h;subst e;have:=ab hb;subst this;refine⟨rfl,?_⟩;show bW H _ (.aN hh (S.sz τ') 0 (s.ln hh))=some (.aN (1000+i) (S.sz τ') 0 (lnC (1000+i)));simp only[bW,hi,hln i hh hi]
     ·cases h
    ·cases h
   ·cases h
  ·cases h
 | .loc k o,v,xs,h,r=>by
  simp only[l9] at h;split at h
  ·rename_i hh o';split at h
   ·rename_i i hi;split at h
    ·rename_i hb;simp only[ag] at hb;cases h;have e1:=ab hb.1;have e2:=ab hb.2;subst e1;subst e2;refine⟨rfl,?_⟩;show bW H _ (.loc hh o')=some (.loc (1000+i) o');simp only[bW,hi]
    ·cases h
   ·cases h
  ·cases h
 | .bf f l,v,xs,h,r=>by
  simp only[l9] at h;split at h
  ·rename_i f' vs;split at h
   ·rename_i hb;have e:=ab hb;subst e;obtain⟨i1,i2⟩:=ji hln h r;refine⟨i1,?_⟩;show(bW.go H _ (TV.er.go s.ln vs)).map (G.bf f')=_;rw[i2];rfl
   ·cases h
  ·cases h
 | .agg l,v,xs,h,r=>by
  simp only[l9] at h;split at h
  ·rename_i vs;obtain⟨i1,i2⟩:=ji hln h r;refine⟨i1,?_⟩;show(bW.go H _ (TV.er.go s.ln vs)).map G.agg=_;rw[i2];rfl
  ·cases h
 | .da k,v,xs,h,r=>by
  simp only[l9] at h;split at h
  ·rename_i hh;split at h
   ·rename_i i hi;split at h
    ·rename_i hb;cases h;have:=ab hb;subst this;refine⟨rfl,?_⟩;show bW H _ (.da hh)=some (.da (1000+i));simp only[bW,hi]
    ·cases h
   ·cases h
  ·cases h
 | .mp k,v,xs,h,r=>by
  simp only[l9] at h;split at h
  ·rename_i hh;split at h
   ·rename_i i hi;split at h
    ·rename_i hb;cases h;have:=ab hb;subst this;refine⟨rfl,?_⟩;show bW H _ (.eT hh)=some (.eT (1000+i));simp only[bW,hi]
    ·cases h
   ·cases h
  ·cases h
 | .any,v,xs,h,r=>by simp[l9] at h
 | .ee k,v,xs,h,r=>by
  simp only[l9] at h;split at h
  ·rename_i hh;split at h
   ·rename_i i hi;split at h
    ·rename_i hb;cases h;have e1:=ab hb;subst e1;refine⟨rfl,?_⟩;show bW H _ (.eT hh)=some (.eT (1000+i));simp only[bW,hi]
    ·cases h
   ·cases h
  ·rename_i b hh;split at h
   ·rename_i i hi;split at h
    ·rename_i hb;cases h;have e1:=ab hb;subst e1;refine⟨rfl,?_⟩;cases b with
     | true=>rfl
     | false=>
      show bW H _ (.eT hh)=some (.eT (1000+i));simp only[bW,hi]
    ·cases h
   ·cases h
  ·cases h
 | .gG k o,v,xs,h,r=>by
  simp only[l9] at h;split at h
  ·rename_i hh o';split at h
   ·rename_i i hi;split at h
    ·rename_i hb;rw[ag] at hb;cases h;have e1:=ab hb.1;have e2:=ab hb.2;subst e1;subst e2;refine⟨rfl,?_⟩;show bW H _ (.loc hh o')=some (.loc (1000+i) o');simp only[bW,hi]
    ·cases h
   ·cases h
  ·cases h;exact⟨rfl,rfl⟩
  ·rename_i b hh o';split at h
   ·rename_i i hi;split at h
    ·rename_i hb;rw[ag] at hb;cases h;have e1:=ab hb.1;have e2:=ab hb.2;subst e1;subst e2;refine⟨rfl,?_⟩;cases b with
     | true=>rfl
     | false=>
      show bW H _ (.loc hh o')=some (.loc (1000+i) o');simp only[bW,hi]
    ·cases h
   ·cases h
  ·cases h
 | .nT,v,xs,h,r=>by
  simp only[l9] at h;split at h
  ·cases h;exact⟨rfl,rfl⟩
  ·cases h
 | .ks k τ,v,xs,h,r=>by
  simp only[l9] at h;split at h
  ·rename_i hh τ' o n;split at h
   ·rename_i i hi;split at h
    ·rename_i hb;split at h
     ·rename_i e _;cases h;subst e;have:=ab hb;subst this;refine⟨rfl,?_⟩;show bW H _ (.ks hh o (S.sz τ') n)=some (.ks (1000+i) o (S.sz τ') n);simp only[bW,hi]
     ·cases h
    ·cases h
   ·cases h
  ·cases h
 | .sub k τ,v,xs,h,r=>by
  simp only[l9] at h;split at h
  ·rename_i hh τ' o n;split at h
   ·rename_i i hi;split at h
    ·rename_i hb;split at h
     ·rename_i e _;cases h;subst e;have:=ab hb;subst this;refine⟨rfl,?_⟩;show bW H _ (.aN hh (S.sz τ') (o*S.sz τ') n)=some (.aN (1000+i) (S.sz τ') (o*S.sz τ') n);simp only[bW,hi]
     ·cases h
    ·cases h
   ·cases h
  ·cases h
theorem ji {s:ae S}{vw:Bool}{H:List Nat}{lnC:Nat→Nat}(hln:∀i h,dH H h=some i→lnC (1000+i)=s.ln h):∀{l:List Sh}{vs:List (TV S)}{xs:List (bp S.α)},kZ s vw H l vs=some xs→∀r,(dv l (xs++r)).2=r∧bW.go H (fE s.er.st H vw) (TV.er.go s.ln vs)=some (TV.er.go lnC (dv l (xs++r)).1)
 | [],[],xs,h,r=>by simp only[kZ] at h;cases h;exact⟨rfl,rfl⟩
 | x::l,v::vs,xs,h,r=>by
  simp only[kZ] at h;split at h
  ·rename_i a ha;split at h
   ·rename_i l' hl;cases h;rw[aS];obtain⟨i1,i2⟩:=Vr hln ha (l'++r);obtain⟨j1,j2⟩:=ji hln hl r;simp only[dv];rw[i1];refine⟨j1,?_⟩;simp only[TV.er.go,bW.go,i2,j2]
   ·cases h
  ·cases h
 | [],_::_,_,h,_=>by simp[kZ] at h
 | _::_,[],_,h,_=>by simp[kZ] at h
end
def MR(s:ae S)(j:Bool)(H:List Nat)(u:Oh)(o:TO S):Option (List (bp S.α)):=match u with|.arr e m f d=>(match o with|.arr c _ _ b l=>(match Nat.beq c e&&(!m&&!f) with|true=>(match jF (.list b) (.list d) l with|some l=>some [⟨.list d,l⟩]|none=>none)|false=>none)|_=>none)|.box e m i=>(match o with|.box c _ h=>(match Nat.beq c e&&!m with|true=>kZ s j H i h|false=>none)|_=>none)|.deep e m f r d=>(match o with|.deep c _ _ k b a=>(match Nat.beq c e&&(!m&&!f) with|true=>(match decEq k r with|isTrue _=>(match jF b d a with|some a=>some [⟨d,a⟩]|none=>none)|isFalse _=>none)|false=>none)|_=>none)|.lp p t i=>match o with|.lp g n h=>(match Nat.beq g p with|true=>(match t with|true=>(match kZ s j H i h with|some q=>some (⟨.int .i64,n⟩::q)|none=>none)|false=>match decEq n 0 with|isTrue _=>kZ s j H i h|isFalse _=>none)|false=>none)|_=>none
def pT(s:ae S)(b:Bool)(H:List Nat):List Nat->List Oh->Option (List (bp S.α))|[],[]=>some []|h::d,c::r=>(match aB s.bo h with|some o=>(match MR s b H c o with|some a=>(match pT s b H d r with|some l=>some (a++l)|none=>none)|none=>none)|none=>none)|_,_=>none
def Ot{s:ae S}{q:Bool}{H:List Nat}{m:Oh}{o:TO S}{xs:List (bp S.α)}(h:MR s q H m o=some xs)(r:List (bp S.α)):(nB m (xs++r)).2=r/\(nB m (xs++r)).1.len=o.len/\∀lnC:Nat->Nat,(∀i h,dH H h=some i->lnC (1000+i)=s.ln h)->sF H (fE s.er.st H q) (o.er s.ln)=some ((nB m (xs++r)).1.er lnC):=by unfold MR at h;split at h;split at h;split at h;rename_i b;simp only[ag,aT] at b;obtain⟨a,d,n⟩:=b;split at h;rename_i v f;cases h;obtain⟨e,f⟩:=sV f;subst e;cases f;have a:=ab a;subst a;subst d;subst n;exact⟨rfl,rfl,fun _ _=>rfl⟩;cases h;cases h;cases h;split at h;split at h;rename_i b;simp only[ag,aT] at b;have a:=ab b.1;have d:=b.2;subst a;subst d;have j:(dv _ (xs++r)).2=r:=(ji (lnC:=fun k=>s.ln ((H[k-1000]?).getD 0)) (fun i h g=>by simp[fe g]) h r).1;refine⟨j,rfl,fun lnC c=>?_⟩;obtain⟨_,l⟩:=ji c h r;simp only[sF,TO.er,cond_false,l,nB];cases h;cases h;split at h;split at h;rename_i b;simp only[ag,aT] at b;obtain⟨a,d,n⟩:=b;split at h;rename_i e _;subst e;split at h;rename_i v f;cases h;have:=e9 f;cases this;have a:=ab a;subst a;subst d;subst n;exact⟨rfl,rfl,fun _ _=>rfl⟩;cases h;cases h;cases h;cases h;split at h;split at h;rename_i b;have a:=ab b;subst a;split at h;split at h;rename_i p t;cases h;have j:(dv _ (p++r)).2=r:=(ji (lnC:=fun k=>s.ln ((H[k-1000]?).getD 0)) (fun i h g=>by simp[fe g]) t r).1;refine⟨j,rfl,fun lnC c=>?_⟩;obtain⟨_,l⟩:=ji c t r;simp only[sF,TO.er,cond_false,l,nB];rfl;cases h;split at h;rename_i u _;subst u;have j:(dv _ (xs++r)).2=r:=(ji (lnC:=fun k=>s.ln ((H[k-1000]?).getD 0)) (fun i h g=>by simp[fe g]) h r).1;refine⟨j,rfl,fun lnC c=>?_⟩;obtain⟨_,l⟩:=ji c h r;simp only[sF,TO.er,cond_false,l,nB];cases h;cases h;cases h
def CA{s:ae S}{f:Bool}{H:List Nat}:∀{c:List Nat}{l:List Oh}{xs:List (bp S.α)}(i:Nat),pT s f H c l=some xs->∀r,(cr (o9 l (1000+i)) (xs++r)).2=r/\(∀n h,c[n]?=some h->cw (cr (o9 l (1000+i)) (xs++r)).1 (1000+(i+n))=s.ln h)/\∀lnC:Nat->Nat,(∀i h,dH H h=some i->lnC (1000+i)=s.ln h)->gI H (fE s.er.st H f) s.er.st c i=some (b6 lnC (cr (o9 l (1000+i)) (xs++r)).1)|[],[],xs,i,h,r=>by simp only[pT] at h;cases h;exact⟨rfl,fun n h d=>by simp at d,fun _ _=>rfl⟩|x::c,y::l,xs,i,h,r=>by simp only[pT] at h;split at h;rename_i o g;split at h;rename_i a m;split at h;rename_i p q;cases h;rw[aS];obtain⟨k,j,u⟩:=Ot m (p++r);obtain⟨t,v,w⟩:=CA (i+1) q r;simp only[o9,cr];rw[k];refine⟨t,fun n h d=>?_,fun lnC b=>?_⟩;(cases n with|zero=>cases d;unfold cw ae.ln cw;simp only[gu,aB,aW,cond_true,g,j]|succ n=>have:=v n h (by simpa using d);rw[<-this];(have e:1000+(i+(n+1))=1000+(i+1+n):=by omega);rw[e];unfold cw;rw[kH _ _ (by omega)];rfl);simp only[gI,eG g,u lnC b,b6];have:=w lnC b;rw[show 1000+(i+1)=1000+i+1 by omega] at this;rw[this];cases h;cases h;cases h|[],_::_,_,_,h,_=>by simp[pT] at h|_::_,[],_,_,h,_=>by simp[pT] at h
def TV.mK (vw:Bool) (f:Nat→Option Nat):TV S→Option (TV S)
 | .aE b τ a=>match !vw||(b||τ.jb) with
  | true=>some (.aE b τ a)
  | false=>none
 | .ptr b τ a=>match !vw||b with
  | true=>some (.ptr b τ a)
  | false=>none
 | .loc h o=>match f h with
  | some h'=>some (.loc h' o)
  | none=>none
 | .aN h τ=>match f h with
  | some h'=>some (.aN h' τ)
  | none=>none
 | .sub h τ o n=>match f h with
  | some h'=>some (.sub h' τ o n)
  | none=>none
 | .iU h τ a j=>match f h with
  | some h'=>some (.iU h' τ a j)
  | none=>none
 | .agg l=>match go f l with
  | some l'=>some (.agg l')
  | none=>none
 | .bE l=>match go f l with
  | some l'=>some (.bE l')
  | none=>none
 | .bf g l=>match go f l with
  | some l'=>some (.bf g l')
  | none=>none
 | .val u=>some (.val u)
 | .any=>some .any
 | .da h=>match f h with
  | some h'=>some (.da h')
  | none=>none
 | .mp h=>match f h with
  | some h'=>some (.mp h')
  | none=>none
 | .ks h τ i n=>match f h with
  | some h'=>some (.ks h' τ i n)
  | none=>none
 | .kp h τ i j=>match f h with
  | some h'=>some (.kp h' τ i j)
  | none=>none
 | .iQ b h τ i j=>match f h with
  | some h'=>some (.iQ b h' τ i j)
  | none=>none
 | .gG b h o=>match f h with
  | some h'=>some (.gG b h' o)
  | none=>none
 | .ee b h=>match f h with
  | some h'=>some (.ee b h')
  | none=>none
where go (f:Nat→Option Nat):List (TV S)→Option (List (TV S))
 | []=>some []
 | x::r=>match x.mK vw f with
  | some y=>match go f r with
   | some ys=>some (y::ys)
   | none=>none
  | none=>none
def L5(b:Bool)(d:Nat->Option Nat)(f:Bool){τ:Ty}(h:τ.gA=false)(c:(!b||(f||τ.jb))=true)(a:S.D τ):eE b d (ei f (dM S τ a))=some (ei f (dM S τ a)):=by cases τ with|st n=>cases h|list t=>(cases f with|true=>rfl|false=>cases b with|true=>cases c|false=>rfl)|pt n=>(cases f with|true=>cases a <;> rfl|false=>cases b with|true=>cases c|false=>cases a <;> rfl)|_=>cases f <;> rfl
mutual
theorem SD {vw:Bool}{f:Nat→Option Nat}{ln ln':Nat→Nat}(hln:∀k k',f k=some k'→ln' k'=ln k):∀(v v':TV S),v.mK vw f=some v'→eE vw f (v.er ln)=some (v'.er ln')
 | .aE b τ a,v',h=>by
  simp only[TV.mK] at h;split at h
  ·rename_i hv;cases h;cases τ with
   | st n=>
    show(eE.go vw f ((aX S (.st n) a).map (ei b))).map G.agg=some (.agg ((aX S (.st n) a).map (ei b)));have hv:(!vw||b)=true:=by simpa[Ty.jb] using hv
    have:eE.go vw f ((aX S (.st n) a).map (ei b))=some ((aX S (.st n) a).map (ei b)):=by
     rw[ir];have h:=lH n a;generalize S.cells n a=l at h
     induction l with
     | nil=>rfl
     | cons x r ih=>
      simp only[bg,eE.go];rw[L5 vw f b (h x au) (by rw[←Bool.or_assoc,hv];rfl) x.a,ih fun y hy=>h y (ar _ hy)]
    rw[this];rfl
   | _=>exact L5 vw f b rfl hv a
  ·cases h
 | .ptr b τ a,v',h=>by
  simp only[TV.mK] at h;split at h
  ·rename_i hv;cases h;cases b with
   | true=>rfl
   | false=>
    cases vw with
    | true=>cases hv
    | false=>rfl
  ·cases h
 | .loc hh o,v',h=>by
  simp only[TV.mK] at h;split at h
  ·rename_i i hi;cases h;simp only[TV.er,eE,hi,cn]
  ·cases h
 | .aN hh τ,v',h=>by
  simp only[TV.mK] at h;split at h
  ·rename_i i hi;cases h;simp only[TV.er,eE,hi,cn,hln hh i hi]
  ·cases h
 | .sub hh τ o n,v',h=>by
  simp only[TV.mK] at h;split at h
  ·rename_i i hi;cases h;simp only[TV.er,eE,hi,cn]
  ·cases h
 | .iU hh τ a j,v',h=>by
  simp only[TV.mK] at h;split at h
  ·rename_i i hi;cases h;simp only[TV.er,eE,hi,cn]
  ·cases h
 | .agg l,v',h=>by
  simp only[TV.mK] at h;split at h
  ·rename_i l' hl;cases h;simp only[TV.er,eE,wb hln l l' hl,cn]
  ·cases h
 | .bE l,v',h=>by
  simp only[TV.mK] at h;split at h
  ·rename_i l' hl;cases h;simp only[TV.er,eE,wb hln l l' hl,cn]
  ·cases h
 | .bf g l,v',h=>by
  simp only[TV.mK] at h;split at h
  ·rename_i l' hl;cases h;simp only[TV.er,eE,wb hln l l' hl,cn]
  ·cases h
 | .val u,v',h=>by simp only[TV.mK] at h;cases h;rfl
 | .any,v',h=>by simp only[TV.mK] at h;cases h;rfl
 | .da hh,v',h=>by
  simp only[TV.mK] at h;split at h
  ·rename_i i hi;cases h;simp only[TV.er,eE,hi,cn]
  ·cases h
 | .mp hh,v',h=>by
  simp only[TV.mK] at h;split at h
  ·rename_i i hi;cases h;simp only[TV.er,eE,hi,cn]
  ·cases h
 | .ks hh _ _ _,v',h=>by
  simp only[TV.mK] at h;split at h
  ·rename_i i hi;cases h;simp only[TV.er,eE,hi,cn]
  ·cases h
 | .kp hh _ _ _,v',h=>by
  simp only[TV.mK] at h;split at h
  ·rename_i i hi;cases h;simp only[TV.er,eE,hi,cn]
  ·cases h
 | .iQ b hh _ _ _,v',h=>by
  simp only[TV.mK] at h;split at h
  ·rename_i i hi;cases h;cases b with
   | true=>rfl
   | false=>simp only[TV.er,cond_false,eE,hi,cn]
  ·cases h
 | .ee b hh,v',h=>by
  simp only[TV.mK] at h;split at h
  ·rename_i i hi;cases h;cases b with
   | true=>rfl
   | false=>simp only[TV.er,cond_false,eE,hi,cn]
  ·cases h
 | .gG b hh _,v',h=>by
  simp only[TV.mK] at h;split at h
  ·rename_i i hi;cases h;cases b with
   | true=>rfl
   | false=>simp only[TV.er,cond_false,eE,hi,cn]
  ·cases h
theorem wb {vw:Bool}{f:Nat→Option Nat}{ln ln':Nat→Nat}(hln:∀k k',f k=some k'→ln' k'=ln k):∀(l l':List (TV S)),TV.mK.go vw f l=some l'→eE.go vw f (TV.er.go ln l)=some (TV.er.go ln' l')
 | [],l',h=>by cases h;rfl
 | x::r,l',h=>by
  simp only[TV.mK.go] at h;split at h
  ·rename_i y hy;split at h
   ·rename_i ys hys;cases h;simp only[TV.er.go,eE.go,SD hln x y hy,wb hln r ys hys]
   ·cases h
  ·cases h
end
end
end Go.DN
/-
 DN,part X:what comes back of a call to which objects were lent.
-/
namespace Go.DN
open Go.AM
section
variable {S:eN}
def pq(c:Bool)(f:Nat->Option Nat)(A:Bool)(a:List (Nat×aw)):List (Nat×TO S)->List Nat->Option (List (Nat×TO S))|[],[]=>some []|(j,o)::r,h::i=>(match o with|.box e m p=>(match TV.mK.go c f p with|some d=>(match pq c f A a r i with|some g=>some ((h,.box e (bif pinned j then Cy a h else m||A) d)::g)|none=>none)|none=>none)|.arr e m b k l=>(match !c||b with|true=>(match pq c f A a r i with|some g=>some ((h,.arr e (bif pinned j then Cy a h else m||A) b k l)::g)|none=>none)|false=>none)|.lp q n p=>(match TV.mK.go c f p with|some d=>(match pq c f A a r i with|some g=>some ((h,.lp q n d)::g)|none=>none)|none=>none)|.deep e m b s k l=>match !c||b with|true=>(match pq c f A a r i with|some g=>some ((h,.deep e (bif pinned j then Cy a h else m||A) b s k l)::g)|none=>none)|false=>none)|_,_=>none
def ub{q:Bool}{f:Nat->Option Nat}{ln ln':Nat->Nat}(a:∀k k',f k=some k'->ln' k'=ln k){A:Bool}{s:List (Nat×aw)}:∀{outs:List (Nat×TO S)}{w:List Nat}{t:List (Nat×TO S)},pq q f A s outs w=some t->lU q f A s (b6 ln outs) w=some (b6 ln' t)|[],[],t,h=>by cases h;rfl|(j,o)::r,y::z,t,h=>(by simp only[pq] at h;cases o with|lp p n u=>dsimp only at h;split at h;rename_i d c;split at h;rename_i v g;cases h;simp only[b6,lU,ub a g,TO.er];simp only[wx,cond_false,wb a u d c,pP,sI,cond_true];cases h;cases h|arr e m b x l=>dsimp only at h;split at h;rename_i i;split at h;rename_i v g;cases h;simp only[b6,lU,ub a g,TO.er];(have i:(q&&!b)=false:=by cases q <;> cases b <;> first|rfl|cases i);simp only[wx,cond_true,i,cond_false,pP,sI];cases pinned j <;> rfl;cases h;cases h|deep e m b B x l=>dsimp only at h;split at h;rename_i i;split at h;rename_i v g;cases h;simp only[b6,lU,ub a g,TO.er];(have i:(q&&!b)=false:=by cases q <;> cases b <;> first|rfl|cases i);simp only[wx,cond_true,i,cond_false,pP,sI];cases pinned j <;> rfl;cases h;cases h|box e m u=>dsimp only at h;split at h;rename_i d c;split at h;rename_i v g;cases h;simp only[b6,lU,ub a g,TO.er];simp only[wx,cond_false,wb a u d c,pP,sI,cond_true];cases pinned j <;> rfl;cases h;cases h)|[],_::_,_,h=>by cases h|_::_,[],_,h=>by cases h
def Dr{B:Bool}{f:Nat->Option Nat}{A:Bool}{i:List (Nat×aw)}{ln:Nat->Nat}:∀{outs:List (Nat×TO S)}{t:List Nat}{q:List (Nat×TO S)},pq B f A i outs t=some q->qx t=true->∀k k',kA (b6 ln outs) t k=some k'->k'∈t/\∃o o',aB outs k=some o/\aB q k'=some o'/\o'.len=o.len|[],[],q,h,_,k,k',d=>by cases d|(j,o)::r,w::I,q,h,v,k,k',d=>(by simp only[qx,ag,aT] at v;(have x:∃o' g,q=(w,o')::g/\o'.len=o.len/\pq B f A i r I=some g:=by simp only[pq] at h;cases o with|lp p n E=>dsimp only at h;split at h;split at h;rename_i g c;cases h;exact⟨_,_,rfl,rfl,c⟩;cases h;cases h|arr e m b D l=>dsimp only at h;split at h;split at h;rename_i g c;cases h;exact⟨_,_,rfl,rfl,c⟩;cases h;cases h|deep e m b K D l=>dsimp only at h;split at h;split at h;rename_i g c;cases h;exact⟨_,_,rfl,rfl,c⟩;cases h;cases h|box e m E=>dsimp only at h;split at h;split at h;rename_i g c;cases h;exact⟨_,_,rfl,rfl,c⟩;cases h;cases h);obtain⟨o',g,rfl,s,c⟩:=x;simp only[b6,kA] at d;cases u:Nat.beq j k with|true=>rw[u] at d;cases d;have:=ab u;subst this;exact⟨au,o,o',by simp only[aB,aW,cond_true],by simp only[aB,aW,cond_true],s⟩|false=>rw[u] at d;obtain⟨C,a,b,F,H,G⟩:=Dr (ln:=ln) c v.2 k k' d;refine⟨ar _ C,a,b,by simp only[aB,u,cond_false];exact F,?_,G⟩;(have y:Nat.beq w k'=false:=by cases J:Nat.beq w k' with|false=>rfl|true=>have:=ab J;subst this;have z:=v.1;rw[gP.2 C] at z;cases z);simp only[aB,y,cond_false];exact H)|[],_::_,_,h,_,_,_,_=>by cases h|_::_,[],_,h,_,_,_,_=>by cases h
end
end Go.DN
/-
 DN,part Y:a call to which objects are lent:the caller's state behind it.
-/
namespace Go.DN
open Go.AM
section
variable {S:eN}
mutual
def aal:Sh→TV S→List (Nat×Nat)
 | .own r _,v=>match v with
  | .aN h _=>[(r,h)]
  | _=>[]
 | .loc r _,v=>match v with
  | .loc h _=>[(r,h)]
  | _=>[]
 | .bf _ l,v=>match v with
  | .bf _ vs=>vG l vs
  | _=>[]
 | .agg l,v=>match v with
  | .agg vs=>vG l vs
  | _=>[]
 | .da r,v=>match v with
  | .da h=>[(r,h)]
  | _=>[]
 | .mp r,v=>match v with
  | .mp h=>[(r,h)]
  | _=>[]
 | .gG r _,v=>match v with
  | .loc h _=>[(r,h)]
  | .gG _ h _=>[(r,h)]
  | _=>[]
 | .ee r,v=>match v with
  | .mp h=>[(r,h)]
  | .ee _ h=>[(r,h)]
  | _=>[]
 | .ks r _,v=>match v with
  | .ks h _ _ _=>[(r,h)]
  | _=>[]
 | .sub r _,v=>match v with
  | .sub h _ _ _=>[(r,h)]
  | _=>[]
 | _,_=>[]
def vG:List Sh→List (TV S)→List (Nat×Nat)
 | x::r,v::vs=>aal x v++vG r vs
 | _,_=>[]
end
def look:List (Nat×Nat)->Nat->Option Nat|[],_=>none|(k,h)::r,j=>bif Nat.beq k j then some h else look r j
def Ch(st:List (Nat×TO S)):List Oh->Nat->List (Nat×Nat)->Option (List Nat)|[],_,_=>some []|e::r,j,a=>match look a j with|some h=>(match Ch st r (j+1) (match e with|.box _ _ b=>(match aB st h with|some (.box _ _ c)=>a++vG b c|_=>a)|.lp _ _ b=>(match aB st h with|some (.lp _ _ c)=>a++vG b c|_=>a)|_=>a) with|some d=>some (h::d)|none=>none)|none=>none
def Y6(s:ae S)(a:List Nat):Nat->Nat->Nat|k,0=>k|k,n+1=>bif s.free k&&!(bD k a) then k else Y6 s a (k+1) n
def aaI(H:List Nat)(j:Nat)(a:List Nat)(h:Nat):Nat:=match Nat.ble 480 j with|true=>(match H[j-480]? with|some b=>bif Nat.blt b 1000&&!(bD b a) then b else h|none=>h)|false=>h
def Ud(s:ae S)(H:List Nat)(d:Nat):List Nat->List Nat->Option (List Nat)|[],_=>some []|j::r,a=>match pinned j with|true=>(match H[j-1000]? with|some h=>(match Ud s H d r (h::a) with|some b=>some (h::b)|none=>none)|none=>none)|false=>match aaI H j a (bif s.free d&&!(bD d a) then d else Y6 s a s.nx 8) with|h=>match Ud s H d r (h::a) with|some b=>some (h::b)|none=>none
def yc(s:ae S)(H:List Nat):List Nat->List Nat->Bool|[],[]=>true|j::r,h::a=>!(bD j r)&&(!(bD h a)&&((bif pinned j then W3 H (j-1000) h else Nat.blt h 1000&&((dH H h).isSome||s.free h))&&yc s H r a))|_,_=>false
def AA{ln:Nat->Nat}{j:Nat}:∀l:List (Nat×TO S),iI (b6 ln l) j=bD j (aF l)|[]=>rfl|(k,o)::r=>by simp only[b6,iI,aF,bD,AA r];cases Nat.beq k j <;> rfl
def vb{h:Nat}{l:List Nat}:l.contains h=bD h l:=by cases a:bD h l with|true=>exact gP.2 (bV.1 a)|false=>cases b:l.contains h with|false=>rfl|true=>rw[bV.2 (gP.1 b)] at a;cases a
def F1{s:ae S}{H:List Nat}{ln:Nat->Nat}:∀{O:List (Nat×TO S)}{b:List Nat},yc s H (aF O) b=true->qG s.er H (b6 ln O) b=true/\qx b=true|[],[],_=>⟨rfl,rfl⟩|(j,o)::r,h::l,e=>by simp only[aF,yc,ag,aT] at e;obtain⟨g,d,a,f⟩:=e;obtain⟨i,k⟩:=F1 (ln:=ln) f;refine⟨?_,?_⟩;simp only[b6,qG,AA,vb,g,d,i,ic,kf,qK];(cases c:pinned j with|true=>rw[c] at a;exact a|false=>rw[c] at a;simp only[cond_false,ag,eR] at a|-;exact⟨a.1,a.2.imp id gD⟩);simp only[qx,vb,d,k,ic,kf]|[],_::_,e=>by cases e|_::_,[],e=>by cases e
def Dn{s:ae S}{H:List Nat}:∀{g c:List Nat},yc s H g c=true->∀k,k∈c->k∈H\/s.free k=true|[],[],_,k,a=>by cases a|j::r,h::m,e,k,a=>by simp only[yc,ag] at e;obtain⟨_,_,b,l⟩:=e;rcases bh.1 a with rfl|a;(cases d:pinned j with|true=>rw[d] at b;exact .inl (ak (Tz b))|false=>rw[d] at b;simp only[cond_false,ag,eR] at b;rcases b.2 with h|h;obtain⟨i,f⟩:=Option.isSome_iff_exists.1 h;exact .inl (ak (fe f));exact .inr h);exact Dn l k a|[],_::_,e,_,_=>by cases e|_::_,[],e,_,_=>by cases e
def de(a:List Nat):List Nat->Nat->List Nat|[],_=>[]|h::r,i=>bif bD (1000+i) a then de a r (i+1) else h::de a r (i+1)
def AW{ln:Nat->Nat}{O:List (Nat×TO S)}:∀(H:List Nat) (i:Nat),eS (b6 ln O) H i=de (aF O) H i|[],_=>rfl|h::r,i=>by simp only[eS,de,AA,AW r (i+1)]
def xe:List Nat->TV S->Bool|[],_=>false|h::r,v=>v.has h||xe r v
def Ds(ln:Nat->Nat)(v:TV S):∀a:List Nat,rF a (v.er ln)=xe a v|[]=>rfl|h::r=>by simp only[rF,xe,zo,Ds ln v r]
def sT(a:List Nat):List (Nat×TV S)->List (Nat×TV S)|[]=>[]|(t,v)::r=>(t,bif xe a v then .any else v)::sT a r
def oR(a:List Nat):List (TV S)->Bool|[]=>true|v::r=>!(xe a v)&&oR a r
def C4(a:List Nat):List (Nat×TV S)->Bool|[]=>true|(_,v)::r=>!(xe a v)&&C4 a r
def oQ(a:List Nat):List (Nat×TO S)->Bool|[]=>true|(_,.box _ _ b)::r=>oR a b&&oQ a r|(_,.arr ..)::r=>oQ a r|(_,.deep ..)::r=>oQ a r|(_,.lp _ _ b)::r=>oR a b&&oQ a r
def qa(a:List Nat):List (Nat×TO S)->Bool|[]=>true|(_,.box _ _ _)::r=>qa a r|(_,.arr ..)::r=>qa a r|(_,.deep ..)::r=>qa a r|(_,.lp _ _ b)::r=>oR a b&&qa a r
def NK(c:List Nat)(a b:List (Nat×TO S)):Bool:=qa c a&&oQ c b
def Lj(a:List Nat):List (TV S)->List (TV S)|[]=>[]|v::r=>(bif xe a v then .any else v)::Lj a r
def wU(b:List Nat):TO S->TO S|.box e m a=>.box e m (Lj b a)|o=>o
def oC(a:List Nat):List (Nat×TO S)->List (Nat×TO S)|[]=>[]|(h,o)::r=>(h,wU a o)::oC a r
def kV(H:List Nat):List (Nat×TO S)->List (Nat×TO S)|[]=>[]|(h,o)::r=>match dH H h with|some _=>kV H r|none=>(h,o)::kV H r
def pS(s:ae S)(a:List (Nat×TO S)){A:Type}:List Nat->Option A->Option A|[],k=>k|h::r,k=>match aB a h with|none=>pS s a r k|some c=>match aB s.bo h with|some (.arr _ _ _ e l)=>(match c with|.arr _ _ _ b d=>bif Nat.beq (List.length d) (List.length l) then pS s a r k else none|_=>none)|some (.box _ _ _)=>(match c with|.box _ _ _=>pS s a r k|_=>none)|some (.lp _ _ _)=>(match c with|.lp _ _ _=>pS s a r k|_=>none)|some (.deep _ _ _ _ e l)=>(match c with|.deep _ _ _ _ b d=>bif Nat.beq (yj b d) (yj e l) then pS s a r k else none|_=>none)|_=>none
def pR{s:ae S}{q:List (Nat×TO S)}{A:Type}{k:Option A}{r:A}:∀{H:List Nat},pS s q H k=some r->k=some r/\∀h,h∈H->∀o',aB q h=some o'->o'.len=s.ln h|[],e=>⟨e,fun h d=>by cases d⟩|v::w,e=>by simp only[pS] at e;split at e;rename_i u;obtain⟨j,m⟩:=pR e;refine⟨j,fun h d o' f=>?_⟩;rcases bh.1 d with rfl|d;rw[u] at f;cases f;exact m h d o' f;rename_i y i;split at e;rename_i a b c t l g;split at e;rename_i o p;(cases n:Nat.beq (List.length p) (List.length l) with|false=>rw[n] at e;cases e|true=>rw[n] at e;obtain⟨j,m⟩:=pR e;refine⟨j,fun h d o' f=>?_⟩;rcases bh.1 d with rfl|d;rw[i] at f;cases f;unfold ae.ln cw;rw[g];exact ab n;exact m h d o' f);cases e;rename_i a b c g;split at e;obtain⟨j,m⟩:=pR e;refine⟨j,fun h d o' f=>?_⟩;rcases bh.1 d with rfl|d;rw[i] at f;cases f;unfold ae.ln cw;rw[g];rfl;exact m h d o' f;cases e;rename_i a b c g;split at e;obtain⟨j,m⟩:=pR e;refine⟨j,fun h d o' f=>?_⟩;rcases bh.1 d with rfl|d;rw[i] at f;cases f;unfold ae.ln cw;rw[g];rfl;exact m h d o' f;cases e;rename_i a b c x t l g;split at e;rename_i o p;(cases n:Nat.beq (yj o p) (yj t l) with|false=>rw[n] at e;cases e|true=>rw[n] at e;obtain⟨j,m⟩:=pR e;refine⟨j,fun h d o' f=>?_⟩;rcases bh.1 d with rfl|d;rw[i] at f;cases f;unfold ae.ln cw;rw[g];exact ab n;exact m h d o' f);cases e;cases e
def tw{q A:Bool}{f:Nat->Option Nat}{d:List (Nat×aw)}:∀{outs:List (Nat×TO S)}{i:List Nat}{c:List (Nat×TO S)},pq q f A d outs i=some c->aF c=i|[],[],c,h=>by cases h;rfl|(j,o)::r,u::v,c,h=>(by simp only[pq] at h;cases o with|lp p n k=>dsimp only at h;split at h;split at h;rename_i g a;cases h;simp only[aF,tw a];cases h;cases h|arr e m b s l=>dsimp only at h;split at h;split at h;rename_i g a;cases h;simp only[aF,tw a];cases h;cases h|deep e m b t s l=>dsimp only at h;split at h;split at h;rename_i g a;cases h;simp only[aF,tw a];cases h;cases h|box e m k=>dsimp only at h;split at h;split at h;rename_i g a;cases h;simp only[aF,tw a];cases h;cases h)|[],_::_,_,h=>by cases h|_::_,[],_,h=>by cases h
def Ae{H:List Nat}{h:Nat}(hi:dH H h=none):∀{st:List (Nat×TO S)},aB (kV H st) h=aB st h|[]=>rfl|(x,o)::r=>by simp only[kV];cases a:dH H x with|some i=>simp only[];rw[Ae hi];refine(kH o r fun e=>?_).symm;subst e;rw[hi] at a;cases a|none=>simp only[aB];rw[Ae hi]
def Ip{H:List Nat}{ln:Nat->Nat}:∀st:List (Nat×TO S),gx H (b6 ln st)=b6 ln (kV H st)|[]=>rfl|(x,o)::r=>by simp only[b6,gx,kV];cases dH H x with|some i=>exact Ip r|none=>simp only[b6,Ip r]
def Af{H:List Nat}:∀(a b:List (Nat×TO S)),kV H (a++b)=kV H a++kV H b|[],_=>rfl|(x,o)::r,b=>by simp only[b7,kV];cases dH H x with|some i=>exact Af r b|none=>simp only[b7,Af r b]
def Io{H:List Nat}:∀{l:List (Nat×TO S)},apart (aF l) H=true->kV H l=l|[],_=>rfl|(x,o)::r,e=>by have b:=apart_spec e;simp only[kV];(have:dH H x=none:=by cases a:dH H x with|none=>rfl|some i=>exact absurd (ak (fe a)) (b x (by simp[aF])));rw[this];simp only[];rw[Io];simp only[aF,apart] at e;split at e;cases e;exact e
def eJ(s:ae S)(H a:List Nat)(b:List (Nat×TO S))(n:Nat):ae S:={fr:=sT a s.fr,lo:=s.lo,st:=b++oC a (kV H s.st),bS:=s.bS,df:=s.df,nx:=s.nx+n,last:=[]}
def Ak{a:List Nat}{k:Nat}:∀{l:List (Nat×TO S)},aB (oC a l) k=(aB l k).map (wU a)|[]=>rfl|(h,o)::r=>by simp only[oC,aB];cases Nat.beq h k with|true=>rfl|false=>exact Ak
def RE{a:List Nat}(o:TO S):(wU a o).len=o.len:=by cases o <;> rfl
def aaq{s:ae S}{H l d b:List Nat}{c:List (Nat×TO S)}{n:Nat}(hb:yc s H l d=true)(g:aF c=d)(r:apart H (aF s.bS)=true)(p:∀h,h∈H->h∉b->∀o',aB c h=some o'->o'.len=s.ln h)(hd:∀h,h∈H->h∉b->h∈d)(k:Nat)(h1:k∉b)(h2:s.free k=false\/k∈H):(eJ s H b c n).ln k=s.ln k:=by
 unfold ae.ln;have f:∀o,aB c k=some o->cw (c++oC b (kV H s.st)++s.bS) k=o.len:=by intro o e;unfold cw;rw[aS,eH,e]
 show cw (c++oC b (kV H s.st)++s.bS) k=cw s.bo k;by_cases hkH:k∈H;have a:=hd k hkH h1;rw[<-g] at a;obtain⟨o,e⟩:=pN a;rw[f o e];exact p k hkH h1 o e;have a:k∉d:=fun m=>by rcases Dn hb k m with h|h;exact hkH h;rcases h2 with h2|h2;rw[h2] at h;cases h;exact hkH h2
 have q:dH H k=none:=by cases j:dH H k with|none=>rfl|some i=>exact absurd (ak (fe j)) hkH
 unfold cw;rw[aS,eH,nM (by rw[g];exact a),eH,Ak,Ae q];unfold ae.bo;rw[eH];cases aB s.st k with|none=>rfl|some o=>exact RE o
def Bm{c:List Nat}{v:TV S}(h:xe c v=false):∀k,v.has k=true->k∉c:=by induction c with|nil=>intro k _ a;cases a|cons x r d=>simp only[xe,bj] at h;intro k b a;rcases bh.1 a with rfl|a;rw[h.1] at b;cases b;exact d h.2 k b a
def ND{a:List Nat}{ln ln':Nat->Nat}:∀{fr:List (Nat×TV S)},(∀k,k∉a->gT k fr=true->ln' k=ln k)->iC ln' (sT a fr)=oP a (iC ln fr)|[],_=>rfl|(t,v)::r,h=>by simp only[sT,iC,oP,uu,Ds];rw[ND fun k c d=>h k c (by simp[gT,d])];cases e:xe a v with|true=>rfl|false=>simp only[cond_false];rw[tQ v fun k b=>h k (Bm e k b) (by simp[gT,b])]
def C0{a:List Nat}:∀{fr:List (Nat×TV S)},C4 a fr=true->sT a fr=fr|[],_=>rfl|(t,v)::r,h=>by simp only[C4,ag,aT] at h;simp only[sT,h.1,cond_false,C0 h.2]
def Kw{c:List Nat}:∀(a b:List (Nat×TV S)),sT c (a++b)=sT c a++sT c b|[],_=>rfl|(t,v)::r,b=>by simp only[b7,sT,Kw r b]
def AX{a:List Nat}{ln ln':Nat->Nat}:∀{l:List (TV S)},oR a l=true->(∀k,k∉a->TV.has.go k l=true->ln' k=ln k)->TV.er.go ln' l=(TV.er.go ln l).map (uu a)|[],_,_=>rfl|v::r,e,h=>by simp only[oR,ag,aT] at e;simp only[TV.er.go,bg,uu,Ds,e.1,cond_false];rw[tQ (ln':=ln) v fun k b=>h k (Bm e.1 k b) (by simp[TV.has.go,b]),AX e.2 fun k d c=>h k d (by simp[TV.has.go,c])]
def wV{d:List Nat}{ln ln':Nat->Nat}:∀{st:List (Nat×TO S)},oQ d st=true->(∀k,k∉d->dI k st=true->ln' k=ln k)->b6 ln' st=eI d (b6 ln st)|[],_,_=>rfl|(x,.arr e m f i l)::r,a,h=>by simp only[oQ] at a;simp only[b6,eI,TO.er,pn,cond_true];rw[wV a fun k b c=>h k b (by simp[dI,c])]|(x,.deep e m f j i l)::r,a,h=>by simp only[oQ] at a;simp only[b6,eI,TO.er,pn,cond_true];rw[wV a fun k b c=>h k b (by simp[dI,c])]|(x,.box e m g)::r,a,h=>by simp only[oQ,ag] at a;simp only[b6,eI,TO.er,pn,cond_false];rw[wV a.2 fun k b c=>h k b (by simp[dI,c]),AX a.1 fun k b c=>h k b (by simp[dI,TO.has,c])]|(x,.lp p n g)::r,a,h=>by simp only[oQ,ag] at a;simp only[b6,eI,TO.er,pn,cond_false];rw[wV a.2 fun k b c=>h k b (by simp[dI,c]),AX a.1 fun k b c=>h k b (by simp[dI,TO.has,c])]
def Kv{a:List Nat}{ln ln':Nat->Nat}:∀{l:List (TV S)},(∀k,k∉a->TV.has.go k l=true->ln' k=ln k)->TV.er.go ln' (Lj a l)=(TV.er.go ln l).map (uu a)|[],_=>rfl|v::r,h=>by simp only[Lj,TV.er.go,bg,uu,Ds];rw[Kv fun k c d=>h k c (by simp[TV.has.go,d])];cases e:xe a v with|true=>rfl|false=>simp only[cond_false];rw[tQ v fun k b=>h k (Bm e k b) (by simp[TV.has.go,b])]
def wT{d:List Nat}{ln ln':Nat->Nat}:∀{st:List (Nat×TO S)},qa d st=true->(∀k,k∉d->dI k st=true->ln' k=ln k)->b6 ln' (oC d st)=eI d (b6 ln st)|[],_,_=>rfl|(x,.arr e m f i l)::r,a,h=>by simp only[qa] at a;simp only[b6,oC,wU,eI,TO.er,pn,cond_true];rw[wT a fun k b c=>h k b (by simp[dI,c])]|(x,.deep e m f j i l)::r,a,h=>by simp only[qa] at a;simp only[b6,oC,wU,eI,TO.er,pn,cond_true];rw[wT a fun k b c=>h k b (by simp[dI,c])]|(x,.box e m g)::r,a,h=>by simp only[qa] at a;simp only[b6,oC,wU,eI,TO.er,pn,cond_false];rw[wT a fun k b c=>h k b (by simp[dI,c]),Kv fun k b c=>h k b (by simp[dI,TO.has,c])]|(x,.lp p n g)::r,a,h=>by simp only[qa,ag] at a;simp only[b6,oC,wU,eI,TO.er,pn,cond_false];rw[wT a.2 fun k b c=>h k b (by simp[dI,c]),AX a.1 fun k b c=>h k b (by simp[dI,TO.has,c])]
def zS{H:List Nat}{k:Nat}:∀{st:List (Nat×TO S)},dI k (kV H st)=true->dI k st=true|[],h=>h|(x,o)::r,h=>by simp only[kV] at h;simp only[dI,eR];split at h;exact .inr (zS h);simp only[dI,eR] at h;exact h.imp id zS
def AQ(ln:Nat->Nat):∀(a b:List (Nat×TO S)),b6 ln (a++b)=b6 ln a++b6 ln b|[],_=>rfl|(x,o)::r,b=>by simp only[b7,b6,AQ ln r b]
def zT(k:Nat):∀(a b:List (Nat×TO S)),dI k (a++b)=(dI k a||dI k b)|[],b=>rfl|(_,o)::r,b=>by simp only[b7,dI,zT k r b,Bool.or_assoc]
def Hw{c:List Nat}:∀(a b:List (Nat×aw)),eI c (a++b)=eI c a++eI c b|[],_=>rfl|(h,k)::r,b=>by simp only[b7,eI,Hw r b]
def named(s:ae S)(k:Nat):Bool:=gT k s.cm||(dI k s.bo||TV.has.go k s.df)
def QP{s:ae S}{k:Nat}(h:named s k=true):s.free k=false:=by cases b:s.free k with|false=>rfl|true=>obtain⟨_,c,d,a,_⟩:=free_spec b;unfold named at h;rw[c,d,a] at h;cases h
def KF{s:ae S}{H z m a:List Nat}{c:List (Nat×TO S)}{n:Nat}(hb:yc s H z m=true)(i:aF c=m)(q:apart H (aF s.bS)=true)(F:∀h,h∈H->h∉a->∀o',aB c h=some o'->o'.len=s.ln h)(hd:∀h,h∈H->h∉a->h∈m)(p:C4 a s.lo=true)(g:NK a (kV H s.st) s.bS=true)(w:oR a s.df=true):(eJ s H a c n).er=⟨oP a s.er.fr,b6 (eJ s H a c n).ln c++eI a (gx H s.er.st),s.er.df⟩:=by
 have e:∀k,k∉a->named s k=true->(eJ s H a c n).ln k=s.ln k:=fun k d b=>aaq hb i q F hd k d (.inl (QP b));have D:iC (eJ s H a c n).ln (eJ s H a c n).cm=oP a s.er.fr:=by show iC _ (sT a s.fr++s.lo)=oP a (iC s.ln (s.fr++s.lo));rw[<-C0 p,<-Kw];rw[C0 p];exact ND fun k d b=>e k d (by unfold named ae.cm;rw[b];rfl)
 have f:apart (aF s.bS) H=true:=by have h:=apart_spec q;(have:∀(l:List Nat),(∀x,x∈l->x∉H)->apart l H=true:=by intro l;induction l with|nil=>intro _;rfl|cons x r j=>intro t;simp only[apart];cases A:bD x H with|true=>exact absurd (bV.1 A) (t x au)|false=>exact j fun y B=>t y (ar _ B));exact this _ fun x C o=>h x o C
 have E:b6 (eJ s H a c n).ln (eJ s H a c n).bo=b6 (eJ s H a c n).ln c++eI a (gx H s.er.st):=by show b6 _ ((c++oC a (kV H s.st))++s.bS)=_++eI a (gx H (b6 s.ln (s.st++s.bS)));rw[aS,AQ,Ip,Af,Io f];congr 1;rw[AQ,AQ,Hw];(have g:qa a (kV H s.st)=true/\oQ a s.bS=true:=by simpa only[NK,ag] using g);have u:∀k,k∉a->dI k (kV H s.st++s.bS)=true->(eJ s H a c n).ln k=s.ln k:=fun k d b=>e k d (by (have:dI k s.bo=true:=by refine zS (H:=H) ?_;unfold ae.bo;rw[Af,Io f];exact b);unfold named;rw[this];simp);rw[wT g.1 fun k d b=>u k d (by rw[zT,b];rfl),wV g.2 fun k d b=>u k d (by rw[zT,b,Bool.or_true])]
 have G:TV.er.go (eJ s H a c n).ln s.df=TV.er.go s.ln s.df:=by refine rS _ fun k i=>?_;(have v:∀(l:List (TV S)),oR a l=true->TV.has.go k l=true->k∉a:=by intro l;induction l with|nil=>intro _ h;cases h|cons x r j=>intro d b;simp only[oR,ag,aT] at d;simp only[TV.has.go,eR] at b;rcases b with b|b;exact Bm d.1 k b;exact j d.2 b);exact e k (v _ w i) (by unfold named;rw[i];simp)
 show St.mk _ _ _=St.mk _ _ _;rw[D,E];exact congrArg _ G
end
end Go.DN
/-
 DN,part Z:calls by e8.
-/
namespace Go.DN
open Go.AM
section
variable {S:eN}
def K8(ok:Nat->Bool):List Nat->Bool|[]=>true|h::r=>ok h&&K8 ok r
def Ms{ok:Nat->Bool}{W:List Nat}(a:∀h,ok h=true->W.contains h=true):∀{H:List Nat},K8 ok H=true->Bp H W=true|[],_=>rfl|h::r,e=>by simp only[K8,ag] at e;have:=Ms a e.2;unfold Bp at this|-;simp only[List.all_cons,this,a h e.1,iA]
def eW(a:bB S)(r:bE S.α (JH.dd ⟨a.ay,a.outs⟩)):List (Nat×TO S):=(cr a.outs (cH a.ay (leaves _ r)).2).1
def Xe(s:ae S)(H:List Nat)(a:bB S)(r:bE S.α (JH.dd ⟨a.ay,a.outs⟩))(b:List Nat):Option (List (Nat×TO S)):=pq a.vw (kA (b6 (cw (eW a r)) (eW a r)) b) (kI s.er.st (b6 (cw (eW a r)) (eW a r)) H 0) s.er.st (eW a r) b
def aaN(a:bB S)(r:bE S.α (JH.dd ⟨a.ay,a.outs⟩))(b:List Nat):Option (TV S):=(om a.ay (leaves _ r)).mK a.vw (kA (b6 (cw (eW a r)) (eW a r)) b)
def tO (s:ae S) (H ds:List Nat) (js bk:List Nat):Bool:=
 yc s H js bk&&(within (minus H ds) bk&&(C4 ds s.lo&&(NK ds (kV H s.st) s.bS&&oR ds s.df)))
where minus (H ds:List Nat):List Nat:=match H with
 | []=>[]
 | h::r=>bif bD h ds then minus r ds else h::minus r ds
def rP{b:List Nat}:∀{H:List Nat}{h:Nat},h∈H->h∉b->h∈tO.minus H b|x::r,h,a,c=>by simp only[tO.minus];cases d:bD x b with|true=>rw[cond_true];rcases bh.1 a with rfl|a;exact absurd (bV.1 d) c;exact rP a c|false=>rw[cond_false];rcases bh.1 a with rfl|a;exact au;exact ar _ (rP a c)
def HB(ok:Nat->Bool)(a:bB S)(s:ae S)(d:Nat)(vs:List (TV S)){A:Type}(k:ae S->Option A):Option A:=match Ch s.bo a.aR 1000 (vG a.args vs) with|some H=>(match qx H&&(K8 ok H&&apart H (aF s.bS)) with|true=>(match kZ s a.vw H a.args vs with|some f=>(match pT s a.vw H H a.aR with|some g=>(match oi (k5 a.args a.aR) (f++g) with|some q=>((a.F q).bind fun r=>match Ud s H d (aF a.outs) [] with|some b=>(match tO s H (de (aF a.outs) H 0) (aF a.outs) b with|true=>(match Xe s H a r b with|some c=>(match aaN a r b with|some e=>pS s c (tO.minus H (de (aF a.outs) H 0)) (k ((eJ s H (de (aF a.outs) H 0) c a.outs.length).put d e))|none=>none)|none=>none)|false=>none)|none=>none)|none=>none)|none=>none)|none=>none)|false=>none)|none=>none
def Az(a:bB S)(r:bE S.α (JH.dd ⟨a.ay,a.outs⟩)):aF (eW a r)=aF a.outs:=li _ _
def A3{ln:Nat->Nat}{a:List Nat}:∀{l:List (TV S)},oR a l=true->(TV.er.go ln l).all (fun g=>!(rF a g))=true|[],_=>rfl|v::r,e=>by simp only[oR,ag,aT] at e;simp only[TV.er.go,List.all_cons,Ds,e.1,A3 e.2,ic,iA]
def FH{P:Program}{W:List Nat}{ok:Nat->Bool}(hW:∀h,ok h=true->W.contains h=true){c:bB S}(C:aO P c){s:ae S}{d:Nat}{vs:List (TV S)}{A:Type}{k:ae S->Option A}{r:A}(hl:aQ s)(h:HB ok c s d vs k=some r){o:Oper}(K:∀{z:List G}{eo:List (Nat×aw)}{Q:G->List (Nat×aw)->Prop}{T:St->Prop}(H:List Nat) (M:Bool),bW.go H (fE s.er.st H M) (TV.er.go s.ln vs)=some z->gI H (fE s.er.st H M) s.er.st H 0=some eo->qx H=true->GM P c.f z eo Q->(∀r st',Q r st'->∃j X r',qt M s.er H st' j=some X/\eE M (kA st' j) r=some r'/\T (X.put d r'))->Bp H W=true->cu P W s.er o T):∃T:St->Prop,cu P W s.er o T/\∀F,T F->∃t:ae S,Gh F t.er/\aQ t/\bG s t/\k t=some r:=by
 unfold HB at h;split at h;rename_i H hH;split at h;rename_i hc;simp only[ag] at hc;obtain⟨c1,c2,c3⟩:=hc;split at h;rename_i xl hx;split at h;rename_i y hy;split at h;rename_i q hq;have B:=il hq;have w:(dv c.args (leaves _ q)).2=y:=by rw[B];exact(ji (lnC:=fun k=>s.ln ((H[k-1000]?).getD 0)) (fun i h V=>by simp[fe V]) hx y).1
 have I:(fC c.args c.aR (leaves _ q)).bo=(cr (o9 c.aR 1000) y).1:=by show(cr (o9 c.aR 1000) (dv c.args (leaves _ q)).2).1++[]=_;rw[bR,w]
 obtain⟨o1,o2,o3⟩:=CA 0 hy [];rw[bR] at o1 o2 o3;have x:∀i h,dH H h=some i->(fC c.args c.aR (leaves _ q)).ln (1000+i)=s.ln h:=by intro i h V;have:=o2 i h (fe V);rw[dl] at this;unfold ae.ln;rw[I];exact this
 have l:=(ji x hx y).2;rw[<-B] at l;have u:=o3 _ x;have D:(fC c.args c.aR (leaves _ q)).er.st=b6 (fC c.args c.aR (leaves _ q)).ln (cr (o9 c.aR 1000) y).1:=by show b6 _ _=_;rw[I]
 refine⟨fun F=>∃t:ae S,Gh F t.er/\aQ t/\bG s t/\k t=some r,?_,fun F h=>h⟩;obtain⟨e,E,f⟩:=bind_some h;refine K (eo:=(fC c.args c.aR (leaves _ q)).er.st) H c.vw l (by rw[D];exact u) c1 (C.ok q e E) ?_ (Ms hW c2);rintro g st' ⟨rfl,rfl⟩;split at f;rename_i j hbk;split at f;rename_i Y;simp only[tO,ag] at Y;obtain⟨Z,f2,f3,f4,f5⟩:=Y;split at f;rename_i m p;split at f;rename_i rv R;obtain⟨k1,k2⟩:=pR f;have v:aF m=j:=tw p;have hd:∀h,h∈H->h∉de (aF c.outs) H 0->h∈j:=fun h E f=>oV f2 h (rP E f);have U:=KF (n:=c.outs.length) Z v c3 (fun h E f=>k2 h (rP E f)) hd f3 f4 f5;have J:=Z;rw[<-Az c e] at J;obtain⟨b1,b2⟩:=F1 (ln:=cw (eW c e)) J;have n:∀a b,kA (b6 (cw (eW c e)) (eW c e)) j a=some b->(eJ s H (de (aF c.outs) H 0) m c.outs.length).ln b=cw (eW c e) a:=by intro a b O;obtain⟨_,o,o',g1,g2,g3⟩:=Dr p b2 a b O;unfold ae.ln cw;show(match aB ((m++oC _ (kV H s.st))++s.bS) b with|some o=>o.len|none=>0)=_;rw[aS,eH,g2,g1];exact g3
 have L:eS (b6 (cw (eW c e)) (eW c e)) H 0=de (aF c.outs) H 0:=by rw[AW,Az]
 refine⟨j,⟨oP (de (aF c.outs) H 0) s.er.fr,b6 (eJ s H (de (aF c.outs) H 0) m c.outs.length).ln m++eI (de (aF c.outs) H 0) (gx H s.er.st),s.er.df⟩,rv.er (eJ s H (de (aF c.outs) H 0) m c.outs.length).ln,?_,SD n _ _ R,_,?_,iN (t:=(eJ s H (de (aF c.outs) H 0) m c.outs.length).put d rv) rfl,⟨rfl,rfl,rfl⟩,k1⟩;unfold qt;have hb:lU c.vw (kA (b6 (cw (eW c e)) (eW c e)) j) (kI s.er.st (b6 (cw (eW c e)) (eW c e)) H 0) s.er.st (b6 (cw (eW c e)) (eW c e)) j=some (b6 (eJ s H (de (aF c.outs) H 0) m c.outs.length).ln m):=ub n p;have N:s.er.df.all (fun g=>!(rF (eS (b6 (cw (eW c e)) (eW c e)) H 0) g))=true:=by rw[L];exact A3 f5
 show(bif qG s.er H (b6 (cw (eW c e)) (eW c e)) j&&s.er.df.all (fun g=>!(rF (eS (b6 (cw (eW c e)) (eW c e)) H 0) g)) then _ else none)=_;rw[b1,N];show(match lU c.vw (kA (b6 (cw (eW c e)) (eW c e)) j) (kI s.er.st (b6 (cw (eW c e)) (eW c e)) H 0) s.er.st (b6 (cw (eW c e)) (eW c e)) j with|some m=>some ({fr:=oP (eS (b6 (cw (eW c e)) (eW c e)) H 0) s.er.fr,st:=m++eI (eS (b6 (cw (eW c e)) (eW c e)) H 0) (gx H s.er.st),df:=s.er.df}:St)|none=>none)=_;rw[hb,L];rw[iT,U];exact Gh.refl _;cases f;cases f;cases f;cases f;cases h;cases h;cases h;cases h;cases h
def EF.Tf{P:Program}{W:List Nat}{s:St}{d:Nat}{ty:TypeId}{pos:String}{after:Array Edge}{guard:Option (Nat×Bool)}{f:FuncId}{x:Operand}{xs:Array Operand}{ts:Array TypeId}{gs caps l:List G}{eo:List (Nat×aw)}{Q:G->List (Nat×aw)->Prop}{T:St->Prop}(H:List Nat)(q:Bool)(hb:vP f xs.toList=true)(L:∀args w,(callFunc f args).run P w=.ok (.enter f args) w)(hf:ev s x=some (.bf f caps))(hx:wO s xs.toList=some gs)(b:bW.go H (fE s.st H q) (gs++caps)=some l)(I:gI H (fE s.st H q) s.st H 0=some eo)(J:qx H=true)(m:GM P f l eo Q)(k:∀r st',Q r st'->∃A B t,qt q s H st' A=some B/\eE q (kA st' A) r=some t/\T (B.put d t))(R:Bp H W=true):cu P W s ⟨some d,.call ⟨.value x,xs,ts⟩,ty,pos,after,guard⟩ T:=by refine⟨(fun _ h=>by cases h),?_⟩;intro N cx μ a w o S K Q' V;obtain⟨F,Y⟩:=oY hx;have i:=o.ev hf;generalize E:a.eval x=vf at i;cases i with|aG h=>cases h|bf _ _ O u z=>have c:=xI (vs:=xs.toList.map a.eval++O) o b I J (by simp[F,u]) (fun j g v p b=>by rw[bZ] at p b;rw[aJ,<-F] at b;split at p;rename_i y;rw[if_pos y] at b;obtain⟨x,D,Z⟩:=Y j g p;rw[ao,D] at b;cases b;exact o.ev Z;rename_i y;rw[if_neg y] at b;exact z _ g v p b) m;unfold Oper.wp;have:=Cd (P:=P) (w:=w) (d:=d) (ty:=ty) (pos:=pos) (after:=after) (guard:=guard) (ts:=ts) hb L E;rw[this];refine c.mono ?_;rintro e M (⟨v,r,st',μ',rfl,U,X,C⟩|⟨_,_,_,_,h,_⟩);obtain⟨A,B,t,hb,n,hT⟩:=k r st' U;obtain⟨q1,q2,q3,_⟩:=xd o I (ot J) X hb;exact V _ _ _ M (q1.put (S d rfl) (q2 r t v C n)) hT (q3 W (Bo R));exact h.elim
def isSome{α:Type}:Option α->Bool|some _=>true|none=>false
def E0(b:bB S)(s:ae S)(xs:List Operand)(vs:List (TV S)):Option (ae S×List (TV S)):=match sN b.ay||TV.imp.go vs with|true=>some (s,vs)|false=>match sM (TV.QK.go vs) s with|some c=>(match u4 c xs with|some a=>(match TV.imp.go a with|true=>some (c,a)|false=>none)|none=>none)|none=>none
def fits(s:ae S)(xs:List Operand)(vs:List (TV S))(a:bB S):Bool:=match qR a with|true=>(match E0 a s xs vs with|some (c,b)=>isSome (lO c a.args b)|none=>false)|false=>match Ch s.bo a.aR 1000 (vG a.args vs) with|some H=>isSome (kZ s a.vw H a.args vs)&&isSome (pT s a.vw H H a.aR)|none=>false
def AN(p:bB S->Bool)(f:FuncId):List (bB S)->Option (bB S)|[]=>none|c::r=>match Nat.beq c.f f&&p c with|true=>some c|false=>AN p f r
def wL{p:bB S->Bool}{f:FuncId}:∀{l:List (bB S)}{c:bB S},AN p f l=some c->c∈l/\c.f=f|[],_,h=>by cases h|x::r,c,h=>by simp only[AN] at h;split at h;rename_i a;simp only[ag] at a;cases h;exact⟨au,ab a.1⟩;obtain⟨d,b⟩:=wL h;exact⟨ar _ d,b⟩
def UF(s:ae S)(x:Operand)(xs:List Operand):Option (FuncId×List (TV S)):=match cC s x with|some (.bf f a)=>(match vP f xs with|true=>some (f,a)|false=>none)|_=>none
def Xo{s:ae S}{x:Operand}{xs:List Operand}{f:FuncId}{caps:List (TV S)}(h:UF s x xs=some (f,caps)):cC s x=some (.bf f caps)/\vP f xs=true:=by unfold UF at h;split at h;rename_i b;split at h;rename_i a;cases h;exact⟨b,a⟩;cases h;cases h
def RK(tbl:List (bB S))(ok:Nat->Bool)(A:Type)(s:ae S)(dst:Option Nat)(c:Call)(k:ae S->Option A):Option A:=match dst with|some d=>(match c.callee with|.value (.func f)=>(match u4 s c.args.toList with|some e=>(match AN (fits s c.args.toList e) f tbl with|some a=>(match qR a with|true=>(match E0 a s c.args.toList e with|some (h,g)=>RJ a h d g k|none=>none)|false=>HB ok a s d e k)|none=>none)|none=>none)|.value x=>(match UF s x c.args.toList with|some (f,b)=>(match u4 s c.args.toList with|some e=>(match AN (fits s [] (e++b)) f tbl with|some a=>(match qR a with|true=>A6 a s d (e++b) k|false=>HB ok a s d (e++b) k)|none=>none)|none=>none)|_=>none)|_=>none)|none=>none
def Wm{P:Program}{N:Nat}{tbl:List (bB S)}(ht:∀c∈tbl,aO P c):∀(ok:Nat->Bool) (W:List Nat),(∀h,ok h=true->W.contains h=true)->∀(A:Type) (r:A),Ln P N W (RK tbl ok A) r:=by intro ok W D A r s O c k g _ h Y M z o;obtain⟨R,E,X⟩:=c;unfold RK at h;split at h;rename_i d;dsimp only at h;split at h;split at h;rename_i G i;split at h;rename_i e a;obtain⟨m,n⟩:=wL a;subst n;have C:=ht e m;split at h;split at h;rename_i V T b;unfold E0 at b;split at b;cases b;exact NQ (N:=N) C g h i;split at b;rename_i U L;obtain⟨Q,I,J⟩:=oA g L;split at b;rename_i K l;split at b;cases b;exact fL.gh Q J (NQ (N:=N) C I h l);cases b;cases b;cases b;cases h;exact FH D C g h fun H q t u p w v y=>EF.aas H q C.call (nJ i).2 t u p w v y;cases h;cases h;rename_i x _;split at h;rename_i f F j;obtain⟨j,B⟩:=Xo j;split at h;rename_i G i;split at h;rename_i e a;obtain⟨m,n⟩:=wL a;subst n;have C:=ht e m;split at h;exact NP (N:=N) C g h j B i;exact FH D C g h fun H q t u p w v y=>EF.Tf H q B C.call (bi j) (nJ i).2 (by rw[<-rR];exact t) u p w v y;cases h;cases h;cases h;cases h;cases h
def T9(tbl:List (bB S))(ok:Nat->Bool){A:Type}(s:ae S)(d:Nat)(c:Call)(f:FuncId)(caps:List (TV S))(k:ae S->Option A):Option A:=match u4 s c.args.toList with|some b=>(match AN (fits s [] (b++caps)) f tbl with|some a=>(match vP f c.args.toList with|true=>(match qR a with|true=>A6 a s d (b++caps) k|false=>HB ok a s d (b++caps) k)|false=>none)|none=>none)|none=>none
def K6{A:Type}:List FuncId->FuncId->(FuncId->Option A)->Option A|[],_,_=>none|g::r,f,k=>cond (Nat.beq f g) (k g) (K6 r f k)
def Mi{A:Type}{f:FuncId}{k:FuncId->Option A}{r:A}:∀{l:List FuncId},K6 l f k=some r->k f=some r|[],h=>by cases h|g::l,h=>by simp only[K6] at h;cases a:Nat.beq f g with|true=>rw[a] at h;have:=ab a;subst this;exact h|false=>rw[a] at h;exact Mi h
def Y5:List (Nat×List FuncId)->Nat->Option (List FuncId)|[],_=>none|(k,h)::r,p=>bif Nat.beq k p then some h else Y5 r p
def yb(tbl:List (bB S))(ns:List (Nat×List FuncId))(ok:Nat->Bool)(A:Type)(s:ae S)(dst:Option Nat)(c:Call)(k:ae S->Option A):Option A:=match dst with|some d=>(match Y5 ns d with|some a=>(match c.callee with|.value x=>(match cC s x with|some (.bf f [])=>K6 a f fun f=>T9 tbl ok s d c f [] k|_=>none)|_=>none)|none=>RK tbl ok A s (some d) c k)|none=>none
def NO{P:Program}{N:Nat}{tbl:List (bB S)}{ns:List (Nat×List FuncId)}(ht:∀c∈tbl,aO P c):∀(ok:Nat->Bool) (W:List Nat),(∀h,ok h=true->W.contains h=true)->∀(A:Type) (r:A),Ln P N W (yb tbl ns ok A) r:=by intro ok W m A r s y c k i z h t j b e;unfold yb at h;split at h;rename_i d;split at h;obtain⟨w,o,J⟩:=c;dsimp only at h;split at h;rename_i x _;split at h;rename_i f p;have a:=Mi h;clear h;unfold T9 at a;split at a;rename_i K n;split at a;rename_i l g;obtain⟨B,D⟩:=wL g;subst D;have C:=ht l B;split at a;rename_i q;split at a;exact NP (N:=N) C i a p q n;exact FH m C i a fun H v F a E G I u=>EF.Tf H v q C.call (bi p) (nJ n).2 (by rw[<-rR];exact F) a E G I u;cases a;cases a;cases a;cases h;cases h;exact Wm (N:=N) ht ok W m A r s (some d) c k i z h t j b e;cases h
def Xb (tbl:List (bB S)) (ns:List (Nat×List FuncId)):Cl S where
 call:=fun ok A _ s dst c k=>match zm s c with
  | true=>none
  | false=>yb tbl ns ok A s dst c k
 rf:=fun _ _ _ _ _ _=>none
theorem T7 {P:Program}{N:Nat}{tbl:List (bB S)}{ns:List (Nat×List FuncId)}(ht:∀c∈tbl,aO P c):Br P N (Xb tbl ns) where
 call:=fun ok W hW A kp r s dst c k hl hy h=>by
  have h:(match zm s c with
   | true=>none
   | false=>yb tbl ns ok A s dst c k)=some r:=h
  rw[hy] at h;exact(NO (N:=N) ht ok W hW A r).p s dst c k hl hy h
 da:=fun ok A kp r cx s dst c k hl hy h=>by
  have h:(match zm s c with
   | true=>none
   | false=>yb tbl ns ok A s dst c k)=some r:=h
  rw[hy] at h;cases h
 rf:=fun cx _ key hd g _ s B K r hl h=>by cases h
def Dt{N:Nat}{H:List (Nat×Hint)}{l:List (Nat×Array Tmp×Code×Code)}(h:isNil l=true):qw S N H l:=by cases l with|nil=>trivial|cons x r=>cases h
def aO.of{P:Program}{N fu:Nat}{H:List (Nat×Hint)}{tbl:List (bB S)}{a:bB S}{fn:Func}{c:Code}(e:P.follows .mixedOrders=true)(ht:∀c∈tbl,aO P c)(hf:P.funcs[a.f]?=some fn)(b:∀args w,(callFunc a.f args).run P w=.ok (.enter a.f args) w)(hb:fn.body=some c)(f:fn.ntmps=N)(d:pL N a.args a.ay a.outs=true){mvs:List Nat}{ns:List (Nat×List FuncId)}(h:∀q,FC P N fu H (Xb tbl ns) c mvs fn.results.toList a.args a.aR a.ay a.outs q=a.F q)(hn:isNil (nk c 0)=true:=by kernel_rfl):aO P a:=aO.aaG e (T7 ht) hf b hb f d (Dt hn) h
structure Tb (P:Program) (S:eN) where
 l:List (bB S)
 ok:∀c∈l,aO P c
def tN{P:Program}:Tb P S:=⟨[],fun _ h=>by cases h⟩
def tC{P:Program}{c:bB S}(h:aO P c)(t:Tb P S):Tb P S:=⟨c::t.l,cY.2 ⟨h,t.ok⟩⟩
def aO.o{P:Program}{a:bB S}{fn:Func}{c:Code}(fu N:Nat)(H:List (Nat×Hint))(t:Tb P S)(mvs:List Nat)(e:P.follows .mixedOrders=true)(hf:P.funcs[a.f]?=some fn)(b:∀args w,(callFunc a.f args).run P w=.ok (.enter a.f args) w)(hb:fn.body=some c)(f:fn.ntmps=N)(d:pL N a.args a.ay a.outs=true:=by kernel_rfl)(h:∀q,FC P N fu H (Xb t.l []) c mvs fn.results.toList a.args a.aR a.ay a.outs q=a.F q:=by intro q;kernel_rfl)(hn:isNil (nk c 0)=true:=by kernel_rfl):aO P a:=aO.of e t.ok hf b hb f d h hn
def aO.law{P:Program}{a:bB S}(C:aO P a){gs:List G}{q:bE S.α (k5 a.args a.aR)}{r:bE S.α (JH.dd ⟨a.ay,a.outs⟩)}(f:a.F q=some r)(c:TV.er.go (fC a.args a.aR (leaves _ q)).ln (dv a.args (leaves _ q)).1=gs)(d:(fC a.args a.aR (leaves _ q)).er.st=[])(b:(om a.ay (leaves _ r)).er (cw (cr a.outs (cH a.ay (leaves _ r)).2).1)=.val (.bool true))(ho:b6 (cw (cr a.outs (cH a.ay (leaves _ r)).2).1) (cr a.outs (cH a.ay (leaves _ r)).2).1=[]):GM P a.f gs [] (fun g st=>g=.val (.bool true)/\st=[]):=by have h:=C.ok q r f;rw[c,d] at h;exact h.mono fun g st e=>⟨e.1.trans b,e.2.trans ho⟩
end
end Go.DN
/-
 DN,part Zb:loops over functions:rounds by e8,calls of yield.
-/
namespace Go.DN
open Go.AM
section
variable {S:eN}
def Pk{s:ae S}{m:Bool}{H:List Nat}{args:List Sh}{a:List Oh}{vs:List (TV S)}{r c:List (bp S.α)}{q:bE S.α (k5 args a)}(hx:kZ s m H args vs=some r)(u:pT s m H H a=some c)(t:oi (k5 args a) (r++c)=some q):bW.go H (fE s.er.st H m) (TV.er.go s.ln vs)=some (TV.er.go (fC args a (leaves _ q)).ln (dv args (leaves _ q)).1)/\gI H (fE s.er.st H m) s.er.st H 0=some (fC args a (leaves _ q)).er.st:=by
 have l:=il t;have e:(dv args (leaves _ q)).2=c:=by rw[l];exact(ji (lnC:=fun k=>s.ln ((H[k-1000]?).getD 0)) (fun i h n=>by simp[fe n]) hx c).1
 have g:(fC args a (leaves _ q)).bo=(cr (o9 a 1000) c).1:=by show(cr (o9 a 1000) (dv args (leaves _ q)).2).1++[]=_;rw[bR,e]
 obtain⟨v,p,o⟩:=CA 0 u [];rw[bR] at v p o;have j:∀i h,dH H h=some i->(fC args a (leaves _ q)).ln (1000+i)=s.ln h:=by intro i h n;have:=p i h (fe n);rw[dl] at this;unfold ae.ln;rw[g];exact this
 have b:=(ji j hx c).2;rw[<-l] at b;have d:=o _ j;have f:(fC args a (leaves _ q)).er.st=b6 (fC args a (leaves _ q)).ln (cr (o9 a 1000) c).1:=by show b6 _ _=_;rw[g]
 exact⟨b,by rw[f];exact d⟩
def MQ{s:ae S}{p:Bool}{H e c:List Nat}{O d:List (Nat×TO S)}{n:Nat}{A:Type}{k:Option A}{r:A}(y:aF O=e)(E:apart H (aF s.bS)=true)(hf:tO s H (de e H 0) e c=true)(j:pq p (kA (b6 (cw O) O) c) (kI s.er.st (b6 (cw O) O) H 0) s.er.st O c=some d)(h:pS s d (tO.minus H (de e H 0)) k=some r):k=some r/\qt p s.er H (b6 (cw O) O) c=some (eJ s H (de e H 0) d n).er/\(∀a b,kA (b6 (cw O) O) c a=some b->(eJ s H (de e H 0) d n).ln b=cw O a):=by
 simp only[tO,ag] at hf;obtain⟨z,N,B,J,x⟩:=hf;obtain⟨C,D⟩:=pR h;have i:aF d=c:=tw j;have I:∀h,h∈H->h∉de e H 0->h∈c:=fun h v t=>oV N h (rP v t);have u:=KF (n:=n) z i E (fun h v t=>D h (rP v t)) I B J x;have l:=z;rw[<-y] at l;obtain⟨F,G⟩:=F1 (ln:=cw O) l;have f:∀a b,kA (b6 (cw O) O) c a=some b->(eJ s H (de e H 0) d n).ln b=cw O a:=by intro a b w;obtain⟨_,o,Q,L,M,K⟩:=Dr j G a b w;unfold ae.ln cw;show(match aB ((d++oC _ (kV H s.st))++s.bS) b with|some o=>o.len|none=>0)=_;rw[aS,eH,M,L];exact K
 have m:eS (b6 (cw O) O) H 0=de e H 0:=by rw[AW,y]
 refine⟨C,?_,f⟩;unfold qt;have P:lU p (kA (b6 (cw O) O) c) (kI s.er.st (b6 (cw O) O) H 0) s.er.st (b6 (cw O) O) c=some (b6 (eJ s H (de e H 0) d n).ln d):=ub f j;have q:s.er.df.all (fun g=>!(rF (eS (b6 (cw O) O) H 0) g))=true:=by rw[m];exact A3 x
 show(bif qG s.er H (b6 (cw O) O) c&&s.er.df.all (fun g=>!(rF (eS (b6 (cw O) O) H 0) g)) then _ else none)=_;rw[F,q];show(match lU p (kA (b6 (cw O) O) c) (kI s.er.st (b6 (cw O) O) H 0) s.er.st (b6 (cw O) O) c with|some d=>some ({fr:=oP (eS (b6 (cw O) O) H 0) s.er.fr,st:=d++eI (eS (b6 (cw O) O) H 0) (gx H s.er.st),df:=s.er.df}:St)|none=>none)=_;rw[P,m,u]
def wo(a:Bool):List (Nat×Sh):=match a with|true=>[(0,.aE true (.int .i64))]|false=>[]
def QQ(a:Bool)(n:Int):List (bp S.α):=match a with|true=>[⟨.int .i64,n⟩]|false=>[]
def J2(b:Bool)(a:List (bp S.α)):Int:=match b with|true=>(match a with|⟨.int _,n⟩::_=>n|_=>0)|false=>0
def S3{a:Bool}(h:a=false)(b:List (bp S.α)):J2 a b=0:=by subst h;rfl
structure rG (S:eN) where
 key:Nat
 args:List Sh
 cells:List Sh
 aR:List Oh
 outs:List (Nat×Oh)
 lv:Bool
 F:bE S.α (k5 (args++cells) aR)→Option (bE S.α (JH.dd ⟨wo lv,outs⟩))
def rb(Y:rG S)(r:bE S.α (JH.dd ⟨wo Y.lv,Y.outs⟩)):List (Nat×TO S):=(cr Y.outs (cH (wo Y.lv) (leaves _ r)).2).1
def Ee(Y:rG S)(q:bE S.α (k5 (Y.args++Y.cells) Y.aR)):List (TV S):=(dv (Y.args++Y.cells) (leaves _ q)).1
structure HX (P:Program) (Y:rG S):Prop where
 ps:(S.fR Y.key).ps.size=Y.args.length∧qx (S.fR Y.key).ps.toList=true∧(S.fR Y.key).ps.toList.all (Nat.blt · (S.fR Y.key).N)=true
 ok:∀q r,Y.F q=some r→GY P (S.lp Y.key 0) (TV.er.go (fC (Y.args++Y.cells) Y.aR (leaves _ q)).ln ((Ee Y q).drop Y.args.length)) (TV.er.go (fC (Y.args++Y.cells) Y.aR (leaves _ q)).ln ((Ee Y q).take Y.args.length))
  (fC (Y.args++Y.cells) Y.aR (leaves _ q)).er.st (fun j st'=>j=Fi (S.fR Y.key).id (J2 Y.lv (leaves _ r))∧st'=b6 (cw (rb Y r)) (rb Y r))
def Lg(key:Nat):List (rG S)->Option (rG S)|[]=>none|y::r=>match Nat.beq y.key key with|true=>some y|false=>Lg key r
def Ng{key:Nat}:∀{l:List (rG S)}{y:rG S},Lg key l=some y->y∈l/\y.key=key|[],_,h=>by cases h|x::r,y,h=>by simp only[Lg] at h;split at h;rename_i b;cases h;exact⟨au,ab b⟩;obtain⟨c,a⟩:=Ng h;exact⟨ar _ c,a⟩
def Y1(a:Bool)(n:Int){A:Type}(k:Option A):Option A:=match a with|true=>(ba (n=0)).bind fun _=>k|false=>match decEq n 0 with|isTrue _=>k|isFalse _=>none
def Y0{b:Bool}{n:Int}{A:Type}{k:Option A}{r:A}(h:Y1 b n k=some r):n=0/\k=some r:=by unfold Y1 at h;split at h;obtain⟨_,c,a⟩:=bind_some h;exact⟨cI c,a⟩;split at h;rename_i e _;exact⟨e,h⟩;cases h
def Lh(t:ae S)(h key:Nat)(cs:List (TV S))(d:Nat)(a:Bool)(n:Int){A:Type}(k:ae S->Option A):Option A:=match a with|true=>cond (n==0) (k ((t.set h (.lp key 0 cs)).put d (.aE true .bool true))) (k ((t.set h (.lp key n cs)).put d (.aE true .bool false)))|false=>k ((t.set h (.lp key 0 cs)).put d (.aE true .bool true))
def Lq(ys:List (rG S))(N:Nat)(A:Type)(s:ae S)(dst:Option Nat)(c:Call)(k:ae S->Option A):Option A:=match dst with|some d=>(match Nat.blt d N with|true=>(match c.callee with|.value x=>(match cC s x with|some (.da h)=>(match aB s.st h with|some (.lp a n b)=>(match u4 s c.args.toList with|some f=>(match Lg a ys with|some Y=>Y1 Y.lv n (match Ch s.bo Y.aR 1000 (vG (Y.args++Y.cells) (f++b)) with|some H=>(match qx H&&(apart H (aF s.bS)&&(!(bD h H)&&Nat.beq f.length Y.args.length)) with|true=>(match kZ s false H (Y.args++Y.cells) (f++b) with|some i=>(match pT s false H H Y.aR with|some ys=>(match oi (k5 (Y.args++Y.cells) Y.aR) (i++ys) with|some q=>((Y.F q).bind fun r=>match Ud s H d (aF Y.outs) [] with|some g=>(match tO s H (de (aF Y.outs) H 0) (aF Y.outs) g with|true=>(match pq false (kA (b6 (cw (rb Y r)) (rb Y r)) g) (kI s.er.st (b6 (cw (rb Y r)) (rb Y r)) H 0) s.er.st (rb Y r) g with|some e=>pS s e (tO.minus H (de (aF Y.outs) H 0)) (match Y.lv with|true=>Lh (eJ s H (de (aF Y.outs) H 0) e Y.outs.length) h a b d true (J2 Y.lv (leaves _ r)) k|false=>Lh (eJ s H (de (aF Y.outs) H 0) e Y.outs.length) h a b d false 0 k)|none=>none)|false=>none)|none=>none)|none=>none)|none=>none)|none=>none)|false=>none)|none=>none)|none=>none)|none=>none)|_=>none)|_=>none)|_=>none)|false=>none)|none=>none
def Na{H:List Nat}{d:List (Nat×aw)}:∀{a b c:List G},bW.go H d (a++b)=some c->bW.go H d a=some (c.take a.length)/\bW.go H d b=some (c.drop a.length)|[],b,c,h=>⟨rfl,h⟩|g::a,b,c,h=>by simp only[b7,bW.go] at h;split at h;rename_i k l f i;cases h;obtain⟨j,e⟩:=Na i;refine⟨?_,e⟩;simp only[bW.go,f,j,bQ,List.take_succ_cons];cases h
def Tq{id:Nat}{n:Int}:(Fi id n).isNone=(n==0):=by unfold Fi;cases n==0 with|true=>rfl|false=>cases n==1 <;> rfl
def TR(ln:Nat->Nat)(l:List (TV S)):(TV.er.go ln l).length=l.length:=by rw[cW,aJ]
def Xj{P:Program}{N:Nat}{ys:List (rG S)}(hy:∀y∈ys,HX P y)(ok:Nat->Bool)(A:Type)(r:A):WH P N (Lq ys N A) r:=by
 intro cx s dst c k hl hisy h ty pos after L w Q hk;obtain⟨cal,args,ts⟩:=c;unfold Lq at h;split at h;rotate_left;cases h;rename_i d;split at h;rotate_left;cases h;rename_i hdN;dsimp only at h;split at h;rotate_left;cases h;rename_i x;split at h;rotate_left;cases h;rename_i f hx;split at h;rotate_left;cases h;rename_i key n p ho;split at h;rotate_left;cases h;rename_i vs hvs;split at h;rotate_left;cases h;rename_i Y hY;have hon:=Y0 h;clear h;obtain⟨hn0,h⟩:=hon;subst hn0;obtain⟨hYm,hYk⟩:=Ng hY;have C:=hy Y hYm;subst hYk;split at h;rotate_left;cases h;rename_i H hH;split at h;rotate_left;cases h;rename_i hc;simp only[ag,aT] at hc;obtain⟨c1,c3,W,c5⟩:=hc;have c5:=ab c5;split at h;rotate_left;cases h;rename_i xl hxl;split at h;rotate_left;cases h;rename_i yl hyl;split at h;rotate_left;cases h;rename_i q hq;obtain⟨R,hst⟩:=Pk hxl hyl hq;rw[rR] at R;obtain⟨B,z⟩:=Na R;rw[TR,c5] at B z;obtain⟨l,U,I⟩:=bind_some h;have D:=C.ok q l U;have F:aB s.bo f=some (.lp Y.key 0 p):=Mv ho;have X:∀G,TV.er.go G ((Ee Y q).take Y.args.length)=(TV.er.go G (Ee Y q)).take Y.args.length:=fun G=>by rw[cW,cW,List.map_take]
 have hdr:∀G,TV.er.go G ((Ee Y q).drop Y.args.length)=(TV.er.go G (Ee Y q)).drop Y.args.length:=fun G=>by rw[cW,cW,List.map_drop]
 rw[X,hdr] at D;split at I;rotate_left;cases I;rename_i bk hbk;split at I;rotate_left;cases I;rename_i Z;split at I;rotate_left;cases I;rename_i o M;have hO:aF (rb Y l)=aF Y.outs:=li _ _;obtain⟨k1,J,_⟩:=MQ (n:=Y.outs.length) hO c3 Z M I;have E:dH H f=none:=by cases hi:dH H f with|none=>rfl|some i=>rw[bV.2 (ak (fe hi))] at W;cases W
 have K:aB (eJ s H (de (aF Y.outs) H 0) o Y.outs.length).st f=some (.lp Y.key 0 p):=by show aB (o++oC _ (kV H s.st)) f=_;(have hnb:f∉bk:=fun hm=>by simp only[tO,ag] at Z;rcases Dn Z.1 f hm with U|U;rw[bV.2 U] at W;cases W;rw[(free_spec U).1] at F;cases F);rw[eH,nM (by rw[tw M];exact hnb),Ak,Ae E,ho];rfl
 have O:∀(V:Bool) (g:Int),J2 Y.lv (leaves _ l)=g->Lh (eJ s H (de (aF Y.outs) H 0) o Y.outs.length) f Y.key p d V g k=some r->(V=false->g=0)->GL P N cx L Q w (({(eJ s H (de (aF Y.outs) H 0) o Y.outs.length).er with st:=dJ (eJ s H (de (aF Y.outs) H 0) o Y.outs.length).er.st f {((TO.lp Y.key 0 p:TO S).er (eJ s H (de (aF Y.outs) H 0) o Y.outs.length).ln) with lp:=some (.loop (S.lp Y.key g))}}:St).put d (.val (.bool (g==0)))):=by intro V g hnn a u;have T:(eJ s H (de (aF Y.outs) H 0) o Y.outs.length).last=[]:=rfl;have v:bG s (eJ s H (de (aF Y.outs) H 0) o Y.outs.length):=⟨rfl,rfl,rfl⟩;generalize eJ s H (de (aF Y.outs) H 0) o Y.outs.length=t at K a T v|-;(have b:∀m:Int,m=g->k ((t.set f (.lp Y.key m p)).put d (.aE true .bool (g==0)))=some r->GL P N cx L Q w (({t.er with st:=dJ t.er.st f {((TO.lp Y.key 0 p:TO S).er t.ln) with lp:=some (.loop (S.lp Y.key g))}}:St).put d (.val (.bool (g==0)))):=by intro m hm hkr;subst hm;obtain⟨s1,s2⟩:=pM (o':=(.lp Y.key m p:TO S)) K rfl;have hli:aQ (t.set f (.lp Y.key m p)):=iN (by show xC f t.last=[];rw[T];rfl);have:=hk _ (hli.put d _) ⟨v.lo,v.bS,v.df⟩ hkr;rw[iT,s1] at this;have e:(TV.aE true .bool (m==0):TV S).er (t.set f (.lp Y.key m p)).ln=.val (.bool (m==0)):=iu true _;rw[e] at this;exact this);cases V with|false=>have:=u rfl;subst this;exact b 0 rfl a|true=>simp only[Lh] at a;cases hb:g==0 with|true=>rw[hb] at a b;(have e:g=0:=by simpa using hb);exact b 0 e.symm a|false=>rw[hb] at a b;exact b g rfl a
 have hx':=bi hx;refine GL.da (lp:=S.lp Y.key 0) H bk hx' (nJ hvs).2 (show az s.er.st f=some _ from gv F) rfl rfl E B z hst c1 (by rw[bA,TR];have:(Ee Y q).length=(Y.args++Y.cells).length:=CO _ _;show min Y.args.length (Ee Y q).length=(S.fR Y.key).ps.size;rw[this,C.ps.1,aK];omega) C.ps.2.1 C.ps.2.2 D rfl hdN ?_;rintro j st' ⟨rfl,rfl⟩;refine⟨_,J,_,gv (fZ K),?_,(J2 Y.lv (leaves _ l)==0),Tq,?_⟩;rfl;split at k1;rename_i u;exact O true _ rfl k1 (fun h=>by cases h);rename_i u;have e0:J2 Y.lv (leaves _ l)=0:=S3 u _;have:=O false 0 e0 k1 (fun _=>rfl);rw[e0];exact this
end
end Go.DN
/-
 DN,part Zc:rounds out of a run of their code;the loop itself.
-/
namespace Go.DN
open Go.AM
section
variable {S:eN}
def ED:List Nat->List (TV S)->List (Nat×TV S)|t::b,v::a=>(t,v)::ED b a|_,_=>[]
def H3(ln:Nat->Nat):∀(ts:List Nat) (vs:List (TV S)),iC ln (ED ts vs)=qB ts (TV.er.go ln vs)|[],_=>rfl|_::_,[]=>rfl|t::ts,v::vs=>by simp only[ED,iC,TV.er.go,qB,H3 ln ts vs]
def PJ(ln:Nat->Nat):∀(a b:List (Nat×TV S)),iC ln (a++b)=iC ln a++iC ln b|[],_=>rfl|(t,v)::r,b=>by simp only[b7,iC,PJ ln r b]
def Z3(L:Xf)(args cells:List Sh)(b:List Oh)(a:List (bp S.α)):ae S:={fr:=ED L.ps.toList ((dv (args++cells) a).1.take args.length)++ED L.ay ((dv (args++cells) a).1.drop args.length),lo:=[],st:=(cr (o9 b 1000) (dv (args++cells) a).2).1,bS:=[],df:=[],nx:=300,last:=[]}
def Nr(P:Program)(t:ae S)(a:Bool)(n:Int)(outs:List (Nat×Oh)):Option (bE S.α (JH.dd ⟨wo a,outs⟩)):=match a||n==0 with|true=>(match IV P t [] [] outs with|some q=>oi (JH.dd ⟨wo a,outs⟩) (QQ a n++leaves _ q)|none=>none)|false=>none
noncomputable def ZU(P:Program)(fu:Nat)(H:List (Nat×Hint))(cl:Cl S)(L:Xf)(mvs:List Nat)(args cells:List Sh)(b:List Oh)(outs:List (Nat×Oh))(a:Bool)(q:bE S.α (k5 (args++cells) b)):Option (bE S.α (JH.dd ⟨wo a,outs⟩)):=match GJ mvs (Z3 L args cells b (leaves _ q)) with|some s=>(iM P L.N fu H cl L.nV 0 s _ fun e t=>match e with|.normal=>(iM P L.N fu H cl L.body (kL L.nV) t _ fun e t=>match e with|.normal=>Nr P t a 0 outs|.exit id=>(match Nat.beq id L.id with|true=>Nr P t a 1 outs|false=>none)|.ret=>Nr P t a 2 outs|_=>none)|_=>none)|none=>none
def Vg{a : Bool}{n : Int}(h : (a || n == 0) = true)(r : List (bp S.α)): J2 a (QQ a n ++ r) = n:=by cases a with|true=> rfl|false=> (have : n = 0 := by simpa using h);rw [this];rfl
def TL(a:Bool)(n:Int)(r:List (bp S.α)):(cH (wo a) (QQ a n++r)).2=r:=by cases a <;> rfl
def HX.of{P:Program}{fu:Nat}{H:List (Nat×Hint)}{tbl:List (bB S)}{Y:rG S}(C:P.follows .mixedOrders=true)(ht:∀c∈tbl,aO P c)(m:(Nat.beq (S.fR Y.key).ps.size Y.args.length&&(qx (S.fR Y.key).ps.toList&&((S.fR Y.key).ps.toList.all (Nat.blt · (S.fR Y.key).N)&&S2 (aF Y.outs))))=true)(f:isNil (nk (S.fR Y.key).nV 0)=true)(d:isNil (nk (S.fR Y.key).body (kL (S.fR Y.key).nV))=true){mvs:List Nat}{ns:List (Nat×List FuncId)}(h:∀q,ZU P fu H (Xb tbl ns) (S.fR Y.key) mvs Y.args Y.cells Y.aR Y.outs Y.lv q=Y.F q):HX P Y:=by
 simp only[ag] at m;obtain⟨R,X,p3,p4⟩:=m;have s:=T7 (N:=(S.fR Y.key).N) (ns:=ns) ht;have v:nk (S.fR Y.key).nV 0=[]:=by cases J:nk (S.fR Y.key).nV 0 with|nil=>rfl|cons x r=>rw[J] at f;cases f
 have w:nk (S.fR Y.key).body (kL (S.fR Y.key).nV)=[]:=by cases J:nk (S.fR Y.key).body (kL (S.fR Y.key).nV) with|nil=>rfl|cons x r=>rw[J] at d;cases d
 refine⟨⟨ab R,X,p3⟩,fun q r g=>?_⟩;have g:=(h q).trans g;refine GY.of (nV:=(S.fR Y.key).nV) (body:=(S.fR Y.key).body) rfl rfl fun cx=>?_;have e0:(⟨qB (S.lp Y.key 0).ps.toList (TV.er.go (fC (Y.args++Y.cells) Y.aR (leaves _ q)).ln ((Ee Y q).take Y.args.length))++qB (S.lp Y.key 0).ay (TV.er.go (fC (Y.args++Y.cells) Y.aR (leaves _ q)).ln ((Ee Y q).drop Y.args.length)),(fC (Y.args++Y.cells) Y.aR (leaves _ q)).er.st,[]⟩:St)=(Z3 (S.fR Y.key) Y.args Y.cells Y.aR (leaves _ q)).er:=by show _=St.mk (iC _ ((ED _ _++ED _ _)++[])) _ _;rw[bR,PJ,H3,H3];rfl
 rw[e0];unfold ZU at g;split at g;rotate_left;cases g;rename_i s0 L;refine E6 (iN rfl) L fun E=>?_;refine kK C s _ 0 (Dt f) (.inl v) _ _ _ r E g _ fun e t a F b=>?_;split at b;rotate_left;cases b;refine⟨rfl,fun V=>?_⟩;refine GW.Gp (Q':=fun e N=>∃n:Int,∃t:ae S,Gh N t.er/\aQ t/\Nr P t Y.lv n Y.outs=some r/\((e=.normal/\n=0)\/(e=.exit (S.fR Y.key).id/\n=1)\/(e=.ret/\n=2))) (kK C s _ _ (Dt d) (.inl w) _ _ _ r a b _ fun e t a F b=>?_) fun e N Z=>?_;split at b;exact⟨0,t,Gh.refl _,a,b,.inl ⟨rfl,rfl⟩⟩;split at b;rename_i T;have:=ab T;subst this;exact⟨1,t,Gh.refl _,a,b,.inr (.inl ⟨rfl,rfl⟩)⟩;cases b;exact⟨2,t,Gh.refl _,a,b,.inr (.inr ⟨rfl,rfl⟩)⟩;cases b;{obtain⟨n,t,I,a,k,he⟩:=Z;unfold Nr at k;split at k;rotate_left;cases k;rename_i K;split at k;rotate_left;cases k;rename_i i D;obtain⟨u,U,G,_,O',Q,p,z⟩:=PK a D;have y:=il k;(have M:J2 Y.lv (leaves _ r)=n:=by rw[y];exact Vg K _);(have W:rb Y r=(cr Y.outs (leaves _ i)).1:=by unfold rb;rw[y,TL]);have A:(cr Y.outs (cH [] (leaves (JH.dd ⟨[],Y.outs⟩) i)).2).1=(cr Y.outs (leaves _ i)).1:=rfl;rw[A] at Q p;have F:aF (cr Y.outs (leaves (JH.dd ⟨[],Y.outs⟩) i)).1=aF Y.outs:=li _ _;(have B:pB u.er.st (b6 (cw (rb Y r)) (rb Y r)):=by rw[W];refine EL fun j o C=>?_;have O:aB (cr Y.outs (leaves (JH.dd ⟨[],Y.outs⟩) i)).1 j=some o:=Ix (by rw[F];exact p4) j o C;(have e2:aB u.bo j=some o:=by rw[Q,eH,O]);rw[show az u.er.st j=_ from gv e2];have hj:o.er u.ln=o.er (cw (cr Y.outs (leaves (JH.dd ⟨[],Y.outs⟩) i)).1):=TO.nS p o (vN (aF Y.outs) Y.outs _ z j o O);rw[hj]);refine⟨u.er,I.trans U,?_⟩;refine⟨G,_,B,?_⟩;rcases he with ⟨h,l⟩|⟨h,l⟩|⟨h,l⟩;subst h;subst l;exact⟨by rw[M];rfl,rfl⟩;subst h;subst l;exact⟨by rw[M];rfl,rfl⟩;subst h;subst l;exact⟨by rw[M];rfl,rfl⟩}
end
end Go.DN
/-
 DN,part Zd:the loop over a function;contracts of functions that have such loops,or that go through them.
-/
namespace Go.DN
open Go.AM
section
variable {S:eN}
def K2(fr:List (Nat×TV S)):List Nat->Option (List (TV S))|[]=>some []|t::r=>match bw fr t with|some v=>(match K2 fr r with|some a=>some (v::a)|none=>none)|none=>none
def LC{fr:List (Nat×TV S)}(ln:Nat->Nat):∀{ts:List Nat}{vs:List (TV S)},K2 fr ts=some vs->getAll (iC ln fr) ts=some (TV.er.go ln vs)|[],vs,h=>by cases h;rfl|t::r,vs,h=>by simp only[K2] at h;split at h;rename_i v b;split at h;rename_i c a;cases h;simp only[getAll,gd b,LC ln a,TV.er.go];cases h;cases h
def L2(k:Nat):List (Nat×TO S)->List (Nat×TO S)|[]=>[]|(h,o)::r=>bif Nat.beq h k then L2 k r else(h,o)::L2 k r
def Ij{k:Nat}:∀{st:List (Nat×TO S)}{h:Nat},aB (L2 k st) h=bif Nat.beq k h then none else aB st h|[],h=>by cases Nat.beq k h <;> rfl|(x,o)::r,h=>by simp only[L2];cases b:Nat.beq x k with|true=>(have e:=ab b;subst e;rw[cond_true,Ij];cases a:Nat.beq x h with|true=>rfl|false=>simp only[aB,a,cond_false])|false=>rw[cond_false];simp only[aB];rw[Ij];cases a:Nat.beq x h with|true=>have e:=ab a;subst e;(have:Nat.beq k x=false:=by cases c:Nat.beq k x with|false=>rfl|true=>have:=ab c;subst this;rw[aW] at b;cases b);rw[this];rfl|false=>rfl
def aaX(a:bB S):Bool:=match a.aR with|.lp _ b _::_=>b|_=>false
def Ro(a:bB S)(id:Nat)(t:ae S)(n:Int){A:Type}(K:Exit->ae S->Option A):Option A:=match aaX a with|true=>cond (n==0) (K .normal t) (cond (n==1) (K (.exit id) t) (K .ret t))|false=>match decEq n 0 with|isTrue _=>K .normal t|isFalse _=>none
def VX{c:bB S}{id:Nat}{t:ae S}{n:Int}{A:Type}{K:Exit->ae S->Option A}{r:A}(h:Ro c id t n K=some r){R:Exit->St->Prop}{s:St}(b:∀e,(∀a,e≠.panic a)->K e t=some r->R e s):Xg R s (Fi id n):=by
 unfold Ro at h;split at h;unfold Fi;cases f:n==0 with|true=>rw[f] at h;exact b _ (fun a e=>by cases e) h|false=>rw[f] at h;cases d:n==1 with|true=>rw[d] at h;exact b _ (fun a e=>by cases e) h|false=>rw[d] at h;exact b _ (fun a e=>by cases e) h
 split at h;rename_i e _;subst e;exact b _ (fun a e=>by cases e) h;cases h
def R8{α:Type}(b:Bool)(l:List α):List α:=match b with|true=>[]|false=>l
def P7{α:Type}{b:Bool}{l:List α}{x:α}(h:x∈R8 b l):x∈l/\b=false:=by cases b with|true=>cases h|false=>exact⟨h,rfl⟩
def L8(tbl:List (bB S))(key hd:Nat)(s:ae S)(g:Operand)(A:Type)(K:Exit->ae S->Option A):Option A:=match cC s g with|some (.bf f c)=>(match K2 s.cm (S.fR key).ay with|some b=>(match s.free hd&&!(TV.has.go hd b) with|true=>(match AN (fits (s.add hd (.lp key 0 b)) [] (.da hd::c)) f (R8 (tY.contains f) tbl) with|some a=>(match Ch (s.add hd (.lp key 0 b)).bo a.aR 1000 (vG a.args (.da hd::c)) with|some H=>(match qx H&&(apart H (aF s.bS)&&bD hd H) with|true=>(match kZ (s.add hd (.lp key 0 b)) a.vw H a.args (.da hd::c) with|some i=>(match pT (s.add hd (.lp key 0 b)) a.vw H H a.aR with|some j=>(match oi (k5 a.args a.aR) (i++j) with|some q=>((a.F q).bind fun r=>match Ud (s.add hd (.lp key 0 b)) H hd (aF a.outs) [] with|some h=>(match tO (s.add hd (.lp key 0 b)) H (de (aF a.outs) H 0) (aF a.outs) h&&!(bD hd (de (aF a.outs) H 0)) with|true=>(match Xe (s.add hd (.lp key 0 b)) H a r h with|some e=>pS (s.add hd (.lp key 0 b)) e (tO.minus H (de (aF a.outs) H 0)) (match aB (eJ (s.add hd (.lp key 0 b)) H (de (aF a.outs) H 0) e a.outs.length).st hd with|some (.lp d n _)=>(match Nat.beq d key&&!(bD hd (aF s.bS)) with|true=>Ro a (S.fR key).id {eJ (s.add hd (.lp key 0 b)) H (de (aF a.outs) H 0) e a.outs.length with st:=L2 hd (eJ (s.add hd (.lp key 0 b)) H (de (aF a.outs) H 0) e a.outs.length).st} n K|false=>none)|_=>none)|none=>none)|false=>none)|none=>none)|none=>none)|none=>none)|none=>none)|false=>none)|none=>none)|none=>none)|false=>none)|none=>none)|_=>none
def I7{H a:List Nat}{hd:Nat}(h:bD hd (de a H 0)=false):(de a H 0).contains hd=false:=by rw[vb];exact h
def SH{P:Program}{N:Nat}{tbl:List (bB S)}(ht:∀c∈tbl,aO P c)(cx:Cx)(hro:cx.ro=none)(key hd:Nat)(g:Operand)(hN:(S.fR key).N=N)(s:ae S)(B:Type)(K:Exit->ae S->Option B)(r:B)(hl:aQ s)(h:L8 tbl key hd s g B K=some r)(Q:Exit->St->Prop)(hQ:∀e t,aQ t->bG s t->K e t=some r->(∀ch,e≠.panic ch)->Q e t.er):GW P N cx (.rangeFunc g (S.fR key).ps (S.fR key).nV (S.fR key).body) Q s.er:=by
 unfold L8 at h;split at h;rotate_left;cases h;rename_i f i hg;split at h;rotate_left;cases h;rename_i E hcs;split at h;rotate_left;cases h;rename_i p;simp only[ag,aT] at p;obtain⟨Y,hnh⟩:=p;obtain⟨z,ha2⟩:=qe Y (.lp key 0 E:TO S) hnh;split at h;rotate_left;cases h;rename_i d R;obtain⟨hm0,hf⟩:=wL R;obtain⟨hm,hbf⟩:=P7 hm0;clear hm0;subst hf;have C:=ht d hm;generalize v:s.add hd (.lp key 0 E)=l at h z ha2;have m:l.bS=s.bS:=by rw[<-v];rfl
 have hlo:l.lo=s.lo:=by rw[<-v];rfl
 have hdf:l.df=s.df:=by rw[<-v];rfl
 have hoh:aB l.bo hd=some (.lp key 0 E):=by rw[<-v];show(bif Nat.beq hd hd then some (TO.lp key 0 E) else aB s.bo hd)=_;rw[aW];rfl
 split at h;rotate_left;cases h;rename_i H hH;split at h;rotate_left;cases h;rename_i hc;simp only[ag] at hc;obtain⟨c1,c3,c4⟩:=hc;rw[<-m] at c3;split at h;rotate_left;cases h;rename_i xl hxl;split at h;rotate_left;cases h;rename_i yl hyl;split at h;rotate_left;cases h;rename_i q hq;obtain⟨hin,hst⟩:=Pk hxl hyl hq;obtain⟨w,h1,I⟩:=bind_some h;have hcn:=C.ok q w h1;split at I;rotate_left;cases I;rename_i bk hbk;split at I;rotate_left;cases I;rename_i Z;simp only[ag,aT] at Z;obtain⟨O,dw⟩:=Z;split at I;rotate_left;cases I;rename_i sb hsb;have hO:aF (eW d w)=aF d.outs:=Az d w;obtain⟨J,u,_⟩:=MQ (n:=d.outs.length) hO c3 O hsb I;generalize hT:eJ l H (de (aF d.outs) H 0) sb d.outs.length=T at J u;have hTl:T.last=[]:=by rw[<-hT];rfl
 have A:bG l T:=by rw[<-hT];exact⟨rfl,rfl,rfl⟩
 split at J;rotate_left;cases J;rename_i a n cs' hlp;split at J;rotate_left;cases J;rename_i hk;simp only[ag,aT] at hk;obtain⟨hk,W⟩:=hk;have e1:=ab hk;subst e1;have D:aB T.bo hd=some (.lp a n cs'):=fZ hlp;have X:aB T.bS hd=none:=by refine nM fun hm=>?_;rw[A.bS,m] at hm;rw[bV.2 hm] at W;cases W
 generalize M:({T with st:=L2 hd T.st}:ae S)=U at J;have x:∀k,aB U.bo k=bif Nat.beq hd k then none else aB T.bo k:=by intro k;rw[<-M];show aB (L2 hd T.st++T.bS) k=_;rw[eH,Ij];show _=bif Nat.beq hd k then none else aB (T.st++T.bS) k;rw[eH];cases hb:Nat.beq hd k with|true=>have:=ab hb;subst this;exact X|false=>rfl
 have y:U.ln=T.ln:=by funext k;show cw U.bo k=cw T.bo k;unfold cw;rw[x];cases hb:Nat.beq hd k with|true=>have:=ab hb;subst this;rw[D];rfl|false=>rfl
 have V:U.cm=T.cm:=by subst M;rfl
 have hUdf:U.df=T.df:=by subst M;rfl
 have hsgU:∀k b,az U.er.st k=some b->az T.er.st k=some b:=by intro k b hb;obtain⟨o,ho,rfl⟩:=uB hb;rw[x] at ho;cases hq:Nat.beq hd k with|true=>rw[hq] at ho;cases ho|false=>rw[hq] at ho;rw[show az T.er.st k=_ from gv ho,y]
 have hUE:RX T.er U.er:=by refine⟨fun t g hg'=>?_,hsgU,?_⟩;(have:U.er.fr=T.er.fr:=by show iC U.ln U.cm=iC T.ln T.cm;rw[y,V]);rw[this] at hg';exact hg';show TV.er.go T.ln T.df=TV.er.go U.ln U.df;rw[y,hUdf]
 have hUn:az U.er.st hd=none:=by refine ss ?_;rw[x,aW];rfl
 have L:TV.er.go s.ln i=TV.er.go l.ln i:=by have e1:=bi hg;(have hg1:cC l g=some (.bf d.f i):=by rw[<-hg,<-v];cases g <;> rfl);have e2:=bi hg1;(have hfe:l.er.fr=s.er.fr:=by rw[z]);(have e3:ev l.er g=ev s.er g:=by cases g with|tmp t=>show AM.get l.er.fr t=AM.get s.er.fr t;rw[hfe]|_=>rfl);rw[e3,e1] at e2;have:=ed e2;simp only[TV.er,G.bf.injEq] at this;exact this.2
 subst hN;have F:l.er.st=(hd,vI (TV.er.go s.ln E) (S.lp a 0))::s.er.st:=by rw[z];rfl
 have hs1e:l.er={fr:=s.er.fr,st:=(hd,vI (TV.er.go s.ln E) (S.lp a 0))::s.er.st,df:=s.er.df}:=by rw[z];rfl
 refine GW.rangeFunc (f0:=0) (f:=d.f) (caps:=TV.er.go s.ln i) (cells:=TV.er.go s.ln E) hbf hro (fun j=>⟨0,(S.fR a).N,(S.fR a).ay,(S.fR a).ps,(S.fR a).nV,(S.fR a).body,j⟩) hd (S.fR a).ay H d.vw bk (fun _=>rfl) (bi hg) C.call (LC s.ln hcs) (gD Y) ?_ c1 (bV.1 c4) hcn ?_ ?_;have:=hst;rw[F] at this;exact this;have:=hin;rw[F] at this;rw[L];exact this;rintro r' st' ⟨_,rfl⟩;refine⟨T.er,U.er,Fi (S.fR a).id n,_,?_,?_,gv D,rfl,hUE,hUn,?_⟩;show qt d.vw ⟨s.er.fr,(hd,vI (TV.er.go s.ln E) (S.lp a 0))::s.er.st,s.er.df⟩ H _ bk=_;rw[<-hs1e];exact u;show(eS (b6 (cw (eW d w)) (eW d w)) H 0).contains hd=false;rw[AW,hO];exact I7 dw;refine VX J fun e hp hK=>hQ e U (iN (by rw[<-M];exact hTl)) ⟨?_,?_,?_⟩ hK hp;rw[<-M];exact A.lo.trans hlo;rw[<-M];exact A.bS.trans m;rw[<-M];exact A.df.trans hdf
def aaH (N:Nat) (tbl tbr:List (bB S)) (ys:List (rG S)) (ns:List (Nat×List FuncId)):Cl S where
 call:=fun ok A _ s dst c k=>match zm s c with
  | true=>Lq ys N A s dst c k
  | false=>yb tbl ns ok A s dst c k
 rf:=L8 tbr
theorem ZX {P:Program}{N:Nat}{tbl tbr:List (bB S)}{ys:List (rG S)}{ns:List (Nat×List FuncId)}(ht:∀c∈tbl,aO P c) (hr:∀c∈tbr,aO P c) (hy:∀y∈ys,HX P y):Br P N (aaH N tbl tbr ys ns) where
 call:=fun ok W hW A kp r s dst c k hl hi h=>by
  have h:(match zm s c with
   | true=>Lq ys N A s dst c k
   | false=>yb tbl ns ok A s dst c k)=some r:=h
  rw[hi] at h;exact(NO (N:=N) ht ok W hW A r).p s dst c k hl hi h
 da:=fun ok A kp r cx s dst c k hl hi h=>by
  have h:(match zm s c with
   | true=>Lq ys N A s dst c k
   | false=>yb tbl ns ok A s dst c k)=some r:=h
  rw[hi] at h;exact Xj hy ok A r cx s dst c k hl hi h
 rf:=fun cx hro key hd g hN s B K r hl h Q hQ=>SH hr cx hro key hd g hN s B K r hl h Q fun e t a b c _=>hQ e t a b c
def Zg(S:eN):List (Nat×Nat)->List (Nat×Array Tmp×Code×Code)|[]=>[]|(p,k)::r=>(p,(S.fR k).ps,(S.fR k).nV,(S.fR k).body)::Zg S r
def WX(S:eN)(N:Nat)(H:List (Nat×Hint)):List (Nat×Nat)->Bool|[]=>true|(p,k)::r=>(match kW H p with|some (.SA a _)=>Nat.beq a k&&Nat.beq (S.fR k).N N|_=>true)&&WX S N H r
def Th{N:Nat}{H:List (Nat×Hint)}:∀{ks:List (Nat×Nat)},WX S N H ks=true->qw S N H (Zg S ks)|[],_=>trivial|(p,k)::r,h=>by simp only[WX,ag] at h;refine⟨?_,Th h.2⟩;have a:=h.1;split;rename_i c f d;rw[d] at a;simp only[ag] at a;have e:=ab a.1;have b:=ab a.2;subst e;exact⟨b,rfl,rfl,rfl⟩;trivial
def aO.WS{P:Program}{N fu:Nat}{H:List (Nat×Hint)}{tbl tbr:List (bB S)}{ys:List (rG S)}{a:bB S}{fn:Func}{c:Code}(ks:List (Nat×Nat))(f:P.follows .mixedOrders=true)(ht:∀c∈tbl,aO P c)(g:∀c∈tbr,aO P c)(j:∀y∈ys,HX P y)(hf:P.funcs[a.f]?=some fn)(b:∀args w,(callFunc a.f args).run P w=.ok (.enter a.f args) w)(hb:fn.body=some c)(i:fn.ntmps=N)(d:pL N a.args a.ay a.outs=true)(k:nk c 0=Zg S ks)(e:WX S N H ks=true){mvs:List Nat}{ns:List (Nat×List FuncId)}(h:∀q,FC P N fu H (aaH N tbl tbr ys ns) c mvs fn.results.toList a.args a.aR a.ay a.outs q=a.F q):aO P a:=aO.aaG f (ZX ht g j) hf b hb i d (k▸Th e) h
def WN(P:Program)(f i id:Nat)(ay:List Nat):Xf:=match P.funcs[f]? with|some d=>(match d.body with|some c=>(match (nk c 0)[i]? with|some (_,e,a,b)=>⟨d.ntmps,ay,e,a,b,id⟩|none=>⟨0,[],#[],.skip,.skip,0⟩)|none=>⟨0,[],#[],.skip,.skip,0⟩)|none=>⟨0,[],#[],.skip,.skip,0⟩
end
end Go.DN
/-
 DN,part Ze:panics that are caught,deferred calls.
-/
namespace Go.DN
open Go.AM
section
variable {S:eN}
end
end Go.DN
